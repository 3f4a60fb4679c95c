/- Summaries in memory; the reference's Join and Compose, by hand. -/
import Derived.Test.YtkhnifehcnlpjaaDoorQCx4
import Derived.Test.YtkhnifehcnlpjaaDoorQCx5
import Derived.Test.YtkhnifehcnlpjaaDoorQCx6
import Derived.Test.YtkhnifehcnlpjaaDoorQCx7
import Derived.Test.YtkhnifehcnlpjaaDoorQCx8
import Derived.Test.YtkhnifehcnlpjaaDoorQCx9
import Derived.Deep.CutBlock
import Derived.Deep.RegionHeld3
namespace Go.Proofs.YtkhnifehcnlpjaaDoor.QC
open Go Go.RowKit Go.Proofs.YtkhnifehcnlpjaaDoorW.PrintWords Go.Proofs.YtkhnifehcnlpjaaDoorW.PrintLast Go.Proofs.YtkhnifehcnlpjaaDoorW.PrintMore
set_option linter.unusedVariables false
set_option linter.unusedSimpArgs false
set_option maxRecDepth 100000
set_option maxHeartbeats 4000000
/-! ### AutomatonMonoid, walked by hand over the contracts of Compose, Empty, keep.Summaries -/
structure Smm where
  n : Int
  e0 : Int
  e1 : Int
  e2 : Int
  l0 : List Int
  l1 : List Int
  l2 : List Int
structure RdS (w : World) (A0 : Option Addr) (c0 : Nat) (A1 : Option Addr) (c1 : Nat) (A2 : Option Addr) (c2 : Nat) (x : Smm) : Prop where
  k0 : x.l0.length ≤ c0
  k1 : x.l1.length ≤ c1
  k2 : x.l2.length ≤ c2
  r0 : Kd.C (Kd.int .i64) w A0 x.l0.length x.l0
  r1 : Kd.C (Kd.int .i64) w A1 x.l1.length x.l1
  r2 : Kd.C (Kd.int .i64) w A2 x.l2.length x.l2
theorem RdS.below {w w' : World} {A0 c0 A1 c1 A2 c2} {x : Smm} (h : RdS w A0 c0 A1 c1 A2 c2 x) (hb : Below w.heap.size w w') : RdS w' A0 c0 A1 c1 A2 c2 x :=
  ⟨h.k0, h.k1, h.k2, Kd.C_below h.r0 hb, Kd.C_below h.r1 hb, Kd.C_below h.r2 hb⟩
/-- A summary in block b. -/
structure Bo (w : World) (b : Nat) (A0 : Option Addr) (c0 : Nat) (A1 : Option Addr) (c1 : Nat) (A2 : Option Addr) (c2 : Nat) (x : Smm) : Prop where
  blk : w.heap[b]? = some (.cells #[.int .i64 x.n, .int .i64 x.e0, .int .i64 x.e1, .int .i64 x.e2, .slice A0 x.l0.length c0, .slice A1 x.l1.length c1, .slice A2 x.l2.length c2] 26 (0, 0))
  rd : RdS w A0 c0 A1 c1 A2 c2 x
theorem Bo.below {w w' : World} {b : Nat} {A0 c0 A1 c1 A2 c2} {x : Smm} (h : Bo w b A0 c0 A1 c1 A2 c2 x) (hb : Below w.heap.size w w') : Bo w' b A0 c0 A1 c1 A2 c2 x :=
  ⟨(hb.block b (Array.getElem?_eq_some_iff.1 h.blk).1).trans h.blk, h.rd.below hb⟩
theorem Bo.cells {w : World} {b : Nat} {A0 c0 A1 c1 A2 c2} {x : Smm} (h : Bo w b A0 c0 A1 c1 A2 c2 x) :
    w.cell? ⟨b, 0, none⟩ = some (.int .i64 x.n) ∧ w.cell? ⟨b, 1, none⟩ = some (.int .i64 x.e0) ∧ w.cell? ⟨b, 2, none⟩ = some (.int .i64 x.e1) ∧ w.cell? ⟨b, 3, none⟩ = some (.int .i64 x.e2) ∧
      w.cell? ⟨b, 4, none⟩ = some (.slice A0 x.l0.length c0) ∧ w.cell? ⟨b, 5, none⟩ = some (.slice A1 x.l1.length c1) ∧ w.cell? ⟨b, 6, none⟩ = some (.slice A2 x.l2.length c2) := by
  have hb := h.blk
  refine ⟨?_, ?_, ?_, ?_, ?_, ?_, ?_⟩ <;> simp [World.cell?, hb]
/-- Its rows lie in blocks of numbers. -/
structure Ty (w : World) (A0 A1 A2 : Option Addr) (x : Smm) : Prop where
  t0 : 0 < x.l0.length → ∃ ad cur, A0 = some ad ∧ w.heap[ad.block]? = some (.cells cur 3 (0, 0))
  t1 : 0 < x.l1.length → ∃ ad cur, A1 = some ad ∧ w.heap[ad.block]? = some (.cells cur 3 (0, 0))
  t2 : 0 < x.l2.length → ∃ ad cur, A2 = some ad ∧ w.heap[ad.block]? = some (.cells cur 3 (0, 0))
theorem ty_below {w w' : World} {A : Option Addr} {n : Nat} (h : 0 < n → ∃ ad cur, A = some ad ∧ w.heap[ad.block]? = some (.cells cur 3 (0, 0))) (hb : Below w.heap.size w w') : 0 < n → ∃ ad cur, A = some ad ∧ w'.heap[ad.block]? = some (.cells cur 3 (0, 0)) := fun hn => by
  obtain ⟨ad, cur, e, hc⟩ := h hn
  exact ⟨ad, cur, e, (hb.block _ (Array.getElem?_eq_some_iff.1 hc).1).trans hc⟩
theorem Ty.below {w w' : World} {A0 A1 A2} {x : Smm} (h : Ty w A0 A1 A2 x) (hb : Below w.heap.size w w') : Ty w' A0 A1 A2 x := ⟨ty_below h.t0 hb, ty_below h.t1 hb, ty_below h.t2 hb⟩
theorem ty_of {w : World} {B : Nat} {ok : Nat → Prop} {A : Option Addr} {n c : Nat} {l : List Int} (h : Kd.R (Kd.int .i64) 3 w B ok (.slice A n c) l) : 0 < l.length → ∃ ad cur, A = some ad ∧ w.heap[ad.block]? = some (.cells cur 3 (0, 0)) := fun hl => by
  have h1 := Kd.R_reads' h
  obtain ⟨ad, e, _⟩ := h1.2.2.2.2 hl
  subst e
  obtain ⟨inner, ho⟩ := Kd.R_own h
  rcases ho.2 with ⟨e, _⟩ | ⟨b, cap, cur, e, hb, hc, _⟩
  · cases e
  · injection e with e1
    cases e1
    exact ⟨_, cur, rfl, hc⟩
theorem row_grown {w w' : World} {kz : Nat} {cz : Array Value} {A : Option Addr} {l : List Int} (hz : w.heap[kz]? = some (.cells cz 26 (0, 0))) (hg : w.grownBy w' (some kz)) (h : Kd.C (Kd.int .i64) w A l.length l) (ht : 0 < l.length → ∃ ad cur, A = some ad ∧ w.heap[ad.block]? = some (.cells cur 3 (0, 0))) : Kd.C (Kd.int .i64) w' A l.length l := by
  refine ⟨h.1, h.2.1, fun hp => ?_⟩
  obtain ⟨ad, e, hc⟩ := h.2.2 hp
  obtain ⟨ad', cur, e', hcur⟩ := ht hp
  obtain rfl : ad' = ad := Option.some.inj (e'.symm.trans e)
  refine ⟨ad', e, fun j p hj => ?_⟩
  obtain ⟨c, a1, a2, a3⟩ := hc j p hj
  refine ⟨c, a1, a2, fun i u hu => ?_⟩
  have e2 : (ad'.add (j * (Kd.int .i64).sz + i)).block = ad'.block := by unfold Addr.add; split <;> rfl
  rw [World.cell?_of_block (w := w) (by rw [e2]; exact hg.block _ (Array.getElem?_eq_some_iff.1 hcur).1 (fun e => by
    have e3 := Option.some.inj e
    rw [e3, hz] at hcur
    injection hcur with hcur
    injection hcur with _ hcur
    exact absurd hcur (by decide)))]
  exact a3 i u hu
theorem RdS.grown {w w' : World} {kz : Nat} {cz : Array Value} {A0 c0 A1 c1 A2 c2} {x : Smm} (h : RdS w A0 c0 A1 c1 A2 c2 x) (ht : Ty w A0 A1 A2 x) (hz : w.heap[kz]? = some (.cells cz 26 (0, 0))) (hg : w.grownBy w' (some kz)) : RdS w' A0 c0 A1 c1 A2 c2 x :=
  ⟨h.k0, h.k1, h.k2, row_grown hz hg h.r0 ht.t0, row_grown hz hg h.r1 ht.t1, row_grown hz hg h.r2 ht.t2⟩
theorem grownBy_cell (W : World) (b j : Nat) (v : Value) : W.grownBy (W.setCell ⟨b, j, none⟩ v) (some b) :=
  ⟨rfl, rfl, rfl, by simp, fun k _ hk => Below.heap_setCell _ _ _ k (fun e => hk (by rw [e]))⟩
theorem below_grown {W w w' : World} {kz : Nat} (hX : Below W.heap.size W w) (hk : W.heap.size ≤ kz) (hg : w.grownBy w' (some kz)) : Below W.heap.size W w' :=
  hX.trans ⟨hg.os, hg.tape, hg.output, hg.size, fun k hk2 => hg.block k (by have := hX.size; omega) (fun e => by have := Option.some.inj e; omega)⟩
theorem Bo.new {w : World} {A0 c0 A1 c1 A2 c2} {x : Smm} (h : RdS w A0 c0 A1 c1 A2 c2 x) : Bo (w.alloc (.cells #[.int .i64 x.n, .int .i64 x.e0, .int .i64 x.e1, .int .i64 x.e2, .slice A0 x.l0.length c0, .slice A1 x.l1.length c1, .slice A2 x.l2.length c2] 26)) w.heap.size A0 c0 A1 c1 A2 c2 x :=
  ⟨heap_alloc_new w _, h.below ((Below.refl w.heap.size w).alloc (Nat.le_refl _) _)⟩
def empM : Option Smm := automaton_Empty.f.map fun t => ⟨t.1, t.2.1, t.2.2.1, t.2.2.2.1, t.2.2.2.2.1, t.2.2.2.2.2.1, t.2.2.2.2.2.2⟩
def sumM (k : Nat) (x y : Smm) : Option Bool := ndjqkeep_Summaries.f k x.n x.e0 x.e1 x.e2 x.l0 x.l1 x.l2 y.n y.e0 y.e1 y.e2 y.l0 y.l1 y.l2
theorem empC (z : Smm) (w : World) (h : empM = some z) :
    Calls Tryd.prog 35 #[] w fun e w' => ∃ E0 f0 E1 f1 E2 f2, e = .returned (.agg #[.int .i64 z.n, .int .i64 z.e0, .int .i64 z.e1, .int .i64 z.e2, .slice E0 z.l0.length f0, .slice E1 z.l1.length f1, .slice E2 z.l2.length f2]) ∧ RdS w' E0 f0 E1 f1 E2 f2 z ∧ Below w.heap.size w w' := by
  obtain ⟨⟨r1, r2, r3, r4, r5, r6, r7⟩, ht, he⟩ := Option.map_eq_some_iff.1 h
  cases he
  refine (automaton_Empty.calls _ _ _ _ _ _ _ w ht).mono ?_
  rintro e w' ⟨v4, v5, v6, rfl, h4, h5, h6, hb⟩
  obtain ⟨E0, f0, rfl⟩ := Kd.R_slice h4
  obtain ⟨E1, f1, rfl⟩ := Kd.R_slice h5
  obtain ⟨E2, f2, rfl⟩ := Kd.R_slice h6
  exact ⟨E0, f0, E1, f1, E2, f2, rfl, ⟨(Kd.R_reads' h4).2.1, (Kd.R_reads' h5).2.1, (Kd.R_reads' h6).2.1, (Kd.R_reads' h4).2.2, (Kd.R_reads' h5).2.2, (Kd.R_reads' h6).2.2⟩, hb⟩
theorem sumC (k : Nat) (x y : Smm) (r : Bool) (w : World) {A0 c0 A1 c1 A2 c2 B0 d0 B1 d1 B2 d2} (hx : RdS w A0 c0 A1 c1 A2 c2 x) (hy : RdS w B0 d0 B1 d1 B2 d2 y) (h : sumM k x y = some r) :
    Calls Tryd.prog 17 #[.agg #[.int .i64 x.n, .int .i64 x.e0, .int .i64 x.e1, .int .i64 x.e2, .slice A0 x.l0.length c0, .slice A1 x.l1.length c1, .slice A2 x.l2.length c2], .agg #[.int .i64 y.n, .int .i64 y.e0, .int .i64 y.e1, .int .i64 y.e2, .slice B0 y.l0.length d0, .slice B1 y.l1.length d1, .slice B2 y.l2.length d2]] w fun e w' => e = .returned (.bool r) ∧ Below w.heap.size w w' :=
  ndjqkeep_Summaries.calls k _ _ _ _ A0 c0 _ A1 c1 _ A2 c2 _ _ _ _ _ B0 d0 _ B1 d1 _ B2 d2 _ r w hx.r0 hx.k0 hx.r1 hx.k1 hx.r2 hx.k2 hy.r0 hy.k0 hy.r1 hy.k1 hy.r2 hy.k2 h
def Z7 : Array Value := #[.int .i64 0, .int .i64 0, .int .i64 0, .int .i64 0, .slice none 0 0, .slice none 0 0, .slice none 0 0]
structure Fs where
  v : Value
  kz : Nat
  E0 : Option Addr
  f0 : Nat
  E1 : Option Addr
  f1 : Nat
  E2 : Option Addr
  f2 : Nat
def Fz (W w' : World) (s : Fs) (z : Smm) : Prop :=
  Below W.heap.size W w' ∧ W.heap.size ≤ s.kz ∧ w'.heap[s.kz]? = some (.cells Z7 26 (0, 0)) ∧ RdS w' s.E0 s.f0 s.E1 s.f1 s.E2 s.f2 z ∧ Ty w' s.E0 s.E1 s.E2 z
theorem zero7 {w : World} {b : Nat} (h : w.heap[b]? = some (.cells Z7 26 (0, 0))) :
    w.cell? ⟨b, 0, none⟩ = some (.int .i64 0) ∧ w.cell? ⟨b, 1, none⟩ = some (.int .i64 0) ∧ w.cell? ⟨b, 2, none⟩ = some (.int .i64 0) ∧ w.cell? ⟨b, 3, none⟩ = some (.int .i64 0) ∧
      w.cell? ⟨b, 4, none⟩ = some (.slice none 0 0) ∧ w.cell? ⟨b, 5, none⟩ = some (.slice none 0 0) ∧ w.cell? ⟨b, 6, none⟩ = some (.slice none 0 0) ∧ ∀ j, w.frozen? ⟨b, j, none⟩ = false := by
  unfold Z7 at h
  refine ⟨?_, ?_, ?_, ?_, ?_, ?_, ?_, fun j => ?_⟩ <;> simp [World.cell?, World.frozen?, h]
theorem set7 {w : World} {kz : Nat} (h : w.heap[kz]? = some (.cells Z7 26 (0, 0))) (A0 : Option Addr) (c0 : Nat) (A1 : Option Addr) (c1 : Nat) (A2 : Option Addr) (c2 : Nat) (x : Smm) {w7 : World}
    (h7 : ((((((w.setCell ⟨kz, 0, none⟩ (.int .i64 x.n)).setCell ⟨kz, 1, none⟩ (.int .i64 x.e0)).setCell ⟨kz, 2, none⟩ (.int .i64 x.e1)).setCell ⟨kz, 3, none⟩ (.int .i64 x.e2)).setCell ⟨kz, 4, none⟩ (.slice A0 x.l0.length c0)).setCell ⟨kz, 5, none⟩ (.slice A1 x.l1.length c1)).setCell ⟨kz, 6, none⟩ (.slice A2 x.l2.length c2) = w7) :
    w7.heap[kz]? = some (.cells #[.int .i64 x.n, .int .i64 x.e0, .int .i64 x.e1, .int .i64 x.e2, .slice A0 x.l0.length c0, .slice A1 x.l1.length c1, .slice A2 x.l2.length c2] 26 (0, 0)) ∧ w.grownBy w7 (some kz) := by
  subst h7
  refine ⟨?_, (((((((grownBy_cell _ _ _ _).trans (grownBy_cell _ _ _ _)).trans (grownBy_cell _ _ _ _)).trans (grownBy_cell _ _ _ _)).trans (grownBy_cell _ _ _ _)).trans (grownBy_cell _ _ _ _)).trans (grownBy_cell _ _ _ _))⟩
  unfold Z7 at h
  rw [heap_setCell_same _ _ _ _ _ _ (heap_setCell_same _ _ _ _ _ _ (heap_setCell_same _ _ _ _ _ _ (heap_setCell_same _ _ _ _ _ _ (heap_setCell_same _ _ _ _ _ _ (heap_setCell_same _ _ _ _ _ _ (heap_setCell_same _ _ _ _ _ _ h))))))]
  rfl
/-! ### ref.Join, by hand -/
def pick3 {α : Type} (m : Int) (a b c : α) : α := if m = 0 then a else if m = 1 then b else c
def ex (x : Smm) (k : Nat) : Int := if k = 0 then x.e0 else if k = 1 then x.e1 else x.e2
def ln (x : Smm) (k : Nat) : List Int := if k = 0 then x.l0 else if k = 1 then x.l1 else x.l2
def sv (R : Nat → Option Addr × Nat) (L : Nat → List Int) (j : Nat) : Value := .slice (R j).1 (L j).length (R j).2
def Oc (n : Int) (E : Nat → Int) (R : Nat → Option Addr × Nat) (L : Nat → List Int) : Array Value := #[.int .i64 n, .int .i64 (E 0), .int .i64 (E 1), .int .i64 (E 2), sv R L 0, sv R L 1, sv R L 2]
def upd {α : Type} (f : Nat → α) (k : Nat) (v : α) : Nat → α := fun j => if j = k then v else f j
theorem Oc.setE (n : Int) (E : Nat → Int) (R L) (k : Nat) (hk : k < 3) (v : Int) : (Oc n E R L).setIfInBounds (1 + k) (.int .i64 v) = Oc n (upd E k v) R L := by
  rcases (show k = 0 ∨ k = 1 ∨ k = 2 by omega) with rfl | rfl | rfl <;> rfl
theorem Oc.setL (n : Int) (E : Nat → Int) (R : Nat → Option Addr × Nat) (L : Nat → List Int) (k : Nat) (hk : k < 3) (A : Option Addr) (m c : Nat) (l : List Int) (hl : l.length = m) : (Oc n E R L).setIfInBounds (4 + k) (.slice A m c) = Oc n E (upd R k (A, c)) (upd L k l) := by
  subst hl
  rcases (show k = 0 ∨ k = 1 ∨ k = 2 by omega) with rfl | rfl | rfl <;> rfl
theorem Oc.atL {w : World} {o : Nat} {n : Int} {E : Nat → Int} {R : Nat → Option Addr × Nat} {L : Nat → List Int} (h : w.heap[o]? = some (.cells (Oc n E R L) 26 (0, 0))) (k : Nat) (hk : k < 3) : w.cell? ⟨o, 4 + k, none⟩ = some (.slice (R k).1 (L k).length (R k).2) := by
  unfold Oc at h
  rcases (show k = 0 ∨ k = 1 ∨ k = 2 by omega) with rfl | rfl | rfl <;> simp [World.cell?, h, sv]
theorem Oc.fz {w : World} {o : Nat} {C : Array Value} (h : w.heap[o]? = some (.cells C 26 (0, 0))) (j : Nat) : w.frozen? ⟨o, j, none⟩ = false := by simp [World.frozen?, h]
/-- The cells of a box by the index. -/
theorem Bo.ats {w : World} {b : Nat} {A0 c0 A1 c1 A2 c2} {x : Smm} (h : Bo w b A0 c0 A1 c1 A2 c2 x) (k : Nat) (hk : k < 3) :
    w.cell? ⟨b, 1 + k, none⟩ = some (.int .i64 (ex x k)) ∧ ∃ A c, w.cell? ⟨b, 4 + k, none⟩ = some (.slice A (ln x k).length c) ∧ (ln x k).length ≤ c ∧ Kd.C (Kd.int .i64) w A (ln x k).length (ln x k) := by
  obtain ⟨q0, q1, q2, q3, q4, q5, q6⟩ := h.cells
  rcases (show k = 0 ∨ k = 1 ∨ k = 2 by omega) with rfl | rfl | rfl
  · exact ⟨q1, _, _, q4, h.rd.k0, h.rd.r0⟩
  · exact ⟨q2, _, _, q5, h.rd.k1, h.rd.r1⟩
  · exact ⟨q3, _, _, q6, h.rd.k2, h.rd.r2⟩
def pk {α : Type} (a b c : α) (k : Nat) : α := if k = 0 then a else if k = 1 then b else c
theorem RdS.ats {w : World} {A0 c0 A1 c1 A2 c2} {x : Smm} (h : RdS w A0 c0 A1 c1 A2 c2 x) (k : Nat) (hk : k < 3) : (ln x k).length ≤ pk c0 c1 c2 k ∧ Kd.C (Kd.int .i64) w (pk A0 A1 A2 k) (ln x k).length (ln x k) := by
  rcases (show k = 0 ∨ k = 1 ∨ k = 2 by omega) with rfl | rfl | rfl
  · exact ⟨h.k0, h.r0⟩
  · exact ⟨h.k1, h.r1⟩
  · exact ⟨h.k2, h.r2⟩
theorem Bo.atl {w : World} {b : Nat} {A0 c0 A1 c1 A2 c2} {x : Smm} (h : Bo w b A0 c0 A1 c1 A2 c2 x) (k : Nat) (hk : k < 3) :
    w.cell? ⟨b, 1 + k, none⟩ = some (.int .i64 (ex x k)) ∧ w.cell? ⟨b, 4 + k, none⟩ = some (.slice (pk A0 A1 A2 k) (ln x k).length (pk c0 c1 c2 k)) := by
  obtain ⟨q0, q1, q2, q3, q4, q5, q6⟩ := h.cells
  rcases (show k = 0 ∨ k = 1 ∨ k = 2 by omega) with rfl | rfl | rfl
  · exact ⟨q1, q4⟩
  · exact ⟨q2, q5⟩
  · exact ⟨q3, q6⟩
theorem inf3 : (Tryd.prog.info? 3).map (fun i => (i.zero, i.size, i.bytes)) = some (some (.int .i64 0), 1, 8) := by kernel_rfl
/-- A row that is done: it lies below B, in a block of numbers. -/
def Fin (w : World) (B : Nat) (R : Option Addr × Nat) (l : List Int) : Prop :=
  l.length ≤ R.2 ∧ Kd.C (Kd.int .i64) w R.1 l.length l ∧ (0 < l.length → ∃ ad cur, R.1 = some ad ∧ ad.block < B ∧ w.heap[ad.block]? = some (.cells cur 3 (0, 0)))
theorem Fin.move {w w' : World} {B : Nat} {R : Option Addr × Nat} {l : List Int} (h : Fin w B R l) (hm : ∀ (k : Nat) (cur : Array Value), k < B → w.heap[k]? = some (.cells cur 3 (0, 0)) → w'.heap[k]? = w.heap[k]?) : Fin w' B R l := by
  obtain ⟨h1, h2, h3⟩ := h
  refine ⟨h1, ⟨h2.1, h2.2.1, fun hp => ?_⟩, fun hp => ?_⟩
  · obtain ⟨ad, e, hc⟩ := h2.2.2 hp
    obtain ⟨ad', cur, e', hb, hcur⟩ := h3 hp
    obtain rfl : ad' = ad := Option.some.inj (e'.symm.trans e)
    refine ⟨ad', e, fun j p hj => ?_⟩
    obtain ⟨c, a1, a2, a3⟩ := hc j p hj
    refine ⟨c, a1, a2, fun i u hu => ?_⟩
    have e2 : (ad'.add (j * (Kd.int .i64).sz + i)).block = ad'.block := by unfold Addr.add; split <;> rfl
    rw [World.cell?_of_block (w := w) (by rw [e2]; exact hm _ _ hb hcur)]
    exact a3 i u hu
  · obtain ⟨ad, cur, e, hb, hcur⟩ := h3 hp
    exact ⟨ad, cur, e, hb, (hm _ _ hb hcur).trans hcur⟩
theorem fin_ty {w : World} {B : Nat} {R : Option Addr × Nat} {l : List Int} (h : Fin w B R l) : 0 < l.length → ∃ ad cur, R.1 = some ad ∧ w.heap[ad.block]? = some (.cells cur 3 (0, 0)) := fun hp => by
  obtain ⟨ad, cur, e, _, hc⟩ := h.2.2 hp
  exact ⟨ad, cur, e, hc⟩
theorem Fin.nil (w : World) (B : Nat) : Fin w B (none, 0) [] := ⟨Nat.le_refl _, Kd.C_nil _ _, fun h => absurd h (Nat.lt_irrefl 0)⟩
/-- Boxes other than o stand. -/
def Ke (W W' : World) (o : Nat) : Prop := ∀ (k : Nat) (cur : Array Value), k ≠ o → W.heap[k]? = some (.cells cur 26 (0, 0)) → W'.heap[k]? = some (.cells cur 26 (0, 0))
theorem Ke.refl (W : World) (o : Nat) : Ke W W o := fun _ _ _ h => h
theorem Ke.trans {a b c : World} {o : Nat} (h : Ke a b o) (k : Ke b c o) : Ke a c o := fun i cur hi hc => k i cur hi (h i cur hi hc)
theorem Ke.cell (W : World) (o j : Nat) (v : Value) : Ke W (W.setCell ⟨o, j, none⟩ v) o := fun k cur hk hc => (Below.heap_setCell W ⟨o, j, none⟩ v k hk).trans hc
theorem Ke.below {W W' : World} {o : Nat} (hb : Below W.heap.size W W') : Ke W W' o := fun k cur _ hc => (hb.block k (Array.getElem?_eq_some_iff.1 hc).1).trans hc
abbrev OwnI (B : Nat) (w : World) (v : Value) (l : List Int) : Prop := Kd.R (Kd.int .i64) 3 w B (fun _ => True) v l
theorem ne26 {w : World} {k : Nat} {c c' : Array Value} {t t' : TypeId} (h : w.heap[k]? = some (.cells c t (0, 0))) (h' : w.heap[k]? = some (.cells c' t' (0, 0))) : t = t' := by
  rw [h] at h'
  injection h' with h'
  injection h' with _ h'
theorem Ke.row {W W' : World} {o B : Nat} {v : Value} {l : List Int} (h : OwnI B W v l) (hg : W.grownBy W' v.ownBlock) : Ke W W' o := fun k cur _ hc => (hg.block k (Array.getElem?_eq_some_iff.1 hc).1 (fun e => by
  obtain ⟨inner, ho⟩ := Kd.R_own h
  obtain ⟨cells, h2⟩ := own_typed ho k e.symm
  exact absurd (ne26 hc h2) (by decide))).trans hc
theorem o_row {W W' : World} {o B : Nat} {C : Array Value} {v : Value} {l : List Int} (h : OwnI B W v l) (hg : W.grownBy W' v.ownBlock) (hc : W.heap[o]? = some (.cells C 26 (0, 0))) : W'.heap[o]? = some (.cells C 26 (0, 0)) :=
  (Ke.row (o := o + 1) h hg) o C (by omega) hc
theorem fin_row {W W' : World} {B : Nat} {v : Value} {l : List Int} (h : OwnI B W v l) (hg : W.grownBy W' v.ownBlock) {R : Option Addr × Nat} {m : List Int} (hf : Fin W B R m) : Fin W' B R m :=
  hf.move (fun k cur hk hc => hg.block k (Array.getElem?_eq_some_iff.1 hc).1 (fun e => by have := Kd.R_base h k e.symm; omega))
theorem fin_cell {W : World} {o B j : Nat} {C : Array Value} {v : Value} (hc : W.heap[o]? = some (.cells C 26 (0, 0))) {R : Option Addr × Nat} {m : List Int} (hf : Fin W B R m) : Fin (W.setCell ⟨o, j, none⟩ v) B R m :=
  hf.move (fun k cur _ h2 => Below.heap_setCell W ⟨o, j, none⟩ v k (fun e => by have e' : k = o := e; subst e'; exact absurd (ne26 h2 hc) (by decide)))
theorem fin_below {W W' : World} {B : Nat} {R : Option Addr × Nat} {m : List Int} (hf : Fin W B R m) (hb : Below W.heap.size W W') : Fin W' B R m :=
  hf.move (fun k cur _ h2 => hb.block k (Array.getElem?_eq_some_iff.1 h2).1)
theorem fin_own {W : World} {B B' : Nat} {A : Option Addr} {n c : Nat} {l : List Int} (h : OwnI B W (.slice A n c) l) (hB : W.heap.size ≤ B') : Fin W B' (A, c) l := by
  have h1 := Kd.R_reads' h
  refine ⟨by have := h1.2.1; have := h1.1; show l.length ≤ c; omega, h1.2.2, fun hp => ?_⟩
  obtain ⟨ad, cur, e, hc⟩ := ty_of h hp
  exact ⟨ad, cur, e, Nat.lt_of_lt_of_le (Array.getElem?_eq_some_iff.1 hc).1 hB, hc⟩
theorem own_cell {W : World} {o B j : Nat} {C : Array Value} {v u : Value} {l : List Int} (hc : W.heap[o]? = some (.cells C 26 (0, 0))) (h : OwnI B W v l) : OwnI B (W.setCell ⟨o, j, none⟩ u) v l :=
  Kd.R_mono (Kd.R_far (p := ⟨o, j, none⟩) (Kd.R_types h hc (fun q hq => by simp [Kd.int, Kd.scalar] at hq; subst hq; decide)) (fun _ hk => hk.2) u) (fun _ hk => hk.1)
def jnL (x y : Smm) (k : Nat) : List Int := ln x k ++ (pick3 (ex x k) y.l0 y.l1 y.l2).map (fun z => x.n + z)
def jn (x y : Smm) : Smm := ⟨x.n + y.n, pick3 x.e0 y.e0 y.e1 y.e2, pick3 x.e1 y.e0 y.e1 y.e2, pick3 x.e2 y.e0 y.e1 y.e2, jnL x y 0, jnL x y 1, jnL x y 2⟩
theorem Oc.atE {w : World} {o : Nat} {n : Int} {E : Nat → Int} {R : Nat → Option Addr × Nat} {L : Nat → List Int} (h : w.heap[o]? = some (.cells (Oc n E R L) 26 (0, 0))) (k : Nat) (hk : k < 3) : w.cell? ⟨o, 1 + k, none⟩ = some (.int .i64 (E k)) := by
  unfold Oc at h
  rcases (show k = 0 ∨ k = 1 ∨ k = 2 by omega) with rfl | rfl | rfl <;> simp [World.cell?, h]
theorem rowI {ops : Array Oper} {rest : List Oper} {o : Oper} {a : Act} {Q : Exit → Act → World → Prop} {w0 W : World} (hgd : o.guard = none) (base : Nat) (s x : Operand)
    (ho : o.op = .call { callee := .builtin .append, args := #[s, x], argTypes := #[23, 23] }) (v : Value) (xs ys : List Int) (A : Option Addr) (m c : Nat) (hs : a.eval s = v) (hx : a.eval x = .slice A m c)
    (HO : OwnI base W v xs) (HR : Kd.C (Kd.int .i64) W A m ys) (HB : Below base w0 W) (hbase : base ≤ W.heap.size) (hl : xs.length + m ≤ 17592186044416)
    (h : ∀ v1 w1, OwnI base w1 v1 (xs ++ ys) → Below base w0 w1 → W.grownBy w1 v.ownBlock → (v1.ownBlock = v.ownBlock ∨ ∃ b, v1.ownBlock = some b ∧ W.heap.size ≤ b) → wpList Tryd.prog ops Q rest (a.put o.dst v1) w1) :
    wpList Tryd.prog ops Q (o :: rest) a W :=
  Kd.R_append_row (P := Tryd.prog) (ops := ops) (o := o) (a := a) (Q := Q) (w0 := w0) (W := W) (h1 := fun _ => rfl) (Value.int .i64) (0 : Int) base hgd s x 23 3 (.int .i64 0) 8 ho Tryd.underlying23 inf3 rfl (by decide) v xs ys A m c (fun _ => True) hs hx (fun _ _ => trivial) HO HR HB hbase (by omega) h
theorem stepI {ops : Array Oper} {o : Oper} {a : Act} {Q : Exit → Act → World → Prop} {K : Act → World → Prop} {E : Prop} {w0 W : World} (hgd : o.guard = none) (base : Nat) (s x : Operand)
    (ho : o.op = .call { callee := .builtin .append, args := #[s, x], argTypes := #[23, 23] }) (v : Value) (xs : List Int) (p : Int) (hs : a.eval s = v)
    (hx : a.eval x = .slice (some ⟨W.heap.size, 0, none⟩) 1 1) (HO : OwnI base W v xs) (HB : Below base w0 W) (hbase : base ≤ W.heap.size) (hl : xs.length + 1 ≤ 17592186044416)
    (h : ∀ v1 w1, OwnI base w1 v1 (xs ++ [p]) → Below base w0 w1 → W.grownBy w1 v.ownBlock → K (a.put o.dst v1) w1) :
    if Region.wanted o (yielded ops a.tmps) = true then Oper.wp Tryd.prog o a (W.alloc (.cells #[.int .i64 p] 3)) K Q else E := by
  have hw : Region.wanted o (yielded ops a.tmps) = true := by simp [Region.wanted, hgd]
  rw [if_pos hw]
  have H := Kd.R_append_step (P := Tryd.prog) (ops := ops) (o := o) (a := a) (Q := Q) (Kc := K) (Kd.int .i64) (w0 := w0) (W := W) base hw s x 23 3 (.int .i64 0) 8 ho Tryd.underlying23 inf3 rfl (by decide) (by omega) v xs p [.int .i64 p] (fun _ => True) (fun _ => False) hs hx rfl (fun _ hk => hk.elim) (fun _ _ => trivial) HO HB hbase (by omega) (fun v1 w1 h1 h2 h3 _ => h v1 w1 h1 h2 h3)
  rw [if_pos hw] at H
  exact H
theorem own_new {w : World} {B : Nat} (hB : B ≤ w.heap.size) : OwnI B (w.alloc (.cells #[] 3)) (.slice (some ⟨w.heap.size, 0, none⟩) 0 0) [] :=
  Kd.R_of_own (h1 := fun _ => rfl) ⟨by simp [encs], .inr ⟨w.heap.size, 0, #[], rfl, hB, heap_alloc_new w _, by simp, by simp [maxLen], by simp, by simp [encs]⟩⟩ (fun _ _ => trivial)
/-- What stands beside the out box: the two summaries' boxes, the result's. -/
structure Sd (w w' : World) (o : Nat) (X Y : Array Value) : Prop where
  a : w'.heap[w.heap.size]? = some (.cells X 26 (0, 0))
  b : w'.heap[w.heap.size + 1]? = some (.cells Y 26 (0, 0))
  z : w'.heap[w.heap.size + 1 + 1]? = some (.cells Z7 26 (0, 0))
  bel : Below w.heap.size w w'
theorem Sd.ke {w w' w2 : World} {o : Nat} {X Y : Array Value} (h : Sd w w' o X Y) (ho : w.heap.size + 1 + 1 + 1 = o) (hk : Ke w' w2 o) (hb : Below w.heap.size w w2) : Sd w w2 o X Y :=
  ⟨hk _ _ (by omega) h.a, hk _ _ (by omega) h.b, hk _ _ (by omega) h.z, hb⟩
structure Ji (w w' : World) (o BB k : Nat) (n : Int) (E : Nat → Int) (R : Nat → Option Addr × Nat) (L : Nat → List Int) (X Y : Array Value) (A : Option Addr) (c : Nat) (l : List Int) : Prop where
  blk : w'.heap[o]? = some (.cells (Oc n E (upd R k (A, c)) (upd L k l)) 26 (0, 0))
  own : OwnI BB w' (.slice A l.length c) l
  fin : ∀ j, j < k → Fin w' BB (R j) (L j)
  sd : Sd w w' o X Y
  sz : BB ≤ w'.heap.size
theorem pick_e (y : Smm) (m : Nat) (hm : m < 3) : pick3 (m : Int) y.e0 y.e1 y.e2 = ex y m := by
  rcases (show m = 0 ∨ m = 1 ∨ m = 2 by omega) with rfl | rfl | rfl <;> rfl
theorem pick_l (y : Smm) (m : Nat) (hm : m < 3) : pick3 (m : Int) y.l0 y.l1 y.l2 = ln y m := by
  rcases (show m = 0 ∨ m = 1 ∨ m = 2 by omega) with rfl | rfl | rfl <;> rfl
theorem Fin.up {w : World} {B B' : Nat} {R : Option Addr × Nat} {l : List Int} (h : Fin w B R l) (hB : B ≤ B') : Fin w B' R l :=
  ⟨h.1, h.2.1, fun hp => by obtain ⟨ad, cur, e, hb, hc⟩ := h.2.2 hp; exact ⟨ad, cur, e, Nat.lt_of_lt_of_le hb hB, hc⟩⟩
theorem upd_ne {α : Type} (f : Nat → α) (k : Nat) (v : α) (j : Nat) (h : j ≠ k) : upd f k v j = f j := by unfold upd; rw [if_neg h]
theorem upd_eq {α : Type} (f : Nat → α) (k : Nat) (v : α) : upd f k v k = v := by unfold upd; rw [if_pos rfl]
theorem upd_upd {α : Type} (f : Nat → α) (k : Nat) (a b : α) : upd (upd f k a) k b = upd f k b := by
  funext j
  unfold upd
  split <;> rfl
theorem take_one {l : List Int} {i : Nat} {z : Int} (h : l[i]? = some z) : l.take (i + 1) = l.take i ++ [z] := by
  rw [List.take_add_one, h]
  rfl
structure Js (w w' : World) (o k : Nat) (n : Int) (x y : Smm) (E : Nat → Int) (R : Nat → Option Addr × Nat) (L : Nat → List Int) : Prop where
  blk : w'.heap[o]? = some (.cells (Oc n E R L) 26 (0, 0))
  old : ∀ j, j < k → E j = pick3 (ex x j) y.e0 y.e1 y.e2 ∧ L j = jnL x y j ∧ Fin w' w'.heap.size (R j) (L j)
  new : ∀ j, k ≤ j → E j = 0 ∧ R j = (none, 0) ∧ L j = []
theorem results_cell {fn : Func} {p : Tmp} {ty : TypeId} (h : fn.results = #[.cell p ty]) (tmps : Array Value) (P : Program) (w : World) :
    (results fn tmps).run P w = ((asAddr (tmps.getD p undef)).run P w).andThen fun a w₁ => (loadVar ty a).run P w₁ := by
  simp only [results, h]
  simp [Sem.run_bind, Result.andThen]
theorem ty_grown {w w' : World} {kz : Nat} {cz : Array Value} {A : Option Addr} {n : Nat} (hz : w.heap[kz]? = some (.cells cz 26 (0, 0))) (hg : w.grownBy w' (some kz)) (ht : 0 < n → ∃ ad cur, A = some ad ∧ w.heap[ad.block]? = some (.cells cur 3 (0, 0))) : 0 < n → ∃ ad cur, A = some ad ∧ w'.heap[ad.block]? = some (.cells cur 3 (0, 0)) := fun hn => by
  obtain ⟨ad, cur, e, hc⟩ := ht hn
  exact ⟨ad, cur, e, (hg.block _ (Array.getElem?_eq_some_iff.1 hc).1 (fun e2 => by
    have e3 := Option.some.inj e2
    rw [e3] at hc
    exact absurd (ne26 hc hz) (by decide))).trans hc⟩
theorem Ty.grown {w w' : World} {kz : Nat} {cz : Array Value} {A0 A1 A2} {x : Smm} (h : Ty w A0 A1 A2 x) (hz : w.heap[kz]? = some (.cells cz 26 (0, 0))) (hg : w.grownBy w' (some kz)) : Ty w' A0 A1 A2 x := ⟨ty_grown hz hg h.t0, ty_grown hz hg h.t1, ty_grown hz hg h.t2⟩
abbrev zM : Smm := ⟨0, 0, 0, 0, [], [], []⟩
theorem zM_rd (w : World) : RdS w none 0 none 0 none 0 zM := ⟨Nat.le_refl _, Nat.le_refl _, Nat.le_refl _, Kd.C_nil _ _, Kd.C_nil _ _, Kd.C_nil _ _⟩
theorem zM_ty (w : World) : Ty w none none none zM := ⟨fun h => absurd h (Nat.lt_irrefl 0), fun h => absurd h (Nat.lt_irrefl 0), fun h => absurd h (Nat.lt_irrefl 0)⟩
abbrev Jp (x y : Smm) : Prop := (0 ≤ x.n ∧ x.n ≤ 1048576 ∧ 0 ≤ y.n ∧ x.n + y.n ≤ 1048576) ∧ (∀ k, k < 3 → 0 ≤ ex x k ∧ ex x k ≤ 2) ∧ (∀ k, k < 3 → (ln x k).length ≤ 1048576 ∧ (ln y k).length ≤ 1048576) ∧ (∀ k, k < 3 → ∀ z ∈ ln y k, 0 ≤ z ∧ z ≤ 1048576)
end Go.Proofs.YtkhnifehcnlpjaaDoor.QC
