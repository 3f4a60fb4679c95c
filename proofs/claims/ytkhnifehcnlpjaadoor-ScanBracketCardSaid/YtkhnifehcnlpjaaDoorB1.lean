/- Summaries in memory; the reference's Join and Compose, by hand. -/
import Derived.Test.YtkhnifehcnlpjaaDoorQBx4
import Derived.Test.YtkhnifehcnlpjaaDoorQBx6
import Derived.Test.YtkhnifehcnlpjaaDoorQBx8
import Derived.Test.YtkhnifehcnlpjaaDoorQBx11
import Derived.Deep.CutBlock
import Derived.Deep.RegionHeld3
namespace Go.Proofs.YtkhnifehcnlpjaaDoor.QB
open Go Go.RowKit Go.Proofs.YtkhnifehcnlpjaaDoorW.PrintWords Go.Proofs.YtkhnifehcnlpjaaDoorW.PrintLast Go.Proofs.YtkhnifehcnlpjaaDoorW.PrintMore
set_option linter.unusedVariables false
set_option linter.unusedSimpArgs false
set_option maxRecDepth 100000
set_option maxHeartbeats 4000000
/-! ### AutomatonMonoid, walked by hand over the contracts of Compose, Empty, keep.Summaries -/
structure Smm where
  n : Int
  e0 : Int
  e1 : Int
  e2 : Int
  l0 : List Int
  l1 : List Int
  l2 : List Int
structure RdS (w : World) (A0 : Option Addr) (c0 : Nat) (A1 : Option Addr) (c1 : Nat) (A2 : Option Addr) (c2 : Nat) (x : Smm) : Prop where
  k0 : x.l0.length ≤ c0
  k1 : x.l1.length ≤ c1
  k2 : x.l2.length ≤ c2
  r0 : Kd.C (Kd.int .i64) w A0 x.l0.length x.l0
  r1 : Kd.C (Kd.int .i64) w A1 x.l1.length x.l1
  r2 : Kd.C (Kd.int .i64) w A2 x.l2.length x.l2
theorem RdS.below {w w' : World} {A0 c0 A1 c1 A2 c2} {x : Smm} (h : RdS w A0 c0 A1 c1 A2 c2 x) (hb : Below w.heap.size w w') : RdS w' A0 c0 A1 c1 A2 c2 x :=
  ⟨h.k0, h.k1, h.k2, Kd.C_below h.r0 hb, Kd.C_below h.r1 hb, Kd.C_below h.r2 hb⟩
/-- A summary in block b. -/
structure Bo (w : World) (b : Nat) (A0 : Option Addr) (c0 : Nat) (A1 : Option Addr) (c1 : Nat) (A2 : Option Addr) (c2 : Nat) (x : Smm) : Prop where
  blk : w.heap[b]? = some (.cells #[.int .i64 x.n, .int .i64 x.e0, .int .i64 x.e1, .int .i64 x.e2, .slice A0 x.l0.length c0, .slice A1 x.l1.length c1, .slice A2 x.l2.length c2] 26 (0, 0))
  rd : RdS w A0 c0 A1 c1 A2 c2 x
theorem Bo.below {w w' : World} {b : Nat} {A0 c0 A1 c1 A2 c2} {x : Smm} (h : Bo w b A0 c0 A1 c1 A2 c2 x) (hb : Below w.heap.size w w') : Bo w' b A0 c0 A1 c1 A2 c2 x :=
  ⟨(hb.block b (Array.getElem?_eq_some_iff.1 h.blk).1).trans h.blk, h.rd.below hb⟩
theorem Bo.cells {w : World} {b : Nat} {A0 c0 A1 c1 A2 c2} {x : Smm} (h : Bo w b A0 c0 A1 c1 A2 c2 x) :
    w.cell? ⟨b, 0, none⟩ = some (.int .i64 x.n) ∧ w.cell? ⟨b, 1, none⟩ = some (.int .i64 x.e0) ∧ w.cell? ⟨b, 2, none⟩ = some (.int .i64 x.e1) ∧ w.cell? ⟨b, 3, none⟩ = some (.int .i64 x.e2) ∧
      w.cell? ⟨b, 4, none⟩ = some (.slice A0 x.l0.length c0) ∧ w.cell? ⟨b, 5, none⟩ = some (.slice A1 x.l1.length c1) ∧ w.cell? ⟨b, 6, none⟩ = some (.slice A2 x.l2.length c2) := by
  have hb := h.blk
  refine ⟨?_, ?_, ?_, ?_, ?_, ?_, ?_⟩ <;> simp [World.cell?, hb]
/-- Its rows lie in blocks of numbers. -/
structure Ty (w : World) (A0 A1 A2 : Option Addr) (x : Smm) : Prop where
  t0 : 0 < x.l0.length → ∃ ad cur, A0 = some ad ∧ w.heap[ad.block]? = some (.cells cur 3 (0, 0))
  t1 : 0 < x.l1.length → ∃ ad cur, A1 = some ad ∧ w.heap[ad.block]? = some (.cells cur 3 (0, 0))
  t2 : 0 < x.l2.length → ∃ ad cur, A2 = some ad ∧ w.heap[ad.block]? = some (.cells cur 3 (0, 0))
theorem ty_below {w w' : World} {A : Option Addr} {n : Nat} (h : 0 < n → ∃ ad cur, A = some ad ∧ w.heap[ad.block]? = some (.cells cur 3 (0, 0))) (hb : Below w.heap.size w w') : 0 < n → ∃ ad cur, A = some ad ∧ w'.heap[ad.block]? = some (.cells cur 3 (0, 0)) := fun hn => by
  obtain ⟨ad, cur, e, hc⟩ := h hn
  exact ⟨ad, cur, e, (hb.block _ (Array.getElem?_eq_some_iff.1 hc).1).trans hc⟩
theorem Ty.below {w w' : World} {A0 A1 A2} {x : Smm} (h : Ty w A0 A1 A2 x) (hb : Below w.heap.size w w') : Ty w' A0 A1 A2 x := ⟨ty_below h.t0 hb, ty_below h.t1 hb, ty_below h.t2 hb⟩
theorem ty_of {w : World} {B : Nat} {ok : Nat → Prop} {A : Option Addr} {n c : Nat} {l : List Int} (h : Kd.R (Kd.int .i64) 3 w B ok (.slice A n c) l) : 0 < l.length → ∃ ad cur, A = some ad ∧ w.heap[ad.block]? = some (.cells cur 3 (0, 0)) := fun hl => by
  have h1 := Kd.R_reads' h
  obtain ⟨ad, e, _⟩ := h1.2.2.2.2 hl
  subst e
  obtain ⟨inner, ho⟩ := Kd.R_own h
  rcases ho.2 with ⟨e, _⟩ | ⟨b, cap, cur, e, hb, hc, _⟩
  · cases e
  · injection e with e1
    cases e1
    exact ⟨_, cur, rfl, hc⟩
theorem row_grown {w w' : World} {kz : Nat} {cz : Array Value} {A : Option Addr} {l : List Int} (hz : w.heap[kz]? = some (.cells cz 26 (0, 0))) (hg : w.grownBy w' (some kz)) (h : Kd.C (Kd.int .i64) w A l.length l) (ht : 0 < l.length → ∃ ad cur, A = some ad ∧ w.heap[ad.block]? = some (.cells cur 3 (0, 0))) : Kd.C (Kd.int .i64) w' A l.length l := by
  refine ⟨h.1, h.2.1, fun hp => ?_⟩
  obtain ⟨ad, e, hc⟩ := h.2.2 hp
  obtain ⟨ad', cur, e', hcur⟩ := ht hp
  obtain rfl : ad' = ad := Option.some.inj (e'.symm.trans e)
  refine ⟨ad', e, fun j p hj => ?_⟩
  obtain ⟨c, a1, a2, a3⟩ := hc j p hj
  refine ⟨c, a1, a2, fun i u hu => ?_⟩
  have e2 : (ad'.add (j * (Kd.int .i64).sz + i)).block = ad'.block := by unfold Addr.add; split <;> rfl
  rw [World.cell?_of_block (w := w) (by rw [e2]; exact hg.block _ (Array.getElem?_eq_some_iff.1 hcur).1 (fun e => by
    have e3 := Option.some.inj e
    rw [e3, hz] at hcur
    injection hcur with hcur
    injection hcur with _ hcur
    exact absurd hcur (by decide)))]
  exact a3 i u hu
theorem RdS.grown {w w' : World} {kz : Nat} {cz : Array Value} {A0 c0 A1 c1 A2 c2} {x : Smm} (h : RdS w A0 c0 A1 c1 A2 c2 x) (ht : Ty w A0 A1 A2 x) (hz : w.heap[kz]? = some (.cells cz 26 (0, 0))) (hg : w.grownBy w' (some kz)) : RdS w' A0 c0 A1 c1 A2 c2 x :=
  ⟨h.k0, h.k1, h.k2, row_grown hz hg h.r0 ht.t0, row_grown hz hg h.r1 ht.t1, row_grown hz hg h.r2 ht.t2⟩
theorem grownBy_cell (W : World) (b j : Nat) (v : Value) : W.grownBy (W.setCell ⟨b, j, none⟩ v) (some b) :=
  ⟨rfl, rfl, rfl, by simp, fun k _ hk => Below.heap_setCell _ _ _ k (fun e => hk (by rw [e]))⟩
theorem below_grown {W w w' : World} {kz : Nat} (hX : Below W.heap.size W w) (hk : W.heap.size ≤ kz) (hg : w.grownBy w' (some kz)) : Below W.heap.size W w' :=
  hX.trans ⟨hg.os, hg.tape, hg.output, hg.size, fun k hk2 => hg.block k (by have := hX.size; omega) (fun e => by have := Option.some.inj e; omega)⟩
theorem Bo.new {w : World} {A0 c0 A1 c1 A2 c2} {x : Smm} (h : RdS w A0 c0 A1 c1 A2 c2 x) : Bo (w.alloc (.cells #[.int .i64 x.n, .int .i64 x.e0, .int .i64 x.e1, .int .i64 x.e2, .slice A0 x.l0.length c0, .slice A1 x.l1.length c1, .slice A2 x.l2.length c2] 26)) w.heap.size A0 c0 A1 c1 A2 c2 x :=
  ⟨heap_alloc_new w _, h.below ((Below.refl w.heap.size w).alloc (Nat.le_refl _) _)⟩
def empM : Option Smm := automaton_Empty.f.map fun t => ⟨t.1, t.2.1, t.2.2.1, t.2.2.2.1, t.2.2.2.2.1, t.2.2.2.2.2.1, t.2.2.2.2.2.2⟩
def sumM (k : Nat) (x y : Smm) : Option Bool := ndjqkeep_Summaries.f k x.n x.e0 x.e1 x.e2 x.l0 x.l1 x.l2 y.n y.e0 y.e1 y.e2 y.l0 y.l1 y.l2
theorem empC (z : Smm) (w : World) (h : empM = some z) :
    Calls Tryd.prog 35 #[] w fun e w' => ∃ E0 f0 E1 f1 E2 f2, e = .returned (.agg #[.int .i64 z.n, .int .i64 z.e0, .int .i64 z.e1, .int .i64 z.e2, .slice E0 z.l0.length f0, .slice E1 z.l1.length f1, .slice E2 z.l2.length f2]) ∧ RdS w' E0 f0 E1 f1 E2 f2 z ∧ Below w.heap.size w w' := by
  obtain ⟨⟨r1, r2, r3, r4, r5, r6, r7⟩, ht, he⟩ := Option.map_eq_some_iff.1 h
  cases he
  refine (automaton_Empty.calls _ _ _ _ _ _ _ w ht).mono ?_
  rintro e w' ⟨v4, v5, v6, rfl, h4, h5, h6, hb⟩
  obtain ⟨E0, f0, rfl⟩ := Kd.R_slice h4
  obtain ⟨E1, f1, rfl⟩ := Kd.R_slice h5
  obtain ⟨E2, f2, rfl⟩ := Kd.R_slice h6
  exact ⟨E0, f0, E1, f1, E2, f2, rfl, ⟨(Kd.R_reads' h4).2.1, (Kd.R_reads' h5).2.1, (Kd.R_reads' h6).2.1, (Kd.R_reads' h4).2.2, (Kd.R_reads' h5).2.2, (Kd.R_reads' h6).2.2⟩, hb⟩
theorem sumC (k : Nat) (x y : Smm) (r : Bool) (w : World) {A0 c0 A1 c1 A2 c2 B0 d0 B1 d1 B2 d2} (hx : RdS w A0 c0 A1 c1 A2 c2 x) (hy : RdS w B0 d0 B1 d1 B2 d2 y) (h : sumM k x y = some r) :
    Calls Tryd.prog 17 #[.agg #[.int .i64 x.n, .int .i64 x.e0, .int .i64 x.e1, .int .i64 x.e2, .slice A0 x.l0.length c0, .slice A1 x.l1.length c1, .slice A2 x.l2.length c2], .agg #[.int .i64 y.n, .int .i64 y.e0, .int .i64 y.e1, .int .i64 y.e2, .slice B0 y.l0.length d0, .slice B1 y.l1.length d1, .slice B2 y.l2.length d2]] w fun e w' => e = .returned (.bool r) ∧ Below w.heap.size w w' :=
  ndjqkeep_Summaries.calls k _ _ _ _ A0 c0 _ A1 c1 _ A2 c2 _ _ _ _ _ B0 d0 _ B1 d1 _ B2 d2 _ r w hx.r0 hx.k0 hx.r1 hx.k1 hx.r2 hx.k2 hy.r0 hy.k0 hy.r1 hy.k1 hy.r2 hy.k2 h
def Z7 : Array Value := #[.int .i64 0, .int .i64 0, .int .i64 0, .int .i64 0, .slice none 0 0, .slice none 0 0, .slice none 0 0]
structure Fs where
  v : Value
  kz : Nat
  E0 : Option Addr
  f0 : Nat
  E1 : Option Addr
  f1 : Nat
  E2 : Option Addr
  f2 : Nat
def Fz (W w' : World) (s : Fs) (z : Smm) : Prop :=
  Below W.heap.size W w' ∧ W.heap.size ≤ s.kz ∧ w'.heap[s.kz]? = some (.cells Z7 26 (0, 0)) ∧ RdS w' s.E0 s.f0 s.E1 s.f1 s.E2 s.f2 z ∧ Ty w' s.E0 s.E1 s.E2 z
theorem zero7 {w : World} {b : Nat} (h : w.heap[b]? = some (.cells Z7 26 (0, 0))) :
    w.cell? ⟨b, 0, none⟩ = some (.int .i64 0) ∧ w.cell? ⟨b, 1, none⟩ = some (.int .i64 0) ∧ w.cell? ⟨b, 2, none⟩ = some (.int .i64 0) ∧ w.cell? ⟨b, 3, none⟩ = some (.int .i64 0) ∧
      w.cell? ⟨b, 4, none⟩ = some (.slice none 0 0) ∧ w.cell? ⟨b, 5, none⟩ = some (.slice none 0 0) ∧ w.cell? ⟨b, 6, none⟩ = some (.slice none 0 0) ∧ ∀ j, w.frozen? ⟨b, j, none⟩ = false := by
  unfold Z7 at h
  refine ⟨?_, ?_, ?_, ?_, ?_, ?_, ?_, fun j => ?_⟩ <;> simp [World.cell?, World.frozen?, h]
theorem set7 {w : World} {kz : Nat} (h : w.heap[kz]? = some (.cells Z7 26 (0, 0))) (A0 : Option Addr) (c0 : Nat) (A1 : Option Addr) (c1 : Nat) (A2 : Option Addr) (c2 : Nat) (x : Smm) {w7 : World}
    (h7 : ((((((w.setCell ⟨kz, 0, none⟩ (.int .i64 x.n)).setCell ⟨kz, 1, none⟩ (.int .i64 x.e0)).setCell ⟨kz, 2, none⟩ (.int .i64 x.e1)).setCell ⟨kz, 3, none⟩ (.int .i64 x.e2)).setCell ⟨kz, 4, none⟩ (.slice A0 x.l0.length c0)).setCell ⟨kz, 5, none⟩ (.slice A1 x.l1.length c1)).setCell ⟨kz, 6, none⟩ (.slice A2 x.l2.length c2) = w7) :
    w7.heap[kz]? = some (.cells #[.int .i64 x.n, .int .i64 x.e0, .int .i64 x.e1, .int .i64 x.e2, .slice A0 x.l0.length c0, .slice A1 x.l1.length c1, .slice A2 x.l2.length c2] 26 (0, 0)) ∧ w.grownBy w7 (some kz) := by
  subst h7
  refine ⟨?_, (((((((grownBy_cell _ _ _ _).trans (grownBy_cell _ _ _ _)).trans (grownBy_cell _ _ _ _)).trans (grownBy_cell _ _ _ _)).trans (grownBy_cell _ _ _ _)).trans (grownBy_cell _ _ _ _)).trans (grownBy_cell _ _ _ _))⟩
  unfold Z7 at h
  rw [heap_setCell_same _ _ _ _ _ _ (heap_setCell_same _ _ _ _ _ _ (heap_setCell_same _ _ _ _ _ _ (heap_setCell_same _ _ _ _ _ _ (heap_setCell_same _ _ _ _ _ _ (heap_setCell_same _ _ _ _ _ _ (heap_setCell_same _ _ _ _ _ _ h))))))]
  rfl
/-! ### ref.Join, by hand -/
def pick3 {α : Type} (m : Int) (a b c : α) : α := if m = 0 then a else if m = 1 then b else c
def ex (x : Smm) (k : Nat) : Int := if k = 0 then x.e0 else if k = 1 then x.e1 else x.e2
def ln (x : Smm) (k : Nat) : List Int := if k = 0 then x.l0 else if k = 1 then x.l1 else x.l2
def sv (R : Nat → Option Addr × Nat) (L : Nat → List Int) (j : Nat) : Value := .slice (R j).1 (L j).length (R j).2
def Oc (n : Int) (E : Nat → Int) (R : Nat → Option Addr × Nat) (L : Nat → List Int) : Array Value := #[.int .i64 n, .int .i64 (E 0), .int .i64 (E 1), .int .i64 (E 2), sv R L 0, sv R L 1, sv R L 2]
def upd {α : Type} (f : Nat → α) (k : Nat) (v : α) : Nat → α := fun j => if j = k then v else f j
theorem Oc.setE (n : Int) (E : Nat → Int) (R L) (k : Nat) (hk : k < 3) (v : Int) : (Oc n E R L).setIfInBounds (1 + k) (.int .i64 v) = Oc n (upd E k v) R L := by
  rcases (show k = 0 ∨ k = 1 ∨ k = 2 by omega) with rfl | rfl | rfl <;> rfl
theorem Oc.setL (n : Int) (E : Nat → Int) (R : Nat → Option Addr × Nat) (L : Nat → List Int) (k : Nat) (hk : k < 3) (A : Option Addr) (m c : Nat) (l : List Int) (hl : l.length = m) : (Oc n E R L).setIfInBounds (4 + k) (.slice A m c) = Oc n E (upd R k (A, c)) (upd L k l) := by
  subst hl
  rcases (show k = 0 ∨ k = 1 ∨ k = 2 by omega) with rfl | rfl | rfl <;> rfl
theorem Oc.atL {w : World} {o : Nat} {n : Int} {E : Nat → Int} {R : Nat → Option Addr × Nat} {L : Nat → List Int} (h : w.heap[o]? = some (.cells (Oc n E R L) 26 (0, 0))) (k : Nat) (hk : k < 3) : w.cell? ⟨o, 4 + k, none⟩ = some (.slice (R k).1 (L k).length (R k).2) := by
  unfold Oc at h
  rcases (show k = 0 ∨ k = 1 ∨ k = 2 by omega) with rfl | rfl | rfl <;> simp [World.cell?, h, sv]
theorem Oc.fz {w : World} {o : Nat} {C : Array Value} (h : w.heap[o]? = some (.cells C 26 (0, 0))) (j : Nat) : w.frozen? ⟨o, j, none⟩ = false := by simp [World.frozen?, h]
/-- The cells of a box by the index. -/
theorem Bo.ats {w : World} {b : Nat} {A0 c0 A1 c1 A2 c2} {x : Smm} (h : Bo w b A0 c0 A1 c1 A2 c2 x) (k : Nat) (hk : k < 3) :
    w.cell? ⟨b, 1 + k, none⟩ = some (.int .i64 (ex x k)) ∧ ∃ A c, w.cell? ⟨b, 4 + k, none⟩ = some (.slice A (ln x k).length c) ∧ (ln x k).length ≤ c ∧ Kd.C (Kd.int .i64) w A (ln x k).length (ln x k) := by
  obtain ⟨q0, q1, q2, q3, q4, q5, q6⟩ := h.cells
  rcases (show k = 0 ∨ k = 1 ∨ k = 2 by omega) with rfl | rfl | rfl
  · exact ⟨q1, _, _, q4, h.rd.k0, h.rd.r0⟩
  · exact ⟨q2, _, _, q5, h.rd.k1, h.rd.r1⟩
  · exact ⟨q3, _, _, q6, h.rd.k2, h.rd.r2⟩
def pk {α : Type} (a b c : α) (k : Nat) : α := if k = 0 then a else if k = 1 then b else c
theorem RdS.ats {w : World} {A0 c0 A1 c1 A2 c2} {x : Smm} (h : RdS w A0 c0 A1 c1 A2 c2 x) (k : Nat) (hk : k < 3) : (ln x k).length ≤ pk c0 c1 c2 k ∧ Kd.C (Kd.int .i64) w (pk A0 A1 A2 k) (ln x k).length (ln x k) := by
  rcases (show k = 0 ∨ k = 1 ∨ k = 2 by omega) with rfl | rfl | rfl
  · exact ⟨h.k0, h.r0⟩
  · exact ⟨h.k1, h.r1⟩
  · exact ⟨h.k2, h.r2⟩
theorem Bo.atl {w : World} {b : Nat} {A0 c0 A1 c1 A2 c2} {x : Smm} (h : Bo w b A0 c0 A1 c1 A2 c2 x) (k : Nat) (hk : k < 3) :
    w.cell? ⟨b, 1 + k, none⟩ = some (.int .i64 (ex x k)) ∧ w.cell? ⟨b, 4 + k, none⟩ = some (.slice (pk A0 A1 A2 k) (ln x k).length (pk c0 c1 c2 k)) := by
  obtain ⟨q0, q1, q2, q3, q4, q5, q6⟩ := h.cells
  rcases (show k = 0 ∨ k = 1 ∨ k = 2 by omega) with rfl | rfl | rfl
  · exact ⟨q1, q4⟩
  · exact ⟨q2, q5⟩
  · exact ⟨q3, q6⟩
theorem inf3 : (Tryd.prog.info? 3).map (fun i => (i.zero, i.size, i.bytes)) = some (some (.int .i64 0), 1, 8) := by kernel_rfl
/-- A row that is done: it lies below B, in a block of numbers. -/
def Fin (w : World) (B : Nat) (R : Option Addr × Nat) (l : List Int) : Prop :=
  l.length ≤ R.2 ∧ Kd.C (Kd.int .i64) w R.1 l.length l ∧ (0 < l.length → ∃ ad cur, R.1 = some ad ∧ ad.block < B ∧ w.heap[ad.block]? = some (.cells cur 3 (0, 0)))
theorem Fin.move {w w' : World} {B : Nat} {R : Option Addr × Nat} {l : List Int} (h : Fin w B R l) (hm : ∀ (k : Nat) (cur : Array Value), k < B → w.heap[k]? = some (.cells cur 3 (0, 0)) → w'.heap[k]? = w.heap[k]?) : Fin w' B R l := by
  obtain ⟨h1, h2, h3⟩ := h
  refine ⟨h1, ⟨h2.1, h2.2.1, fun hp => ?_⟩, fun hp => ?_⟩
  · obtain ⟨ad, e, hc⟩ := h2.2.2 hp
    obtain ⟨ad', cur, e', hb, hcur⟩ := h3 hp
    obtain rfl : ad' = ad := Option.some.inj (e'.symm.trans e)
    refine ⟨ad', e, fun j p hj => ?_⟩
    obtain ⟨c, a1, a2, a3⟩ := hc j p hj
    refine ⟨c, a1, a2, fun i u hu => ?_⟩
    have e2 : (ad'.add (j * (Kd.int .i64).sz + i)).block = ad'.block := by unfold Addr.add; split <;> rfl
    rw [World.cell?_of_block (w := w) (by rw [e2]; exact hm _ _ hb hcur)]
    exact a3 i u hu
  · obtain ⟨ad, cur, e, hb, hcur⟩ := h3 hp
    exact ⟨ad, cur, e, hb, (hm _ _ hb hcur).trans hcur⟩
theorem fin_ty {w : World} {B : Nat} {R : Option Addr × Nat} {l : List Int} (h : Fin w B R l) : 0 < l.length → ∃ ad cur, R.1 = some ad ∧ w.heap[ad.block]? = some (.cells cur 3 (0, 0)) := fun hp => by
  obtain ⟨ad, cur, e, _, hc⟩ := h.2.2 hp
  exact ⟨ad, cur, e, hc⟩
theorem Fin.nil (w : World) (B : Nat) : Fin w B (none, 0) [] := ⟨Nat.le_refl _, Kd.C_nil _ _, fun h => absurd h (Nat.lt_irrefl 0)⟩
/-- Boxes other than o stand. -/
def Ke (W W' : World) (o : Nat) : Prop := ∀ (k : Nat) (cur : Array Value), k ≠ o → W.heap[k]? = some (.cells cur 26 (0, 0)) → W'.heap[k]? = some (.cells cur 26 (0, 0))
theorem Ke.refl (W : World) (o : Nat) : Ke W W o := fun _ _ _ h => h
theorem Ke.trans {a b c : World} {o : Nat} (h : Ke a b o) (k : Ke b c o) : Ke a c o := fun i cur hi hc => k i cur hi (h i cur hi hc)
theorem Ke.cell (W : World) (o j : Nat) (v : Value) : Ke W (W.setCell ⟨o, j, none⟩ v) o := fun k cur hk hc => (Below.heap_setCell W ⟨o, j, none⟩ v k hk).trans hc
theorem Ke.below {W W' : World} {o : Nat} (hb : Below W.heap.size W W') : Ke W W' o := fun k cur _ hc => (hb.block k (Array.getElem?_eq_some_iff.1 hc).1).trans hc
abbrev OwnI (B : Nat) (w : World) (v : Value) (l : List Int) : Prop := Kd.R (Kd.int .i64) 3 w B (fun _ => True) v l
theorem ne26 {w : World} {k : Nat} {c c' : Array Value} {t t' : TypeId} (h : w.heap[k]? = some (.cells c t (0, 0))) (h' : w.heap[k]? = some (.cells c' t' (0, 0))) : t = t' := by
  rw [h] at h'
  injection h' with h'
  injection h' with _ h'
theorem Ke.row {W W' : World} {o B : Nat} {v : Value} {l : List Int} (h : OwnI B W v l) (hg : W.grownBy W' v.ownBlock) : Ke W W' o := fun k cur _ hc => (hg.block k (Array.getElem?_eq_some_iff.1 hc).1 (fun e => by
  obtain ⟨inner, ho⟩ := Kd.R_own h
  obtain ⟨cells, h2⟩ := own_typed ho k e.symm
  exact absurd (ne26 hc h2) (by decide))).trans hc
theorem o_row {W W' : World} {o B : Nat} {C : Array Value} {v : Value} {l : List Int} (h : OwnI B W v l) (hg : W.grownBy W' v.ownBlock) (hc : W.heap[o]? = some (.cells C 26 (0, 0))) : W'.heap[o]? = some (.cells C 26 (0, 0)) :=
  (Ke.row (o := o + 1) h hg) o C (by omega) hc
theorem fin_row {W W' : World} {B : Nat} {v : Value} {l : List Int} (h : OwnI B W v l) (hg : W.grownBy W' v.ownBlock) {R : Option Addr × Nat} {m : List Int} (hf : Fin W B R m) : Fin W' B R m :=
  hf.move (fun k cur hk hc => hg.block k (Array.getElem?_eq_some_iff.1 hc).1 (fun e => by have := Kd.R_base h k e.symm; omega))
theorem fin_cell {W : World} {o B j : Nat} {C : Array Value} {v : Value} (hc : W.heap[o]? = some (.cells C 26 (0, 0))) {R : Option Addr × Nat} {m : List Int} (hf : Fin W B R m) : Fin (W.setCell ⟨o, j, none⟩ v) B R m :=
  hf.move (fun k cur _ h2 => Below.heap_setCell W ⟨o, j, none⟩ v k (fun e => by have e' : k = o := e; subst e'; exact absurd (ne26 h2 hc) (by decide)))
theorem fin_below {W W' : World} {B : Nat} {R : Option Addr × Nat} {m : List Int} (hf : Fin W B R m) (hb : Below W.heap.size W W') : Fin W' B R m :=
  hf.move (fun k cur _ h2 => hb.block k (Array.getElem?_eq_some_iff.1 h2).1)
theorem fin_own {W : World} {B B' : Nat} {A : Option Addr} {n c : Nat} {l : List Int} (h : OwnI B W (.slice A n c) l) (hB : W.heap.size ≤ B') : Fin W B' (A, c) l := by
  have h1 := Kd.R_reads' h
  refine ⟨by have := h1.2.1; have := h1.1; show l.length ≤ c; omega, h1.2.2, fun hp => ?_⟩
  obtain ⟨ad, cur, e, hc⟩ := ty_of h hp
  exact ⟨ad, cur, e, Nat.lt_of_lt_of_le (Array.getElem?_eq_some_iff.1 hc).1 hB, hc⟩
theorem own_cell {W : World} {o B j : Nat} {C : Array Value} {v u : Value} {l : List Int} (hc : W.heap[o]? = some (.cells C 26 (0, 0))) (h : OwnI B W v l) : OwnI B (W.setCell ⟨o, j, none⟩ u) v l :=
  Kd.R_mono (Kd.R_far (p := ⟨o, j, none⟩) (Kd.R_types h hc (fun q hq => by simp [Kd.int, Kd.scalar] at hq; subst hq; decide)) (fun _ hk => hk.2) u) (fun _ hk => hk.1)
def jnL (x y : Smm) (k : Nat) : List Int := ln x k ++ (pick3 (ex x k) y.l0 y.l1 y.l2).map (fun z => x.n + z)
def jn (x y : Smm) : Smm := ⟨x.n + y.n, pick3 x.e0 y.e0 y.e1 y.e2, pick3 x.e1 y.e0 y.e1 y.e2, pick3 x.e2 y.e0 y.e1 y.e2, jnL x y 0, jnL x y 1, jnL x y 2⟩
theorem Oc.atE {w : World} {o : Nat} {n : Int} {E : Nat → Int} {R : Nat → Option Addr × Nat} {L : Nat → List Int} (h : w.heap[o]? = some (.cells (Oc n E R L) 26 (0, 0))) (k : Nat) (hk : k < 3) : w.cell? ⟨o, 1 + k, none⟩ = some (.int .i64 (E k)) := by
  unfold Oc at h
  rcases (show k = 0 ∨ k = 1 ∨ k = 2 by omega) with rfl | rfl | rfl <;> simp [World.cell?, h]
theorem rowI {ops : Array Oper} {rest : List Oper} {o : Oper} {a : Act} {Q : Exit → Act → World → Prop} {w0 W : World} (hgd : o.guard = none) (base : Nat) (s x : Operand)
    (ho : o.op = .call { callee := .builtin .append, args := #[s, x], argTypes := #[23, 23] }) (v : Value) (xs ys : List Int) (A : Option Addr) (m c : Nat) (hs : a.eval s = v) (hx : a.eval x = .slice A m c)
    (HO : OwnI base W v xs) (HR : Kd.C (Kd.int .i64) W A m ys) (HB : Below base w0 W) (hbase : base ≤ W.heap.size) (hl : xs.length + m ≤ 17592186044416)
    (h : ∀ v1 w1, OwnI base w1 v1 (xs ++ ys) → Below base w0 w1 → W.grownBy w1 v.ownBlock → (v1.ownBlock = v.ownBlock ∨ ∃ b, v1.ownBlock = some b ∧ W.heap.size ≤ b) → wpList Tryd.prog ops Q rest (a.put o.dst v1) w1) :
    wpList Tryd.prog ops Q (o :: rest) a W :=
  Kd.R_append_row (P := Tryd.prog) (ops := ops) (o := o) (a := a) (Q := Q) (w0 := w0) (W := W) (h1 := fun _ => rfl) (Value.int .i64) (0 : Int) base hgd s x 23 3 (.int .i64 0) 8 ho Tryd.underlying23 inf3 rfl (by decide) v xs ys A m c (fun _ => True) hs hx (fun _ _ => trivial) HO HR HB hbase (by omega) h
theorem stepI {ops : Array Oper} {o : Oper} {a : Act} {Q : Exit → Act → World → Prop} {K : Act → World → Prop} {E : Prop} {w0 W : World} (hgd : o.guard = none) (base : Nat) (s x : Operand)
    (ho : o.op = .call { callee := .builtin .append, args := #[s, x], argTypes := #[23, 23] }) (v : Value) (xs : List Int) (p : Int) (hs : a.eval s = v)
    (hx : a.eval x = .slice (some ⟨W.heap.size, 0, none⟩) 1 1) (HO : OwnI base W v xs) (HB : Below base w0 W) (hbase : base ≤ W.heap.size) (hl : xs.length + 1 ≤ 17592186044416)
    (h : ∀ v1 w1, OwnI base w1 v1 (xs ++ [p]) → Below base w0 w1 → W.grownBy w1 v.ownBlock → K (a.put o.dst v1) w1) :
    if Region.wanted o (yielded ops a.tmps) = true then Oper.wp Tryd.prog o a (W.alloc (.cells #[.int .i64 p] 3)) K Q else E := by
  have hw : Region.wanted o (yielded ops a.tmps) = true := by simp [Region.wanted, hgd]
  rw [if_pos hw]
  have H := Kd.R_append_step (P := Tryd.prog) (ops := ops) (o := o) (a := a) (Q := Q) (Kc := K) (Kd.int .i64) (w0 := w0) (W := W) base hw s x 23 3 (.int .i64 0) 8 ho Tryd.underlying23 inf3 rfl (by decide) (by omega) v xs p [.int .i64 p] (fun _ => True) (fun _ => False) hs hx rfl (fun _ hk => hk.elim) (fun _ _ => trivial) HO HB hbase (by omega) (fun v1 w1 h1 h2 h3 _ => h v1 w1 h1 h2 h3)
  rw [if_pos hw] at H
  exact H
theorem own_new {w : World} {B : Nat} (hB : B ≤ w.heap.size) : OwnI B (w.alloc (.cells #[] 3)) (.slice (some ⟨w.heap.size, 0, none⟩) 0 0) [] :=
  Kd.R_of_own (h1 := fun _ => rfl) ⟨by simp [encs], .inr ⟨w.heap.size, 0, #[], rfl, hB, heap_alloc_new w _, by simp, by simp [maxLen], by simp, by simp [encs]⟩⟩ (fun _ _ => trivial)
/-- What stands beside the out box: the two summaries' boxes, the result's. -/
structure Sd (w w' : World) (o : Nat) (X Y : Array Value) : Prop where
  a : w'.heap[w.heap.size]? = some (.cells X 26 (0, 0))
  b : w'.heap[w.heap.size + 1]? = some (.cells Y 26 (0, 0))
  z : w'.heap[w.heap.size + 1 + 1]? = some (.cells Z7 26 (0, 0))
  bel : Below w.heap.size w w'
theorem Sd.ke {w w' w2 : World} {o : Nat} {X Y : Array Value} (h : Sd w w' o X Y) (ho : w.heap.size + 1 + 1 + 1 = o) (hk : Ke w' w2 o) (hb : Below w.heap.size w w2) : Sd w w2 o X Y :=
  ⟨hk _ _ (by omega) h.a, hk _ _ (by omega) h.b, hk _ _ (by omega) h.z, hb⟩
structure Ji (w w' : World) (o BB k : Nat) (n : Int) (E : Nat → Int) (R : Nat → Option Addr × Nat) (L : Nat → List Int) (X Y : Array Value) (A : Option Addr) (c : Nat) (l : List Int) : Prop where
  blk : w'.heap[o]? = some (.cells (Oc n E (upd R k (A, c)) (upd L k l)) 26 (0, 0))
  own : OwnI BB w' (.slice A l.length c) l
  fin : ∀ j, j < k → Fin w' BB (R j) (L j)
  sd : Sd w w' o X Y
  sz : BB ≤ w'.heap.size
theorem pick_e (y : Smm) (m : Nat) (hm : m < 3) : pick3 (m : Int) y.e0 y.e1 y.e2 = ex y m := by
  rcases (show m = 0 ∨ m = 1 ∨ m = 2 by omega) with rfl | rfl | rfl <;> rfl
theorem pick_l (y : Smm) (m : Nat) (hm : m < 3) : pick3 (m : Int) y.l0 y.l1 y.l2 = ln y m := by
  rcases (show m = 0 ∨ m = 1 ∨ m = 2 by omega) with rfl | rfl | rfl <;> rfl
theorem Fin.up {w : World} {B B' : Nat} {R : Option Addr × Nat} {l : List Int} (h : Fin w B R l) (hB : B ≤ B') : Fin w B' R l :=
  ⟨h.1, h.2.1, fun hp => by obtain ⟨ad, cur, e, hb, hc⟩ := h.2.2 hp; exact ⟨ad, cur, e, Nat.lt_of_lt_of_le hb hB, hc⟩⟩
theorem upd_ne {α : Type} (f : Nat → α) (k : Nat) (v : α) (j : Nat) (h : j ≠ k) : upd f k v j = f j := by unfold upd; rw [if_neg h]
theorem upd_eq {α : Type} (f : Nat → α) (k : Nat) (v : α) : upd f k v k = v := by unfold upd; rw [if_pos rfl]
theorem upd_upd {α : Type} (f : Nat → α) (k : Nat) (a b : α) : upd (upd f k a) k b = upd f k b := by
  funext j
  unfold upd
  split <;> rfl
theorem take_one {l : List Int} {i : Nat} {z : Int} (h : l[i]? = some z) : l.take (i + 1) = l.take i ++ [z] := by
  rw [List.take_add_one, h]
  rfl
structure Js (w w' : World) (o k : Nat) (n : Int) (x y : Smm) (E : Nat → Int) (R : Nat → Option Addr × Nat) (L : Nat → List Int) : Prop where
  blk : w'.heap[o]? = some (.cells (Oc n E R L) 26 (0, 0))
  old : ∀ j, j < k → E j = pick3 (ex x j) y.e0 y.e1 y.e2 ∧ L j = jnL x y j ∧ Fin w' w'.heap.size (R j) (L j)
  new : ∀ j, k ≤ j → E j = 0 ∧ R j = (none, 0) ∧ L j = []
theorem results_cell {fn : Func} {p : Tmp} {ty : TypeId} (h : fn.results = #[.cell p ty]) (tmps : Array Value) (P : Program) (w : World) :
    (results fn tmps).run P w = ((asAddr (tmps.getD p undef)).run P w).andThen fun a w₁ => (loadVar ty a).run P w₁ := by
  simp only [results, h]
  simp [Sem.run_bind, Result.andThen]
theorem joinC (x y : Smm) (w : World) {A0 c0 A1 c1 A2 c2 B0 d0 B1 d1 B2 d2} (hx : RdS w A0 c0 A1 c1 A2 c2 x) (hy : RdS w B0 d0 B1 d1 B2 d2 y) (bn : 0 ≤ x.n ∧ x.n ≤ 1048576 ∧ 0 ≤ y.n ∧ x.n + y.n ≤ 1048576)
    (be : ∀ k, k < 3 → 0 ≤ ex x k ∧ ex x k ≤ 2) (bl : ∀ k, k < 3 → (ln x k).length ≤ 1048576 ∧ (ln y k).length ≤ 1048576) (bz : ∀ k, k < 3 → ∀ z ∈ ln y k, 0 ≤ z ∧ z ≤ 1048576) :
    Calls Tryd.prog 47 #[.agg #[.int .i64 x.n, .int .i64 x.e0, .int .i64 x.e1, .int .i64 x.e2, .slice A0 x.l0.length c0, .slice A1 x.l1.length c1, .slice A2 x.l2.length c2], .agg #[.int .i64 y.n, .int .i64 y.e0, .int .i64 y.e1, .int .i64 y.e2, .slice B0 y.l0.length d0, .slice B1 y.l1.length d1, .slice B2 y.l2.length d2]] w fun e w' => ∃ E0 f0 E1 f1 E2 f2, e = .returned (.agg #[.int .i64 (jn x y).n, .int .i64 (jn x y).e0, .int .i64 (jn x y).e1, .int .i64 (jn x y).e2, .slice E0 (jn x y).l0.length f0, .slice E1 (jn x y).l1.length f1, .slice E2 (jn x y).l2.length f2]) ∧ RdS w' E0 f0 E1 f1 E2 f2 (jn x y) ∧ Ty w' E0 E1 E2 (jn x y) ∧ Below w.heap.size w w' := by
  have hw1 : wrap64 (x.n + y.n) = x.n + y.n := by unfold wrap64; omega
  have hw2 : IntKind.i64.wrap (x.n + y.n) = x.n + y.n := by rw [i64_w]; unfold Go.RowKit.wrap64; omega
  have HA0 := Aside0.mk (Bo.new hx)
  have hq1 := (Below.refl w.heap.size w).alloc (Nat.le_refl _) (.cells #[.int .i64 x.n, .int .i64 x.e0, .int .i64 x.e1, .int .i64 x.e2, .slice A0 x.l0.length c0, .slice A1 x.l1.length c1, .slice A2 x.l2.length c2] 26)
  have HB0 := Aside0.mk (Bo.new (hy.below hq1))
  have HRx := Aside0.mk hx
  have HRy := Aside0.mk hy
  have HP := Aside0.mk (And.intro bn (And.intro be (And.intro bl bz)))
  clear hx hy hq1 bn be bl bz
  go_enter Tryd.func47, Tryd.ntmps47
  go_wp2
  obtain ⟨W1, hW1⟩ : ∃ W1, (((w.alloc (.cells #[.int .i64 x.n, .int .i64 x.e0, .int .i64 x.e1, .int .i64 x.e2, .slice A0 x.l0.length c0, .slice A1 x.l1.length c1, .slice A2 x.l2.length c2] 26)).alloc (.cells #[.int .i64 y.n, .int .i64 y.e0, .int .i64 y.e1, .int .i64 y.e2, .slice B0 y.l0.length d0, .slice B1 y.l1.length d1, .slice B2 y.l2.length d2] 26)).alloc (.cells #[.int .i64 0, .int .i64 0, .int .i64 0, .int .i64 0, .slice none 0 0, .slice none 0 0, .slice none 0 0] 26)).alloc (.cells #[.int .i64 (x.n + y.n), .int .i64 0, .int .i64 0, .int .i64 0, .slice none 0 0, .slice none 0 0, .slice none 0 0] 26) = W1 := ⟨_, rfl⟩
  have s1 : (w.alloc (.cells #[.int .i64 x.n, .int .i64 x.e0, .int .i64 x.e1, .int .i64 x.e2, .slice A0 x.l0.length c0, .slice A1 x.l1.length c1, .slice A2 x.l2.length c2] 26)).heap.size = w.heap.size + 1 := by simp
  have s2 : ((w.alloc (.cells #[.int .i64 x.n, .int .i64 x.e0, .int .i64 x.e1, .int .i64 x.e2, .slice A0 x.l0.length c0, .slice A1 x.l1.length c1, .slice A2 x.l2.length c2] 26)).alloc (.cells #[.int .i64 y.n, .int .i64 y.e0, .int .i64 y.e1, .int .i64 y.e2, .slice B0 y.l0.length d0, .slice B1 y.l1.length d1, .slice B2 y.l2.length d2] 26)).heap.size = w.heap.size + 1 + 1 := by simp
  have s3 : (((w.alloc (.cells #[.int .i64 x.n, .int .i64 x.e0, .int .i64 x.e1, .int .i64 x.e2, .slice A0 x.l0.length c0, .slice A1 x.l1.length c1, .slice A2 x.l2.length c2] 26)).alloc (.cells #[.int .i64 y.n, .int .i64 y.e0, .int .i64 y.e1, .int .i64 y.e2, .slice B0 y.l0.length d0, .slice B1 y.l1.length d1, .slice B2 y.l2.length d2] 26)).alloc (.cells #[.int .i64 0, .int .i64 0, .int .i64 0, .int .i64 0, .slice none 0 0, .slice none 0 0, .slice none 0 0] 26)).heap.size = w.heap.size + 1 + 1 + 1 := by simp
  have b2 := (Below.refl _ _).alloc (Nat.le_refl ((w.alloc (.cells #[.int .i64 x.n, .int .i64 x.e0, .int .i64 x.e1, .int .i64 x.e2, .slice A0 x.l0.length c0, .slice A1 x.l1.length c1, .slice A2 x.l2.length c2] 26)).alloc (.cells #[.int .i64 y.n, .int .i64 y.e0, .int .i64 y.e1, .int .i64 y.e2, .slice B0 y.l0.length d0, .slice B1 y.l1.length d1, .slice B2 y.l2.length d2] 26)).heap.size) (.cells #[.int .i64 0, .int .i64 0, .int .i64 0, .int .i64 0, .slice none 0 0, .slice none 0 0, .slice none 0 0] 26)
  have b3 := b2.alloc (by simp) (.cells #[.int .i64 (x.n + y.n), .int .i64 0, .int .i64 0, .int .i64 0, .slice none 0 0, .slice none 0 0, .slice none 0 0] 26)
  have HB : Aside0 (Bo W1 (w.heap.size + 1) B0 d0 B1 d1 B2 d2 y) := ⟨by have h := HB0.out.below b3; rw [s1] at h; rw [← hW1]; exact h⟩
  have HA : Aside0 (Bo W1 w.heap.size A0 c0 A1 c1 A2 c2 x) := ⟨by have h := (HA0.out.below ((Below.refl _ _).alloc (Nat.le_refl _) (.cells #[.int .i64 y.n, .int .i64 y.e0, .int .i64 y.e1, .int .i64 y.e2, .slice B0 y.l0.length d0, .slice B1 y.l1.length d1, .slice B2 y.l2.length d2] 26))).below b3; rw [← hW1]; exact h⟩
  have HZ : Aside0 (W1.heap[w.heap.size + 1 + 1]? = some (.cells Z7 26 (0, 0))) := ⟨by
    have h := heap_alloc_new ((w.alloc (.cells #[.int .i64 x.n, .int .i64 x.e0, .int .i64 x.e1, .int .i64 x.e2, .slice A0 x.l0.length c0, .slice A1 x.l1.length c1, .slice A2 x.l2.length c2] 26)).alloc (.cells #[.int .i64 y.n, .int .i64 y.e0, .int .i64 y.e1, .int .i64 y.e2, .slice B0 y.l0.length d0, .slice B1 y.l1.length d1, .slice B2 y.l2.length d2] 26)) (.cells #[.int .i64 0, .int .i64 0, .int .i64 0, .int .i64 0, .slice none 0 0, .slice none 0 0, .slice none 0 0] 26)
    rw [s2] at h
    rw [← hW1]
    exact (Below.heap_alloc _ _ _ (Array.getElem?_eq_some_iff.1 h).1).trans h⟩
  have HJ : Aside0 (Js w W1 (w.heap.size + 1 + 1 + 1) 0 (x.n + y.n) x y (fun _ => 0) (fun _ => (none, 0)) (fun _ => [])) := ⟨by
    refine ⟨?_, fun j hj => by omega, fun j _ => ⟨rfl, rfl, rfl⟩⟩
    · have h := heap_alloc_new (((w.alloc (.cells #[.int .i64 x.n, .int .i64 x.e0, .int .i64 x.e1, .int .i64 x.e2, .slice A0 x.l0.length c0, .slice A1 x.l1.length c1, .slice A2 x.l2.length c2] 26)).alloc (.cells #[.int .i64 y.n, .int .i64 y.e0, .int .i64 y.e1, .int .i64 y.e2, .slice B0 y.l0.length d0, .slice B1 y.l1.length d1, .slice B2 y.l2.length d2] 26)).alloc (.cells #[.int .i64 0, .int .i64 0, .int .i64 0, .int .i64 0, .slice none 0 0, .slice none 0 0, .slice none 0 0] 26)) (.cells #[.int .i64 (x.n + y.n), .int .i64 0, .int .i64 0, .int .i64 0, .slice none 0 0, .slice none 0 0, .slice none 0 0] 26)
      rw [s3] at h
      rw [← hW1]
      exact h⟩
  have HS : Aside0 (Sd w W1 (w.heap.size + 1 + 1 + 1) #[.int .i64 x.n, .int .i64 x.e0, .int .i64 x.e1, .int .i64 x.e2, .slice A0 x.l0.length c0, .slice A1 x.l1.length c1, .slice A2 x.l2.length c2] #[.int .i64 y.n, .int .i64 y.e0, .int .i64 y.e1, .int .i64 y.e2, .slice B0 y.l0.length d0, .slice B1 y.l1.length d1, .slice B2 y.l2.length d2]) := ⟨⟨HA.out.blk, HB.out.blk, HZ.out, by
    rw [← hW1]
    exact ((((Below.refl w.heap.size w).alloc (Nat.le_refl _) _).alloc (by simp) _).alloc (by simp; omega) _).alloc (by simp; omega) _⟩⟩
  rw [hW1]
  clear hW1 s1 s2 s3 b2 b3 HA0 HB0 hw1 hw2 HA HB HZ
  obtain ⟨o, ho⟩ : ∃ o, w.heap.size + 1 + 1 + 1 = o := ⟨_, rfl⟩
  rw [ho] at HJ HS
  rw [ho]
  have HO := Aside0.mk ho
  clear ho
  go_loopg [6] 3 (fun kq v6 w' => ∃ (k : Nat) (E : Nat → Int) (R : Nat → Option Addr × Nat) (L : Nat → List Int), kq + k = 3 ∧ v6 = .int .i64 (k : Int) ∧ Aside0 (Js w w' o k (x.n + y.n) x y E R L) ∧ Aside0 (Sd w w' o #[.int .i64 x.n, .int .i64 x.e0, .int .i64 x.e1, .int .i64 x.e2, .slice A0 x.l0.length c0, .slice A1 x.l1.length c1, .slice A2 x.l2.length c2] #[.int .i64 y.n, .int .i64 y.e0, .int .i64 y.e1, .int .i64 y.e2, .slice B0 y.l0.length d0, .slice B1 y.l1.length d1, .slice B2 y.l2.length d2]))
  case atStart => exact ⟨0, _, _, _, by omega, rfl, HJ, HS⟩
  case round =>
    clear HJ HS
    obtain ⟨k, E, R, L, hk, rfl, HJ, HS⟩ := hrel
    by_cases c : k < 3
    · have cc0 : decide ((k : Int) < 3) = true := decide_eq_true (by omega)
      obtain ⟨j1, rfl⟩ : ∃ j1, gk = j1 + 1 := ⟨gk - 1, by omega⟩
      have p1 : (0 ≤ (k : Int)) = True := eq_true (by omega)
      have p2 : ((k : Int) < 3) = True := eq_true (by omega)
      have HBx : Aside0 (Bo wr w.heap.size A0 c0 A1 c1 A2 c2 x) := ⟨⟨HS.out.a, HRx.out.below HS.out.bel⟩⟩
      have HBy : Aside0 (Bo wr (w.heap.size + 1) B0 d0 B1 d1 B2 d2 y) := ⟨⟨HS.out.b, HRy.out.below HS.out.bel⟩⟩
      obtain ⟨cE, cL⟩ := HBx.out.atl k c
      have hex := HP.out.2.1 k c
      obtain ⟨m, hm⟩ : ∃ m : Nat, ex x k = (m : Int) := ⟨(ex x k).toNat, by omega⟩
      have hm3 : m < 3 := by omega
      obtain ⟨dE, dL⟩ := HBy.out.atl m hm3
      obtain ⟨hck, hCk⟩ := HRx.out.ats k c
      obtain ⟨hcm, hCm⟩ := HRy.out.ats m hm3
      obtain ⟨Ak, hAk⟩ : ∃ A, pk A0 A1 A2 k = A := ⟨_, rfl⟩
      obtain ⟨ck, hckk⟩ : ∃ c, pk c0 c1 c2 k = c := ⟨_, rfl⟩
      obtain ⟨Am, hAm⟩ : ∃ A, pk B0 B1 B2 m = A := ⟨_, rfl⟩
      obtain ⟨cm, hcmm⟩ : ∃ c, pk d0 d1 d2 m = c := ⟨_, rfl⟩
      rw [hAk, hckk] at cL
      rw [hAm, hcmm] at dL
      rw [hAk] at hCk
      rw [hckk] at hck
      rw [hAm] at hCm
      rw [hcmm] at hcm
      rw [hm] at cE
      have q1 : (0 ≤ (m : Int)) = True := eq_true (by omega)
      have q2 : ((m : Int) < 3) = True := eq_true (by omega)
      have oE := Oc.atE HJ.out.blk k c
      have oF := Oc.fz HJ.out.blk
      have HK := Aside0.mk (And.intro c (And.intro hm hm3))
      have HRk := Aside0.mk (And.intro hck hCk)
      have HRm := Aside0.mk (And.intro hcm hCm)
      have HcL := Aside0.mk cL
      have HAk := Aside0.mk (And.intro (And.intro hAk hckk) (And.intro hAm hcmm))
      clear hex hm hck hCk hcm hCm hAk hckk hAm hcmm HBx HBy cL dL
      go_upto_region 7 with fail
      obtain ⟨W6, hW6⟩ : ∃ W6, wr.setCell ⟨o, 1 + k, none⟩ (.int .i64 (ex y m)) = W6 := ⟨_, rfl⟩
      have Hb6 : Aside0 (W6.heap[o]? = some (.cells (Oc (x.n + y.n) (upd E k (ex y m)) R L) 26 (0, 0))) := ⟨by rw [← hW6, heap_setCell_same _ _ _ _ _ _ HJ.out.blk, Oc.setE _ _ _ _ k HK.out.1]⟩
      have HS6 : Aside0 (Sd w W6 o #[.int .i64 x.n, .int .i64 x.e0, .int .i64 x.e1, .int .i64 x.e2, .slice A0 x.l0.length c0, .slice A1 x.l1.length c1, .slice A2 x.l2.length c2] #[.int .i64 y.n, .int .i64 y.e0, .int .i64 y.e1, .int .i64 y.e2, .slice B0 y.l0.length d0, .slice B1 y.l1.length d1, .slice B2 y.l2.length d2]) := ⟨HS.out.ke HO.out (by rw [← hW6]; exact Ke.cell _ _ _ _) (by rw [← hW6]; exact HS.out.bel.setCell (p := ⟨o, 1 + k, none⟩) (by have := HO.out; show w.heap.size ≤ o; omega) _)⟩
      have hsz : W6.heap.size = wr.heap.size := by rw [← hW6]; simp
      have HF6 : Aside0 (∀ j, j < k → Fin W6 W6.heap.size (R j) (L j)) := ⟨fun j hj => by rw [hsz, ← hW6]; exact fin_cell HJ.out.blk (HJ.out.old j hj).2.2⟩
      have HJo := Aside0.mk (fun j (hj : j < k) => (And.intro (HJ.out.old j hj).1 (HJ.out.old j hj).2.1))
      have HJn := Aside0.mk HJ.out.new
      have HoB : Aside0 (o < W6.heap.size) := ⟨(Array.getElem?_eq_some_iff.1 Hb6.out).1⟩
      rw [hW6]
      clear hW6 hsz HJ HS cE dE oE oF HcL
      obtain ⟨cE, cL⟩ := (Bo.mk HS6.out.a (HRx.out.below HS6.out.bel)).atl k HK.out.1
      rw [HAk.out.1.1, HAk.out.1.2] at cL
      have y0 := (World.cell?_of_block (w := W6) (a := ⟨w.heap.size, 4 + k, none⟩) (Below.heap_alloc W6 (.cells #[] 3) _ (Array.getElem?_eq_some_iff.1 HS6.out.a).1)).trans cL
      clear cE cL
      go_upto_block 2 with (at_builtin; refine rowI (w0 := W6) rfl W6.heap.size (.tmp 31) (.tmp 35) rfl (.slice (some ⟨W6.heap.size, 0, none⟩) 0 0) [] (ln x k) Ak (ln x k).length ck rfl rfl (own_new (Nat.le_refl _)) (Kd.C_below HRk.out.2 (HS6.out.bel.alloc (by have := HS6.out.bel.size; omega) _)) ((Below.refl _ _).alloc (Nat.le_refl _) _) (by simp) (by have := (HP.out.2.2.1 k HK.out.1).1; simp; omega) ?_; intro v1 w1 ho hb hg hat; rw [List.nil_append] at ho; obtain ⟨AN, cN, e1⟩ := Kd.R_slice ho; subst e1; have HOw := Aside0.mk ho; have HbW := Aside0.mk hb; have hk1 := (hb.block o (Array.getElem?_eq_some_iff.1 Hb6.out).1).trans Hb6.out; have oE := Oc.atL hk1 k HK.out.1; have oF := Oc.fz hk1; have Hb1 := Aside0.mk hk1; clear ho hb hg hat hk1 y0)
      obtain ⟨W7, hW7⟩ : ∃ W7, w1.setCell ⟨o, 4 + k, none⟩ (.slice AN (ln x k).length cN) = W7 := ⟨_, rfl⟩
      have HI : Aside0 (Ji w W7 o W6.heap.size k (x.n + y.n) (upd E k (ex y m)) R L #[.int .i64 x.n, .int .i64 x.e0, .int .i64 x.e1, .int .i64 x.e2, .slice A0 x.l0.length c0, .slice A1 x.l1.length c1, .slice A2 x.l2.length c2] #[.int .i64 y.n, .int .i64 y.e0, .int .i64 y.e1, .int .i64 y.e2, .slice B0 y.l0.length d0, .slice B1 y.l1.length d1, .slice B2 y.l2.length d2] AN cN (ln x k ++ ((ln y m).take 0).map (fun z => x.n + z))) := ⟨by
        rw [List.take_zero, List.map_nil, List.append_nil]
        refine ⟨by rw [← hW7, heap_setCell_same _ _ _ _ _ _ Hb1.out, Oc.setL _ _ _ _ k HK.out.1 AN _ cN (ln x k) rfl], by rw [← hW7]; exact own_cell Hb1.out HOw.out, fun j hj => by rw [← hW7]; exact fin_cell Hb1.out (fin_below (HF6.out j hj) HbW.out), ?_, by rw [← hW7]; simpa using HbW.out.size⟩
        refine HS6.out.ke HO.out (by rw [← hW7]; exact (Ke.below HbW.out).trans (Ke.cell _ _ _ _)) ?_
        rw [← hW7]
        exact (HS6.out.bel.trans (HbW.out.mono HS6.out.bel.size)).setCell (p := ⟨o, 4 + k, none⟩) (by have := HO.out; show w.heap.size ≤ o; omega) _⟩
      rw [hW7]
      clear hW7 HOw HbW Hb1 oE oF Hb6 HS6 HF6
      go_wp2_with fail
      go_loopg [8] (ln y m).length (fun kq v8 w' => ∃ (i : Nat) (A : Option Addr) (c : Nat), kq + i = (ln y m).length ∧ v8 = .int .i64 (i : Int) ∧ Aside0 (Ji w w' o W6.heap.size k (x.n + y.n) (upd E k (ex y m)) R L #[.int .i64 x.n, .int .i64 x.e0, .int .i64 x.e1, .int .i64 x.e2, .slice A0 x.l0.length c0, .slice A1 x.l1.length c1, .slice A2 x.l2.length c2] #[.int .i64 y.n, .int .i64 y.e0, .int .i64 y.e1, .int .i64 y.e2, .slice B0 y.l0.length d0, .slice B1 y.l1.length d1, .slice B2 y.l2.length d2] A c (ln x k ++ ((ln y m).take i).map (fun z => x.n + z))))
      case atStart => exact ⟨0, AN, cN, by omega, rfl, HI⟩
      case round =>
        clear HI
        obtain ⟨i, A, c, hi, rfl, HI⟩ := hrel
        have HBy : Aside0 (Bo wr (w.heap.size + 1) B0 d0 B1 d1 B2 d2 y) := ⟨⟨HI.out.sd.b, HRy.out.below HI.out.sd.bel⟩⟩
        obtain ⟨dE, dL⟩ := HBy.out.atl m HK.out.2.2
        rw [HAk.out.2.1, HAk.out.2.2] at dL
        clear HBy dE
        obtain ⟨LM, hLM⟩ : ∃ n : Nat, (ln y m).length = n := ⟨_, rfl⟩
        rw [hLM] at dL hi
        have HLM := Aside0.mk hLM
        clear hLM
        by_cases ci : i < LM
        · have cc1 : decide ((i : Int) < (LM : Int)) = true := decide_eq_true (by omega)
          obtain ⟨j2, rfl⟩ : ∃ j2, gk = j2 + 1 := ⟨gk - 1, by omega⟩
          obtain ⟨lk, hlk⟩ : ∃ lk, ln x k ++ ((ln y m).take i).map (fun z => x.n + z) = lk := ⟨_, rfl⟩
          rw [hlk] at HI
          have hmem : i < (ln y m).length := by have := HLM.out; omega
          obtain ⟨ad, e1, hx⟩ := Kd.at_int (Kd.C_below HRm.out.2 HI.out.sd.bel) (i : Int) (by omega) (by omega)
          cases e1
          obtain ⟨z, hz⟩ : ∃ z, rd (ln y m) (i : Int) = z := ⟨_, rfl⟩
          have hzg : (ln y m)[i]? = some z := by rw [← hz]; unfold rd; simp; rw [List.getElem?_eq_getElem hmem]; rfl
          have hzb := HP.out.2.2.2 m HK.out.2.2 z (List.mem_of_getElem? hzg)
          have hzx := HP.out.1
          have HX1 := Aside0.mk (fun W (hb : Below w.heap.size w W) => (by have h := (Kd.at_int (Kd.C_below HRm.out.2 hb) (i : Int) (by omega) (by omega)); obtain ⟨ad2, e2, h2⟩ := h; cases e2; rw [hz] at h2; simpa using h2 : W.cell? (ad.add i) = some (.int .i64 z)))
          have hwz : IntKind.i64.wrap (x.n + z) = x.n + z := by rw [i64_w]; unfold Go.RowKit.wrap64; omega
          have hvz : Go.RowKit.wrap64 (x.n + z) = x.n + z := by unfold Go.RowKit.wrap64; omega
          have g1 : (0 ≤ (i : Int)) = True := eq_true (by omega)
          have g2 : ((i : Int) < (LM : Int)) = True := eq_true (by omega)
          have HLL : Aside0 (lk.length ≤ 4000000) := ⟨by
            rw [← hlk]
            have h1 := HP.out.2.2.1 k HK.out.1
            have h2 := HP.out.2.2.1 m HK.out.2.2
            rw [List.length_append, List.length_map, List.length_take]
            omega⟩
          have HSS := Aside0.mk (fun W (h1 : W.heap[o]? = wr.heap[o]?) (h2 : W.heap[w.heap.size]? = wr.heap[w.heap.size]?) (h3 : W.heap[w.heap.size + 1]? = wr.heap[w.heap.size + 1]?) (h4 : Below w.heap.size w W) => (by
            have b := h1.trans HI.out.blk
            have oL := Oc.atL b k HK.out.1
            rw [upd_eq, upd_eq] at oL
            have hx0 := (Bo.mk (h2.trans HI.out.sd.a) (HRx.out.below h4)).cells
            have hy0 := (Bo.mk (h3.trans HI.out.sd.b) (HRy.out.below h4)).atl m HK.out.2.2
            rw [HAk.out.2.1, HAk.out.2.2, HLM.out] at hy0
            exact ⟨oL, Oc.fz b _, hx0.1, hy0.2, HX1.out W h4⟩ : W.cell? ⟨o, 4 + k, none⟩ = some (.slice A lk.length c) ∧ W.frozen? ⟨o, 4 + k, none⟩ = false ∧ W.cell? ⟨w.heap.size, 0, none⟩ = some (.int .i64 x.n) ∧ W.cell? ⟨w.heap.size + 1, 4 + m, none⟩ = some (.slice (some ad) LM cm) ∧ W.cell? (ad.add i) = some (.int .i64 z)))
          have ho3 := HO.out
          have hoB := HoB.out
          have HS5 := Aside0.mk (fun W (hb : Below wr.heap.size wr W) => HSS.out W (hb.block _ (Array.getElem?_eq_some_iff.1 HI.out.blk).1) (hb.block _ (Array.getElem?_eq_some_iff.1 HI.out.sd.a).1) (hb.block _ (Array.getElem?_eq_some_iff.1 HI.out.sd.b).1) (below_step HI.out.sd.bel hb))
          have HS6 := Aside0.mk (fun W (hb : Below W6.heap.size wr.drew W) => HSS.out W (hb.block _ hoB) (hb.block _ (by omega)) (hb.block _ (by omega)) (HI.out.sd.bel.trans (Below.trans ((Below.refl w.heap.size wr).drew) (hb.mono (by omega)))))
          have HW := Aside0.mk (Below.refl wr.heap.size wr).drew
          have HZG := Aside0.mk hzg
          have HLK := Aside0.mk hlk
          clear hlk hmem hx hz hzg hzb hzx ho3 hoB
          go_upto_region 11 with fail
          refine Go.Proofs.YtkhnifehcnlpjaaDoorW.PrintLast.start_ (n := 20) (S := fun w' => w'.cell? ⟨o, 4 + k, none⟩ = some (.slice A lk.length c) ∧ w'.frozen? ⟨o, 4 + k, none⟩ = false ∧ w'.cell? ⟨w.heap.size, 0, none⟩ = some (.int .i64 x.n) ∧ w'.cell? ⟨w.heap.size + 1, 4 + m, none⟩ = some (.slice (some ad) LM cm) ∧ w'.cell? (ad.add i) = some (.int .i64 z)) (ds := [19]) #[false, false, false, false, false, false, false, false, false, false, false, false, false, false, false, false, false, false, false, false] (by kernel_rfl) rfl (by rfl) (HS5.out _ HW.out) (fun hS => ?_)
          refine Go.Proofs.YtkhnifehcnlpjaaDoorW.PrintLast.take_ (i := 0) (N := some 48) (v := (.int .i64 (k : Int))) #[true, false, false, false, false, false, false, false, false, false, false, false, false, false, false, false, false, false, false, false] rfl rfl (by kernel_rfl) (fun _ _ _ h => h) (Or.inl ⟨by rfl, by intro w hSw; (try dsimp only at hSw); go_simp⟩) hS rfl ?_
          try simp only [Act.put, List.setIfInBounds_toArray, List.set_cons_zero, List.set_cons_succ]
          refine Go.Proofs.YtkhnifehcnlpjaaDoorW.PrintLast.take_ (i := 1) (N := some 49) (v := (.int .i64 (k : Int))) #[true, true, false, false, false, false, false, false, false, false, false, false, false, false, false, false, false, false, false, false] rfl rfl (by kernel_rfl) (fun _ _ _ h => h) (Or.inl ⟨by rfl, by intro w hSw; (try dsimp only at hSw); go_simp⟩) hS rfl ?_
          try simp only [Act.put, List.setIfInBounds_toArray, List.set_cons_zero, List.set_cons_succ]
          refine Go.Proofs.YtkhnifehcnlpjaaDoorW.PrintLast.take_ (i := 2) (N := some 50) (v := (.pointer (some ⟨o, 4, none⟩))) #[true, true, true, false, false, false, false, false, false, false, false, false, false, false, false, false, false, false, false, false] rfl rfl (by kernel_rfl) (fun _ _ _ h => h) (Or.inl ⟨by rfl, by intro w hSw; (try dsimp only at hSw); go_simp⟩) hS rfl ?_
          try simp only [Act.put, List.setIfInBounds_toArray, List.set_cons_zero, List.set_cons_succ]
          refine Go.Proofs.YtkhnifehcnlpjaaDoorW.PrintLast.take_ (i := 3) (N := some 51) (v := (.pointer (some ⟨o, 4 + k, none⟩))) #[true, true, true, true, false, false, false, false, false, false, false, false, false, false, false, false, false, false, false, false] rfl rfl (by kernel_rfl) (fun _ _ _ h => h) (Or.inl ⟨by rfl, by intro w hSw; (try dsimp only at hSw); go_simp⟩) hS rfl ?_
          try simp only [Act.put, List.setIfInBounds_toArray, List.set_cons_zero, List.set_cons_succ]
          refine Go.Proofs.YtkhnifehcnlpjaaDoorW.PrintLast.take_ (i := 4) (N := some 52) (v := (.slice A lk.length c)) #[true, true, true, true, true, false, false, false, false, false, false, false, false, false, false, false, false, false, false, false] rfl rfl (by kernel_rfl) (fun _ _ _ h => h) (Or.inl ⟨by rfl, by intro w hSw; (try dsimp only at hSw); go_simp⟩) hS rfl ?_
          try simp only [Act.put, List.setIfInBounds_toArray, List.set_cons_zero, List.set_cons_succ]
          refine Go.Proofs.YtkhnifehcnlpjaaDoorW.PrintLast.take_ (i := 5) (N := some 53) (v := (.pointer (some ⟨w.heap.size, 0, none⟩))) #[true, true, true, true, true, true, false, false, false, false, false, false, false, false, false, false, false, false, false, false] rfl rfl (by kernel_rfl) (fun _ _ _ h => h) (Or.inl ⟨by rfl, by intro w hSw; (try dsimp only at hSw); go_simp⟩) hS rfl ?_
          try simp only [Act.put, List.setIfInBounds_toArray, List.set_cons_zero, List.set_cons_succ]
          refine Go.Proofs.YtkhnifehcnlpjaaDoorW.PrintLast.take_ (i := 6) (N := some 54) (v := (.int .i64 x.n)) #[true, true, true, true, true, true, true, false, false, false, false, false, false, false, false, false, false, false, false, false] rfl rfl (by kernel_rfl) (fun _ _ _ h => h) (Or.inl ⟨by rfl, by intro w hSw; (try dsimp only at hSw); go_simp⟩) hS rfl ?_
          try simp only [Act.put, List.setIfInBounds_toArray, List.set_cons_zero, List.set_cons_succ]
          refine Go.Proofs.YtkhnifehcnlpjaaDoorW.PrintLast.take_ (i := 7) (N := some 55) (v := (.int .i64 (m : Int))) #[true, true, true, true, true, true, true, true, false, false, false, false, false, false, false, false, false, false, false, false] rfl rfl (by kernel_rfl) (fun _ _ _ h => h) (Or.inl ⟨by rfl, by intro w hSw; (try dsimp only at hSw); go_simp⟩) hS rfl ?_
          try simp only [Act.put, List.setIfInBounds_toArray, List.set_cons_zero, List.set_cons_succ]
          refine Go.Proofs.YtkhnifehcnlpjaaDoorW.PrintLast.take_ (i := 8) (N := some 56) (v := (.pointer (some ⟨w.heap.size + 1, 4, none⟩))) #[true, true, true, true, true, true, true, true, true, false, false, false, false, false, false, false, false, false, false, false] rfl rfl (by kernel_rfl) (fun _ _ _ h => h) (Or.inl ⟨by rfl, by intro w hSw; (try dsimp only at hSw); go_simp⟩) hS rfl ?_
          try simp only [Act.put, List.setIfInBounds_toArray, List.set_cons_zero, List.set_cons_succ]
          refine Go.Proofs.YtkhnifehcnlpjaaDoorW.PrintLast.take_ (i := 9) (N := some 57) (v := (.pointer (some ⟨w.heap.size + 1, 4 + m, none⟩))) #[true, true, true, true, true, true, true, true, true, true, false, false, false, false, false, false, false, false, false, false] rfl rfl (by kernel_rfl) (fun _ _ _ h => h) (Or.inl ⟨by rfl, by intro w hSw; (try dsimp only at hSw); go_simp⟩) hS rfl ?_
          try simp only [Act.put, List.setIfInBounds_toArray, List.set_cons_zero, List.set_cons_succ]
          refine Go.Proofs.YtkhnifehcnlpjaaDoorW.PrintLast.take_ (i := 10) (N := some 58) (v := (.slice (some ad) LM cm)) #[true, true, true, true, true, true, true, true, true, true, true, false, false, false, false, false, false, false, false, false] rfl rfl (by kernel_rfl) (fun _ _ _ h => h) (Or.inl ⟨by rfl, by intro w hSw; (try dsimp only at hSw); go_simp⟩) hS rfl ?_
          try simp only [Act.put, List.setIfInBounds_toArray, List.set_cons_zero, List.set_cons_succ]
          refine Go.Proofs.YtkhnifehcnlpjaaDoorW.PrintLast.take_ (i := 11) (N := some 59) (v := (.int .i64 (i : Int))) #[true, true, true, true, true, true, true, true, true, true, true, true, false, false, false, false, false, false, false, false] rfl rfl (by kernel_rfl) (fun _ _ _ h => h) (Or.inl ⟨by rfl, by intro w hSw; (try dsimp only at hSw); go_simp⟩) hS rfl ?_
          try simp only [Act.put, List.setIfInBounds_toArray, List.set_cons_zero, List.set_cons_succ]
          refine Go.Proofs.YtkhnifehcnlpjaaDoorW.PrintLast.take_ (i := 12) (N := some 60) (v := (.pointer (some (ad.add i)))) #[true, true, true, true, true, true, true, true, true, true, true, true, true, false, false, false, false, false, false, false] rfl rfl (by kernel_rfl) (fun _ _ _ h => h) (Or.inl ⟨by rfl, by intro w hSw; (try dsimp only at hSw); go_simp⟩) hS rfl ?_
          try simp only [Act.put, List.setIfInBounds_toArray, List.set_cons_zero, List.set_cons_succ]
          refine Go.Proofs.YtkhnifehcnlpjaaDoorW.PrintLast.take_ (i := 13) (N := some 61) (v := (.int .i64 z)) #[true, true, true, true, true, true, true, true, true, true, true, true, true, true, false, false, false, false, false, false] rfl rfl (by kernel_rfl) (fun _ _ _ h => h) (Or.inl ⟨by rfl, by intro w hSw; (try dsimp only at hSw); go_simp⟩) hS rfl ?_
          try simp only [Act.put, List.setIfInBounds_toArray, List.set_cons_zero, List.set_cons_succ]
          refine Go.Proofs.YtkhnifehcnlpjaaDoorW.PrintLast.take_ (i := 14) (N := some 62) (v := (.int .i64 (x.n + z))) #[true, true, true, true, true, true, true, true, true, true, true, true, true, true, true, false, false, false, false, false] rfl rfl (by kernel_rfl) (fun _ _ _ h => h) (Or.inl ⟨by rfl, by intro w hSw; (try dsimp only at hSw); go_simp⟩) hS rfl ?_
          try simp only [Act.put, List.setIfInBounds_toArray, List.set_cons_zero, List.set_cons_succ]
          refine Go.Proofs.YtkhnifehcnlpjaaDoorW.PrintLast.take_ (i := 17) (N := some 65) (v := (.pointer (some ⟨o, 4, none⟩))) #[true, true, true, true, true, true, true, true, true, true, true, true, true, true, true, false, false, true, false, false] rfl rfl (by kernel_rfl) (fun _ _ _ h => h) (Or.inl ⟨by rfl, by intro w hSw; (try dsimp only at hSw); go_simp⟩) hS rfl ?_
          try simp only [Act.put, List.setIfInBounds_toArray, List.set_cons_zero, List.set_cons_succ]
          refine Go.Proofs.YtkhnifehcnlpjaaDoorW.PrintLast.one_ (i := 15) (N := some 63) #[true, true, true, true, true, true, true, true, true, true, true, true, true, true, true, true, false, true, false, false] rfl rfl (by kernel_rfl) (by decide) ?_
          intro K hK
          go_simp
          refine hK.out _ _ (HS5.out _ (HW.out.alloc (below_size HW.out) _)) (fun hS => ?_)
          clear hK K
          try simp only [Act.put, List.setIfInBounds_toArray, List.set_cons_zero, List.set_cons_succ]
          refine Go.Proofs.YtkhnifehcnlpjaaDoorW.PrintLast.one_ (i := 16) (N := some 64) #[true, true, true, true, true, true, true, true, true, true, true, true, true, true, true, true, true, true, false, false] rfl rfl (by kernel_rfl) (by decide) ?_
          intro K hK
          refine stepI (w0 := wr.drew) rfl W6.heap.size (.tmp 52) (.tmp 63) rfl (.slice A lk.length c) lk (x.n + z) rfl rfl (Kd.R_drew HI.out.own) (Below.refl _ _) HI.out.sz (by have := HLL.out; omega) ?_; intro v1 w1 ho hb hg; obtain ⟨AN2, cN2, e1⟩ := Kd.R_slice ho; obtain ⟨n2, hn2⟩ : ∃ n2, (lk ++ [x.n + z]).length = n2 := ⟨_, rfl⟩; rw [hn2] at e1; have HN2 := Aside0.mk hn2; clear hn2; subst e1; have HO2 := Aside0.mk ho; have Hb2 := Aside0.mk hb; clear ho hb hg
          have hS1 := HS6.out w1 Hb2.out
          refine hK.out _ _ hS1 (fun hS => ?_)
          clear hK K hS1
          try simp only [Act.put, List.setIfInBounds_toArray, List.set_cons_zero, List.set_cons_succ]
          refine Go.Proofs.YtkhnifehcnlpjaaDoorW.PrintLast.take_ (i := 18) (N := some 66) (v := (.pointer (some ⟨o, 4 + k, none⟩))) #[true, true, true, true, true, true, true, true, true, true, true, true, true, true, true, true, true, true, true, false] rfl rfl (by kernel_rfl) (fun _ _ _ h => h) (Or.inl ⟨by rfl, by intro w hSw; (try dsimp only at hSw); go_simp⟩) hS rfl ?_
          try simp only [Act.put, List.setIfInBounds_toArray, List.set_cons_zero, List.set_cons_succ]
          have hfz := hS.2.1
          have hcl := hS.1
          refine last_ (i := 19) (N := none) #[true, true, true, true, true, true, true, true, true, true, true, true, true, true, true, true, true, true, true, true] rfl rfl (by kernel_rfl) (by decide) ?_
          intro K hK
          go_simp
          refine hK.out _ _ ?_
          clear hK K
          refine done_ (by kernel_rfl) ?_
          have hb := Hb2.out
          have hoB := HoB.out
          have ho3 := HO.out
          have b1 : w1.heap[o]? = some (.cells (Oc (x.n + y.n) (upd E k (ex y m)) (upd R k (A, c)) (upd L k lk)) 26 (0, 0)) := (hb.block _ hoB).trans HI.out.blk
          have HI2 : Aside0 (Ji w (w1.setCell ⟨o, 4 + k, none⟩ (.slice AN2 n2 cN2)) o W6.heap.size k (x.n + y.n) (upd E k (ex y m)) R L #[.int .i64 x.n, .int .i64 x.e0, .int .i64 x.e1, .int .i64 x.e2, .slice A0 x.l0.length c0, .slice A1 x.l1.length c1, .slice A2 x.l2.length c2] #[.int .i64 y.n, .int .i64 y.e0, .int .i64 y.e1, .int .i64 y.e2, .slice B0 y.l0.length d0, .slice B1 y.l1.length d1, .slice B2 y.l2.length d2] AN2 cN2 (ln x k ++ ((ln y m).take (i + 1)).map (fun z => x.n + z))) := ⟨by
            rw [take_one HZG.out, List.map_append, ← List.append_assoc, HLK.out, List.map_singleton]
            refine ⟨by rw [heap_setCell_same _ _ _ _ _ _ b1, Oc.setL _ _ _ _ k HK.out.1 AN2 n2 cN2 _ HN2.out, upd_upd, upd_upd], by rw [HN2.out]; exact own_cell b1 HO2.out, fun j hj => fin_cell b1 ((HI.out.fin j hj).move (fun q cur hq _ => hb.block q hq)), ?_, by have := hb.size; have := HI.out.sz; simp; exact Nat.le_trans this hb.size⟩
            have e1 := hb.block w.heap.size (by omega)
            have e2 := hb.block (w.heap.size + 1) (by omega)
            have e3 := hb.block (w.heap.size + 1 + 1) (by omega)
            exact ⟨(Below.heap_setCell w1 ⟨o, 4 + k, none⟩ _ _ (by show w.heap.size ≠ o; omega)).trans (e1.trans HI.out.sd.a), (Below.heap_setCell w1 ⟨o, 4 + k, none⟩ _ _ (by show w.heap.size + 1 ≠ o; omega)).trans (e2.trans HI.out.sd.b), (Below.heap_setCell w1 ⟨o, 4 + k, none⟩ _ _ (by show w.heap.size + 1 + 1 ≠ o; omega)).trans (e3.trans HI.out.sd.z),
              (HI.out.sd.bel.trans (Below.trans ((Below.refl w.heap.size wr).drew) (hb.mono (by omega)))).setCell (p := ⟨o, 4 + k, none⟩) (by show w.heap.size ≤ o; omega) _⟩⟩
          clear b1 hb hoB ho3 hfz hcl
          go_wp2
          go_roundg j2
          case measure => omega
          case rel => exact ⟨i + 1, AN2, cN2, by have := HLM.out; omega, by first | rfl | (congr 1; have := (HP.out.2.2.1 m HK.out.2.2).2; have := HLM.out; unfold wrap64; omega), HI2⟩
        · obtain rfl : i = LM := by omega
          go_wp2
          go_roundg j1
          case measure => omega
          case rel =>
            have h := HI.out
            rw [← HLM.out, List.take_length] at h
            refine ⟨k + 1, upd E k (ex y m), upd R k (A, c), upd L k (ln x k ++ (ln y m).map (fun z => x.n + z)), by omega, by first | rfl | (congr 1; unfold wrap64; omega), ⟨⟨h.blk, fun j hj => ?_, fun j hj => ?_⟩⟩, ⟨h.sd⟩⟩
            · by_cases e : j = k
              · subst e
                rw [upd_eq, upd_eq, upd_eq, HK.out.2.1, pick_e y m HK.out.2.2]
                refine ⟨rfl, ?_, fin_own h.own (Nat.le_refl _)⟩
                unfold jnL
                rw [HK.out.2.1, pick_l y m HK.out.2.2]
              · rw [upd_ne _ _ _ _ e, upd_ne _ _ _ _ e, upd_ne _ _ _ _ e]
                exact ⟨(HJo.out j (by omega)).1, (HJo.out j (by omega)).2, (h.fin j (by omega)).up h.sz⟩
            · rw [upd_ne _ _ _ _ (by omega), upd_ne _ _ _ _ (by omega), upd_ne _ _ _ _ (by omega)]
              exact HJn.out j (by omega)
    · obtain rfl : k = 3 := by have := HJ.out; omega
      have h0 := HJ.out.old 0 (by omega)
      have h1 := HJ.out.old 1 (by omega)
      have h2 := HJ.out.old 2 (by omega)
      have hb := HJ.out.blk
      have oc := hb
      unfold Oc sv at oc
      have cc3 : decide ((3 : Int) < 3) = false := by decide
      obtain ⟨r0, r1, r2, r3, r4, r5, r6, rf⟩ : wr.cell? ⟨o, 0, none⟩ = some (.int .i64 (x.n + y.n)) ∧ wr.cell? ⟨o, 1, none⟩ = some (.int .i64 (E 0)) ∧ wr.cell? ⟨o, 2, none⟩ = some (.int .i64 (E 1)) ∧ wr.cell? ⟨o, 3, none⟩ = some (.int .i64 (E 2)) ∧ wr.cell? ⟨o, 4, none⟩ = some (.slice (R 0).1 (L 0).length (R 0).2) ∧ wr.cell? ⟨o, 5, none⟩ = some (.slice (R 1).1 (L 1).length (R 1).2) ∧ wr.cell? ⟨o, 6, none⟩ = some (.slice (R 2).1 (L 2).length (R 2).2) ∧ ∀ j, wr.frozen? ⟨o, j, none⟩ = false := by
        refine ⟨?_, ?_, ?_, ?_, ?_, ?_, ?_, fun j => ?_⟩ <;> simp [World.cell?, World.frozen?, oc]
      obtain ⟨y0, y1, y2, y3, y4, y5, y6, yf⟩ := zero7 HS.out.z
      have H0 := Aside0.mk h0
      have H1 := Aside0.mk h1
      have H2 := Aside0.mk h2
      have HBl := Aside0.mk hb
      clear h0 h1 h2 hb oc
      go_wp2
      obtain ⟨W9, hW9⟩ : ∃ W9, (((((((wr.setCell ⟨w.heap.size + 1 + 1, 0, none⟩ (.int .i64 (x.n + y.n))).setCell ⟨w.heap.size + 1 + 1, 1, none⟩ (.int .i64 (E 0))).setCell ⟨w.heap.size + 1 + 1, 2, none⟩ (.int .i64 (E 1))).setCell ⟨w.heap.size + 1 + 1, 3, none⟩ (.int .i64 (E 2))).setCell ⟨w.heap.size + 1 + 1, 4, none⟩ (.slice (R 0).1 (L 0).length (R 0).2)).setCell ⟨w.heap.size + 1 + 1, 5, none⟩ (.slice (R 1).1 (L 1).length (R 1).2)).setCell ⟨w.heap.size + 1 + 1, 6, none⟩ (.slice (R 2).1 (L 2).length (R 2).2)) = W9 := ⟨_, rfl⟩
      obtain ⟨b9, g9⟩ := set7 HS.out.z (R 0).1 (R 0).2 (R 1).1 (R 1).2 (R 2).1 (R 2).2 ⟨x.n + y.n, E 0, E 1, E 2, L 0, L 1, L 2⟩ hW9
      obtain ⟨u0, u1, u2, u3, u4, u5, u6⟩ : W9.cell? ⟨w.heap.size + 1 + 1, 0, none⟩ = some (.int .i64 (x.n + y.n)) ∧ W9.cell? ⟨w.heap.size + 1 + 1, 1, none⟩ = some (.int .i64 (E 0)) ∧ W9.cell? ⟨w.heap.size + 1 + 1, 2, none⟩ = some (.int .i64 (E 1)) ∧ W9.cell? ⟨w.heap.size + 1 + 1, 3, none⟩ = some (.int .i64 (E 2)) ∧ W9.cell? ⟨w.heap.size + 1 + 1, 4, none⟩ = some (.slice (R 0).1 (L 0).length (R 0).2) ∧ W9.cell? ⟨w.heap.size + 1 + 1, 5, none⟩ = some (.slice (R 1).1 (L 1).length (R 1).2) ∧ W9.cell? ⟨w.heap.size + 1 + 1, 6, none⟩ = some (.slice (R 2).1 (L 2).length (R 2).2) := by
        refine ⟨?_, ?_, ?_, ?_, ?_, ?_, ?_⟩ <;> simp [World.cell?, b9]
      rw [hW9]
      have G9 := Aside0.mk g9
      clear hW9 b9 g9 y0 y1 y2 y3 y4 y5 y6 yf r0 r1 r2 r3 r4 r5 r6 rf
      refine bodyPost_ret (v := .agg #[.int .i64 (x.n + y.n), .int .i64 (E 0), .int .i64 (E 1), .int .i64 (E 2), .slice (R 0).1 (L 0).length (R 0).2, .slice (R 1).1 (L 1).length (R 1).2, .slice (R 2).1 (L 2).length (R 2).2]) (by rw [results_cell rfl]; go_simp) rfl ?_
      have mv : ∀ j, Fin wr wr.heap.size (R j) (L j) → Fin W9 wr.heap.size (R j) (L j) := fun j h => h.move (fun q cur _ hc => G9.out.block q (Array.getElem?_eq_some_iff.1 hc).1 (fun e => by
        have e2 := Option.some.inj e
        subst e2
        exact absurd (ne26 hc HS.out.z) (by decide)))
      have f0 := mv 0 H0.out.2.2
      have f1 := mv 1 H1.out.2.2
      have f2 := mv 2 H2.out.2.2
      have e0 := H0.out.1
      have e1 := H1.out.1
      have e2 := H2.out.1
      have l0 := H0.out.2.1
      have l1 := H1.out.2.1
      have l2 := H2.out.2.1
      rw [l0] at f0
      rw [l1] at f1
      rw [l2] at f2
      refine ⟨(R 0).1, (R 0).2, (R 1).1, (R 1).2, (R 2).1, (R 2).2, by rw [e0, e1, e2, l0, l1, l2]; rfl, ⟨f0.1, f1.1, f2.1, f0.2.1, f1.2.1, f2.2.1⟩, ⟨fin_ty f0, fin_ty f1, fin_ty f2⟩, below_grown HS.out.bel (by omega) G9.out⟩
theorem ty_grown {w w' : World} {kz : Nat} {cz : Array Value} {A : Option Addr} {n : Nat} (hz : w.heap[kz]? = some (.cells cz 26 (0, 0))) (hg : w.grownBy w' (some kz)) (ht : 0 < n → ∃ ad cur, A = some ad ∧ w.heap[ad.block]? = some (.cells cur 3 (0, 0))) : 0 < n → ∃ ad cur, A = some ad ∧ w'.heap[ad.block]? = some (.cells cur 3 (0, 0)) := fun hn => by
  obtain ⟨ad, cur, e, hc⟩ := ht hn
  exact ⟨ad, cur, e, (hg.block _ (Array.getElem?_eq_some_iff.1 hc).1 (fun e2 => by
    have e3 := Option.some.inj e2
    rw [e3] at hc
    exact absurd (ne26 hc hz) (by decide))).trans hc⟩
theorem Ty.grown {w w' : World} {kz : Nat} {cz : Array Value} {A0 A1 A2} {x : Smm} (h : Ty w A0 A1 A2 x) (hz : w.heap[kz]? = some (.cells cz 26 (0, 0))) (hg : w.grownBy w' (some kz)) : Ty w' A0 A1 A2 x := ⟨ty_grown hz hg h.t0, ty_grown hz hg h.t1, ty_grown hz hg h.t2⟩
abbrev zM : Smm := ⟨0, 0, 0, 0, [], [], []⟩
theorem zM_rd (w : World) : RdS w none 0 none 0 none 0 zM := ⟨Nat.le_refl _, Nat.le_refl _, Nat.le_refl _, Kd.C_nil _ _, Kd.C_nil _ _, Kd.C_nil _ _⟩
theorem zM_ty (w : World) : Ty w none none none zM := ⟨fun h => absurd h (Nat.lt_irrefl 0), fun h => absurd h (Nat.lt_irrefl 0), fun h => absurd h (Nat.lt_irrefl 0)⟩
def refV (k : Nat) (x : Smm) : Option Bool := ndjqref18_Valid.f k x.n x.e0 x.e1 x.e2 x.l0 x.l1 x.l2
theorem refVC (k : Nat) (x : Smm) (r : Bool) (w : World) {A0 c0 A1 c1 A2 c2} (hx : RdS w A0 c0 A1 c1 A2 c2 x) (h : refV k x = some r) : Calls Tryd.prog 29 #[.agg #[.int .i64 x.n, .int .i64 x.e0, .int .i64 x.e1, .int .i64 x.e2, .slice A0 x.l0.length c0, .slice A1 x.l1.length c1, .slice A2 x.l2.length c2]] w fun e w' => e = .returned (.bool r) ∧ Below w.heap.size w w' :=
  ndjqref18_Valid.calls k _ _ _ _ A0 c0 _ A1 c1 _ A2 c2 _ r w hx.r0 hx.k0 hx.r1 hx.k1 hx.r2 hx.k2 h
abbrev Jp (x y : Smm) : Prop := (0 ≤ x.n ∧ x.n ≤ 1048576 ∧ 0 ≤ y.n ∧ x.n + y.n ≤ 1048576) ∧ (∀ k, k < 3 → 0 ≤ ex x k ∧ ex x k ≤ 2) ∧ (∀ k, k < 3 → (ln x k).length ≤ 1048576 ∧ (ln y k).length ≤ 1048576) ∧ (∀ k, k < 3 → ∀ z ∈ ln y k, 0 ≤ z ∧ z ≤ 1048576)
theorem compR_ok (k : Nat) (x y : Smm) (w : World) {A0 c0 A1 c1 A2 c2 B0 d0 B1 d1 B2 d2} (hx : RdS w A0 c0 A1 c1 A2 c2 x) (hy : RdS w B0 d0 B1 d1 B2 d2 y) (vx : refV k x = some true) (vy : refV k y = some true) (hj : Jp x y) :
    Calls Tryd.prog 45 #[.agg #[.int .i64 x.n, .int .i64 x.e0, .int .i64 x.e1, .int .i64 x.e2, .slice A0 x.l0.length c0, .slice A1 x.l1.length c1, .slice A2 x.l2.length c2], .agg #[.int .i64 y.n, .int .i64 y.e0, .int .i64 y.e1, .int .i64 y.e2, .slice B0 y.l0.length d0, .slice B1 y.l1.length d1, .slice B2 y.l2.length d2]] w fun e w' => ∃ E0 f0 E1 f1 E2 f2, e = .returned (.tuple #[.agg #[.int .i64 (jn x y).n, .int .i64 (jn x y).e0, .int .i64 (jn x y).e1, .int .i64 (jn x y).e2, .slice E0 (jn x y).l0.length f0, .slice E1 (jn x y).l1.length f1, .slice E2 (jn x y).l2.length f2], .int .i64 0]) ∧ RdS w' E0 f0 E1 f1 E2 f2 (jn x y) ∧ Ty w' E0 E1 E2 (jn x y) ∧ Below w.heap.size w w' := by
  have HVx := Aside0.mk vx
  have HVy := Aside0.mk vy
  have HJp := Aside0.mk hj
  obtain ⟨N, hN⟩ : ∃ N : Int, x.n + y.n = N := ⟨_, rfl⟩
  have hNb : 0 ≤ N ∧ N ≤ 1048576 := by have := hj.1; omega
  have hw1 : Go.RowKit.wrap64 N = N := by unfold Go.RowKit.wrap64; omega
  have hw2 : IntKind.i64.wrap N = N := by rw [i64_w]; unfold Go.RowKit.wrap64; omega
  have g0 : decide (N > 1048576) = false := decide_eq_false (by omega)
  clear vx vy hj hNb
  have HA0 := Aside0.mk (Bo.new hx)
  have hq1 := (Below.refl w.heap.size w).alloc (Nat.le_refl _) (.cells #[.int .i64 x.n, .int .i64 x.e0, .int .i64 x.e1, .int .i64 x.e2, .slice A0 x.l0.length c0, .slice A1 x.l1.length c1, .slice A2 x.l2.length c2] 26)
  have HB0 := Aside0.mk (Bo.new (hy.below hq1))
  clear hx hy hq1
  go_enter Tryd.func45, Tryd.ntmps45
  go_upto_region 1 with fail
  obtain ⟨W1, hW1⟩ : ∃ W1, ((w.alloc (.cells #[.int .i64 x.n, .int .i64 x.e0, .int .i64 x.e1, .int .i64 x.e2, .slice A0 x.l0.length c0, .slice A1 x.l1.length c1, .slice A2 x.l2.length c2] 26)).alloc (.cells #[.int .i64 y.n, .int .i64 y.e0, .int .i64 y.e1, .int .i64 y.e2, .slice B0 y.l0.length d0, .slice B1 y.l1.length d1, .slice B2 y.l2.length d2] 26)).alloc (.cells #[.int .i64 0, .int .i64 0, .int .i64 0, .int .i64 0, .slice none 0 0, .slice none 0 0, .slice none 0 0] 26) = W1 := ⟨_, rfl⟩
  have s1 : (w.alloc (.cells #[.int .i64 x.n, .int .i64 x.e0, .int .i64 x.e1, .int .i64 x.e2, .slice A0 x.l0.length c0, .slice A1 x.l1.length c1, .slice A2 x.l2.length c2] 26)).heap.size = w.heap.size + 1 := by simp
  have s2 : ((w.alloc (.cells #[.int .i64 x.n, .int .i64 x.e0, .int .i64 x.e1, .int .i64 x.e2, .slice A0 x.l0.length c0, .slice A1 x.l1.length c1, .slice A2 x.l2.length c2] 26)).alloc (.cells #[.int .i64 y.n, .int .i64 y.e0, .int .i64 y.e1, .int .i64 y.e2, .slice B0 y.l0.length d0, .slice B1 y.l1.length d1, .slice B2 y.l2.length d2] 26)).heap.size = w.heap.size + 1 + 1 := by simp
  have b2 := (Below.refl _ _).alloc (Nat.le_refl ((w.alloc (.cells #[.int .i64 x.n, .int .i64 x.e0, .int .i64 x.e1, .int .i64 x.e2, .slice A0 x.l0.length c0, .slice A1 x.l1.length c1, .slice A2 x.l2.length c2] 26)).alloc (.cells #[.int .i64 y.n, .int .i64 y.e0, .int .i64 y.e1, .int .i64 y.e2, .slice B0 y.l0.length d0, .slice B1 y.l1.length d1, .slice B2 y.l2.length d2] 26)).heap.size) (.cells #[.int .i64 0, .int .i64 0, .int .i64 0, .int .i64 0, .slice none 0 0, .slice none 0 0, .slice none 0 0] 26)
  have HB : Aside0 (Bo W1 (w.heap.size + 1) B0 d0 B1 d1 B2 d2 y) := ⟨by have h := HB0.out.below b2; rw [s1] at h; rw [← hW1]; exact h⟩
  have HA : Aside0 (Bo W1 w.heap.size A0 c0 A1 c1 A2 c2 x) := ⟨by have h := (HA0.out.below ((Below.refl _ _).alloc (Nat.le_refl _) (.cells #[.int .i64 y.n, .int .i64 y.e0, .int .i64 y.e1, .int .i64 y.e2, .slice B0 y.l0.length d0, .slice B1 y.l1.length d1, .slice B2 y.l2.length d2] 26))).below b2; rw [← hW1]; exact h⟩
  have HZ : Aside0 (W1.heap[w.heap.size + 1 + 1]? = some (.cells Z7 26 (0, 0))) := ⟨by
    have h := heap_alloc_new ((w.alloc (.cells #[.int .i64 x.n, .int .i64 x.e0, .int .i64 x.e1, .int .i64 x.e2, .slice A0 x.l0.length c0, .slice A1 x.l1.length c1, .slice A2 x.l2.length c2] 26)).alloc (.cells #[.int .i64 y.n, .int .i64 y.e0, .int .i64 y.e1, .int .i64 y.e2, .slice B0 y.l0.length d0, .slice B1 y.l1.length d1, .slice B2 y.l2.length d2] 26)) (.cells #[.int .i64 0, .int .i64 0, .int .i64 0, .int .i64 0, .slice none 0 0, .slice none 0 0, .slice none 0 0] 26)
    rw [s2] at h
    rw [← hW1]
    exact h⟩
  have HX : Aside0 (Below w.heap.size w W1) := ⟨by rw [← hW1]; exact (((Below.refl w.heap.size w).alloc (Nat.le_refl _) _).alloc (by simp) _).alloc (by simp; omega) _⟩
  rw [hW1]
  clear hW1 s1 s2 b2 HA0 HB0
  obtain ⟨p0, p1, p2, p3, p4, p5, p6⟩ := HA.out.cells
  obtain ⟨q0, q1, q2, q3, q4, q5, q6⟩ := HB.out.cells
  obtain ⟨z0, z1, z2, z3, z4, z5, z6, zf⟩ := zero7 HZ.out
  go_wp2_with (first | (go_at_call 29; (with_reducible refine (refVC k x true _ HA.out.rd HVx.out).mono ?_); rintro e wv ⟨rfl, hb⟩; have HA2 := Aside0.mk (HA.out.below hb); clear HA; have HA := HA2; clear HA2; have HB2 := Aside0.mk (HB.out.below hb); clear HB; have HB := HB2; clear HB2; have HZ2 := Aside0.mk ((hb.block _ (Array.getElem?_eq_some_iff.1 HZ.out).1).trans HZ.out); clear HZ; have HZ := HZ2; clear HZ2; have HX2 := Aside0.mk (below_step HX.out hb); clear HX; have HX := HX2; clear HX2; clear hb; obtain ⟨p0, p1, p2, p3, p4, p5, p6⟩ := HA.out.cells; obtain ⟨q0, q1, q2, q3, q4, q5, q6⟩ := HB.out.cells; obtain ⟨z0, z1, z2, z3, z4, z5, z6, zf⟩ := zero7 HZ.out) | (go_at_call 29; (with_reducible refine (refVC k y true _ HB.out.rd HVy.out).mono ?_); rintro e wv ⟨rfl, hb⟩; have HA2 := Aside0.mk (HA.out.below hb); clear HA; have HA := HA2; clear HA2; have HB2 := Aside0.mk (HB.out.below hb); clear HB; have HB := HB2; clear HB2; have HZ2 := Aside0.mk ((hb.block _ (Array.getElem?_eq_some_iff.1 HZ.out).1).trans HZ.out); clear HZ; have HZ := HZ2; clear HZ2; have HX2 := Aside0.mk (below_step HX.out hb); clear HX; have HX := HX2; clear HX2; clear hb; obtain ⟨p0, p1, p2, p3, p4, p5, p6⟩ := HA.out.cells; obtain ⟨q0, q1, q2, q3, q4, q5, q6⟩ := HB.out.cells; obtain ⟨z0, z1, z2, z3, z4, z5, z6, zf⟩ := zero7 HZ.out) | (go_at_call 47; (with_reducible refine (joinC x y _ HA.out.rd HB.out.rd HJp.out.1 HJp.out.2.1 HJp.out.2.2.1 HJp.out.2.2.2).mono ?_); rintro e wj ⟨E0, f0, E1, f1, E2, f2, rfl, hr, ht, hb⟩; have HRz := Aside0.mk hr; have HTz := Aside0.mk ht; have HA2 := Aside0.mk (HA.out.below hb); clear HA; have HA := HA2; clear HA2; have HB2 := Aside0.mk (HB.out.below hb); clear HB; have HB := HB2; clear HB2; have HZ2 := Aside0.mk ((hb.block _ (Array.getElem?_eq_some_iff.1 HZ.out).1).trans HZ.out); clear HZ; have HZ := HZ2; clear HZ2; have HX2 := Aside0.mk (below_step HX.out hb); clear HX; have HX := HX2; clear HX2; clear hr ht hb; obtain ⟨z0, z1, z2, z3, z4, z5, z6, zf⟩ := zero7 HZ.out))
  obtain ⟨W9, hW9⟩ : ∃ W9, (((((((wj.setCell ⟨w.heap.size + 1 + 1, 0, none⟩ (.int .i64 (jn x y).n)).setCell ⟨w.heap.size + 1 + 1, 1, none⟩ (.int .i64 (jn x y).e0)).setCell ⟨w.heap.size + 1 + 1, 2, none⟩ (.int .i64 (jn x y).e1)).setCell ⟨w.heap.size + 1 + 1, 3, none⟩ (.int .i64 (jn x y).e2)).setCell ⟨w.heap.size + 1 + 1, 4, none⟩ (.slice E0 (jn x y).l0.length f0)).setCell ⟨w.heap.size + 1 + 1, 5, none⟩ (.slice E1 (jn x y).l1.length f1)).setCell ⟨w.heap.size + 1 + 1, 6, none⟩ (.slice E2 (jn x y).l2.length f2)) = W9 := ⟨_, rfl⟩
  obtain ⟨b9, g9⟩ := set7 HZ.out E0 f0 E1 f1 E2 f2 (jn x y) hW9
  have H9 := Aside0.mk (And.intro (HRz.out.grown HTz.out HZ.out g9) (And.intro (HTz.out.grown HZ.out g9) (below_grown HX.out (by omega) g9)))
  obtain ⟨u0, u1, u2, u3, u4, u5, u6⟩ := (Bo.mk b9 H9.out.1).cells
  rw [hW9]
  clear hW9 b9 g9 z0 z1 z2 z3 z4 z5 z6 zf p0 p1 p2 p3 p4 p5 p6 q0 q1 q2 q3 q4 q5 q6 hw1 hw2 g0
  refine bodyPost_ret (v := .tuple #[.agg #[.int .i64 (jn x y).n, .int .i64 (jn x y).e0, .int .i64 (jn x y).e1, .int .i64 (jn x y).e2, .slice E0 (jn x y).l0.length f0, .slice E1 (jn x y).l1.length f1, .slice E2 (jn x y).l2.length f2], .int .i64 0]) (by rw [results_cell_tmp rfl]; go_simp) rfl ?_
  exact ⟨E0, f0, E1, f1, E2, f2, rfl, H9.out.1, H9.out.2.1, H9.out.2.2⟩
theorem compR_bad1 (k : Nat) (x y : Smm) (w : World) {A0 c0 A1 c1 A2 c2 B0 d0 B1 d1 B2 d2} (hx : RdS w A0 c0 A1 c1 A2 c2 x) (hy : RdS w B0 d0 B1 d1 B2 d2 y) (vx : refV k x = some false) :
    Calls Tryd.prog 45 #[.agg #[.int .i64 x.n, .int .i64 x.e0, .int .i64 x.e1, .int .i64 x.e2, .slice A0 x.l0.length c0, .slice A1 x.l1.length c1, .slice A2 x.l2.length c2], .agg #[.int .i64 y.n, .int .i64 y.e0, .int .i64 y.e1, .int .i64 y.e2, .slice B0 y.l0.length d0, .slice B1 y.l1.length d1, .slice B2 y.l2.length d2]] w fun e w' => ∃ E0 f0 E1 f1 E2 f2, e = .returned (.tuple #[.agg #[.int .i64 zM.n, .int .i64 zM.e0, .int .i64 zM.e1, .int .i64 zM.e2, .slice E0 zM.l0.length f0, .slice E1 zM.l1.length f1, .slice E2 zM.l2.length f2], .int .i64 1]) ∧ RdS w' E0 f0 E1 f1 E2 f2 zM ∧ Ty w' E0 E1 E2 zM ∧ Below w.heap.size w w' := by
  have HVx := Aside0.mk vx
  clear vx
  have HA0 := Aside0.mk (Bo.new hx)
  have hq1 := (Below.refl w.heap.size w).alloc (Nat.le_refl _) (.cells #[.int .i64 x.n, .int .i64 x.e0, .int .i64 x.e1, .int .i64 x.e2, .slice A0 x.l0.length c0, .slice A1 x.l1.length c1, .slice A2 x.l2.length c2] 26)
  have HB0 := Aside0.mk (Bo.new (hy.below hq1))
  clear hx hy hq1
  go_enter Tryd.func45, Tryd.ntmps45
  go_upto_region 1 with fail
  obtain ⟨W1, hW1⟩ : ∃ W1, ((w.alloc (.cells #[.int .i64 x.n, .int .i64 x.e0, .int .i64 x.e1, .int .i64 x.e2, .slice A0 x.l0.length c0, .slice A1 x.l1.length c1, .slice A2 x.l2.length c2] 26)).alloc (.cells #[.int .i64 y.n, .int .i64 y.e0, .int .i64 y.e1, .int .i64 y.e2, .slice B0 y.l0.length d0, .slice B1 y.l1.length d1, .slice B2 y.l2.length d2] 26)).alloc (.cells #[.int .i64 0, .int .i64 0, .int .i64 0, .int .i64 0, .slice none 0 0, .slice none 0 0, .slice none 0 0] 26) = W1 := ⟨_, rfl⟩
  have s1 : (w.alloc (.cells #[.int .i64 x.n, .int .i64 x.e0, .int .i64 x.e1, .int .i64 x.e2, .slice A0 x.l0.length c0, .slice A1 x.l1.length c1, .slice A2 x.l2.length c2] 26)).heap.size = w.heap.size + 1 := by simp
  have s2 : ((w.alloc (.cells #[.int .i64 x.n, .int .i64 x.e0, .int .i64 x.e1, .int .i64 x.e2, .slice A0 x.l0.length c0, .slice A1 x.l1.length c1, .slice A2 x.l2.length c2] 26)).alloc (.cells #[.int .i64 y.n, .int .i64 y.e0, .int .i64 y.e1, .int .i64 y.e2, .slice B0 y.l0.length d0, .slice B1 y.l1.length d1, .slice B2 y.l2.length d2] 26)).heap.size = w.heap.size + 1 + 1 := by simp
  have b2 := (Below.refl _ _).alloc (Nat.le_refl ((w.alloc (.cells #[.int .i64 x.n, .int .i64 x.e0, .int .i64 x.e1, .int .i64 x.e2, .slice A0 x.l0.length c0, .slice A1 x.l1.length c1, .slice A2 x.l2.length c2] 26)).alloc (.cells #[.int .i64 y.n, .int .i64 y.e0, .int .i64 y.e1, .int .i64 y.e2, .slice B0 y.l0.length d0, .slice B1 y.l1.length d1, .slice B2 y.l2.length d2] 26)).heap.size) (.cells #[.int .i64 0, .int .i64 0, .int .i64 0, .int .i64 0, .slice none 0 0, .slice none 0 0, .slice none 0 0] 26)
  have HB : Aside0 (Bo W1 (w.heap.size + 1) B0 d0 B1 d1 B2 d2 y) := ⟨by have h := HB0.out.below b2; rw [s1] at h; rw [← hW1]; exact h⟩
  have HA : Aside0 (Bo W1 w.heap.size A0 c0 A1 c1 A2 c2 x) := ⟨by have h := (HA0.out.below ((Below.refl _ _).alloc (Nat.le_refl _) (.cells #[.int .i64 y.n, .int .i64 y.e0, .int .i64 y.e1, .int .i64 y.e2, .slice B0 y.l0.length d0, .slice B1 y.l1.length d1, .slice B2 y.l2.length d2] 26))).below b2; rw [← hW1]; exact h⟩
  have HZ : Aside0 (W1.heap[w.heap.size + 1 + 1]? = some (.cells Z7 26 (0, 0))) := ⟨by
    have h := heap_alloc_new ((w.alloc (.cells #[.int .i64 x.n, .int .i64 x.e0, .int .i64 x.e1, .int .i64 x.e2, .slice A0 x.l0.length c0, .slice A1 x.l1.length c1, .slice A2 x.l2.length c2] 26)).alloc (.cells #[.int .i64 y.n, .int .i64 y.e0, .int .i64 y.e1, .int .i64 y.e2, .slice B0 y.l0.length d0, .slice B1 y.l1.length d1, .slice B2 y.l2.length d2] 26)) (.cells #[.int .i64 0, .int .i64 0, .int .i64 0, .int .i64 0, .slice none 0 0, .slice none 0 0, .slice none 0 0] 26)
    rw [s2] at h
    rw [← hW1]
    exact h⟩
  have HX : Aside0 (Below w.heap.size w W1) := ⟨by rw [← hW1]; exact (((Below.refl w.heap.size w).alloc (Nat.le_refl _) _).alloc (by simp) _).alloc (by simp; omega) _⟩
  rw [hW1]
  clear hW1 s1 s2 b2 HA0 HB0
  obtain ⟨p0, p1, p2, p3, p4, p5, p6⟩ := HA.out.cells
  obtain ⟨q0, q1, q2, q3, q4, q5, q6⟩ := HB.out.cells
  obtain ⟨z0, z1, z2, z3, z4, z5, z6, zf⟩ := zero7 HZ.out
  go_wp2_with (first | (go_at_call 29; (with_reducible refine (refVC k x false _ HA.out.rd HVx.out).mono ?_); rintro e wv ⟨rfl, hb⟩; have HA2 := Aside0.mk (HA.out.below hb); clear HA; have HA := HA2; clear HA2; have HB2 := Aside0.mk (HB.out.below hb); clear HB; have HB := HB2; clear HB2; have HZ2 := Aside0.mk ((hb.block _ (Array.getElem?_eq_some_iff.1 HZ.out).1).trans HZ.out); clear HZ; have HZ := HZ2; clear HZ2; have HX2 := Aside0.mk (below_step HX.out hb); clear HX; have HX := HX2; clear HX2; clear hb; obtain ⟨p0, p1, p2, p3, p4, p5, p6⟩ := HA.out.cells; obtain ⟨q0, q1, q2, q3, q4, q5, q6⟩ := HB.out.cells; obtain ⟨z0, z1, z2, z3, z4, z5, z6, zf⟩ := zero7 HZ.out))
  obtain ⟨W9, hW9⟩ : ∃ W9, (((((((wv.setCell ⟨w.heap.size + 1 + 1, 0, none⟩ (.int .i64 0)).setCell ⟨w.heap.size + 1 + 1, 1, none⟩ (.int .i64 0)).setCell ⟨w.heap.size + 1 + 1, 2, none⟩ (.int .i64 0)).setCell ⟨w.heap.size + 1 + 1, 3, none⟩ (.int .i64 0)).setCell ⟨w.heap.size + 1 + 1, 4, none⟩ (.slice none 0 0)).setCell ⟨w.heap.size + 1 + 1, 5, none⟩ (.slice none 0 0)).setCell ⟨w.heap.size + 1 + 1, 6, none⟩ (.slice none 0 0)) = W9 := ⟨_, rfl⟩
  obtain ⟨b9, g9⟩ := set7 HZ.out none 0 none 0 none 0 zM hW9
  have H9 := Aside0.mk (below_grown HX.out (by omega) g9)
  obtain ⟨u0, u1, u2, u3, u4, u5, u6⟩ := (Bo.mk b9 (zM_rd W9)).cells
  have hr := zM_rd W9
  have ht := zM_ty W9
  have HRT := Aside0.mk (And.intro hr ht)
  rw [hW9]
  clear hW9 b9 g9 hr ht z0 z1 z2 z3 z4 z5 z6 zf p0 p1 p2 p3 p4 p5 p6 q0 q1 q2 q3 q4 q5 q6
  refine bodyPost_ret (v := .tuple #[.agg #[.int .i64 zM.n, .int .i64 zM.e0, .int .i64 zM.e1, .int .i64 zM.e2, .slice none zM.l0.length 0, .slice none zM.l1.length 0, .slice none zM.l2.length 0], .int .i64 1]) (by rw [results_cell_tmp rfl]; go_simp) rfl ?_
  exact ⟨none, 0, none, 0, none, 0, rfl, HRT.out.1, HRT.out.2, H9.out⟩
theorem compR_bad2 (k : Nat) (x y : Smm) (w : World) {A0 c0 A1 c1 A2 c2 B0 d0 B1 d1 B2 d2} (hx : RdS w A0 c0 A1 c1 A2 c2 x) (hy : RdS w B0 d0 B1 d1 B2 d2 y) (vx : refV k x = some true) (vy : refV k y = some false) :
    Calls Tryd.prog 45 #[.agg #[.int .i64 x.n, .int .i64 x.e0, .int .i64 x.e1, .int .i64 x.e2, .slice A0 x.l0.length c0, .slice A1 x.l1.length c1, .slice A2 x.l2.length c2], .agg #[.int .i64 y.n, .int .i64 y.e0, .int .i64 y.e1, .int .i64 y.e2, .slice B0 y.l0.length d0, .slice B1 y.l1.length d1, .slice B2 y.l2.length d2]] w fun e w' => ∃ E0 f0 E1 f1 E2 f2, e = .returned (.tuple #[.agg #[.int .i64 zM.n, .int .i64 zM.e0, .int .i64 zM.e1, .int .i64 zM.e2, .slice E0 zM.l0.length f0, .slice E1 zM.l1.length f1, .slice E2 zM.l2.length f2], .int .i64 1]) ∧ RdS w' E0 f0 E1 f1 E2 f2 zM ∧ Ty w' E0 E1 E2 zM ∧ Below w.heap.size w w' := by
  have HVx := Aside0.mk vx
  have HVy := Aside0.mk vy
  clear vx vy
  have HA0 := Aside0.mk (Bo.new hx)
  have hq1 := (Below.refl w.heap.size w).alloc (Nat.le_refl _) (.cells #[.int .i64 x.n, .int .i64 x.e0, .int .i64 x.e1, .int .i64 x.e2, .slice A0 x.l0.length c0, .slice A1 x.l1.length c1, .slice A2 x.l2.length c2] 26)
  have HB0 := Aside0.mk (Bo.new (hy.below hq1))
  clear hx hy hq1
  go_enter Tryd.func45, Tryd.ntmps45
  go_upto_region 1 with fail
  obtain ⟨W1, hW1⟩ : ∃ W1, ((w.alloc (.cells #[.int .i64 x.n, .int .i64 x.e0, .int .i64 x.e1, .int .i64 x.e2, .slice A0 x.l0.length c0, .slice A1 x.l1.length c1, .slice A2 x.l2.length c2] 26)).alloc (.cells #[.int .i64 y.n, .int .i64 y.e0, .int .i64 y.e1, .int .i64 y.e2, .slice B0 y.l0.length d0, .slice B1 y.l1.length d1, .slice B2 y.l2.length d2] 26)).alloc (.cells #[.int .i64 0, .int .i64 0, .int .i64 0, .int .i64 0, .slice none 0 0, .slice none 0 0, .slice none 0 0] 26) = W1 := ⟨_, rfl⟩
  have s1 : (w.alloc (.cells #[.int .i64 x.n, .int .i64 x.e0, .int .i64 x.e1, .int .i64 x.e2, .slice A0 x.l0.length c0, .slice A1 x.l1.length c1, .slice A2 x.l2.length c2] 26)).heap.size = w.heap.size + 1 := by simp
  have s2 : ((w.alloc (.cells #[.int .i64 x.n, .int .i64 x.e0, .int .i64 x.e1, .int .i64 x.e2, .slice A0 x.l0.length c0, .slice A1 x.l1.length c1, .slice A2 x.l2.length c2] 26)).alloc (.cells #[.int .i64 y.n, .int .i64 y.e0, .int .i64 y.e1, .int .i64 y.e2, .slice B0 y.l0.length d0, .slice B1 y.l1.length d1, .slice B2 y.l2.length d2] 26)).heap.size = w.heap.size + 1 + 1 := by simp
  have b2 := (Below.refl _ _).alloc (Nat.le_refl ((w.alloc (.cells #[.int .i64 x.n, .int .i64 x.e0, .int .i64 x.e1, .int .i64 x.e2, .slice A0 x.l0.length c0, .slice A1 x.l1.length c1, .slice A2 x.l2.length c2] 26)).alloc (.cells #[.int .i64 y.n, .int .i64 y.e0, .int .i64 y.e1, .int .i64 y.e2, .slice B0 y.l0.length d0, .slice B1 y.l1.length d1, .slice B2 y.l2.length d2] 26)).heap.size) (.cells #[.int .i64 0, .int .i64 0, .int .i64 0, .int .i64 0, .slice none 0 0, .slice none 0 0, .slice none 0 0] 26)
  have HB : Aside0 (Bo W1 (w.heap.size + 1) B0 d0 B1 d1 B2 d2 y) := ⟨by have h := HB0.out.below b2; rw [s1] at h; rw [← hW1]; exact h⟩
  have HA : Aside0 (Bo W1 w.heap.size A0 c0 A1 c1 A2 c2 x) := ⟨by have h := (HA0.out.below ((Below.refl _ _).alloc (Nat.le_refl _) (.cells #[.int .i64 y.n, .int .i64 y.e0, .int .i64 y.e1, .int .i64 y.e2, .slice B0 y.l0.length d0, .slice B1 y.l1.length d1, .slice B2 y.l2.length d2] 26))).below b2; rw [← hW1]; exact h⟩
  have HZ : Aside0 (W1.heap[w.heap.size + 1 + 1]? = some (.cells Z7 26 (0, 0))) := ⟨by
    have h := heap_alloc_new ((w.alloc (.cells #[.int .i64 x.n, .int .i64 x.e0, .int .i64 x.e1, .int .i64 x.e2, .slice A0 x.l0.length c0, .slice A1 x.l1.length c1, .slice A2 x.l2.length c2] 26)).alloc (.cells #[.int .i64 y.n, .int .i64 y.e0, .int .i64 y.e1, .int .i64 y.e2, .slice B0 y.l0.length d0, .slice B1 y.l1.length d1, .slice B2 y.l2.length d2] 26)) (.cells #[.int .i64 0, .int .i64 0, .int .i64 0, .int .i64 0, .slice none 0 0, .slice none 0 0, .slice none 0 0] 26)
    rw [s2] at h
    rw [← hW1]
    exact h⟩
  have HX : Aside0 (Below w.heap.size w W1) := ⟨by rw [← hW1]; exact (((Below.refl w.heap.size w).alloc (Nat.le_refl _) _).alloc (by simp) _).alloc (by simp; omega) _⟩
  rw [hW1]
  clear hW1 s1 s2 b2 HA0 HB0
  obtain ⟨p0, p1, p2, p3, p4, p5, p6⟩ := HA.out.cells
  obtain ⟨q0, q1, q2, q3, q4, q5, q6⟩ := HB.out.cells
  obtain ⟨z0, z1, z2, z3, z4, z5, z6, zf⟩ := zero7 HZ.out
  go_wp2_with (first | (go_at_call 29; (with_reducible refine (refVC k x true _ HA.out.rd HVx.out).mono ?_); rintro e wv ⟨rfl, hb⟩; have HA2 := Aside0.mk (HA.out.below hb); clear HA; have HA := HA2; clear HA2; have HB2 := Aside0.mk (HB.out.below hb); clear HB; have HB := HB2; clear HB2; have HZ2 := Aside0.mk ((hb.block _ (Array.getElem?_eq_some_iff.1 HZ.out).1).trans HZ.out); clear HZ; have HZ := HZ2; clear HZ2; have HX2 := Aside0.mk (below_step HX.out hb); clear HX; have HX := HX2; clear HX2; clear hb; obtain ⟨p0, p1, p2, p3, p4, p5, p6⟩ := HA.out.cells; obtain ⟨q0, q1, q2, q3, q4, q5, q6⟩ := HB.out.cells; obtain ⟨z0, z1, z2, z3, z4, z5, z6, zf⟩ := zero7 HZ.out) | (go_at_call 29; (with_reducible refine (refVC k y false _ HB.out.rd HVy.out).mono ?_); rintro e wv ⟨rfl, hb⟩; have HA2 := Aside0.mk (HA.out.below hb); clear HA; have HA := HA2; clear HA2; have HB2 := Aside0.mk (HB.out.below hb); clear HB; have HB := HB2; clear HB2; have HZ2 := Aside0.mk ((hb.block _ (Array.getElem?_eq_some_iff.1 HZ.out).1).trans HZ.out); clear HZ; have HZ := HZ2; clear HZ2; have HX2 := Aside0.mk (below_step HX.out hb); clear HX; have HX := HX2; clear HX2; clear hb; obtain ⟨p0, p1, p2, p3, p4, p5, p6⟩ := HA.out.cells; obtain ⟨q0, q1, q2, q3, q4, q5, q6⟩ := HB.out.cells; obtain ⟨z0, z1, z2, z3, z4, z5, z6, zf⟩ := zero7 HZ.out))
  obtain ⟨W9, hW9⟩ : ∃ W9, (((((((wv.setCell ⟨w.heap.size + 1 + 1, 0, none⟩ (.int .i64 0)).setCell ⟨w.heap.size + 1 + 1, 1, none⟩ (.int .i64 0)).setCell ⟨w.heap.size + 1 + 1, 2, none⟩ (.int .i64 0)).setCell ⟨w.heap.size + 1 + 1, 3, none⟩ (.int .i64 0)).setCell ⟨w.heap.size + 1 + 1, 4, none⟩ (.slice none 0 0)).setCell ⟨w.heap.size + 1 + 1, 5, none⟩ (.slice none 0 0)).setCell ⟨w.heap.size + 1 + 1, 6, none⟩ (.slice none 0 0)) = W9 := ⟨_, rfl⟩
  obtain ⟨b9, g9⟩ := set7 HZ.out none 0 none 0 none 0 zM hW9
  have H9 := Aside0.mk (below_grown HX.out (by omega) g9)
  obtain ⟨u0, u1, u2, u3, u4, u5, u6⟩ := (Bo.mk b9 (zM_rd W9)).cells
  have hr := zM_rd W9
  have ht := zM_ty W9
  have HRT := Aside0.mk (And.intro hr ht)
  rw [hW9]
  clear hW9 b9 g9 hr ht z0 z1 z2 z3 z4 z5 z6 zf p0 p1 p2 p3 p4 p5 p6 q0 q1 q2 q3 q4 q5 q6
  refine bodyPost_ret (v := .tuple #[.agg #[.int .i64 zM.n, .int .i64 zM.e0, .int .i64 zM.e1, .int .i64 zM.e2, .slice none zM.l0.length 0, .slice none zM.l1.length 0, .slice none zM.l2.length 0], .int .i64 1]) (by rw [results_cell_tmp rfl]; go_simp) rfl ?_
  exact ⟨none, 0, none, 0, none, 0, rfl, HRT.out.1, HRT.out.2, H9.out⟩
theorem compR_big (k : Nat) (x y : Smm) (w : World) {A0 c0 A1 c1 A2 c2 B0 d0 B1 d1 B2 d2} (hx : RdS w A0 c0 A1 c1 A2 c2 x) (hy : RdS w B0 d0 B1 d1 B2 d2 y) (vx : refV k x = some true) (vy : refV k y = some true) (hb1 : 1048576 < x.n + y.n) (hb2 : x.n + y.n ≤ 4000000000) :
    Calls Tryd.prog 45 #[.agg #[.int .i64 x.n, .int .i64 x.e0, .int .i64 x.e1, .int .i64 x.e2, .slice A0 x.l0.length c0, .slice A1 x.l1.length c1, .slice A2 x.l2.length c2], .agg #[.int .i64 y.n, .int .i64 y.e0, .int .i64 y.e1, .int .i64 y.e2, .slice B0 y.l0.length d0, .slice B1 y.l1.length d1, .slice B2 y.l2.length d2]] w fun e w' => ∃ E0 f0 E1 f1 E2 f2, e = .returned (.tuple #[.agg #[.int .i64 zM.n, .int .i64 zM.e0, .int .i64 zM.e1, .int .i64 zM.e2, .slice E0 zM.l0.length f0, .slice E1 zM.l1.length f1, .slice E2 zM.l2.length f2], .int .i64 2]) ∧ RdS w' E0 f0 E1 f1 E2 f2 zM ∧ Ty w' E0 E1 E2 zM ∧ Below w.heap.size w w' := by
  have HVx := Aside0.mk vx
  have HVy := Aside0.mk vy
  obtain ⟨N, hN⟩ : ∃ N : Int, x.n + y.n = N := ⟨_, rfl⟩
  have hw1 : Go.RowKit.wrap64 N = N := by unfold Go.RowKit.wrap64; omega
  have hw2 : IntKind.i64.wrap N = N := by rw [i64_w]; unfold Go.RowKit.wrap64; omega
  have g0 : decide (N > 1048576) = true := decide_eq_true (by omega)
  clear vx vy hb1 hb2
  have HA0 := Aside0.mk (Bo.new hx)
  have hq1 := (Below.refl w.heap.size w).alloc (Nat.le_refl _) (.cells #[.int .i64 x.n, .int .i64 x.e0, .int .i64 x.e1, .int .i64 x.e2, .slice A0 x.l0.length c0, .slice A1 x.l1.length c1, .slice A2 x.l2.length c2] 26)
  have HB0 := Aside0.mk (Bo.new (hy.below hq1))
  clear hx hy hq1
  go_enter Tryd.func45, Tryd.ntmps45
  go_upto_region 1 with fail
  obtain ⟨W1, hW1⟩ : ∃ W1, ((w.alloc (.cells #[.int .i64 x.n, .int .i64 x.e0, .int .i64 x.e1, .int .i64 x.e2, .slice A0 x.l0.length c0, .slice A1 x.l1.length c1, .slice A2 x.l2.length c2] 26)).alloc (.cells #[.int .i64 y.n, .int .i64 y.e0, .int .i64 y.e1, .int .i64 y.e2, .slice B0 y.l0.length d0, .slice B1 y.l1.length d1, .slice B2 y.l2.length d2] 26)).alloc (.cells #[.int .i64 0, .int .i64 0, .int .i64 0, .int .i64 0, .slice none 0 0, .slice none 0 0, .slice none 0 0] 26) = W1 := ⟨_, rfl⟩
  have s1 : (w.alloc (.cells #[.int .i64 x.n, .int .i64 x.e0, .int .i64 x.e1, .int .i64 x.e2, .slice A0 x.l0.length c0, .slice A1 x.l1.length c1, .slice A2 x.l2.length c2] 26)).heap.size = w.heap.size + 1 := by simp
  have s2 : ((w.alloc (.cells #[.int .i64 x.n, .int .i64 x.e0, .int .i64 x.e1, .int .i64 x.e2, .slice A0 x.l0.length c0, .slice A1 x.l1.length c1, .slice A2 x.l2.length c2] 26)).alloc (.cells #[.int .i64 y.n, .int .i64 y.e0, .int .i64 y.e1, .int .i64 y.e2, .slice B0 y.l0.length d0, .slice B1 y.l1.length d1, .slice B2 y.l2.length d2] 26)).heap.size = w.heap.size + 1 + 1 := by simp
  have b2 := (Below.refl _ _).alloc (Nat.le_refl ((w.alloc (.cells #[.int .i64 x.n, .int .i64 x.e0, .int .i64 x.e1, .int .i64 x.e2, .slice A0 x.l0.length c0, .slice A1 x.l1.length c1, .slice A2 x.l2.length c2] 26)).alloc (.cells #[.int .i64 y.n, .int .i64 y.e0, .int .i64 y.e1, .int .i64 y.e2, .slice B0 y.l0.length d0, .slice B1 y.l1.length d1, .slice B2 y.l2.length d2] 26)).heap.size) (.cells #[.int .i64 0, .int .i64 0, .int .i64 0, .int .i64 0, .slice none 0 0, .slice none 0 0, .slice none 0 0] 26)
  have HB : Aside0 (Bo W1 (w.heap.size + 1) B0 d0 B1 d1 B2 d2 y) := ⟨by have h := HB0.out.below b2; rw [s1] at h; rw [← hW1]; exact h⟩
  have HA : Aside0 (Bo W1 w.heap.size A0 c0 A1 c1 A2 c2 x) := ⟨by have h := (HA0.out.below ((Below.refl _ _).alloc (Nat.le_refl _) (.cells #[.int .i64 y.n, .int .i64 y.e0, .int .i64 y.e1, .int .i64 y.e2, .slice B0 y.l0.length d0, .slice B1 y.l1.length d1, .slice B2 y.l2.length d2] 26))).below b2; rw [← hW1]; exact h⟩
  have HZ : Aside0 (W1.heap[w.heap.size + 1 + 1]? = some (.cells Z7 26 (0, 0))) := ⟨by
    have h := heap_alloc_new ((w.alloc (.cells #[.int .i64 x.n, .int .i64 x.e0, .int .i64 x.e1, .int .i64 x.e2, .slice A0 x.l0.length c0, .slice A1 x.l1.length c1, .slice A2 x.l2.length c2] 26)).alloc (.cells #[.int .i64 y.n, .int .i64 y.e0, .int .i64 y.e1, .int .i64 y.e2, .slice B0 y.l0.length d0, .slice B1 y.l1.length d1, .slice B2 y.l2.length d2] 26)) (.cells #[.int .i64 0, .int .i64 0, .int .i64 0, .int .i64 0, .slice none 0 0, .slice none 0 0, .slice none 0 0] 26)
    rw [s2] at h
    rw [← hW1]
    exact h⟩
  have HX : Aside0 (Below w.heap.size w W1) := ⟨by rw [← hW1]; exact (((Below.refl w.heap.size w).alloc (Nat.le_refl _) _).alloc (by simp) _).alloc (by simp; omega) _⟩
  rw [hW1]
  clear hW1 s1 s2 b2 HA0 HB0
  obtain ⟨p0, p1, p2, p3, p4, p5, p6⟩ := HA.out.cells
  obtain ⟨q0, q1, q2, q3, q4, q5, q6⟩ := HB.out.cells
  obtain ⟨z0, z1, z2, z3, z4, z5, z6, zf⟩ := zero7 HZ.out
  go_wp2_with (first | (go_at_call 29; (with_reducible refine (refVC k x true _ HA.out.rd HVx.out).mono ?_); rintro e wv ⟨rfl, hb⟩; have HA2 := Aside0.mk (HA.out.below hb); clear HA; have HA := HA2; clear HA2; have HB2 := Aside0.mk (HB.out.below hb); clear HB; have HB := HB2; clear HB2; have HZ2 := Aside0.mk ((hb.block _ (Array.getElem?_eq_some_iff.1 HZ.out).1).trans HZ.out); clear HZ; have HZ := HZ2; clear HZ2; have HX2 := Aside0.mk (below_step HX.out hb); clear HX; have HX := HX2; clear HX2; clear hb; obtain ⟨p0, p1, p2, p3, p4, p5, p6⟩ := HA.out.cells; obtain ⟨q0, q1, q2, q3, q4, q5, q6⟩ := HB.out.cells; obtain ⟨z0, z1, z2, z3, z4, z5, z6, zf⟩ := zero7 HZ.out) | (go_at_call 29; (with_reducible refine (refVC k y true _ HB.out.rd HVy.out).mono ?_); rintro e wv ⟨rfl, hb⟩; have HA2 := Aside0.mk (HA.out.below hb); clear HA; have HA := HA2; clear HA2; have HB2 := Aside0.mk (HB.out.below hb); clear HB; have HB := HB2; clear HB2; have HZ2 := Aside0.mk ((hb.block _ (Array.getElem?_eq_some_iff.1 HZ.out).1).trans HZ.out); clear HZ; have HZ := HZ2; clear HZ2; have HX2 := Aside0.mk (below_step HX.out hb); clear HX; have HX := HX2; clear HX2; clear hb; obtain ⟨p0, p1, p2, p3, p4, p5, p6⟩ := HA.out.cells; obtain ⟨q0, q1, q2, q3, q4, q5, q6⟩ := HB.out.cells; obtain ⟨z0, z1, z2, z3, z4, z5, z6, zf⟩ := zero7 HZ.out))
  obtain ⟨W9, hW9⟩ : ∃ W9, (((((((wv.setCell ⟨w.heap.size + 1 + 1, 0, none⟩ (.int .i64 0)).setCell ⟨w.heap.size + 1 + 1, 1, none⟩ (.int .i64 0)).setCell ⟨w.heap.size + 1 + 1, 2, none⟩ (.int .i64 0)).setCell ⟨w.heap.size + 1 + 1, 3, none⟩ (.int .i64 0)).setCell ⟨w.heap.size + 1 + 1, 4, none⟩ (.slice none 0 0)).setCell ⟨w.heap.size + 1 + 1, 5, none⟩ (.slice none 0 0)).setCell ⟨w.heap.size + 1 + 1, 6, none⟩ (.slice none 0 0)) = W9 := ⟨_, rfl⟩
  obtain ⟨b9, g9⟩ := set7 HZ.out none 0 none 0 none 0 zM hW9
  have H9 := Aside0.mk (below_grown HX.out (by omega) g9)
  obtain ⟨u0, u1, u2, u3, u4, u5, u6⟩ := (Bo.mk b9 (zM_rd W9)).cells
  have hr := zM_rd W9
  have ht := zM_ty W9
  have HRT := Aside0.mk (And.intro hr ht)
  rw [hW9]
  clear hW9 b9 g9 hr ht z0 z1 z2 z3 z4 z5 z6 zf p0 p1 p2 p3 p4 p5 p6 q0 q1 q2 q3 q4 q5 q6
  refine bodyPost_ret (v := .tuple #[.agg #[.int .i64 zM.n, .int .i64 zM.e0, .int .i64 zM.e1, .int .i64 zM.e2, .slice none zM.l0.length 0, .slice none zM.l1.length 0, .slice none zM.l2.length 0], .int .i64 2]) (by rw [results_cell_tmp rfl]; go_simp) rfl ?_
  exact ⟨none, 0, none, 0, none, 0, rfl, HRT.out.1, HRT.out.2, H9.out⟩
end Go.Proofs.YtkhnifehcnlpjaaDoor.QB
