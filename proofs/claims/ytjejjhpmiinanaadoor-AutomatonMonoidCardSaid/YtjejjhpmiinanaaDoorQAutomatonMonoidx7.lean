-- by a program of this session (print2.py): the machine's side of one law; Lean checks it.
import Derived.Test.YtjejjhpmiinanaaDoorQAutomatonMonoidx0
import Derived.Test.YtjejjhpmiinanaaDoorQAutomatonMonoidx2
import Derived.Test.YtjejjhpmiinanaaDoorQAutomatonMonoidx4
import Derived.Test.YtjejjhpmiinanaaDoorQAutomatonMonoidx5
import Derived.Test.YtjejjhpmiinanaaDoorQAutomatonMonoidx6
namespace Go.Proofs.YtjejjhpmiinanaaDoor.QAutomatonMonoid
open Go.RowKit Go.Proofs.YtjejjhpmiinanaaDoorW.PrintWords Go.Proofs.YtjejjhpmiinanaaDoorW.PrintLast Go.Proofs.YtjejjhpmiinanaaDoorW.PrintMore
attribute [local go_sem] max2_int min2_int max_two min_two max_three min_three max_four min_four   -- for this text's walks alone
set_option linter.unusedVariables false
set_option linter.unusedSimpArgs false

/-! ### ndjqlaw18_AutomatonMonoid: function 7 -/
set_option maxRecDepth 100000
set_option maxHeartbeats 4000000
/-! ### AutomatonMonoid, walked by hand over the contracts of Compose, Empty, keep.Summaries -/
structure Smm where
  n : Int
  e0 : Int
  e1 : Int
  e2 : Int
  l0 : List Int
  l1 : List Int
  l2 : List Int
structure RdS (w : World) (A0 : Option Addr) (c0 : Nat) (A1 : Option Addr) (c1 : Nat) (A2 : Option Addr) (c2 : Nat) (x : Smm) : Prop where
  k0 : x.l0.length ≤ c0
  k1 : x.l1.length ≤ c1
  k2 : x.l2.length ≤ c2
  r0 : Kd.C (Kd.int .i64) w A0 x.l0.length x.l0
  r1 : Kd.C (Kd.int .i64) w A1 x.l1.length x.l1
  r2 : Kd.C (Kd.int .i64) w A2 x.l2.length x.l2
theorem RdS.below {w w' : World} {A0 c0 A1 c1 A2 c2} {x : Smm} (h : RdS w A0 c0 A1 c1 A2 c2 x) (hb : Below w.heap.size w w') : RdS w' A0 c0 A1 c1 A2 c2 x :=
  ⟨h.k0, h.k1, h.k2, Kd.C_below h.r0 hb, Kd.C_below h.r1 hb, Kd.C_below h.r2 hb⟩
/-- A summary in block b. -/
structure Bo (w : World) (b : Nat) (A0 : Option Addr) (c0 : Nat) (A1 : Option Addr) (c1 : Nat) (A2 : Option Addr) (c2 : Nat) (x : Smm) : Prop where
  blk : w.heap[b]? = some (.cells #[.int .i64 x.n, .int .i64 x.e0, .int .i64 x.e1, .int .i64 x.e2, .slice A0 x.l0.length c0, .slice A1 x.l1.length c1, .slice A2 x.l2.length c2] 29 (0, 0))
  rd : RdS w A0 c0 A1 c1 A2 c2 x
theorem Bo.below {w w' : World} {b : Nat} {A0 c0 A1 c1 A2 c2} {x : Smm} (h : Bo w b A0 c0 A1 c1 A2 c2 x) (hb : Below w.heap.size w w') : Bo w' b A0 c0 A1 c1 A2 c2 x :=
  ⟨(hb.block b (Array.getElem?_eq_some_iff.1 h.blk).1).trans h.blk, h.rd.below hb⟩
theorem Bo.cells {w : World} {b : Nat} {A0 c0 A1 c1 A2 c2} {x : Smm} (h : Bo w b A0 c0 A1 c1 A2 c2 x) :
    w.cell? ⟨b, 0, none⟩ = some (.int .i64 x.n) ∧ w.cell? ⟨b, 1, none⟩ = some (.int .i64 x.e0) ∧ w.cell? ⟨b, 2, none⟩ = some (.int .i64 x.e1) ∧ w.cell? ⟨b, 3, none⟩ = some (.int .i64 x.e2) ∧
      w.cell? ⟨b, 4, none⟩ = some (.slice A0 x.l0.length c0) ∧ w.cell? ⟨b, 5, none⟩ = some (.slice A1 x.l1.length c1) ∧ w.cell? ⟨b, 6, none⟩ = some (.slice A2 x.l2.length c2) := by
  have hb := h.blk
  refine ⟨?_, ?_, ?_, ?_, ?_, ?_, ?_⟩ <;> simp [World.cell?, hb]
/-- Its rows lie in blocks of numbers. -/
structure Ty (w : World) (A0 A1 A2 : Option Addr) (x : Smm) : Prop where
  t0 : 0 < x.l0.length → ∃ ad cur, A0 = some ad ∧ w.heap[ad.block]? = some (.cells cur 3 (0, 0))
  t1 : 0 < x.l1.length → ∃ ad cur, A1 = some ad ∧ w.heap[ad.block]? = some (.cells cur 3 (0, 0))
  t2 : 0 < x.l2.length → ∃ ad cur, A2 = some ad ∧ w.heap[ad.block]? = some (.cells cur 3 (0, 0))
theorem ty_below {w w' : World} {A : Option Addr} {n : Nat} (h : 0 < n → ∃ ad cur, A = some ad ∧ w.heap[ad.block]? = some (.cells cur 3 (0, 0))) (hb : Below w.heap.size w w') : 0 < n → ∃ ad cur, A = some ad ∧ w'.heap[ad.block]? = some (.cells cur 3 (0, 0)) := fun hn => by
  obtain ⟨ad, cur, e, hc⟩ := h hn
  exact ⟨ad, cur, e, (hb.block _ (Array.getElem?_eq_some_iff.1 hc).1).trans hc⟩
theorem Ty.below {w w' : World} {A0 A1 A2} {x : Smm} (h : Ty w A0 A1 A2 x) (hb : Below w.heap.size w w') : Ty w' A0 A1 A2 x := ⟨ty_below h.t0 hb, ty_below h.t1 hb, ty_below h.t2 hb⟩
theorem ty_of {w : World} {B : Nat} {ok : Nat → Prop} {A : Option Addr} {n c : Nat} {l : List Int} (h : Kd.R (Kd.int .i64) 3 w B ok (.slice A n c) l) : 0 < l.length → ∃ ad cur, A = some ad ∧ w.heap[ad.block]? = some (.cells cur 3 (0, 0)) := fun hl => by
  have h1 := Kd.R_reads' h
  obtain ⟨ad, e, _⟩ := h1.2.2.2.2 hl
  subst e
  obtain ⟨inner, ho⟩ := Kd.R_own h
  rcases ho.2 with ⟨e, _⟩ | ⟨b, cap, cur, e, hb, hc, _⟩
  · cases e
  · injection e with e1
    cases e1
    exact ⟨_, cur, rfl, hc⟩
theorem row_grown {w w' : World} {kz : Nat} {cz : Array Value} {A : Option Addr} {l : List Int} (hz : w.heap[kz]? = some (.cells cz 29 (0, 0))) (hg : w.grownBy w' (some kz)) (h : Kd.C (Kd.int .i64) w A l.length l) (ht : 0 < l.length → ∃ ad cur, A = some ad ∧ w.heap[ad.block]? = some (.cells cur 3 (0, 0))) : Kd.C (Kd.int .i64) w' A l.length l := by
  refine ⟨h.1, h.2.1, fun hp => ?_⟩
  obtain ⟨ad, e, hc⟩ := h.2.2 hp
  obtain ⟨ad', cur, e', hcur⟩ := ht hp
  obtain rfl : ad' = ad := Option.some.inj (e'.symm.trans e)
  refine ⟨ad', e, fun j p hj => ?_⟩
  obtain ⟨c, a1, a2, a3⟩ := hc j p hj
  refine ⟨c, a1, a2, fun i u hu => ?_⟩
  have e2 : (ad'.add (j * (Kd.int .i64).sz + i)).block = ad'.block := by unfold Addr.add; split <;> rfl
  rw [World.cell?_of_block (w := w) (by rw [e2]; exact hg.block _ (Array.getElem?_eq_some_iff.1 hcur).1 (fun e => by
    have e3 := Option.some.inj e
    rw [e3, hz] at hcur
    injection hcur with hcur
    injection hcur with _ hcur
    exact absurd hcur (by decide)))]
  exact a3 i u hu
theorem RdS.grown {w w' : World} {kz : Nat} {cz : Array Value} {A0 c0 A1 c1 A2 c2} {x : Smm} (h : RdS w A0 c0 A1 c1 A2 c2 x) (ht : Ty w A0 A1 A2 x) (hz : w.heap[kz]? = some (.cells cz 29 (0, 0))) (hg : w.grownBy w' (some kz)) : RdS w' A0 c0 A1 c1 A2 c2 x :=
  ⟨h.k0, h.k1, h.k2, row_grown hz hg h.r0 ht.t0, row_grown hz hg h.r1 ht.t1, row_grown hz hg h.r2 ht.t2⟩
theorem grownBy_cell (W : World) (b j : Nat) (v : Value) : W.grownBy (W.setCell ⟨b, j, none⟩ v) (some b) :=
  ⟨rfl, rfl, rfl, by simp, fun k _ hk => Below.heap_setCell _ _ _ k (fun e => hk (by rw [e]))⟩
theorem below_grown {W w w' : World} {kz : Nat} (hX : Below W.heap.size W w) (hk : W.heap.size ≤ kz) (hg : w.grownBy w' (some kz)) : Below W.heap.size W w' :=
  hX.trans ⟨hg.os, hg.tape, hg.output, hg.size, fun k hk2 => hg.block k (by have := hX.size; omega) (fun e => by have := Option.some.inj e; omega)⟩
theorem Bo.new {w : World} {A0 c0 A1 c1 A2 c2} {x : Smm} (h : RdS w A0 c0 A1 c1 A2 c2 x) : Bo (w.alloc (.cells #[.int .i64 x.n, .int .i64 x.e0, .int .i64 x.e1, .int .i64 x.e2, .slice A0 x.l0.length c0, .slice A1 x.l1.length c1, .slice A2 x.l2.length c2] 29)) w.heap.size A0 c0 A1 c1 A2 c2 x :=
  ⟨heap_alloc_new w _, h.below ((Below.refl w.heap.size w).alloc (Nat.le_refl _) _)⟩
def cmpM (k : Nat) (x y : Smm) : Option (Smm × Int) := (automaton_Compose.f k x.n x.e0 x.e1 x.e2 x.l0 x.l1 x.l2 y.n y.e0 y.e1 y.e2 y.l0 y.l1 y.l2).map fun t => (⟨t.1, t.2.1, t.2.2.1, t.2.2.2.1, t.2.2.2.2.1, t.2.2.2.2.2.1, t.2.2.2.2.2.2.1⟩, t.2.2.2.2.2.2.2)
def empM : Option Smm := automaton_Empty.f.map fun t => ⟨t.1, t.2.1, t.2.2.1, t.2.2.2.1, t.2.2.2.2.1, t.2.2.2.2.2.1, t.2.2.2.2.2.2⟩
def sumM (k : Nat) (x y : Smm) : Option Bool := ndjqkeep_Summaries.f k x.n x.e0 x.e1 x.e2 x.l0 x.l1 x.l2 y.n y.e0 y.e1 y.e2 y.l0 y.l1 y.l2
theorem cmpC (k : Nat) (x y z : Smm) (c : Int) (w : World) {A0 c0 A1 c1 A2 c2 B0 d0 B1 d1 B2 d2} (hx : RdS w A0 c0 A1 c1 A2 c2 x) (hy : RdS w B0 d0 B1 d1 B2 d2 y) (h : cmpM k x y = some (z, c)) :
    Calls Tryd.prog 20 #[.agg #[.int .i64 x.n, .int .i64 x.e0, .int .i64 x.e1, .int .i64 x.e2, .slice A0 x.l0.length c0, .slice A1 x.l1.length c1, .slice A2 x.l2.length c2], .agg #[.int .i64 y.n, .int .i64 y.e0, .int .i64 y.e1, .int .i64 y.e2, .slice B0 y.l0.length d0, .slice B1 y.l1.length d1, .slice B2 y.l2.length d2]] w fun e w' => ∃ E0 f0 E1 f1 E2 f2, e = .returned (.tuple #[.agg #[.int .i64 z.n, .int .i64 z.e0, .int .i64 z.e1, .int .i64 z.e2, .slice E0 z.l0.length f0, .slice E1 z.l1.length f1, .slice E2 z.l2.length f2], .int .i64 c]) ∧ RdS w' E0 f0 E1 f1 E2 f2 z ∧ Ty w' E0 E1 E2 z ∧ Below w.heap.size w w' := by
  obtain ⟨⟨r1, r2, r3, r4, r5, r6, r7, r8⟩, ht, he⟩ := Option.map_eq_some_iff.1 h
  cases he
  refine (automaton_Compose.calls k _ _ _ _ A0 c0 _ A1 c1 _ A2 c2 _ _ _ _ _ (fun k => k < w.heap.size) B0 d0 _ (fun k => k < w.heap.size) B1 d1 _ (fun k => k < w.heap.size) B2 d2 _ _ _ _ _ _ _ _ _ w hx.r0 hx.k0 hx.r1 hx.k1 hx.r2 hx.k2 (Kd.V_mk hy.k0 (Kd.C_F (Kd.heap_int _) hy.r0)) (Kd.V_mk hy.k1 (Kd.C_F (Kd.heap_int _) hy.r1)) (Kd.V_mk hy.k2 (Kd.C_F (Kd.heap_int _) hy.r2)) ht).mono ?_
  rintro e w' ⟨v4, v5, v6, rfl, h4, h5, h6, hb⟩
  obtain ⟨E0, f0, rfl⟩ := Kd.R_slice h4
  obtain ⟨E1, f1, rfl⟩ := Kd.R_slice h5
  obtain ⟨E2, f2, rfl⟩ := Kd.R_slice h6
  exact ⟨E0, f0, E1, f1, E2, f2, rfl, ⟨(Kd.R_reads' h4).2.1, (Kd.R_reads' h5).2.1, (Kd.R_reads' h6).2.1, (Kd.R_reads' h4).2.2, (Kd.R_reads' h5).2.2, (Kd.R_reads' h6).2.2⟩, ⟨ty_of h4, ty_of h5, ty_of h6⟩, hb⟩
theorem empC (z : Smm) (w : World) (h : empM = some z) :
    Calls Tryd.prog 15 #[] w fun e w' => ∃ E0 f0 E1 f1 E2 f2, e = .returned (.agg #[.int .i64 z.n, .int .i64 z.e0, .int .i64 z.e1, .int .i64 z.e2, .slice E0 z.l0.length f0, .slice E1 z.l1.length f1, .slice E2 z.l2.length f2]) ∧ RdS w' E0 f0 E1 f1 E2 f2 z ∧ Below w.heap.size w w' := by
  obtain ⟨⟨r1, r2, r3, r4, r5, r6, r7⟩, ht, he⟩ := Option.map_eq_some_iff.1 h
  cases he
  refine (automaton_Empty.calls _ _ _ _ _ _ _ w ht).mono ?_
  rintro e w' ⟨v4, v5, v6, rfl, h4, h5, h6, hb⟩
  obtain ⟨E0, f0, rfl⟩ := Kd.R_slice h4
  obtain ⟨E1, f1, rfl⟩ := Kd.R_slice h5
  obtain ⟨E2, f2, rfl⟩ := Kd.R_slice h6
  exact ⟨E0, f0, E1, f1, E2, f2, rfl, ⟨(Kd.R_reads' h4).2.1, (Kd.R_reads' h5).2.1, (Kd.R_reads' h6).2.1, (Kd.R_reads' h4).2.2, (Kd.R_reads' h5).2.2, (Kd.R_reads' h6).2.2⟩, hb⟩
theorem sumC (k : Nat) (x y : Smm) (r : Bool) (w : World) {A0 c0 A1 c1 A2 c2 B0 d0 B1 d1 B2 d2} (hx : RdS w A0 c0 A1 c1 A2 c2 x) (hy : RdS w B0 d0 B1 d1 B2 d2 y) (h : sumM k x y = some r) :
    Calls Tryd.prog 14 #[.agg #[.int .i64 x.n, .int .i64 x.e0, .int .i64 x.e1, .int .i64 x.e2, .slice A0 x.l0.length c0, .slice A1 x.l1.length c1, .slice A2 x.l2.length c2], .agg #[.int .i64 y.n, .int .i64 y.e0, .int .i64 y.e1, .int .i64 y.e2, .slice B0 y.l0.length d0, .slice B1 y.l1.length d1, .slice B2 y.l2.length d2]] w fun e w' => e = .returned (.bool r) ∧ Below w.heap.size w w' :=
  ndjqkeep_Summaries.calls k _ _ _ _ A0 c0 _ A1 c1 _ A2 c2 _ _ _ _ _ B0 d0 _ B1 d1 _ B2 d2 _ r w hx.r0 hx.k0 hx.r1 hx.k1 hx.r2 hx.k2 hy.r0 hy.k0 hy.r1 hy.k1 hy.r2 hy.k2 h
def Z7 : Array Value := #[.int .i64 0, .int .i64 0, .int .i64 0, .int .i64 0, .slice none 0 0, .slice none 0 0, .slice none 0 0]
structure Fs where
  v : Value
  kz : Nat
  E0 : Option Addr
  f0 : Nat
  E1 : Option Addr
  f1 : Nat
  E2 : Option Addr
  f2 : Nat
def Fz (W w' : World) (s : Fs) (z : Smm) : Prop :=
  Below W.heap.size W w' ∧ W.heap.size ≤ s.kz ∧ w'.heap[s.kz]? = some (.cells Z7 29 (0, 0)) ∧ RdS w' s.E0 s.f0 s.E1 s.f1 s.E2 s.f2 z ∧ Ty w' s.E0 s.E1 s.E2 z
theorem zero7 {w : World} {b : Nat} (h : w.heap[b]? = some (.cells Z7 29 (0, 0))) :
    w.cell? ⟨b, 0, none⟩ = some (.int .i64 0) ∧ w.cell? ⟨b, 1, none⟩ = some (.int .i64 0) ∧ w.cell? ⟨b, 2, none⟩ = some (.int .i64 0) ∧ w.cell? ⟨b, 3, none⟩ = some (.int .i64 0) ∧
      w.cell? ⟨b, 4, none⟩ = some (.slice none 0 0) ∧ w.cell? ⟨b, 5, none⟩ = some (.slice none 0 0) ∧ w.cell? ⟨b, 6, none⟩ = some (.slice none 0 0) ∧ ∀ j, w.frozen? ⟨b, j, none⟩ = false := by
  unfold Z7 at h
  refine ⟨?_, ?_, ?_, ?_, ?_, ?_, ?_, fun j => ?_⟩ <;> simp [World.cell?, World.frozen?, h]
theorem set7 {w : World} {kz : Nat} (h : w.heap[kz]? = some (.cells Z7 29 (0, 0))) (A0 : Option Addr) (c0 : Nat) (A1 : Option Addr) (c1 : Nat) (A2 : Option Addr) (c2 : Nat) (x : Smm) {w7 : World}
    (h7 : ((((((w.setCell ⟨kz, 0, none⟩ (.int .i64 x.n)).setCell ⟨kz, 1, none⟩ (.int .i64 x.e0)).setCell ⟨kz, 2, none⟩ (.int .i64 x.e1)).setCell ⟨kz, 3, none⟩ (.int .i64 x.e2)).setCell ⟨kz, 4, none⟩ (.slice A0 x.l0.length c0)).setCell ⟨kz, 5, none⟩ (.slice A1 x.l1.length c1)).setCell ⟨kz, 6, none⟩ (.slice A2 x.l2.length c2) = w7) :
    w7.heap[kz]? = some (.cells #[.int .i64 x.n, .int .i64 x.e0, .int .i64 x.e1, .int .i64 x.e2, .slice A0 x.l0.length c0, .slice A1 x.l1.length c1, .slice A2 x.l2.length c2] 29 (0, 0)) ∧ w.grownBy w7 (some kz) := by
  subst h7
  refine ⟨?_, (((((((grownBy_cell _ _ _ _).trans (grownBy_cell _ _ _ _)).trans (grownBy_cell _ _ _ _)).trans (grownBy_cell _ _ _ _)).trans (grownBy_cell _ _ _ _)).trans (grownBy_cell _ _ _ _)).trans (grownBy_cell _ _ _ _))⟩
  unfold Z7 at h
  rw [heap_setCell_same _ _ _ _ _ _ (heap_setCell_same _ _ _ _ _ _ (heap_setCell_same _ _ _ _ _ _ (heap_setCell_same _ _ _ _ _ _ (heap_setCell_same _ _ _ _ _ _ (heap_setCell_same _ _ _ _ _ _ (heap_setCell_same _ _ _ _ _ _ h))))))]
  rfl
def lensM (a : Smm) : Nat := a.l0.length + a.l1.length + a.l2.length
def lawM (k : Nat) (a b c : Smm) : Option Bool :=
  if lensM a ≤ 100000000000000 ∧ lensM b ≤ 100000000000000 ∧ lensM c ≤ 100000000000000 then
    if 150 < lensM a + lensM b + lensM c then ndjqlaw18_awake.f k else
    (cmpM k a b).bind fun ab => (cmpM k b c).bind fun bc =>
    if ab.2 = 0 ∧ bc.2 = 0 then
      (cmpM k ab.1 c).bind fun x => (cmpM k a bc.1).bind fun y => empM.bind fun em => (cmpM k em a).bind fun u => (cmpM k a em).bind fun v =>
      if x.2 = y.2 ∧ u.2 = 0 ∧ v.2 = 0 then
        (sumM k x.1 y.1).bind fun s1 => (sumM k u.1 a).bind fun s2 => (sumM k v.1 a).bind fun s3 => if s1 = true ∧ s2 = true ∧ s3 = true then ndjqlaw18_awake.f k else none
      else none
    else ndjqlaw18_awake.f k
  else none
theorem lawC (k : Nat) (a b c : Smm) (r : Bool) (w : World) {A0 c0 A1 c1 A2 c2 B0 d0 B1 d1 B2 d2 C0 e0 C1 e1 C2 e2} (ha : RdS w A0 c0 A1 c1 A2 c2 a) (hb : RdS w B0 d0 B1 d1 B2 d2 b) (hc : RdS w C0 e0 C1 e1 C2 e2 c) (hG : GlbLaid w) (h : lawM k a b c = some r) :
    Calls Tryd.prog 7 #[.agg #[.int .i64 a.n, .int .i64 a.e0, .int .i64 a.e1, .int .i64 a.e2, .slice A0 a.l0.length c0, .slice A1 a.l1.length c1, .slice A2 a.l2.length c2], .agg #[.int .i64 b.n, .int .i64 b.e0, .int .i64 b.e1, .int .i64 b.e2, .slice B0 b.l0.length d0, .slice B1 b.l1.length d1, .slice B2 b.l2.length d2], .agg #[.int .i64 c.n, .int .i64 c.e0, .int .i64 c.e1, .int .i64 c.e2, .slice C0 c.l0.length e0, .slice C1 c.l1.length e1, .slice C2 c.l2.length e2]] w fun e w' => e = .returned (.bool r) ∧ Below w.heap.size w w' := by
  unfold lawM at h
  by_cases hs : lensM a ≤ 100000000000000 ∧ lensM b ≤ 100000000000000 ∧ lensM c ≤ 100000000000000
  rotate_left
  · rw [if_neg hs] at h; cases h
  rw [if_pos hs] at h
  have HG := Aside0.mk hG
  have HA0 := Aside0.mk (Bo.new ha)
  have hw1 := (Below.refl w.heap.size w).alloc (Nat.le_refl _) (.cells #[.int .i64 a.n, .int .i64 a.e0, .int .i64 a.e1, .int .i64 a.e2, .slice A0 a.l0.length c0, .slice A1 a.l1.length c1, .slice A2 a.l2.length c2] 29)
  have HB0 := Aside0.mk (Bo.new (hb.below hw1))
  have hw2 := hw1.alloc (by simp) (.cells #[.int .i64 b.n, .int .i64 b.e0, .int .i64 b.e1, .int .i64 b.e2, .slice B0 b.l0.length d0, .slice B1 b.l1.length d1, .slice B2 b.l2.length d2] 29)
  have HC0 := Aside0.mk (Bo.new (hc.below hw2))
  have hw3 := hw2.alloc (by simp; omega) (.cells #[.int .i64 c.n, .int .i64 c.e0, .int .i64 c.e1, .int .i64 c.e2, .slice C0 c.l0.length e0, .slice C1 c.l1.length e1, .slice C2 c.l2.length e2] 29)
  have HW3 := Aside0.mk hw3
  obtain ⟨n0, hn0⟩ : ∃ n : Int, (a.l0.length : Int) = n := ⟨_, rfl⟩
  obtain ⟨n1, hn1⟩ : ∃ n : Int, (a.l1.length : Int) = n := ⟨_, rfl⟩
  obtain ⟨n2, hn2⟩ : ∃ n : Int, (a.l2.length : Int) = n := ⟨_, rfl⟩
  obtain ⟨n3, hn3⟩ : ∃ n : Int, (b.l0.length : Int) = n := ⟨_, rfl⟩
  obtain ⟨n4, hn4⟩ : ∃ n : Int, (b.l1.length : Int) = n := ⟨_, rfl⟩
  obtain ⟨n5, hn5⟩ : ∃ n : Int, (b.l2.length : Int) = n := ⟨_, rfl⟩
  obtain ⟨n6, hn6⟩ : ∃ n : Int, (c.l0.length : Int) = n := ⟨_, rfl⟩
  obtain ⟨n7, hn7⟩ : ∃ n : Int, (c.l1.length : Int) = n := ⟨_, rfl⟩
  obtain ⟨n8, hn8⟩ : ∃ n : Int, (c.l2.length : Int) = n := ⟨_, rfl⟩
  have hx0 : (150 < lensM a + lensM b + lensM c) ↔ (150 : Int) < n0 + n1 + n2 + n3 + n4 + n5 + n6 + n7 + n8 := by unfold lensM; omega
  unfold lensM at hs
  have hsz : 0 ≤ n0 ∧ 0 ≤ n1 ∧ 0 ≤ n2 ∧ 0 ≤ n3 ∧ 0 ≤ n4 ∧ 0 ≤ n5 ∧ 0 ≤ n6 ∧ 0 ≤ n7 ∧ 0 ≤ n8 ∧ n0 + n1 + n2 + n3 + n4 + n5 + n6 + n7 + n8 ≤ 300000000000000 := by omega
  obtain ⟨m2, hm2⟩ : ∃ m : Int, n0 + n1 = m := ⟨_, rfl⟩
  obtain ⟨m3, hm3⟩ : ∃ m : Int, m2 + n2 = m := ⟨_, rfl⟩
  obtain ⟨m4, hm4⟩ : ∃ m : Int, m3 + n3 = m := ⟨_, rfl⟩
  obtain ⟨m5, hm5⟩ : ∃ m : Int, m4 + n4 = m := ⟨_, rfl⟩
  obtain ⟨m6, hm6⟩ : ∃ m : Int, m5 + n5 = m := ⟨_, rfl⟩
  obtain ⟨m7, hm7⟩ : ∃ m : Int, m6 + n6 = m := ⟨_, rfl⟩
  obtain ⟨m8, hm8⟩ : ∃ m : Int, m7 + n7 = m := ⟨_, rfl⟩
  obtain ⟨m9, hm9⟩ : ∃ m : Int, m8 + n8 = m := ⟨_, rfl⟩
  have hw2 : IntKind.i64.wrap m2 = m2 := by rw [i64_w]; unfold Go.RowKit.wrap64; omega
  have hv2 : Go.RowKit.wrap64 m2 = m2 := by unfold Go.RowKit.wrap64; omega
  have hw3 : IntKind.i64.wrap m3 = m3 := by rw [i64_w]; unfold Go.RowKit.wrap64; omega
  have hv3 : Go.RowKit.wrap64 m3 = m3 := by unfold Go.RowKit.wrap64; omega
  have hw4 : IntKind.i64.wrap m4 = m4 := by rw [i64_w]; unfold Go.RowKit.wrap64; omega
  have hv4 : Go.RowKit.wrap64 m4 = m4 := by unfold Go.RowKit.wrap64; omega
  have hw5 : IntKind.i64.wrap m5 = m5 := by rw [i64_w]; unfold Go.RowKit.wrap64; omega
  have hv5 : Go.RowKit.wrap64 m5 = m5 := by unfold Go.RowKit.wrap64; omega
  have hw6 : IntKind.i64.wrap m6 = m6 := by rw [i64_w]; unfold Go.RowKit.wrap64; omega
  have hv6 : Go.RowKit.wrap64 m6 = m6 := by unfold Go.RowKit.wrap64; omega
  have hw7 : IntKind.i64.wrap m7 = m7 := by rw [i64_w]; unfold Go.RowKit.wrap64; omega
  have hv7 : Go.RowKit.wrap64 m7 = m7 := by unfold Go.RowKit.wrap64; omega
  have hw8 : IntKind.i64.wrap m8 = m8 := by rw [i64_w]; unfold Go.RowKit.wrap64; omega
  have hv8 : Go.RowKit.wrap64 m8 = m8 := by unfold Go.RowKit.wrap64; omega
  have hw9 : IntKind.i64.wrap m9 = m9 := by rw [i64_w]; unfold Go.RowKit.wrap64; omega
  have hv9 : Go.RowKit.wrap64 m9 = m9 := by unfold Go.RowKit.wrap64; omega
  have hx1 : n0 + n1 + n2 + n3 + n4 + n5 + n6 + n7 + n8 = m9 := by omega
  rw [hx1] at hx0
  clear hsz hx1
  clear ha hb hc hw1 hw2 hw3 hG hs
  go_enter Tryd.func7, Tryd.ntmps7
  go_upto_region 1 with fail
  obtain ⟨W1, hW1⟩ : ∃ W1, ((w.alloc (.cells #[.int .i64 a.n, .int .i64 a.e0, .int .i64 a.e1, .int .i64 a.e2, .slice A0 a.l0.length c0, .slice A1 a.l1.length c1, .slice A2 a.l2.length c2] 29)).alloc (.cells #[.int .i64 b.n, .int .i64 b.e0, .int .i64 b.e1, .int .i64 b.e2, .slice B0 b.l0.length d0, .slice B1 b.l1.length d1, .slice B2 b.l2.length d2] 29)).alloc (.cells #[.int .i64 c.n, .int .i64 c.e0, .int .i64 c.e1, .int .i64 c.e2, .slice C0 c.l0.length e0, .slice C1 c.l1.length e1, .slice C2 c.l2.length e2] 29) = W1 := ⟨_, rfl⟩
  have HX : Aside0 (Below w.heap.size w W1) := ⟨by rw [← hW1]; exact HW3.out⟩
  have HC : Aside0 (Bo W1 (w.heap.size + 1 + 1) C0 e0 C1 e1 C2 e2 c) := ⟨by have h := HC0.out; have e : ((w.alloc (.cells #[.int .i64 a.n, .int .i64 a.e0, .int .i64 a.e1, .int .i64 a.e2, .slice A0 a.l0.length c0, .slice A1 a.l1.length c1, .slice A2 a.l2.length c2] 29)).alloc (.cells #[.int .i64 b.n, .int .i64 b.e0, .int .i64 b.e1, .int .i64 b.e2, .slice B0 b.l0.length d0, .slice B1 b.l1.length d1, .slice B2 b.l2.length d2] 29)).heap.size = w.heap.size + 1 + 1 := (by simp); rw [e] at h; rw [← hW1]; exact h⟩
  have HB : Aside0 (Bo W1 (w.heap.size + 1) B0 d0 B1 d1 B2 d2 b) := ⟨by have h := HB0.out.below ((Below.refl _ _).alloc (Nat.le_refl _) (.cells #[.int .i64 c.n, .int .i64 c.e0, .int .i64 c.e1, .int .i64 c.e2, .slice C0 c.l0.length e0, .slice C1 c.l1.length e1, .slice C2 c.l2.length e2] 29)); have e : (w.alloc (.cells #[.int .i64 a.n, .int .i64 a.e0, .int .i64 a.e1, .int .i64 a.e2, .slice A0 a.l0.length c0, .slice A1 a.l1.length c1, .slice A2 a.l2.length c2] 29)).heap.size = w.heap.size + 1 := (by simp); rw [e] at h; rw [← hW1]; exact h⟩
  have HA : Aside0 (Bo W1 w.heap.size A0 c0 A1 c1 A2 c2 a) := ⟨by have h := (HA0.out.below ((Below.refl _ _).alloc (Nat.le_refl _) (.cells #[.int .i64 b.n, .int .i64 b.e0, .int .i64 b.e1, .int .i64 b.e2, .slice B0 b.l0.length d0, .slice B1 b.l1.length d1, .slice B2 b.l2.length d2] 29))).below ((Below.refl _ _).alloc (Nat.le_refl _) (.cells #[.int .i64 c.n, .int .i64 c.e0, .int .i64 c.e1, .int .i64 c.e2, .slice C0 c.l0.length e0, .slice C1 c.l1.length e1, .slice C2 c.l2.length e2] 29)); rw [← hW1]; exact h⟩
  rw [hW1]
  clear hW1 HW3 HA0 HB0 HC0
  obtain ⟨p0, p1, p2, p3, p4, p5, p6⟩ := HA.out.cells
  obtain ⟨q0, q1, q2, q3, q4, q5, q6⟩ := HB.out.cells
  obtain ⟨t0, t1, t2, t3, t4, t5, t6⟩ := HC.out.cells
  by_cases hbig : 150 < lensM a + lensM b + lensM c
  · rw [if_pos hbig] at h
    have HAW := Aside0.mk h
    have g0 : decide (m9 > 150) = true := decide_eq_true (hx0.1 hbig)
    clear h hbig hx0
    go_wp2_with (first | (go_at_call 9; (with_reducible refine (ndjqlaw18_awake.calls k r _ (HG.out.below HX.out) HAW.out).mono ?_); rintro e we ⟨rfl, hb⟩; have HX2 := Aside0.mk (below_step HX.out hb); clear HX; have HX := HX2; clear HX2))
    go_ret
    exact ⟨rfl, HX.out⟩
  rw [if_neg hbig] at h
  have g0 : decide (m9 > 150) = false := decide_eq_false (fun e => hbig (hx0.2 e))
  clear hbig hx0
  obtain ⟨⟨ab, cab⟩, hab, h⟩ := Option.bind_eq_some_iff.1 h
  obtain ⟨⟨bc, cbc⟩, hbc, h⟩ := Option.bind_eq_some_iff.1 h
  have HH := Aside0.mk h
  have Hab := Aside0.mk hab
  have Hbc := Aside0.mk hbc
  clear h hab hbc
  go_upto_region 4 with (first | (go_at_call 20; refine (cmpC k a b ab cab _ HA.out.rd HB.out.rd Hab.out).mono ?_; rintro e w3 ⟨E0, f0, E1, f1, E2, f2, rfl, hr, htz, hb⟩; have HRz := Aside0.mk hr; have HA2 := Aside0.mk (HA.out.below hb); clear HA; have HA := HA2; clear HA2; have HB2 := Aside0.mk (HB.out.below hb); clear HB; have HB := HB2; clear HB2; have HC2 := Aside0.mk (HC.out.below hb); clear HC; have HC := HC2; clear HC2; have HX2 := Aside0.mk (below_step HX.out hb); clear HX; have HX := HX2; clear HX2; clear hr htz hb))
  have ha := (Below.refl w3.heap.size w3).alloc (Nat.le_refl _) (.cells #[.int .i64 ab.n, .int .i64 ab.e0, .int .i64 ab.e1, .int .i64 ab.e2, .slice E0 ab.l0.length f0, .slice E1 ab.l1.length f1, .slice E2 ab.l2.length f2] 29)
  have HAB := Aside0.mk (Bo.new HRz.out)
  have HA2 := Aside0.mk (HA.out.below ha); clear HA; have HA := HA2; clear HA2; have HB2 := Aside0.mk (HB.out.below ha); clear HB; have HB := HB2; clear HB2; have HC2 := Aside0.mk (HC.out.below ha); clear HC; have HC := HC2; clear HC2; have HX2 := Aside0.mk (below_step HX.out ha); clear HX; have HX := HX2; clear HX2
  clear ha HRz
  clear p0 p1 p2 p3 p4 p5 p6
  clear q0 q1 q2 q3 q4 q5 q6
  clear t0 t1 t2 t3 t4 t5 t6
  clear g0 hv2 hv3 hv4 hv5 hv6 hv7 hv8 hv9 hw2 hw3 hw4 hw5 hw6 hw7 hw8 hw9 hm2 hm3 hm4 hm5 hm6 hm7 hm8 hm9 hn0 hn1 hn2 hn3 hn4 hn5 hn6 hn7 hn8
  obtain ⟨p0, p1, p2, p3, p4, p5, p6⟩ := HB.out.cells
  obtain ⟨q0, q1, q2, q3, q4, q5, q6⟩ := HC.out.cells
  go_upto_region 5 with (first | (go_at_call 20; refine (cmpC k b c bc cbc _ HB.out.rd HC.out.rd Hbc.out).mono ?_; rintro e w4 ⟨F0, g0, F1, g1, F2, g2, rfl, hr, htz, hb⟩; have HRz := Aside0.mk hr; have HA2 := Aside0.mk (HA.out.below hb); clear HA; have HA := HA2; clear HA2; have HB2 := Aside0.mk (HB.out.below hb); clear HB; have HB := HB2; clear HB2; have HC2 := Aside0.mk (HC.out.below hb); clear HC; have HC := HC2; clear HC2; have HAB2 := Aside0.mk (HAB.out.below hb); clear HAB; have HAB := HAB2; clear HAB2; have HX2 := Aside0.mk (below_step HX.out hb); clear HX; have HX := HX2; clear HX2; clear hr htz hb))
  have ha := (Below.refl w4.heap.size w4).alloc (Nat.le_refl _) (.cells #[.int .i64 bc.n, .int .i64 bc.e0, .int .i64 bc.e1, .int .i64 bc.e2, .slice F0 bc.l0.length g0, .slice F1 bc.l1.length g1, .slice F2 bc.l2.length g2] 29)
  have HBC := Aside0.mk (Bo.new HRz.out)
  have HA2 := Aside0.mk (HA.out.below ha); clear HA; have HA := HA2; clear HA2; have HB2 := Aside0.mk (HB.out.below ha); clear HB; have HB := HB2; clear HB2; have HC2 := Aside0.mk (HC.out.below ha); clear HC; have HC := HC2; clear HC2; have HAB2 := Aside0.mk (HAB.out.below ha); clear HAB; have HAB := HAB2; clear HAB2; have HX2 := Aside0.mk (below_step HX.out ha); clear HX; have HX := HX2; clear HX2
  clear ha HRz
  clear p0 p1 p2 p3 p4 p5 p6
  clear q0 q1 q2 q3 q4 q5 q6
  have h := HH.out
  clear HH
  (try dsimp only at h)
  by_cases hcode : cab = 0 ∧ cbc = 0
  rotate_left
  · rw [if_neg hcode] at h
    have HAW := Aside0.mk h
    clear h
    by_cases h1 : cab = 0
    · subst h1
      have h2 : cbc ≠ 0 := fun e => hcode ⟨rfl, e⟩
      have h3 : (cbc == 0) = false := beq_eq_false_iff_ne.mpr h2
      clear hcode
      go_wp2_with (first | (go_at_call 9; (with_reducible refine (ndjqlaw18_awake.calls k r _ (HG.out.below HX.out) HAW.out).mono ?_); rintro e we ⟨rfl, hb⟩; have HX2 := Aside0.mk (below_step HX.out hb); clear HX; have HX := HX2; clear HX2))
      go_ret
      exact ⟨rfl, HX.out⟩
    · have h3 : (cab == 0) = false := beq_eq_false_iff_ne.mpr h1
      clear hcode
      go_wp2_with (first | (go_at_call 9; (with_reducible refine (ndjqlaw18_awake.calls k r _ (HG.out.below HX.out) HAW.out).mono ?_); rintro e we ⟨rfl, hb⟩; have HX2 := Aside0.mk (below_step HX.out hb); clear HX; have HX := HX2; clear HX2))
      go_ret
      exact ⟨rfl, HX.out⟩
  · obtain ⟨rfl, rfl⟩ := hcode
    rw [if_pos ⟨rfl, rfl⟩] at h
    obtain ⟨⟨x, cx⟩, hx, h1⟩ := Option.bind_eq_some_iff.1 h
    clear h
    obtain ⟨⟨y, cy⟩, hy, h2⟩ := Option.bind_eq_some_iff.1 h1
    clear h1
    obtain ⟨em, hem, h3⟩ := Option.bind_eq_some_iff.1 h2
    clear h2
    obtain ⟨⟨u, cu⟩, hu, h4⟩ := Option.bind_eq_some_iff.1 h3
    clear h3
    obtain ⟨⟨v, cv⟩, hv, h5⟩ := Option.bind_eq_some_iff.1 h4
    clear h4
    (try dsimp only at h5)
    by_cases hc3 : cx = cy ∧ cu = 0 ∧ cv = 0
    rotate_left
    · rw [if_neg hc3] at h5; cases h5
    rw [if_pos hc3] at h5
    obtain ⟨rfl, rfl, rfl⟩ := hc3
    obtain ⟨s1, hs1, h6⟩ := Option.bind_eq_some_iff.1 h5
    clear h5
    obtain ⟨s2, hs2, h7⟩ := Option.bind_eq_some_iff.1 h6
    clear h6
    obtain ⟨s3, hs3, h8⟩ := Option.bind_eq_some_iff.1 h7
    clear h7
    by_cases hc4 : s1 = true ∧ s2 = true ∧ s3 = true
    rotate_left
    · rw [if_neg hc4] at h8; cases h8
    rw [if_pos hc4] at h8
    obtain ⟨rfl, rfl, rfl⟩ := hc4
    have HAW := Aside0.mk h8
    have Hx := Aside0.mk hx
    have Hy := Aside0.mk hy
    have Hem := Aside0.mk hem
    have Hu := Aside0.mk hu
    have Hv := Aside0.mk hv
    have Hs1 : Aside0 (sumM k x y = some true) := ⟨hs1⟩
    have Hs2 : Aside0 (sumM k u a = some true) := ⟨hs2⟩
    have Hs3 : Aside0 (sumM k v a = some true) := ⟨hs3⟩
    clear h8 hx hy hem hu hv hs1 hs2 hs3
    obtain ⟨p0, p1, p2, p3, p4, p5, p6⟩ := HAB.out.cells
    obtain ⟨q0, q1, q2, q3, q4, q5, q6⟩ := HC.out.cells
    go_upto_region 8 with (first | (go_at_call 20; refine (cmpC k ab c x cx _ HAB.out.rd HC.out.rd Hx.out).mono ?_; rintro e w7 ⟨X0, x0, X1, x1, X2, x2, rfl, hr, htz, hb⟩; have HRz := Aside0.mk hr; have HA2 := Aside0.mk (HA.out.below hb); clear HA; have HA := HA2; clear HA2; have HB2 := Aside0.mk (HB.out.below hb); clear HB; have HB := HB2; clear HB2; have HC2 := Aside0.mk (HC.out.below hb); clear HC; have HC := HC2; clear HC2; have HAB2 := Aside0.mk (HAB.out.below hb); clear HAB; have HAB := HAB2; clear HAB2; have HBC2 := Aside0.mk (HBC.out.below hb); clear HBC; have HBC := HBC2; clear HBC2; have HX2 := Aside0.mk (below_step HX.out hb); clear HX; have HX := HX2; clear HX2; clear hr htz hb))
    have ha := (Below.refl w7.heap.size w7).alloc (Nat.le_refl _) (.cells #[.int .i64 x.n, .int .i64 x.e0, .int .i64 x.e1, .int .i64 x.e2, .slice X0 x.l0.length x0, .slice X1 x.l1.length x1, .slice X2 x.l2.length x2] 29)
    have HXx := Aside0.mk (Bo.new HRz.out)
    have HA2 := Aside0.mk (HA.out.below ha); clear HA; have HA := HA2; clear HA2; have HB2 := Aside0.mk (HB.out.below ha); clear HB; have HB := HB2; clear HB2; have HC2 := Aside0.mk (HC.out.below ha); clear HC; have HC := HC2; clear HC2; have HAB2 := Aside0.mk (HAB.out.below ha); clear HAB; have HAB := HAB2; clear HAB2; have HBC2 := Aside0.mk (HBC.out.below ha); clear HBC; have HBC := HBC2; clear HBC2; have HX2 := Aside0.mk (below_step HX.out ha); clear HX; have HX := HX2; clear HX2
    clear ha HRz
    clear p0 p1 p2 p3 p4 p5 p6
    clear q0 q1 q2 q3 q4 q5 q6
    obtain ⟨p0, p1, p2, p3, p4, p5, p6⟩ := HA.out.cells
    obtain ⟨q0, q1, q2, q3, q4, q5, q6⟩ := HBC.out.cells
    go_upto_region 9 with (first | (go_at_call 20; refine (cmpC k a bc y cx _ HA.out.rd HBC.out.rd Hy.out).mono ?_; rintro e w8 ⟨Y0, y0, Y1, y1, Y2, y2, rfl, hr, htz, hb⟩; have HRz := Aside0.mk hr; have HA2 := Aside0.mk (HA.out.below hb); clear HA; have HA := HA2; clear HA2; have HB2 := Aside0.mk (HB.out.below hb); clear HB; have HB := HB2; clear HB2; have HC2 := Aside0.mk (HC.out.below hb); clear HC; have HC := HC2; clear HC2; have HAB2 := Aside0.mk (HAB.out.below hb); clear HAB; have HAB := HAB2; clear HAB2; have HBC2 := Aside0.mk (HBC.out.below hb); clear HBC; have HBC := HBC2; clear HBC2; have HXx2 := Aside0.mk (HXx.out.below hb); clear HXx; have HXx := HXx2; clear HXx2; have HX2 := Aside0.mk (below_step HX.out hb); clear HX; have HX := HX2; clear HX2; clear hr htz hb))
    have ha := (Below.refl w8.heap.size w8).alloc (Nat.le_refl _) (.cells #[.int .i64 y.n, .int .i64 y.e0, .int .i64 y.e1, .int .i64 y.e2, .slice Y0 y.l0.length y0, .slice Y1 y.l1.length y1, .slice Y2 y.l2.length y2] 29)
    have HY := Aside0.mk (Bo.new HRz.out)
    have HA2 := Aside0.mk (HA.out.below ha); clear HA; have HA := HA2; clear HA2; have HB2 := Aside0.mk (HB.out.below ha); clear HB; have HB := HB2; clear HB2; have HC2 := Aside0.mk (HC.out.below ha); clear HC; have HC := HC2; clear HC2; have HAB2 := Aside0.mk (HAB.out.below ha); clear HAB; have HAB := HAB2; clear HAB2; have HBC2 := Aside0.mk (HBC.out.below ha); clear HBC; have HBC := HBC2; clear HBC2; have HXx2 := Aside0.mk (HXx.out.below ha); clear HXx; have HXx := HXx2; clear HXx2; have HX2 := Aside0.mk (below_step HX.out ha); clear HX; have HX := HX2; clear HX2
    clear ha HRz
    clear p0 p1 p2 p3 p4 p5 p6
    clear q0 q1 q2 q3 q4 q5 q6
    clear HB HC HAB HBC
    obtain ⟨W9, hW9⟩ : ∃ W9, w8.alloc (.cells #[.int .i64 y.n, .int .i64 y.e0, .int .i64 y.e1, .int .i64 y.e2, .slice Y0 y.l0.length y0, .slice Y1 y.l1.length y1, .slice Y2 y.l2.length y2] 29) = W9 := ⟨_, rfl⟩
    rw [hW9] at HA HXx HY HX
    rw [hW9]
    clear hW9
    have HX0 := HX
    clear HX
    have HX := Aside0.mk (Below.refl W9.heap.size W9).drew
    refine Go.Proofs.YtjejjhpmiinanaaDoorW.PrintLast.start_ (n := 9) (S := fun w' => w'.cell? ⟨w.heap.size, 0, none⟩ = some (.int .i64 a.n) ∧ w'.cell? ⟨w.heap.size, 1, none⟩ = some (.int .i64 a.e0) ∧ w'.cell? ⟨w.heap.size, 2, none⟩ = some (.int .i64 a.e1) ∧ w'.cell? ⟨w.heap.size, 3, none⟩ = some (.int .i64 a.e2) ∧ w'.cell? ⟨w.heap.size, 4, none⟩ = some (.slice A0 a.l0.length c0) ∧ w'.cell? ⟨w.heap.size, 5, none⟩ = some (.slice A1 a.l1.length c1) ∧ w'.cell? ⟨w.heap.size, 6, none⟩ = some (.slice A2 a.l2.length c2)) (ds := []) #[false, false, false, false, false, false, false, false, false] (by kernel_rfl) rfl (by rfl) (HA.out.below HX.out).cells (fun hS => ?_)
    refine Go.Proofs.YtjejjhpmiinanaaDoorW.PrintLast.take_ (i := 1) (N := some 96) (v := (.agg #[.int .i64 a.n, .int .i64 a.e0, .int .i64 a.e1, .int .i64 a.e2, .slice A0 a.l0.length c0, .slice A1 a.l1.length c1, .slice A2 a.l2.length c2])) #[false, true, false, false, false, false, false, false, false] rfl rfl (by kernel_rfl) (fun _ _ _ h => h) (Or.inl ⟨by rfl, by intro w hSw; (try dsimp only at hSw); go_simp⟩) hS rfl ?_
    try simp only [Act.put, List.setIfInBounds_toArray, List.set_cons_zero, List.set_cons_succ]
    refine Go.Proofs.YtjejjhpmiinanaaDoorW.PrintLast.join_ (σ := Fs) 2 #[true, true, true, true, true, true, true, false, false] (fun s => [(95, s.v), (97, (.tuple #[.agg #[.int .i64 u.n, .int .i64 u.e0, .int .i64 u.e1, .int .i64 u.e2, .slice s.E0 u.l0.length s.f0, .slice s.E1 u.l1.length s.f1, .slice s.E2 u.l2.length s.f2], .int .i64 0])), (94, (.tuple #[.agg #[.int .i64 u.n, .int .i64 u.e0, .int .i64 u.e1, .int .i64 u.e2, .slice s.E0 u.l0.length s.f0, .slice s.E1 u.l1.length s.f1, .slice s.E2 u.l2.length s.f2], .int .i64 0])), (98, (.agg #[.int .i64 u.n, .int .i64 u.e0, .int .i64 u.e1, .int .i64 u.e2, .slice s.E0 u.l0.length s.f0, .slice s.E1 u.l1.length s.f1, .slice s.E2 u.l2.length s.f2])), (99, .int .i64 0), (13, .pointer (some ⟨s.kz, 0, none⟩))]) (fun s w' => Fz W9 w' s u) (fun s w' hF => ?_) (fun hj => ?_)
    rotate_left
    refine Go.Proofs.YtjejjhpmiinanaaDoorW.PrintLast.two_ (i := 0) (j := 6) (Ni := some 95) (Nj := some 13) #[true, true, false, false, false, false, false, false, false] #[false, true, false, false, false, false, true, false, false] rfl rfl rfl rfl (by kernel_rfl) (by decide) (by decide) ?_ ?_
    · skip
      intro K hK
      go_simp
      go_at_call 15; (with_reducible refine (empC em _ Hem.out).mono ?_); rintro e we ⟨G0, g0, G1, g1, G2, g2, rfl, hr, hb⟩; have HEm := Aside0.mk hr; have HX2 := Aside0.mk (HX.out.trans (hb.mono (below_size HX.out))); clear HX; have HX := HX2; clear HX2
      refine hK.out _ _ (HA.out.below HX.out).cells (fun hS => ?_)
      clear hK K
      try simp only [Act.put, List.setIfInBounds_toArray, List.set_cons_zero, List.set_cons_succ]
      refine Go.Proofs.YtjejjhpmiinanaaDoorW.PrintLast.two_ (i := 2) (j := 6) (Ni := some 97) (Nj := some 13) #[true, true, true, false, false, false, false, false, false] #[true, true, false, false, false, false, true, false, false] rfl rfl rfl rfl (by kernel_rfl) (by decide) (by decide) ?_ ?_
      · skip
        intro K hK
        go_simp
        go_at_call 20; refine (cmpC k em a u 0 _ HEm.out (HA.out.below HX.out).rd Hu.out).mono ?_; rintro e wq ⟨E0, f0, E1, f1, E2, f2, rfl, hr, htz, hb⟩; have HRz := Aside0.mk hr; have HTz := Aside0.mk htz; have HX2 := Aside0.mk (HX.out.trans (hb.mono (below_size HX.out))); clear HX; have HX := HX2; clear HX2
        refine hK.out _ _ (HA.out.below HX.out).cells (fun hS => ?_)
        clear hK K
        try simp only [Act.put, List.setIfInBounds_toArray, List.set_cons_zero, List.set_cons_succ]
        refine Go.Proofs.YtjejjhpmiinanaaDoorW.PrintLast.take_ (i := 3) (N := some 94) (v := (.tuple #[.agg #[.int .i64 u.n, .int .i64 u.e0, .int .i64 u.e1, .int .i64 u.e2, .slice E0 u.l0.length f0, .slice E1 u.l1.length f1, .slice E2 u.l2.length f2], .int .i64 0])) #[true, true, true, true, false, false, false, false, false] rfl rfl (by kernel_rfl) (fun _ _ _ h => h) (Or.inl ⟨by rfl, by intro w hSw; (try dsimp only at hSw); go_simp⟩) hS rfl ?_
        try simp only [Act.put, List.setIfInBounds_toArray, List.set_cons_zero, List.set_cons_succ]
        refine Go.Proofs.YtjejjhpmiinanaaDoorW.PrintLast.take_ (i := 4) (N := some 98) (v := (.agg #[.int .i64 u.n, .int .i64 u.e0, .int .i64 u.e1, .int .i64 u.e2, .slice E0 u.l0.length f0, .slice E1 u.l1.length f1, .slice E2 u.l2.length f2])) #[true, true, true, true, true, false, false, false, false] rfl rfl (by kernel_rfl) (fun _ _ _ h => h) (Or.inl ⟨by rfl, by intro w hSw; (try dsimp only at hSw); go_simp⟩) hS rfl ?_
        try simp only [Act.put, List.setIfInBounds_toArray, List.set_cons_zero, List.set_cons_succ]
        refine Go.Proofs.YtjejjhpmiinanaaDoorW.PrintLast.take_ (i := 5) (N := some 99) (v := (.int .i64 0)) #[true, true, true, true, true, true, false, false, false] rfl rfl (by kernel_rfl) (fun _ _ _ h => h) (Or.inl ⟨by rfl, by intro w hSw; (try dsimp only at hSw); go_simp⟩) hS rfl ?_
        try simp only [Act.put, List.setIfInBounds_toArray, List.set_cons_zero, List.set_cons_succ]
        refine Go.Proofs.YtjejjhpmiinanaaDoorW.PrintLast.one_ (i := 6) (N := some 13) #[true, true, true, true, true, true, true, false, false] rfl rfl (by kernel_rfl) (by decide) ?_
        intro K hK
        go_simp
        have ha := (Below.refl wq.heap.size wq).alloc (Nat.le_refl _) (.cells Z7 29)
        have HZ : Aside0 ((wq.alloc (.cells Z7 29)).heap[wq.heap.size]? = some (.cells Z7 29 (0, 0))) := ⟨heap_alloc_new _ _⟩
        have HKz : Aside0 (W9.heap.size ≤ wq.heap.size) := ⟨below_size HX.out⟩
        have HRz2 := Aside0.mk (HRz.out.below ha); clear HRz; have HRz := HRz2; clear HRz2; have HTz2 := Aside0.mk (HTz.out.below ha); clear HTz; have HTz := HTz2; clear HTz2
        have HX2 := Aside0.mk (HX.out.trans (ha.mono (below_size HX.out))); clear HX; have HX := HX2; clear HX2
        clear ha
        refine hK.out _ _ (HA.out.below HX.out).cells (fun hS => ?_)
        clear hK K
        try simp only [Act.put, List.setIfInBounds_toArray, List.set_cons_zero, List.set_cons_succ]
        have hj2 := hj ⟨.agg #[.int .i64 em.n, .int .i64 em.e0, .int .i64 em.e1, .int .i64 em.e2, .slice G0 em.l0.length g0, .slice G1 em.l1.length g1, .slice G2 em.l2.length g2], wq.heap.size, E0, f0, E1, f1, E2, f2⟩ _ ⟨HX.out, HKz.out, HZ.out, HRz.out, HTz.out⟩; (try simp only [putAll, Act.put, List.setIfInBounds_toArray, List.set_cons_zero, List.set_cons_succ] at hj2); exact hj2
      · skip
        intro K hK
        go_simp
        have ha := (Below.refl we.heap.size we).alloc (Nat.le_refl _) (.cells Z7 29)
        have HZ : Aside0 ((we.alloc (.cells Z7 29)).heap[we.heap.size]? = some (.cells Z7 29 (0, 0))) := ⟨heap_alloc_new _ _⟩
        have HKz : Aside0 (W9.heap.size ≤ we.heap.size) := ⟨below_size HX.out⟩
        have HEm2 := Aside0.mk (HEm.out.below ha); clear HEm; have HEm := HEm2; clear HEm2
        have HX2 := Aside0.mk (HX.out.trans (ha.mono (below_size HX.out))); clear HX; have HX := HX2; clear HX2
        clear ha
        refine hK.out _ _ (HA.out.below HX.out).cells (fun hS => ?_)
        clear hK K
        try simp only [Act.put, List.setIfInBounds_toArray, List.set_cons_zero, List.set_cons_succ]
        refine Go.Proofs.YtjejjhpmiinanaaDoorW.PrintLast.one_ (i := 2) (N := some 97) #[true, true, true, false, false, false, true, false, false] rfl rfl (by kernel_rfl) (by decide) ?_
        intro K hK
        go_simp
        go_at_call 20; refine (cmpC k em a u 0 _ HEm.out (HA.out.below HX.out).rd Hu.out).mono ?_; rintro e wq ⟨E0, f0, E1, f1, E2, f2, rfl, hr, htz, hb⟩; have HRz := Aside0.mk hr; have HTz := Aside0.mk htz; have HZ2 := Aside0.mk ((hb.block _ (Array.getElem?_eq_some_iff.1 HZ.out).1).trans HZ.out); clear HZ; have HZ := HZ2; clear HZ2; have HX2 := Aside0.mk (HX.out.trans (hb.mono (below_size HX.out))); clear HX; have HX := HX2; clear HX2
        refine hK.out _ _ (HA.out.below HX.out).cells (fun hS => ?_)
        clear hK K
        try simp only [Act.put, List.setIfInBounds_toArray, List.set_cons_zero, List.set_cons_succ]
        refine Go.Proofs.YtjejjhpmiinanaaDoorW.PrintLast.take_ (i := 3) (N := some 94) (v := (.tuple #[.agg #[.int .i64 u.n, .int .i64 u.e0, .int .i64 u.e1, .int .i64 u.e2, .slice E0 u.l0.length f0, .slice E1 u.l1.length f1, .slice E2 u.l2.length f2], .int .i64 0])) #[true, true, true, true, false, false, true, false, false] rfl rfl (by kernel_rfl) (fun _ _ _ h => h) (Or.inl ⟨by rfl, by intro w hSw; (try dsimp only at hSw); go_simp⟩) hS rfl ?_
        try simp only [Act.put, List.setIfInBounds_toArray, List.set_cons_zero, List.set_cons_succ]
        refine Go.Proofs.YtjejjhpmiinanaaDoorW.PrintLast.take_ (i := 4) (N := some 98) (v := (.agg #[.int .i64 u.n, .int .i64 u.e0, .int .i64 u.e1, .int .i64 u.e2, .slice E0 u.l0.length f0, .slice E1 u.l1.length f1, .slice E2 u.l2.length f2])) #[true, true, true, true, true, false, true, false, false] rfl rfl (by kernel_rfl) (fun _ _ _ h => h) (Or.inl ⟨by rfl, by intro w hSw; (try dsimp only at hSw); go_simp⟩) hS rfl ?_
        try simp only [Act.put, List.setIfInBounds_toArray, List.set_cons_zero, List.set_cons_succ]
        refine Go.Proofs.YtjejjhpmiinanaaDoorW.PrintLast.take_ (i := 5) (N := some 99) (v := (.int .i64 0)) #[true, true, true, true, true, true, true, false, false] rfl rfl (by kernel_rfl) (fun _ _ _ h => h) (Or.inl ⟨by rfl, by intro w hSw; (try dsimp only at hSw); go_simp⟩) hS rfl ?_
        try simp only [Act.put, List.setIfInBounds_toArray, List.set_cons_zero, List.set_cons_succ]
        have hj2 := hj ⟨.agg #[.int .i64 em.n, .int .i64 em.e0, .int .i64 em.e1, .int .i64 em.e2, .slice G0 em.l0.length g0, .slice G1 em.l1.length g1, .slice G2 em.l2.length g2], we.heap.size, E0, f0, E1, f1, E2, f2⟩ _ ⟨HX.out, HKz.out, HZ.out, HRz.out, HTz.out⟩; (try simp only [putAll, Act.put, List.setIfInBounds_toArray, List.set_cons_zero, List.set_cons_succ] at hj2); exact hj2
    · skip
      intro K hK
      go_simp
      have ha := (Below.refl W9.drew.heap.size W9.drew).alloc (Nat.le_refl _) (.cells Z7 29)
      have HZ : Aside0 ((W9.drew.alloc (.cells Z7 29)).heap[W9.drew.heap.size]? = some (.cells Z7 29 (0, 0))) := ⟨heap_alloc_new _ _⟩
      have HKz : Aside0 (W9.heap.size ≤ W9.drew.heap.size) := ⟨Nat.le_refl _⟩
      have HX2 := Aside0.mk (HX.out.trans (ha.mono (below_size HX.out))); clear HX; have HX := HX2; clear HX2
      clear ha
      refine hK.out _ _ (HA.out.below HX.out).cells (fun hS => ?_)
      clear hK K
      try simp only [Act.put, List.setIfInBounds_toArray, List.set_cons_zero, List.set_cons_succ]
      refine Go.Proofs.YtjejjhpmiinanaaDoorW.PrintLast.one_ (i := 0) (N := some 95) #[true, true, false, false, false, false, true, false, false] rfl rfl (by kernel_rfl) (by decide) ?_
      intro K hK
      go_simp
      go_at_call 15; (with_reducible refine (empC em _ Hem.out).mono ?_); rintro e we ⟨G0, g0, G1, g1, G2, g2, rfl, hr, hb⟩; have HEm := Aside0.mk hr; have HX2 := Aside0.mk (HX.out.trans (hb.mono (below_size HX.out))); clear HX; have HX := HX2; clear HX2
      have HZ2 := Aside0.mk ((hb.block _ (Array.getElem?_eq_some_iff.1 HZ.out).1).trans HZ.out); clear HZ; have HZ := HZ2; clear HZ2
      refine hK.out _ _ (HA.out.below HX.out).cells (fun hS => ?_)
      clear hK K
      try simp only [Act.put, List.setIfInBounds_toArray, List.set_cons_zero, List.set_cons_succ]
      refine Go.Proofs.YtjejjhpmiinanaaDoorW.PrintLast.one_ (i := 2) (N := some 97) #[true, true, true, false, false, false, true, false, false] rfl rfl (by kernel_rfl) (by decide) ?_
      intro K hK
      go_simp
      go_at_call 20; refine (cmpC k em a u 0 _ HEm.out (HA.out.below HX.out).rd Hu.out).mono ?_; rintro e wq ⟨E0, f0, E1, f1, E2, f2, rfl, hr, htz, hb⟩; have HRz := Aside0.mk hr; have HTz := Aside0.mk htz; have HZ2 := Aside0.mk ((hb.block _ (Array.getElem?_eq_some_iff.1 HZ.out).1).trans HZ.out); clear HZ; have HZ := HZ2; clear HZ2; have HX2 := Aside0.mk (HX.out.trans (hb.mono (below_size HX.out))); clear HX; have HX := HX2; clear HX2
      refine hK.out _ _ (HA.out.below HX.out).cells (fun hS => ?_)
      clear hK K
      try simp only [Act.put, List.setIfInBounds_toArray, List.set_cons_zero, List.set_cons_succ]
      refine Go.Proofs.YtjejjhpmiinanaaDoorW.PrintLast.take_ (i := 3) (N := some 94) (v := (.tuple #[.agg #[.int .i64 u.n, .int .i64 u.e0, .int .i64 u.e1, .int .i64 u.e2, .slice E0 u.l0.length f0, .slice E1 u.l1.length f1, .slice E2 u.l2.length f2], .int .i64 0])) #[true, true, true, true, false, false, true, false, false] rfl rfl (by kernel_rfl) (fun _ _ _ h => h) (Or.inl ⟨by rfl, by intro w hSw; (try dsimp only at hSw); go_simp⟩) hS rfl ?_
      try simp only [Act.put, List.setIfInBounds_toArray, List.set_cons_zero, List.set_cons_succ]
      refine Go.Proofs.YtjejjhpmiinanaaDoorW.PrintLast.take_ (i := 4) (N := some 98) (v := (.agg #[.int .i64 u.n, .int .i64 u.e0, .int .i64 u.e1, .int .i64 u.e2, .slice E0 u.l0.length f0, .slice E1 u.l1.length f1, .slice E2 u.l2.length f2])) #[true, true, true, true, true, false, true, false, false] rfl rfl (by kernel_rfl) (fun _ _ _ h => h) (Or.inl ⟨by rfl, by intro w hSw; (try dsimp only at hSw); go_simp⟩) hS rfl ?_
      try simp only [Act.put, List.setIfInBounds_toArray, List.set_cons_zero, List.set_cons_succ]
      refine Go.Proofs.YtjejjhpmiinanaaDoorW.PrintLast.take_ (i := 5) (N := some 99) (v := (.int .i64 0)) #[true, true, true, true, true, true, true, false, false] rfl rfl (by kernel_rfl) (fun _ _ _ h => h) (Or.inl ⟨by rfl, by intro w hSw; (try dsimp only at hSw); go_simp⟩) hS rfl ?_
      try simp only [Act.put, List.setIfInBounds_toArray, List.set_cons_zero, List.set_cons_succ]
      have hj2 := hj ⟨.agg #[.int .i64 em.n, .int .i64 em.e0, .int .i64 em.e1, .int .i64 em.e2, .slice G0 em.l0.length g0, .slice G1 em.l1.length g1, .slice G2 em.l2.length g2], W9.heap.size, E0, f0, E1, f1, E2, f2⟩ _ ⟨HX.out, HKz.out, HZ.out, HRz.out, HTz.out⟩; (try simp only [putAll, Act.put, List.setIfInBounds_toArray, List.set_cons_zero, List.set_cons_succ] at hj2); exact hj2
    obtain ⟨sv, kz, E0, f0, E1, f1, E2, f2⟩ := s
    obtain ⟨hx, hkz, hz, hrz, htz⟩ := hF
    have HZ := Aside0.mk hz; have HRz := Aside0.mk hrz; have HTz := Aside0.mk htz; have HKz := Aside0.mk hkz; have HX2 := Aside0.mk hx; clear HX; have HX := HX2; clear HX2 hrz hx hkz htz
    replace hS := (HA.out.below HX.out).cells
    simp only [putAll, Act.put, List.setIfInBounds_toArray, List.set_cons_zero, List.set_cons_succ]
    obtain ⟨y0, y1, y2, y3, y4, y5, y6, yf⟩ := zero7 hz
    clear hz
    refine Go.Proofs.YtjejjhpmiinanaaDoorW.PrintLast.one_ (i := 7) (N := none) #[true, true, true, true, true, true, true, true, false] rfl rfl (by kernel_rfl) (by decide) ?_
    intro K hK
    go_simp
    obtain ⟨W10, hW⟩ : ∃ W, (((((((w'.setCell ⟨kz, 0, none⟩ (.int .i64 u.n)).setCell ⟨kz, 1, none⟩ (.int .i64 u.e0)).setCell ⟨kz, 2, none⟩ (.int .i64 u.e1)).setCell ⟨kz, 3, none⟩ (.int .i64 u.e2)).setCell ⟨kz, 4, none⟩ (.slice E0 u.l0.length f0)).setCell ⟨kz, 5, none⟩ (.slice E1 u.l1.length f1)).setCell ⟨kz, 6, none⟩ (.slice E2 u.l2.length f2)) = W := ⟨_, rfl⟩
    obtain ⟨b10, g10⟩ := set7 HZ.out _ _ _ _ _ _ u hW
    have hb10 := below_grown HX.out HKz.out g10
    have HZz := Aside0.mk (Bo.mk b10 (HRz.out.grown HTz.out HZ.out g10))
    rw [hW]
    refine hK.out _ _ (HA.out.below hb10).cells (fun hS => ?_)
    clear hK K hW y0 y1 y2 y3 y4 y5 y6 yf
    try simp only [Act.put, List.setIfInBounds_toArray, List.set_cons_zero, List.set_cons_succ]
    refine Go.Proofs.YtjejjhpmiinanaaDoorW.PrintLast.take_ (i := 8) (N := some 14) (v := .int .i64 0) #[true, true, true, true, true, true, true, true, true] rfl rfl (by kernel_rfl) (fun _ _ _ h => h) (Or.inl ⟨by rfl, by intro w hSw; (try dsimp only at hSw); go_simp⟩) hS rfl ?_
    try simp only [Act.put, List.setIfInBounds_toArray, List.set_cons_zero, List.set_cons_succ]
    refine done_ (by kernel_rfl) ?_
    have HX3 := Aside0.mk (below_step HX0.out hb10)
    have HA2 := Aside0.mk (HA.out.below hb10); clear HA; have HA := HA2; clear HA2; have HXx2 := Aside0.mk (HXx.out.below hb10); clear HXx; have HXx := HXx2; clear HXx2; have HY2 := Aside0.mk (HY.out.below hb10); clear HY; have HY := HY2; clear HY2
    have HU := HZz
    clear HZ HRz HKz HTz HX b10 g10 hb10 HX0 HZz
    go_upto_region 10 with fail
    have HX0 := HX3
    clear HX3
    have HX := Aside0.mk (Below.refl W10.heap.size W10).drew
    refine Go.Proofs.YtjejjhpmiinanaaDoorW.PrintLast.start_ (n := 9) (S := fun w' => w'.cell? ⟨w.heap.size, 0, none⟩ = some (.int .i64 a.n) ∧ w'.cell? ⟨w.heap.size, 1, none⟩ = some (.int .i64 a.e0) ∧ w'.cell? ⟨w.heap.size, 2, none⟩ = some (.int .i64 a.e1) ∧ w'.cell? ⟨w.heap.size, 3, none⟩ = some (.int .i64 a.e2) ∧ w'.cell? ⟨w.heap.size, 4, none⟩ = some (.slice A0 a.l0.length c0) ∧ w'.cell? ⟨w.heap.size, 5, none⟩ = some (.slice A1 a.l1.length c1) ∧ w'.cell? ⟨w.heap.size, 6, none⟩ = some (.slice A2 a.l2.length c2)) (ds := []) #[false, false, false, false, false, false, false, false, false] (by kernel_rfl) rfl (by rfl) (HA.out.below HX.out).cells (fun hS => ?_)
    refine Go.Proofs.YtjejjhpmiinanaaDoorW.PrintLast.take_ (i := 0) (N := some 101) (v := (.agg #[.int .i64 a.n, .int .i64 a.e0, .int .i64 a.e1, .int .i64 a.e2, .slice A0 a.l0.length c0, .slice A1 a.l1.length c1, .slice A2 a.l2.length c2])) #[true, false, false, false, false, false, false, false, false] rfl rfl (by kernel_rfl) (fun _ _ _ h => h) (Or.inl ⟨by rfl, by intro w hSw; (try dsimp only at hSw); go_simp⟩) hS rfl ?_
    try simp only [Act.put, List.setIfInBounds_toArray, List.set_cons_zero, List.set_cons_succ]
    refine Go.Proofs.YtjejjhpmiinanaaDoorW.PrintLast.join_ (σ := Fs) 2 #[true, true, true, true, true, true, true, false, false] (fun s => [(102, s.v), (103, (.tuple #[.agg #[.int .i64 v.n, .int .i64 v.e0, .int .i64 v.e1, .int .i64 v.e2, .slice s.E0 v.l0.length s.f0, .slice s.E1 v.l1.length s.f1, .slice s.E2 v.l2.length s.f2], .int .i64 0])), (100, (.tuple #[.agg #[.int .i64 v.n, .int .i64 v.e0, .int .i64 v.e1, .int .i64 v.e2, .slice s.E0 v.l0.length s.f0, .slice s.E1 v.l1.length s.f1, .slice s.E2 v.l2.length s.f2], .int .i64 0])), (104, (.agg #[.int .i64 v.n, .int .i64 v.e0, .int .i64 v.e1, .int .i64 v.e2, .slice s.E0 v.l0.length s.f0, .slice s.E1 v.l1.length s.f1, .slice s.E2 v.l2.length s.f2])), (105, .int .i64 0), (15, .pointer (some ⟨s.kz, 0, none⟩))]) (fun s w' => Fz W10 w' s v) (fun s w' hF => ?_) (fun hj => ?_)
    rotate_left
    refine Go.Proofs.YtjejjhpmiinanaaDoorW.PrintLast.two_ (i := 1) (j := 6) (Ni := some 102) (Nj := some 15) #[true, true, false, false, false, false, false, false, false] #[true, false, false, false, false, false, true, false, false] rfl rfl rfl rfl (by kernel_rfl) (by decide) (by decide) ?_ ?_
    · skip
      intro K hK
      go_simp
      go_at_call 15; (with_reducible refine (empC em _ Hem.out).mono ?_); rintro e we ⟨G0, g0, G1, g1, G2, g2, rfl, hr, hb⟩; have HEm := Aside0.mk hr; have HX2 := Aside0.mk (HX.out.trans (hb.mono (below_size HX.out))); clear HX; have HX := HX2; clear HX2
      refine hK.out _ _ (HA.out.below HX.out).cells (fun hS => ?_)
      clear hK K
      try simp only [Act.put, List.setIfInBounds_toArray, List.set_cons_zero, List.set_cons_succ]
      refine Go.Proofs.YtjejjhpmiinanaaDoorW.PrintLast.two_ (i := 2) (j := 6) (Ni := some 103) (Nj := some 15) #[true, true, true, false, false, false, false, false, false] #[true, true, false, false, false, false, true, false, false] rfl rfl rfl rfl (by kernel_rfl) (by decide) (by decide) ?_ ?_
      · skip
        intro K hK
        go_simp
        go_at_call 20; refine (cmpC k a em v 0 _ (HA.out.below HX.out).rd HEm.out Hv.out).mono ?_; rintro e wq ⟨E0, f0, E1, f1, E2, f2, rfl, hr, htz, hb⟩; have HRz := Aside0.mk hr; have HTz := Aside0.mk htz; have HX2 := Aside0.mk (HX.out.trans (hb.mono (below_size HX.out))); clear HX; have HX := HX2; clear HX2
        refine hK.out _ _ (HA.out.below HX.out).cells (fun hS => ?_)
        clear hK K
        try simp only [Act.put, List.setIfInBounds_toArray, List.set_cons_zero, List.set_cons_succ]
        refine Go.Proofs.YtjejjhpmiinanaaDoorW.PrintLast.take_ (i := 3) (N := some 100) (v := (.tuple #[.agg #[.int .i64 v.n, .int .i64 v.e0, .int .i64 v.e1, .int .i64 v.e2, .slice E0 v.l0.length f0, .slice E1 v.l1.length f1, .slice E2 v.l2.length f2], .int .i64 0])) #[true, true, true, true, false, false, false, false, false] rfl rfl (by kernel_rfl) (fun _ _ _ h => h) (Or.inl ⟨by rfl, by intro w hSw; (try dsimp only at hSw); go_simp⟩) hS rfl ?_
        try simp only [Act.put, List.setIfInBounds_toArray, List.set_cons_zero, List.set_cons_succ]
        refine Go.Proofs.YtjejjhpmiinanaaDoorW.PrintLast.take_ (i := 4) (N := some 104) (v := (.agg #[.int .i64 v.n, .int .i64 v.e0, .int .i64 v.e1, .int .i64 v.e2, .slice E0 v.l0.length f0, .slice E1 v.l1.length f1, .slice E2 v.l2.length f2])) #[true, true, true, true, true, false, false, false, false] rfl rfl (by kernel_rfl) (fun _ _ _ h => h) (Or.inl ⟨by rfl, by intro w hSw; (try dsimp only at hSw); go_simp⟩) hS rfl ?_
        try simp only [Act.put, List.setIfInBounds_toArray, List.set_cons_zero, List.set_cons_succ]
        refine Go.Proofs.YtjejjhpmiinanaaDoorW.PrintLast.take_ (i := 5) (N := some 105) (v := (.int .i64 0)) #[true, true, true, true, true, true, false, false, false] rfl rfl (by kernel_rfl) (fun _ _ _ h => h) (Or.inl ⟨by rfl, by intro w hSw; (try dsimp only at hSw); go_simp⟩) hS rfl ?_
        try simp only [Act.put, List.setIfInBounds_toArray, List.set_cons_zero, List.set_cons_succ]
        refine Go.Proofs.YtjejjhpmiinanaaDoorW.PrintLast.one_ (i := 6) (N := some 15) #[true, true, true, true, true, true, true, false, false] rfl rfl (by kernel_rfl) (by decide) ?_
        intro K hK
        go_simp
        have ha := (Below.refl wq.heap.size wq).alloc (Nat.le_refl _) (.cells Z7 29)
        have HZ : Aside0 ((wq.alloc (.cells Z7 29)).heap[wq.heap.size]? = some (.cells Z7 29 (0, 0))) := ⟨heap_alloc_new _ _⟩
        have HKz : Aside0 (W10.heap.size ≤ wq.heap.size) := ⟨below_size HX.out⟩
        have HRz2 := Aside0.mk (HRz.out.below ha); clear HRz; have HRz := HRz2; clear HRz2; have HTz2 := Aside0.mk (HTz.out.below ha); clear HTz; have HTz := HTz2; clear HTz2
        have HX2 := Aside0.mk (HX.out.trans (ha.mono (below_size HX.out))); clear HX; have HX := HX2; clear HX2
        clear ha
        refine hK.out _ _ (HA.out.below HX.out).cells (fun hS => ?_)
        clear hK K
        try simp only [Act.put, List.setIfInBounds_toArray, List.set_cons_zero, List.set_cons_succ]
        have hj2 := hj ⟨.agg #[.int .i64 em.n, .int .i64 em.e0, .int .i64 em.e1, .int .i64 em.e2, .slice G0 em.l0.length g0, .slice G1 em.l1.length g1, .slice G2 em.l2.length g2], wq.heap.size, E0, f0, E1, f1, E2, f2⟩ _ ⟨HX.out, HKz.out, HZ.out, HRz.out, HTz.out⟩; (try simp only [putAll, Act.put, List.setIfInBounds_toArray, List.set_cons_zero, List.set_cons_succ] at hj2); exact hj2
      · skip
        intro K hK
        go_simp
        have ha := (Below.refl we.heap.size we).alloc (Nat.le_refl _) (.cells Z7 29)
        have HZ : Aside0 ((we.alloc (.cells Z7 29)).heap[we.heap.size]? = some (.cells Z7 29 (0, 0))) := ⟨heap_alloc_new _ _⟩
        have HKz : Aside0 (W10.heap.size ≤ we.heap.size) := ⟨below_size HX.out⟩
        have HEm2 := Aside0.mk (HEm.out.below ha); clear HEm; have HEm := HEm2; clear HEm2
        have HX2 := Aside0.mk (HX.out.trans (ha.mono (below_size HX.out))); clear HX; have HX := HX2; clear HX2
        clear ha
        refine hK.out _ _ (HA.out.below HX.out).cells (fun hS => ?_)
        clear hK K
        try simp only [Act.put, List.setIfInBounds_toArray, List.set_cons_zero, List.set_cons_succ]
        refine Go.Proofs.YtjejjhpmiinanaaDoorW.PrintLast.one_ (i := 2) (N := some 103) #[true, true, true, false, false, false, true, false, false] rfl rfl (by kernel_rfl) (by decide) ?_
        intro K hK
        go_simp
        go_at_call 20; refine (cmpC k a em v 0 _ (HA.out.below HX.out).rd HEm.out Hv.out).mono ?_; rintro e wq ⟨E0, f0, E1, f1, E2, f2, rfl, hr, htz, hb⟩; have HRz := Aside0.mk hr; have HTz := Aside0.mk htz; have HZ2 := Aside0.mk ((hb.block _ (Array.getElem?_eq_some_iff.1 HZ.out).1).trans HZ.out); clear HZ; have HZ := HZ2; clear HZ2; have HX2 := Aside0.mk (HX.out.trans (hb.mono (below_size HX.out))); clear HX; have HX := HX2; clear HX2
        refine hK.out _ _ (HA.out.below HX.out).cells (fun hS => ?_)
        clear hK K
        try simp only [Act.put, List.setIfInBounds_toArray, List.set_cons_zero, List.set_cons_succ]
        refine Go.Proofs.YtjejjhpmiinanaaDoorW.PrintLast.take_ (i := 3) (N := some 100) (v := (.tuple #[.agg #[.int .i64 v.n, .int .i64 v.e0, .int .i64 v.e1, .int .i64 v.e2, .slice E0 v.l0.length f0, .slice E1 v.l1.length f1, .slice E2 v.l2.length f2], .int .i64 0])) #[true, true, true, true, false, false, true, false, false] rfl rfl (by kernel_rfl) (fun _ _ _ h => h) (Or.inl ⟨by rfl, by intro w hSw; (try dsimp only at hSw); go_simp⟩) hS rfl ?_
        try simp only [Act.put, List.setIfInBounds_toArray, List.set_cons_zero, List.set_cons_succ]
        refine Go.Proofs.YtjejjhpmiinanaaDoorW.PrintLast.take_ (i := 4) (N := some 104) (v := (.agg #[.int .i64 v.n, .int .i64 v.e0, .int .i64 v.e1, .int .i64 v.e2, .slice E0 v.l0.length f0, .slice E1 v.l1.length f1, .slice E2 v.l2.length f2])) #[true, true, true, true, true, false, true, false, false] rfl rfl (by kernel_rfl) (fun _ _ _ h => h) (Or.inl ⟨by rfl, by intro w hSw; (try dsimp only at hSw); go_simp⟩) hS rfl ?_
        try simp only [Act.put, List.setIfInBounds_toArray, List.set_cons_zero, List.set_cons_succ]
        refine Go.Proofs.YtjejjhpmiinanaaDoorW.PrintLast.take_ (i := 5) (N := some 105) (v := (.int .i64 0)) #[true, true, true, true, true, true, true, false, false] rfl rfl (by kernel_rfl) (fun _ _ _ h => h) (Or.inl ⟨by rfl, by intro w hSw; (try dsimp only at hSw); go_simp⟩) hS rfl ?_
        try simp only [Act.put, List.setIfInBounds_toArray, List.set_cons_zero, List.set_cons_succ]
        have hj2 := hj ⟨.agg #[.int .i64 em.n, .int .i64 em.e0, .int .i64 em.e1, .int .i64 em.e2, .slice G0 em.l0.length g0, .slice G1 em.l1.length g1, .slice G2 em.l2.length g2], we.heap.size, E0, f0, E1, f1, E2, f2⟩ _ ⟨HX.out, HKz.out, HZ.out, HRz.out, HTz.out⟩; (try simp only [putAll, Act.put, List.setIfInBounds_toArray, List.set_cons_zero, List.set_cons_succ] at hj2); exact hj2
    · skip
      intro K hK
      go_simp
      have ha := (Below.refl W10.drew.heap.size W10.drew).alloc (Nat.le_refl _) (.cells Z7 29)
      have HZ : Aside0 ((W10.drew.alloc (.cells Z7 29)).heap[W10.drew.heap.size]? = some (.cells Z7 29 (0, 0))) := ⟨heap_alloc_new _ _⟩
      have HKz : Aside0 (W10.heap.size ≤ W10.drew.heap.size) := ⟨Nat.le_refl _⟩
      have HX2 := Aside0.mk (HX.out.trans (ha.mono (below_size HX.out))); clear HX; have HX := HX2; clear HX2
      clear ha
      refine hK.out _ _ (HA.out.below HX.out).cells (fun hS => ?_)
      clear hK K
      try simp only [Act.put, List.setIfInBounds_toArray, List.set_cons_zero, List.set_cons_succ]
      refine Go.Proofs.YtjejjhpmiinanaaDoorW.PrintLast.one_ (i := 1) (N := some 102) #[true, true, false, false, false, false, true, false, false] rfl rfl (by kernel_rfl) (by decide) ?_
      intro K hK
      go_simp
      go_at_call 15; (with_reducible refine (empC em _ Hem.out).mono ?_); rintro e we ⟨G0, g0, G1, g1, G2, g2, rfl, hr, hb⟩; have HEm := Aside0.mk hr; have HX2 := Aside0.mk (HX.out.trans (hb.mono (below_size HX.out))); clear HX; have HX := HX2; clear HX2
      have HZ2 := Aside0.mk ((hb.block _ (Array.getElem?_eq_some_iff.1 HZ.out).1).trans HZ.out); clear HZ; have HZ := HZ2; clear HZ2
      refine hK.out _ _ (HA.out.below HX.out).cells (fun hS => ?_)
      clear hK K
      try simp only [Act.put, List.setIfInBounds_toArray, List.set_cons_zero, List.set_cons_succ]
      refine Go.Proofs.YtjejjhpmiinanaaDoorW.PrintLast.one_ (i := 2) (N := some 103) #[true, true, true, false, false, false, true, false, false] rfl rfl (by kernel_rfl) (by decide) ?_
      intro K hK
      go_simp
      go_at_call 20; refine (cmpC k a em v 0 _ (HA.out.below HX.out).rd HEm.out Hv.out).mono ?_; rintro e wq ⟨E0, f0, E1, f1, E2, f2, rfl, hr, htz, hb⟩; have HRz := Aside0.mk hr; have HTz := Aside0.mk htz; have HZ2 := Aside0.mk ((hb.block _ (Array.getElem?_eq_some_iff.1 HZ.out).1).trans HZ.out); clear HZ; have HZ := HZ2; clear HZ2; have HX2 := Aside0.mk (HX.out.trans (hb.mono (below_size HX.out))); clear HX; have HX := HX2; clear HX2
      refine hK.out _ _ (HA.out.below HX.out).cells (fun hS => ?_)
      clear hK K
      try simp only [Act.put, List.setIfInBounds_toArray, List.set_cons_zero, List.set_cons_succ]
      refine Go.Proofs.YtjejjhpmiinanaaDoorW.PrintLast.take_ (i := 3) (N := some 100) (v := (.tuple #[.agg #[.int .i64 v.n, .int .i64 v.e0, .int .i64 v.e1, .int .i64 v.e2, .slice E0 v.l0.length f0, .slice E1 v.l1.length f1, .slice E2 v.l2.length f2], .int .i64 0])) #[true, true, true, true, false, false, true, false, false] rfl rfl (by kernel_rfl) (fun _ _ _ h => h) (Or.inl ⟨by rfl, by intro w hSw; (try dsimp only at hSw); go_simp⟩) hS rfl ?_
      try simp only [Act.put, List.setIfInBounds_toArray, List.set_cons_zero, List.set_cons_succ]
      refine Go.Proofs.YtjejjhpmiinanaaDoorW.PrintLast.take_ (i := 4) (N := some 104) (v := (.agg #[.int .i64 v.n, .int .i64 v.e0, .int .i64 v.e1, .int .i64 v.e2, .slice E0 v.l0.length f0, .slice E1 v.l1.length f1, .slice E2 v.l2.length f2])) #[true, true, true, true, true, false, true, false, false] rfl rfl (by kernel_rfl) (fun _ _ _ h => h) (Or.inl ⟨by rfl, by intro w hSw; (try dsimp only at hSw); go_simp⟩) hS rfl ?_
      try simp only [Act.put, List.setIfInBounds_toArray, List.set_cons_zero, List.set_cons_succ]
      refine Go.Proofs.YtjejjhpmiinanaaDoorW.PrintLast.take_ (i := 5) (N := some 105) (v := (.int .i64 0)) #[true, true, true, true, true, true, true, false, false] rfl rfl (by kernel_rfl) (fun _ _ _ h => h) (Or.inl ⟨by rfl, by intro w hSw; (try dsimp only at hSw); go_simp⟩) hS rfl ?_
      try simp only [Act.put, List.setIfInBounds_toArray, List.set_cons_zero, List.set_cons_succ]
      have hj2 := hj ⟨.agg #[.int .i64 em.n, .int .i64 em.e0, .int .i64 em.e1, .int .i64 em.e2, .slice G0 em.l0.length g0, .slice G1 em.l1.length g1, .slice G2 em.l2.length g2], W10.heap.size, E0, f0, E1, f1, E2, f2⟩ _ ⟨HX.out, HKz.out, HZ.out, HRz.out, HTz.out⟩; (try simp only [putAll, Act.put, List.setIfInBounds_toArray, List.set_cons_zero, List.set_cons_succ] at hj2); exact hj2
    obtain ⟨sv, kz, E0, f0, E1, f1, E2, f2⟩ := s
    obtain ⟨hx, hkz, hz, hrz, htz⟩ := hF
    have HZ := Aside0.mk hz; have HRz := Aside0.mk hrz; have HTz := Aside0.mk htz; have HKz := Aside0.mk hkz; have HX2 := Aside0.mk hx; clear HX; have HX := HX2; clear HX2 hrz hx hkz htz
    replace hS := (HA.out.below HX.out).cells
    simp only [putAll, Act.put, List.setIfInBounds_toArray, List.set_cons_zero, List.set_cons_succ]
    obtain ⟨y0, y1, y2, y3, y4, y5, y6, yf⟩ := zero7 hz
    clear hz
    refine Go.Proofs.YtjejjhpmiinanaaDoorW.PrintLast.one_ (i := 7) (N := none) #[true, true, true, true, true, true, true, true, false] rfl rfl (by kernel_rfl) (by decide) ?_
    intro K hK
    go_simp
    obtain ⟨W11, hW⟩ : ∃ W, (((((((w'.setCell ⟨kz, 0, none⟩ (.int .i64 v.n)).setCell ⟨kz, 1, none⟩ (.int .i64 v.e0)).setCell ⟨kz, 2, none⟩ (.int .i64 v.e1)).setCell ⟨kz, 3, none⟩ (.int .i64 v.e2)).setCell ⟨kz, 4, none⟩ (.slice E0 v.l0.length f0)).setCell ⟨kz, 5, none⟩ (.slice E1 v.l1.length f1)).setCell ⟨kz, 6, none⟩ (.slice E2 v.l2.length f2)) = W := ⟨_, rfl⟩
    obtain ⟨b10, g10⟩ := set7 HZ.out _ _ _ _ _ _ v hW
    have hb10 := below_grown HX.out HKz.out g10
    have HZz := Aside0.mk (Bo.mk b10 (HRz.out.grown HTz.out HZ.out g10))
    rw [hW]
    refine hK.out _ _ (HA.out.below hb10).cells (fun hS => ?_)
    clear hK K hW y0 y1 y2 y3 y4 y5 y6 yf
    try simp only [Act.put, List.setIfInBounds_toArray, List.set_cons_zero, List.set_cons_succ]
    refine Go.Proofs.YtjejjhpmiinanaaDoorW.PrintLast.take_ (i := 8) (N := some 16) (v := .int .i64 0) #[true, true, true, true, true, true, true, true, true] rfl rfl (by kernel_rfl) (fun _ _ _ h => h) (Or.inl ⟨by rfl, by intro w hSw; (try dsimp only at hSw); go_simp⟩) hS rfl ?_
    try simp only [Act.put, List.setIfInBounds_toArray, List.set_cons_zero, List.set_cons_succ]
    refine done_ (by kernel_rfl) ?_
    have HX3 := Aside0.mk (below_step HX0.out hb10)
    have HA2 := Aside0.mk (HA.out.below hb10); clear HA; have HA := HA2; clear HA2; have HXx2 := Aside0.mk (HXx.out.below hb10); clear HXx; have HXx := HXx2; clear HXx2; have HY2 := Aside0.mk (HY.out.below hb10); clear HY; have HY := HY2; clear HY2; have HU2 := Aside0.mk (HU.out.below hb10); clear HU; have HU := HU2; clear HU2
    have HV := HZz
    clear HZ HRz HKz HTz HX b10 g10 hb10 HX0 HZz
    have HX := HX3
    clear HX3
    obtain ⟨p0, p1, p2, p3, p4, p5, p6⟩ := HXx.out.cells
    obtain ⟨q0, q1, q2, q3, q4, q5, q6⟩ := HY.out.cells
    go_wp2_with (first | (go_at_call 14; (with_reducible refine (sumC k x y true _ HXx.out.rd HY.out.rd Hs1.out).mono ?_); rintro e we ⟨rfl, hb⟩; have HA2 := Aside0.mk (HA.out.below hb); clear HA; have HA := HA2; clear HA2; have HXx2 := Aside0.mk (HXx.out.below hb); clear HXx; have HXx := HXx2; clear HXx2; have HY2 := Aside0.mk (HY.out.below hb); clear HY; have HY := HY2; clear HY2; have HU2 := Aside0.mk (HU.out.below hb); clear HU; have HU := HU2; clear HU2; have HV2 := Aside0.mk (HV.out.below hb); clear HV; have HV := HV2; clear HV2; have HX2 := Aside0.mk (below_step HX.out hb); clear HX; have HX := HX2; clear HX2; clear hb; obtain ⟨p0, p1, p2, p3, p4, p5, p6⟩ := HU.out.cells; obtain ⟨q0, q1, q2, q3, q4, q5, q6⟩ := HA.out.cells) | (go_at_call 14; (with_reducible refine (sumC k u a true _ HU.out.rd HA.out.rd Hs2.out).mono ?_); rintro e we ⟨rfl, hb⟩; have HA2 := Aside0.mk (HA.out.below hb); clear HA; have HA := HA2; clear HA2; have HXx2 := Aside0.mk (HXx.out.below hb); clear HXx; have HXx := HXx2; clear HXx2; have HY2 := Aside0.mk (HY.out.below hb); clear HY; have HY := HY2; clear HY2; have HU2 := Aside0.mk (HU.out.below hb); clear HU; have HU := HU2; clear HU2; have HV2 := Aside0.mk (HV.out.below hb); clear HV; have HV := HV2; clear HV2; have HX2 := Aside0.mk (below_step HX.out hb); clear HX; have HX := HX2; clear HX2; clear hb; obtain ⟨p0, p1, p2, p3, p4, p5, p6⟩ := HV.out.cells; obtain ⟨q0, q1, q2, q3, q4, q5, q6⟩ := HA.out.cells) | (go_at_call 14; (with_reducible refine (sumC k v a true _ HV.out.rd HA.out.rd Hs3.out).mono ?_); rintro e we ⟨rfl, hb⟩; have HA2 := Aside0.mk (HA.out.below hb); clear HA; have HA := HA2; clear HA2; have HXx2 := Aside0.mk (HXx.out.below hb); clear HXx; have HXx := HXx2; clear HXx2; have HY2 := Aside0.mk (HY.out.below hb); clear HY; have HY := HY2; clear HY2; have HU2 := Aside0.mk (HU.out.below hb); clear HU; have HU := HU2; clear HU2; have HV2 := Aside0.mk (HV.out.below hb); clear HV; have HV := HV2; clear HV2; have HX2 := Aside0.mk (below_step HX.out hb); clear HX; have HX := HX2; clear HX2; clear hb) | (go_at_call 9; (with_reducible refine (ndjqlaw18_awake.calls k r _ (HG.out.below HX.out) HAW.out).mono ?_); rintro e we ⟨rfl, hb⟩; have HX2 := Aside0.mk (below_step HX.out hb); clear HX; have HX := HX2; clear HX2))
    go_ret
    exact ⟨rfl, HX.out⟩
def ndjqlaw18_AutomatonMonoid.f (k : Nat) (a0_0 a0_1 a0_2 a0_3 : Int) (l0_4 l0_5 l0_6 : List Int) (a1_0 a1_1 a1_2 a1_3 : Int) (l1_4 l1_5 l1_6 : List Int) (a2_0 a2_1 a2_2 a2_3 : Int) (l2_4 l2_5 l2_6 : List Int) : Option Bool := lawM k ⟨a0_0, a0_1, a0_2, a0_3, l0_4, l0_5, l0_6⟩ ⟨a1_0, a1_1, a1_2, a1_3, l1_4, l1_5, l1_6⟩ ⟨a2_0, a2_1, a2_2, a2_3, l2_4, l2_5, l2_6⟩
theorem ndjqlaw18_AutomatonMonoid.calls (k : Nat) (a0_0 a0_1 a0_2 a0_3 : Int) (A0_4 : Option Addr) (c0_4 : Nat) (l0_4 : List Int) (A0_5 : Option Addr) (c0_5 : Nat) (l0_5 : List Int) (A0_6 : Option Addr) (c0_6 : Nat) (l0_6 : List Int) (a1_0 a1_1 a1_2 a1_3 : Int) (A1_4 : Option Addr) (c1_4 : Nat) (l1_4 : List Int) (A1_5 : Option Addr) (c1_5 : Nat) (l1_5 : List Int) (A1_6 : Option Addr) (c1_6 : Nat) (l1_6 : List Int) (a2_0 a2_1 a2_2 a2_3 : Int) (A2_4 : Option Addr) (c2_4 : Nat) (l2_4 : List Int) (A2_5 : Option Addr) (c2_5 : Nat) (l2_5 : List Int) (A2_6 : Option Addr) (c2_6 : Nat) (l2_6 : List Int) (r : Bool) (w : World) (hr0_4 : Kd.C (Kd.int .i64) w A0_4 l0_4.length l0_4) (hc0_4 : l0_4.length ≤ c0_4) (hr0_5 : Kd.C (Kd.int .i64) w A0_5 l0_5.length l0_5) (hc0_5 : l0_5.length ≤ c0_5) (hr0_6 : Kd.C (Kd.int .i64) w A0_6 l0_6.length l0_6) (hc0_6 : l0_6.length ≤ c0_6) (hr1_4 : Kd.C (Kd.int .i64) w A1_4 l1_4.length l1_4) (hc1_4 : l1_4.length ≤ c1_4) (hr1_5 : Kd.C (Kd.int .i64) w A1_5 l1_5.length l1_5) (hc1_5 : l1_5.length ≤ c1_5) (hr1_6 : Kd.C (Kd.int .i64) w A1_6 l1_6.length l1_6) (hc1_6 : l1_6.length ≤ c1_6) (hr2_4 : Kd.C (Kd.int .i64) w A2_4 l2_4.length l2_4) (hc2_4 : l2_4.length ≤ c2_4) (hr2_5 : Kd.C (Kd.int .i64) w A2_5 l2_5.length l2_5) (hc2_5 : l2_5.length ≤ c2_5) (hr2_6 : Kd.C (Kd.int .i64) w A2_6 l2_6.length l2_6) (hc2_6 : l2_6.length ≤ c2_6) (hG : GlbLaid w) (h : ndjqlaw18_AutomatonMonoid.f k a0_0 a0_1 a0_2 a0_3 l0_4 l0_5 l0_6 a1_0 a1_1 a1_2 a1_3 l1_4 l1_5 l1_6 a2_0 a2_1 a2_2 a2_3 l2_4 l2_5 l2_6 = some r) :
    Calls Tryd.prog 7 #[.agg #[.int .i64 a0_0, .int .i64 a0_1, .int .i64 a0_2, .int .i64 a0_3, .slice A0_4 l0_4.length c0_4, .slice A0_5 l0_5.length c0_5, .slice A0_6 l0_6.length c0_6], .agg #[.int .i64 a1_0, .int .i64 a1_1, .int .i64 a1_2, .int .i64 a1_3, .slice A1_4 l1_4.length c1_4, .slice A1_5 l1_5.length c1_5, .slice A1_6 l1_6.length c1_6], .agg #[.int .i64 a2_0, .int .i64 a2_1, .int .i64 a2_2, .int .i64 a2_3, .slice A2_4 l2_4.length c2_4, .slice A2_5 l2_5.length c2_5, .slice A2_6 l2_6.length c2_6]] w fun e w' => e = .returned (.bool r) ∧ Below w.heap.size w w' :=
  lawC k ⟨a0_0, a0_1, a0_2, a0_3, l0_4, l0_5, l0_6⟩ ⟨a1_0, a1_1, a1_2, a1_3, l1_4, l1_5, l1_6⟩ ⟨a2_0, a2_1, a2_2, a2_3, l2_4, l2_5, l2_6⟩ r w ⟨hc0_4, hc0_5, hc0_6, hr0_4, hr0_5, hr0_6⟩ ⟨hc1_4, hc1_5, hc1_6, hr1_4, hr1_5, hr1_6⟩ ⟨hc2_4, hc2_5, hc2_6, hr2_4, hr2_5, hr2_6⟩ hG h


-- what came in
/-- What is known of a value of struct type 25 that came in. -/
def Wf25 (x : S25) : Prop := (Lit.int .i64 x.f0).wf = true ∧ (Lit.int .i64 x.f1).wf = true ∧ (Lit.int .i64 x.f2).wf = true
/-- What is known of a value of struct type 27 that came in. -/
def Wf27 (x : S27) : Prop := (x.f0.length * 8 ≤ 140737488351232 ∧ ∀ q1 ∈ x.f0, (Lit.int .i64 q1).wf = true) ∧ (x.f1.length * 8 ≤ 140737488351232 ∧ ∀ q1 ∈ x.f1, (Lit.int .i64 q1).wf = true) ∧ (x.f2.length * 8 ≤ 140737488351232 ∧ ∀ q1 ∈ x.f2, (Lit.int .i64 q1).wf = true)
/-- What is known of a value of struct type 29 that came in. -/
def Wf29 (x : S29) : Prop := (Lit.int .i64 x.f0).wf = true ∧ Wf25 x.f1 ∧ Wf27 x.f2
/-- THE ONE PURE STATEMENT of ndjqlaw18_AutomatonMonoid: yours. -/
def ndjqlaw18_AutomatonMonoid.Pure : Prop := ∀ (a0_0 : Int) (a0_1 : Int) (a0_2 : Int) (a0_3 : Int) (l0_4 : List Int) (l0_5 : List Int) (l0_6 : List Int) (a1_0 : Int) (a1_1 : Int) (a1_2 : Int) (a1_3 : Int) (l1_4 : List Int) (l1_5 : List Int) (l1_6 : List Int) (a2_0 : Int) (a2_1 : Int) (a2_2 : Int) (a2_3 : Int) (l2_4 : List Int) (l2_5 : List Int) (l2_6 : List Int), (Lit.int .i64 a0_0).wf = true → (Lit.int .i64 a0_1).wf = true → (Lit.int .i64 a0_2).wf = true → (Lit.int .i64 a0_3).wf = true → (l0_4.length * 8 ≤ 140737488351232 ∧ ∀ q1 ∈ l0_4, (Lit.int .i64 q1).wf = true) → (l0_5.length * 8 ≤ 140737488351232 ∧ ∀ q1 ∈ l0_5, (Lit.int .i64 q1).wf = true) → (l0_6.length * 8 ≤ 140737488351232 ∧ ∀ q1 ∈ l0_6, (Lit.int .i64 q1).wf = true) → (Lit.int .i64 a1_0).wf = true → (Lit.int .i64 a1_1).wf = true → (Lit.int .i64 a1_2).wf = true → (Lit.int .i64 a1_3).wf = true → (l1_4.length * 8 ≤ 140737488351232 ∧ ∀ q1 ∈ l1_4, (Lit.int .i64 q1).wf = true) → (l1_5.length * 8 ≤ 140737488351232 ∧ ∀ q1 ∈ l1_5, (Lit.int .i64 q1).wf = true) → (l1_6.length * 8 ≤ 140737488351232 ∧ ∀ q1 ∈ l1_6, (Lit.int .i64 q1).wf = true) → (Lit.int .i64 a2_0).wf = true → (Lit.int .i64 a2_1).wf = true → (Lit.int .i64 a2_2).wf = true → (Lit.int .i64 a2_3).wf = true → (l2_4.length * 8 ≤ 140737488351232 ∧ ∀ q1 ∈ l2_4, (Lit.int .i64 q1).wf = true) → (l2_5.length * 8 ≤ 140737488351232 ∧ ∀ q1 ∈ l2_5, (Lit.int .i64 q1).wf = true) → (l2_6.length * 8 ≤ 140737488351232 ∧ ∀ q1 ∈ l2_6, (Lit.int .i64 q1).wf = true) → ∃ k, ndjqlaw18_AutomatonMonoid.f k a0_0 a0_1 a0_2 a0_3 l0_4 l0_5 l0_6 a1_0 a1_1 a1_2 a1_3 l1_4 l1_5 l1_6 a2_0 a2_1 a2_2 a2_3 l2_4 l2_5 l2_6 = some true
theorem ndjqlaw18_AutomatonMonoid.walk (P : ndjqlaw18_AutomatonMonoid.Pure) (a0_0 : Int) (a0_1 : Int) (a0_2 : Int) (a0_3 : Int) (A0_4 : Option Addr) (c0_4 : Nat) (l0_4 : List Int) (A0_5 : Option Addr) (c0_5 : Nat) (l0_5 : List Int) (A0_6 : Option Addr) (c0_6 : Nat) (l0_6 : List Int) (a1_0 : Int) (a1_1 : Int) (a1_2 : Int) (a1_3 : Int) (A1_4 : Option Addr) (c1_4 : Nat) (l1_4 : List Int) (A1_5 : Option Addr) (c1_5 : Nat) (l1_5 : List Int) (A1_6 : Option Addr) (c1_6 : Nat) (l1_6 : List Int) (a2_0 : Int) (a2_1 : Int) (a2_2 : Int) (a2_3 : Int) (A2_4 : Option Addr) (c2_4 : Nat) (l2_4 : List Int) (A2_5 : Option Addr) (c2_5 : Nat) (l2_5 : List Int) (A2_6 : Option Addr) (c2_6 : Nat) (l2_6 : List Int) (w : World) (w0_0 : (Lit.int .i64 a0_0).wf = true) (w0_1 : (Lit.int .i64 a0_1).wf = true) (w0_2 : (Lit.int .i64 a0_2).wf = true) (w0_3 : (Lit.int .i64 a0_3).wf = true) (hr0_4 : Kd.C (Kd.int .i64) w A0_4 l0_4.length l0_4) (hc0_4 : l0_4.length ≤ c0_4) (hw0_4 : (l0_4.length * 8 ≤ 140737488351232 ∧ ∀ q1 ∈ l0_4, (Lit.int .i64 q1).wf = true)) (hr0_5 : Kd.C (Kd.int .i64) w A0_5 l0_5.length l0_5) (hc0_5 : l0_5.length ≤ c0_5) (hw0_5 : (l0_5.length * 8 ≤ 140737488351232 ∧ ∀ q1 ∈ l0_5, (Lit.int .i64 q1).wf = true)) (hr0_6 : Kd.C (Kd.int .i64) w A0_6 l0_6.length l0_6) (hc0_6 : l0_6.length ≤ c0_6) (hw0_6 : (l0_6.length * 8 ≤ 140737488351232 ∧ ∀ q1 ∈ l0_6, (Lit.int .i64 q1).wf = true)) (w1_0 : (Lit.int .i64 a1_0).wf = true) (w1_1 : (Lit.int .i64 a1_1).wf = true) (w1_2 : (Lit.int .i64 a1_2).wf = true) (w1_3 : (Lit.int .i64 a1_3).wf = true) (hr1_4 : Kd.C (Kd.int .i64) w A1_4 l1_4.length l1_4) (hc1_4 : l1_4.length ≤ c1_4) (hw1_4 : (l1_4.length * 8 ≤ 140737488351232 ∧ ∀ q1 ∈ l1_4, (Lit.int .i64 q1).wf = true)) (hr1_5 : Kd.C (Kd.int .i64) w A1_5 l1_5.length l1_5) (hc1_5 : l1_5.length ≤ c1_5) (hw1_5 : (l1_5.length * 8 ≤ 140737488351232 ∧ ∀ q1 ∈ l1_5, (Lit.int .i64 q1).wf = true)) (hr1_6 : Kd.C (Kd.int .i64) w A1_6 l1_6.length l1_6) (hc1_6 : l1_6.length ≤ c1_6) (hw1_6 : (l1_6.length * 8 ≤ 140737488351232 ∧ ∀ q1 ∈ l1_6, (Lit.int .i64 q1).wf = true)) (w2_0 : (Lit.int .i64 a2_0).wf = true) (w2_1 : (Lit.int .i64 a2_1).wf = true) (w2_2 : (Lit.int .i64 a2_2).wf = true) (w2_3 : (Lit.int .i64 a2_3).wf = true) (hr2_4 : Kd.C (Kd.int .i64) w A2_4 l2_4.length l2_4) (hc2_4 : l2_4.length ≤ c2_4) (hw2_4 : (l2_4.length * 8 ≤ 140737488351232 ∧ ∀ q1 ∈ l2_4, (Lit.int .i64 q1).wf = true)) (hr2_5 : Kd.C (Kd.int .i64) w A2_5 l2_5.length l2_5) (hc2_5 : l2_5.length ≤ c2_5) (hw2_5 : (l2_5.length * 8 ≤ 140737488351232 ∧ ∀ q1 ∈ l2_5, (Lit.int .i64 q1).wf = true)) (hr2_6 : Kd.C (Kd.int .i64) w A2_6 l2_6.length l2_6) (hc2_6 : l2_6.length ≤ c2_6) (hw2_6 : (l2_6.length * 8 ≤ 140737488351232 ∧ ∀ q1 ∈ l2_6, (Lit.int .i64 q1).wf = true)) (hG : GlbLaid w) :
    Calls Tryd.prog 7 #[.agg #[.int .i64 a0_0, .int .i64 a0_1, .int .i64 a0_2, .int .i64 a0_3, .slice A0_4 l0_4.length c0_4, .slice A0_5 l0_5.length c0_5, .slice A0_6 l0_6.length c0_6], .agg #[.int .i64 a1_0, .int .i64 a1_1, .int .i64 a1_2, .int .i64 a1_3, .slice A1_4 l1_4.length c1_4, .slice A1_5 l1_5.length c1_5, .slice A1_6 l1_6.length c1_6], .agg #[.int .i64 a2_0, .int .i64 a2_1, .int .i64 a2_2, .int .i64 a2_3, .slice A2_4 l2_4.length c2_4, .slice A2_5 l2_5.length c2_5, .slice A2_6 l2_6.length c2_6]] w fun e w' => e = .returned (.bool true) ∧ Below w.heap.size w w' := by
  obtain ⟨k, h⟩ := P a0_0 a0_1 a0_2 a0_3 l0_4 l0_5 l0_6 a1_0 a1_1 a1_2 a1_3 l1_4 l1_5 l1_6 a2_0 a2_1 a2_2 a2_3 l2_4 l2_5 l2_6 w0_0 w0_1 w0_2 w0_3 hw0_4 hw0_5 hw0_6 w1_0 w1_1 w1_2 w1_3 hw1_4 hw1_5 hw1_6 w2_0 w2_1 w2_2 w2_3 hw2_4 hw2_5 hw2_6
  refine (ndjqlaw18_AutomatonMonoid.calls k a0_0 a0_1 a0_2 a0_3 _ _ l0_4 _ _ l0_5 _ _ l0_6 a1_0 a1_1 a1_2 a1_3 _ _ l1_4 _ _ l1_5 _ _ l1_6 a2_0 a2_1 a2_2 a2_3 _ _ l2_4 _ _ l2_5 _ _ l2_6 true w hr0_4 hc0_4 hr0_5 hc0_5 hr0_6 hc0_6 hr1_4 hc1_4 hr1_5 hc1_5 hr1_6 hc1_6 hr2_4 hc2_4 hr2_5 hc2_5 hr2_6 hc2_6 hG h).mono ?_
  rintro e w' ⟨rfl, hd⟩
  exact ⟨rfl, hd⟩

end Go.Proofs.YtjejjhpmiinanaaDoor.QAutomatonMonoid
