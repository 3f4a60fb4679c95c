import Derived.Test.YtccgcljkgjboaaaPRingStepsx1
import Derived.Deep.RegionHeld3
import Derived.Deep.RegionLaw
/- The contracts of package ring, by hand: the ring's block g, its slots' block s (IsQ), each method's answer and what it turns. -/
namespace Go.Proofs.Ytccgcljkgjboaaa.Rg
open Go.RowKit Go.Proofs.YtccgcljkgjboaaaW.PrintWords Go.Proofs.YtccgcljkgjboaaaW.PrintLast Go.Proofs.YtccgcljkgjboaaaW.PrintMore
set_option linter.unusedVariables false
set_option linter.unusedSimpArgs false
structure Res where
  out : List Int
  st : Int
  rc : Int
abbrev P (g : Nat) : Value := .pointer (some ⟨g, 0, none⟩)
/-- A row of bytes that is read, in a block of bytes. -/
def RdB (w : World) (A : Option Addr) (l : List Int) : Prop :=
  ReadsInt w .u8 A l.length l ∧ (0 < l.length → ∃ ad cur, A = some ad ∧ w.heap[ad.block]? = some (.cells cur 5 (0, 0)))
/-- A result in block b. -/
def Bx (w : World) (b : Nat) (x : Res) : Prop :=
  ∃ A c, w.heap[b]? = some (.cells #[.slice A x.out.length c, .int .i64 x.st, .int .i64 x.rc] 33 (0, 0)) ∧ x.out.length ≤ c ∧ RdB w A x.out
structure IsQ (w : World) (g s cap next cr : Nat) (f : Nat → Option Res) : Prop where
  c1 : 1 ≤ cap
  c2 : cap ≤ 64
  n1 : 1 ≤ next
  n2 : next ≤ 1000000
  k1 : cr ≤ cap
  ring : w.heap[g]? = some (.cells #[.slice (some ⟨s, 0, none⟩) cap cap, .int .i64 (next : Int), .int .i64 (cr : Int)] 49 (0, 0))
  slots : ∃ vs : Array Value, w.heap[s]? = some (.cells vs 50 (0, 0)) ∧ vs.size = cap ∧ ∀ k, k < cap → (f k = none ∧ vs[k]? = some (.pointer none)) ∨ ∃ b x, f k = some x ∧ vs[k]? = some (P b) ∧ Bx w b x
/-- What may have turned: blocks g and s; the rest is as it was. -/
structure Fr (g s : Nat) (w w' : World) : Prop where
  os : w'.os = w.os
  tape : w'.tape = w.tape
  output : w'.output = w.output
  size : w.heap.size ≤ w'.heap.size
  block : ∀ k, k < w.heap.size → k ≠ g → k ≠ s → w'.heap[k]? = w.heap[k]?
theorem Fr.refl (g s : Nat) (w : World) : Fr g s w w := ⟨rfl, rfl, rfl, Nat.le_refl _, fun _ _ _ _ => rfl⟩
theorem Fr.trans {g s : Nat} {a b c : World} (h : Fr g s a b) (k : Fr g s b c) : Fr g s a c :=
  ⟨k.os.trans h.os, k.tape.trans h.tape, k.output.trans h.output, Nat.le_trans h.size k.size, fun i hi h1 h2 => (k.block i (Nat.lt_of_lt_of_le hi h.size) h1 h2).trans (h.block i hi h1 h2)⟩
theorem Fr.below {g s B : Nat} {w0 w w' : World} (h : Fr g s w w') (hb : Below B w0 w) (hg : B ≤ g) (hs : B ≤ s) (hB : B ≤ w.heap.size) : Below B w0 w' :=
  hb.trans ⟨h.os, h.tape, h.output, h.size, fun k hk => h.block k (by omega) (by omega) (by omega)⟩
theorem Fr.new {g s : Nat} {w w' : World} (h : Below w.heap.size w w') : Fr g s w w' := ⟨h.os, h.tape, h.output, h.size, fun k hk _ _ => h.block k hk⟩
theorem Fr.g {g s : Nat} {w w' : World} (h : w.grownBy w' (some g)) : Fr g s w w' := ⟨h.os, h.tape, h.output, h.size, fun k hk h1 _ => h.block k hk (fun e => h1 (Option.some.inj e))⟩
theorem Fr.s {g s : Nat} {w w' : World} (h : w.grownBy w' (some s)) : Fr g s w w' := ⟨h.os, h.tape, h.output, h.size, fun k hk _ h1 => h.block k hk (fun e => h1 (Option.some.inj e))⟩
theorem below0 {w w' : World} (h : Drawn0 w w') : Below w.heap.size w w' := by
  obtain ⟨n, rfl⟩ := h
  exact ⟨rfl, rfl, rfl, Nat.le_refl _, fun _ _ => rfl⟩
theorem grown0 {w w' : World} (h : Drawn0 w w') (row : Option Nat) : w.grownBy w' row := by
  obtain ⟨n, rfl⟩ := h
  exact ⟨rfl, rfl, rfl, Nat.le_refl _, fun _ _ _ => rfl⟩
theorem grownBy_cell (W : World) (b j : Nat) (v : Value) : W.grownBy (W.setCell ⟨b, j, none⟩ v) (some b) :=
  ⟨rfl, rfl, rfl, by simp, fun k _ hk => Below.heap_setCell _ _ _ k (fun e => hk (by rw [e]))⟩
theorem hlt {w : World} {k : Nat} {o : Obj} (h : w.heap[k]? = some o) : k < w.heap.size := (Array.getElem?_eq_some_iff.1 h).1
/-- Blocks of bytes stay. -/
theorem RdB.move {w w' : World} {A : Option Addr} {l : List Int} (h : RdB w A l) (hb : ∀ (k : Nat) (cur : Array Value), w.heap[k]? = some (.cells cur 5 (0, 0)) → w'.heap[k]? = w.heap[k]?) : RdB w' A l := by
  obtain ⟨h1, h2⟩ := h
  refine ⟨⟨h1.1, h1.2.1, fun hl => ?_⟩, fun hl => ?_⟩
  · obtain ⟨ad, e, hc⟩ := h1.2.2 hl
    obtain ⟨ad', cur, e', hcur⟩ := h2 hl
    obtain rfl : ad' = ad := Option.some.inj (e'.symm.trans e)
    refine ⟨ad', e, fun j hj => ?_⟩
    have e2 : (ad'.add j).block = ad'.block := by unfold Addr.add; split <;> rfl
    rw [World.cell?_of_block (w := w) (by rw [e2]; exact hb _ _ hcur)]
    exact hc j hj
  · obtain ⟨ad, cur, e, hc⟩ := h2 hl
    exact ⟨ad, cur, e, (hb _ _ hc).trans hc⟩
theorem Bx.move {w w' : World} {b : Nat} {x : Res} (h : Bx w b x) (hb : ∀ (k : Nat) (cur : Array Value) (t : TypeId), t = 5 ∨ t = 33 → w.heap[k]? = some (.cells cur t (0, 0)) → w'.heap[k]? = w.heap[k]?) : Bx w' b x := by
  obtain ⟨A, c, h1, h2, h3⟩ := h
  exact ⟨A, c, (hb _ _ 33 (.inr rfl) h1).trans h1, h2, h3.move (fun k cur hk => hb k cur 5 (.inl rfl) hk)⟩
theorem IsQ.move {w w' : World} {g s cap next cr : Nat} {f : Nat → Option Res} (h : IsQ w g s cap next cr f) (hb : ∀ (k : Nat) (cur : Array Value) (t : TypeId), t = 5 ∨ t = 33 ∨ t = 49 ∨ t = 50 → w.heap[k]? = some (.cells cur t (0, 0)) → w'.heap[k]? = w.heap[k]?) : IsQ w' g s cap next cr f := by
  obtain ⟨h1, h2, h3, h4, h5, h6, vs, h7, h8, h9⟩ := h
  refine ⟨h1, h2, h3, h4, h5, (hb _ _ 49 (by simp) h6).trans h6, vs, (hb _ _ 50 (by simp) h7).trans h7, h8, fun k hk => ?_⟩
  rcases h9 k hk with h | ⟨b, x, e1, e2, e3⟩
  · exact .inl h
  · exact .inr ⟨b, x, e1, e2, e3.move (fun k cur t ht hc => hb k cur t (by rcases ht with rfl | rfl <;> simp) hc)⟩
theorem IsQ.below {w w' : World} {g s cap next cr : Nat} {f : Nat → Option Res} (h : IsQ w g s cap next cr f) (hb : Below w.heap.size w w') : IsQ w' g s cap next cr f :=
  h.move (fun k cur t _ hc => hb.block k (hlt hc))
theorem cells3 {w : World} {h : Nat} {a b c : Value} {t : TypeId} (hb : w.heap[h]? = some (.cells #[a, b, c] t (0, 0))) :
    w.cell? ⟨h, 0, none⟩ = some a ∧ w.cell? ⟨h, 1, none⟩ = some b ∧ w.cell? ⟨h, 2, none⟩ = some c ∧ ∀ j, w.frozen? ⟨h, j, none⟩ = false := by
  refine ⟨?_, ?_, ?_, fun j => ?_⟩ <;> simp [World.cell?, World.frozen?, hb]
theorem type_ne {w : World} {k : Nat} {c c' : Array Value} {t t' : TypeId} (h : w.heap[k]? = some (.cells c t (0, 0))) (h' : w.heap[k]? = some (.cells c' t' (0, 0))) : t = t' := by
  rw [h] at h'
  injection h' with h'
  injection h' with _ h'
/-- The ring's own numbers are turned. -/
theorem IsQ.setRing {w w' : World} {g s cap next cr next' cr' : Nat} {f : Nat → Option Res} (h : IsQ w g s cap next cr f) (hg : w.grownBy w' (some g)) (n1 : 1 ≤ next') (n2 : next' ≤ 1000000) (k1 : cr' ≤ cap)
    (hr : w'.heap[g]? = some (.cells #[.slice (some ⟨s, 0, none⟩) cap cap, .int .i64 (next' : Int), .int .i64 (cr' : Int)] 49 (0, 0))) : IsQ w' g s cap next' cr' f := by
  obtain ⟨h1, h2, h3, h4, h5, h6, vs, h7, h8, h9⟩ := h
  have hb : ∀ (k : Nat) (cur : Array Value) (t : TypeId), t ≠ 49 → w.heap[k]? = some (.cells cur t (0, 0)) → w'.heap[k]? = w.heap[k]? := fun k cur t ht hc => hg.block k (hlt hc) (fun e => by cases e; exact ht (type_ne hc h6))
  refine ⟨h1, h2, n1, n2, k1, hr, vs, (hb _ _ 50 (by decide) h7).trans h7, h8, fun k hk => ?_⟩
  rcases h9 k hk with h | ⟨b, x, e1, e2, e3⟩
  · exact .inl h
  · exact .inr ⟨b, x, e1, e2, e3.move (fun k cur t ht hc => hb k cur t (by rcases ht with rfl | rfl <;> decide) hc)⟩
def put (f : Nat → Option Res) (k : Nat) (x : Option Res) : Nat → Option Res := fun j => if j = k then x else f j
/-- A slot is turned. -/
theorem IsQ.setSlot {w : World} {g s cap next cr : Nat} {f : Nat → Option Res} (h : IsQ w g s cap next cr f) (k : Nat) (hk : k < cap) (v : Value) (x : Option Res)
    (hv : (x = none ∧ v = .pointer none) ∨ ∃ b y, x = some y ∧ v = P b ∧ Bx w b y) : IsQ (w.setCell ⟨s, k, none⟩ v) g s cap next cr (put f k x) := by
  obtain ⟨h1, h2, h3, h4, h5, h6, vs, h7, h8, h9⟩ := h
  have hg := grownBy_cell w s k v
  have hb : ∀ (j : Nat) (cur : Array Value) (t : TypeId), t ≠ 50 → w.heap[j]? = some (.cells cur t (0, 0)) → (w.setCell ⟨s, k, none⟩ v).heap[j]? = w.heap[j]? := fun j cur t ht hc => hg.block j (hlt hc) (fun e => by cases e; exact ht (type_ne hc h7))
  have hbx : ∀ b y, Bx w b y → Bx (w.setCell ⟨s, k, none⟩ v) b y := fun b y hy => hy.move (fun j cur t ht hc => hb j cur t (by rcases ht with rfl | rfl <;> decide) hc)
  refine ⟨h1, h2, h3, h4, h5, (hb _ _ 49 (by decide) h6).trans h6, _, heap_setCell_same w s k vs 50 v h7, by simpa using h8, fun j hj => ?_⟩
  rw [Array.getElem?_setIfInBounds, put]
  by_cases e : k = j
  · subst e
    simp only [if_true]
    rw [if_pos (by omega)]
    rcases hv with ⟨rfl, rfl⟩ | ⟨b, y, rfl, rfl, hy⟩
    · exact .inl ⟨rfl, rfl⟩
    · exact .inr ⟨b, y, rfl, rfl, hbx b y hy⟩
  · rw [if_neg e, if_neg (Ne.symm e)]
    rcases h9 j hj with h | ⟨b, y, e1, e2, e3⟩
    · exact .inl h
    · exact .inr ⟨b, y, e1, e2, hbx b y e3⟩
theorem IsQ.slot {w : World} {g s cap next cr : Nat} {f : Nat → Option Res} (h : IsQ w g s cap next cr f) (k : Nat) (hk : k < cap) :
    (f k = none ∧ w.cell? ⟨s, k, none⟩ = some (.pointer none) ∨ ∃ b x, f k = some x ∧ w.cell? ⟨s, k, none⟩ = some (P b) ∧ Bx w b x) ∧ ∀ j, w.frozen? ⟨s, j, none⟩ = false := by
  obtain ⟨vs, h7, h8, h9⟩ := h.slots
  refine ⟨?_, fun j => by simp [World.frozen?, h7]⟩
  rcases h9 k hk with ⟨h, e⟩ | ⟨b, y, e1, e2, e3⟩
  · exact .inl ⟨h, by simpa [World.cell?, h7] using e⟩
  · exact .inr ⟨b, y, e1, by simpa [World.cell?, h7] using e2, e3⟩
set_option maxRecDepth 100000
set_option maxHeartbeats 2000000
theorem slot (w : World) (g s cap next cr : Nat) (f : Nat → Option Res) (h : IsQ w g s cap next cr f) (m q : Nat) (hm : m ≤ 4000000000000000000) (hq : m % cap = q) :
    Calls Try.prog 24 #[P g, .int .i64 (m : Int)] w fun e w' => e = .returned (.pointer (some ⟨s, q, none⟩)) ∧ Drawn0 w w' := by
  obtain ⟨h0, h1, h2, hf⟩ := cells3 h.ring
  have hc1 := h.c1
  have hcap : (cap : Int) ≠ 0 := by omega
  have hc0 : ((cap : Int) == 0) = false := beq_eq_false_iff_ne.mpr hcap
  have hmod : Int.tmod (m : Int) (cap : Int) = (q : Int) := by rw [Int.tmod_eq_emod_of_nonneg (by omega), ← Int.natCast_emod, hq]
  have hq0 : (0 : Int) ≤ (q : Int) := by omega
  have hq1 : (q : Int) < (cap : Int) := by have := Nat.mod_lt m (show cap > 0 by omega); omega
  have hqt : ((q : Int)).toNat = q := by omega
  clear h hq
  go_enter Try.func24, Try.ntmps24
  go_wp2
  repeat (go_quiet (fail); try go_wp2)
  go_ret
  exact ⟨by first | rfl | (simp; done) | (simp [*]; done), by repeat (first | exact Drawn0.refl _ | apply Drawn0.step)⟩
theorem next_ (w : World) (g s cap next cr : Nat) (f : Nat → Option Res) (h : IsQ w g s cap next cr f) : Calls Try.prog 17 #[P g] w fun e w' => e = .returned (.int .i64 (next : Int)) ∧ Drawn0 w w' := by
  obtain ⟨h0, h1, h2, hf⟩ := cells3 h.ring
  clear h
  go_enter Try.func17, Try.ntmps17
  go_wp2
  repeat (go_quiet (fail); try go_wp2)
  go_ret
  exact ⟨by first | rfl | (simp; done) | (simp [*]; done), by repeat (first | exact Drawn0.refl _ | apply Drawn0.step)⟩
theorem nextNil (w : World) : Calls Try.prog 17 #[.pointer none] w fun e w' => e = .returned (.int .i64 0) ∧ Drawn0 w w' := by
  go_enter Try.func17, Try.ntmps17
  go_wp2
  repeat (go_quiet (fail); try go_wp2)
  go_ret
  exact ⟨by first | rfl | (simp; done) | (simp [*]; done), by repeat (first | exact Drawn0.refl _ | apply Drawn0.step)⟩
theorem credits (w : World) (g s cap next cr : Nat) (f : Nat → Option Res) (h : IsQ w g s cap next cr f) : Calls Try.prog 22 #[P g] w fun e w' => e = .returned (.int .i64 (cr : Int)) ∧ Drawn0 w w' := by
  obtain ⟨h0, h1, h2, hf⟩ := cells3 h.ring
  clear h
  go_enter Try.func22, Try.ntmps22
  go_wp2
  repeat (go_quiet (fail); try go_wp2)
  go_ret
  exact ⟨by first | rfl | (simp; done) | (simp [*]; done), by repeat (first | exact Drawn0.refl _ | apply Drawn0.step)⟩
theorem creditsNil (w : World) : Calls Try.prog 22 #[.pointer none] w fun e w' => e = .returned (.int .i64 0) ∧ Drawn0 w w' := by
  go_enter Try.func22, Try.ntmps22
  go_wp2
  repeat (go_quiet (fail); try go_wp2)
  go_ret
  exact ⟨by first | rfl | (simp; done) | (simp [*]; done), by repeat (first | exact Drawn0.refl _ | apply Drawn0.step)⟩
theorem acquireNil (w : World) : Calls Try.prog 20 #[.pointer none] w fun e w' => e = .returned (.int .i64 1) ∧ Drawn0 w w' := by
  go_enter Try.func20, Try.ntmps20
  go_wp2
  repeat (go_quiet (fail); try go_wp2)
  go_ret
  exact ⟨by first | rfl | (simp; done) | (simp [*]; done), by repeat (first | exact Drawn0.refl _ | apply Drawn0.step)⟩
theorem acquireNone (w : World) (g s cap next : Nat) (f : Nat → Option Res) (h : IsQ w g s cap next 0 f) : Calls Try.prog 20 #[P g] w fun e w' => e = .returned (.int .i64 11) ∧ Drawn0 w w' := by
  obtain ⟨h0, h1, h2', hf⟩ := cells3 h.ring
  have h2 : w.cell? ⟨g, 2, none⟩ = some (.int .i64 0) := h2'
  clear h h2'
  go_enter Try.func20, Try.ntmps20
  go_wp2
  repeat (go_quiet (fail); try go_wp2)
  go_ret
  exact ⟨by first | rfl | (simp; done) | (simp [*]; done), by repeat (first | exact Drawn0.refl _ | apply Drawn0.step)⟩
theorem acquire (w : World) (g s cap next cr : Nat) (f : Nat → Option Res) (h : IsQ w g s cap next cr f) (hc : 0 < cr) : Calls Try.prog 20 #[P g] w fun e w' => e = .returned (.int .i64 0) ∧ IsQ w' g s cap next (cr - 1) f ∧ Fr g s w w' := by
  obtain ⟨h0, h1, h2, hf⟩ := cells3 h.ring
  have hk := h.k1
  have hk2 := h.c2
  have hb : ((cr : Int) == 0) = false := beq_eq_false_iff_ne.mpr (by omega)
  have H := Aside0.mk h
  clear h
  go_enter Try.func20, Try.ntmps20
  go_wp2
  go_ret
  refine ⟨rfl, H.out.setRing (grownBy_cell _ _ _ _) H.out.n1 H.out.n2 (by omega) ?_, Fr.g (grownBy_cell _ _ _ _)⟩
  rw [heap_setCell_same _ _ _ _ _ _ H.out.ring, show ((cr - 1 : Nat) : Int) = (cr : Int) - 1 by omega]
  rfl
theorem readyNil (w : World) : Calls Try.prog 15 #[.pointer none] w fun e w' => e = .returned (.bool false) ∧ Drawn0 w w' := by
  go_enter Try.func15, Try.ntmps15
  go_wp2
  repeat (go_quiet (fail); try go_wp2)
  go_ret
  exact ⟨by first | rfl | (simp; done) | (simp [*]; done), by repeat (first | exact Drawn0.refl _ | apply Drawn0.step)⟩
theorem drawn_trans {a b c : World} (h : Drawn0 a b) (k : Drawn0 b c) : Drawn0 a c := by
  obtain ⟨n, rfl⟩ := h
  obtain ⟨m, rfl⟩ := k
  exact ⟨n + m, by simp [World.drewN, Nat.add_assoc]⟩
theorem ready (w : World) (g s cap next cr : Nat) (f : Nat → Option Res) (h : IsQ w g s cap next cr f) (b : Bool) (hb : (f (next % cap)).isSome = b) : Calls Try.prog 15 #[P g] w fun e w' => e = .returned (.bool b) ∧ Drawn0 w w' := by
  have hk := h.c1
  obtain ⟨h0, h1, h2, hf⟩ := cells3 h.ring
  obtain ⟨hsl, hfs⟩ := h.slot (next % cap) (Nat.mod_lt _ (by omega))
  have H := Aside0.mk (slot w g s cap next cr f h next (next % cap) (by have := h.n2; omega) rfl)
  generalize hq : next % cap = q at *
  rcases hsl with ⟨e, hc⟩ | ⟨bb, x, e, hc, hx⟩
  · have hbf : b = false := by rw [← hb, e]; rfl
    subst hbf
    clear h hb e hq
    go_enter Try.func15, Try.ntmps15
    go_wp2_with (go_at_call 24; (with_reducible refine (H.out).mono ?_); rintro e w_ ⟨rfl, ⟨nd, rfl⟩⟩)
    go_ret
    exact ⟨by first | rfl | (simp; done) | (simp [*]; done), ⟨_, rfl⟩⟩
  · have hbf : b = true := by rw [← hb, e]; rfl
    subst hbf
    clear h hb e hq hx
    go_enter Try.func15, Try.ntmps15
    go_wp2_with (go_at_call 24; (with_reducible refine (H.out).mono ?_); rintro e w_ ⟨rfl, ⟨nd, rfl⟩⟩)
    go_ret
    exact ⟨by first | rfl | (simp; done) | (simp [*]; done), ⟨_, rfl⟩⟩
theorem newBad (w : World) (c : Int) (hc : c < 1 ∨ 64 < c) : Calls Try.prog 8 #[.int .i64 c] w fun e w' => e = .returned (.tuple #[.pointer none, .int .i64 3]) ∧ Drawn0 w w' := by
  by_cases h1 : c < 1
  · have h2 : decide (c < 1) = true := decide_eq_true h1
    clear h1 hc
    go_enter Try.func8, Try.ntmps8
    go_wp2
    repeat (go_quiet (fail); try go_wp2)
    go_ret2
    exact ⟨by first | rfl | (simp; done) | (simp [*]; done), by repeat (first | exact Drawn0.refl _ | apply Drawn0.step)⟩
  · have h2 : decide (c < 1) = false := decide_eq_false h1
    have h3 : decide (c > 64) = true := decide_eq_true (by omega)
    clear hc h1
    go_enter Try.func8, Try.ntmps8
    go_wp2
    repeat (go_quiet (fail); try go_wp2)
    go_ret2
    exact ⟨by first | rfl | (simp; done) | (simp [*]; done), by repeat (first | exact Drawn0.refl _ | apply Drawn0.step)⟩
theorem inf50 : (Try.prog.info? 50).map (fun i => (i.zero, i.size, i.bytes)) = some (some (.pointer none), 1, 8) := by kernel_rfl
theorem new_ (w : World) (C : Int) (c : Nat) (hC : C = (c : Int)) (h1 : 1 ≤ c) (h2 : c ≤ 64) : Calls Try.prog 8 #[.int .i64 C] w fun e w' => ∃ g s, e = .returned (.tuple #[P g, .int .i64 0]) ∧ IsQ w' g s c 1 c (fun _ => none) ∧ Below w.heap.size w w' ∧ w.heap.size ≤ g ∧ w.heap.size ≤ s := by
  subst hC
  obtain ⟨i0, hi, hz0, hz1, hz2⟩ := info_parts inf50
  have h3 : decide ((c : Int) < 1) = false := decide_eq_false (by omega)
  have h4 : decide ((c : Int) > 64) = false := decide_eq_false (by omega)
  go_enter Try.func8, Try.ntmps8
  go_wp2_with (first | (at_make; refine wpList_make_full _ rfl _ _ 47 rfl w.heap.size 50 i0 (.pointer none) 1 Try.underlying47 hi hz0 hz1 _ _ _ _ c rfl rfl rfl rfl (by rw [hz2]; omega) (by unfold maxLen; omega) (Nat.le_refl _) ?_; intro w1 hown hg; have HO := Aside0.mk hown; have HG := Aside0.mk hg; clear hown hg))
  go_ret2
  have hlt1 : w.heap.size < w1.heap.size := by
    rcases HO.out.2 with ⟨e, _⟩ | ⟨gb, cp, cur, e, hgb, hcur, _⟩
    · cases e
    · injection e with e1
      cases e1
      exact hlt hcur
  refine ⟨w1.heap.size, w.heap.size, rfl, ⟨h1, h2, Nat.le_refl _, by omega, Nat.le_refl _, heap_alloc_new w1 _, ?_⟩, ((Below.refl w.heap.size w).grown HG.out (Nat.le_refl _) (fun k e => by cases e)).alloc HG.out.size _, HG.out.size, Nat.le_refl _⟩
  rcases HO.out.2 with ⟨e, _⟩ | ⟨gb, cp, cur, e, hgb, hcur, h5, h6, h7, h8⟩
  · cases e
  · injection e with e1 e2 e3
    cases e1
    subst e3
    refine ⟨cur, (Below.heap_alloc w1 _ _ hlt1).trans hcur, by omega, fun k hk => .inl ⟨rfl, ?_⟩⟩
    have h9 : cur.toList.take (c * 1) = List.replicate (c * 1) (.pointer none) := h8.trans (toList_madeCells_one _ _)
    have h10 : (cur.toList.take (c * 1))[k]? = some (.pointer none) := by rw [h9, List.getElem?_replicate, if_pos (by omega)]
    rw [List.getElem?_take, if_pos (by omega)] at h10
    simpa using h10
end Go.Proofs.Ytccgcljkgjboaaa.Rg
