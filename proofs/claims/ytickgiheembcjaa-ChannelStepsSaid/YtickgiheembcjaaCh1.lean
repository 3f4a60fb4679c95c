import Derived.Test.YtickgiheembcjaaPChannelStepsx1
import Derived.WalkMore
/- The contracts of package channel, by hand: the channel's block of 68 cells at g (IsC), each method's answer and what it turns. -/
namespace Go.Proofs.Ytickgiheembcjaa.Ch
open Go.RowKit Go.Proofs.YtickgiheembcjaaW.PrintWords Go.Proofs.YtickgiheembcjaaW.PrintLast Go.Proofs.YtickgiheembcjaaW.PrintMore
set_option linter.unusedVariables false
set_option linter.unusedSimpArgs false
structure IsC (w : World) (g : Nat) (ring : Nat → Int) (fr n cap : Nat) (cl : Bool) : Prop where
  lt : fr < 64
  ln : n ≤ cap
  lc : cap ≤ 64
  blk : ∃ vs : Array Value, w.heap[g]? = some (.cells vs 42 (0, 0)) ∧ (∀ j, j < 64 → vs[j]? = some (.int .i64 (ring j))) ∧ vs[64]? = some (.int .i64 fr) ∧ vs[65]? = some (.int .i64 n) ∧ vs[66]? = some (.int .i64 cap) ∧ vs[67]? = some (.bool cl)
theorem IsC.keep {w w' : World} {g : Nat} {ring : Nat → Int} {fr n cap : Nat} {cl : Bool} (h : IsC w g ring fr n cap cl) (e : w'.heap[g]? = w.heap[g]?) : IsC w' g ring fr n cap cl := by
  obtain ⟨h1, h2, h3, vs, h4, h5⟩ := h
  exact ⟨h1, h2, h3, vs, e.trans h4, h5⟩
theorem IsC.lt_size {w : World} {g : Nat} {ring : Nat → Int} {fr n cap : Nat} {cl : Bool} (h : IsC w g ring fr n cap cl) : g < w.heap.size := by
  obtain ⟨h1, h2, h3, vs, h4, h5⟩ := h
  exact (Array.getElem?_eq_some_iff.1 h4).1
theorem IsC.grown {w w' : World} {g : Nat} {ring : Nat → Int} {fr n cap : Nat} {cl : Bool} (h : IsC w g ring fr n cap cl) {row : Option Nat} (hg : w.grownBy w' row) (hne : some g ≠ row) : IsC w' g ring fr n cap cl :=
  h.keep (hg.block g h.lt_size hne)
theorem IsC.cells {w : World} {g : Nat} {ring : Nat → Int} {fr n cap : Nat} {cl : Bool} (h : IsC w g ring fr n cap cl) :
    (∀ j, j < 64 → w.cell? ⟨g, j, none⟩ = some (.int .i64 (ring j))) ∧ w.cell? ⟨g, 64, none⟩ = some (.int .i64 fr) ∧ w.cell? ⟨g, 65, none⟩ = some (.int .i64 n) ∧ w.cell? ⟨g, 66, none⟩ = some (.int .i64 cap) ∧ w.cell? ⟨g, 67, none⟩ = some (.bool cl) ∧ ∀ j, w.frozen? ⟨g, j, none⟩ = false := by
  obtain ⟨h1, h2, h3, vs, h4, h5, h6, h7, h8, h9⟩ := h
  refine ⟨fun j hj => ?_, ?_, ?_, ?_, ?_, fun j => ?_⟩
  · simpa [World.cell?, h4] using h5 j hj
  · simpa [World.cell?, h4] using h6
  · simpa [World.cell?, h4] using h7
  · simpa [World.cell?, h4] using h8
  · simpa [World.cell?, h4] using h9
  · simp [World.frozen?, h4]
def put (ring : Nat → Int) (k : Nat) (v : Int) : Nat → Int := fun j => if j = k then v else ring j
theorem grownBy_cell (W : World) (b j : Nat) (v : Value) : W.grownBy (W.setCell ⟨b, j, none⟩ v) (some b) :=
  ⟨rfl, rfl, rfl, by simp, fun k _ hk => Below.heap_setCell _ _ _ k (fun e => hk (by rw [e]))⟩
theorem set_get {w : World} {g : Nat} {vs : Array Value} (h : w.heap[g]? = some (.cells vs 42 (0, 0))) (j : Nat) (v : Value) :
    ∃ vs', (w.setCell ⟨g, j, none⟩ v).heap[g]? = some (.cells vs' 42 (0, 0)) ∧ (∀ i, i ≠ j → vs'[i]? = vs[i]?) ∧ (j < vs.size → vs'[j]? = some v) := by
  refine ⟨_, heap_setCell_same w g j vs 42 v h, fun i hi => ?_, fun hj => ?_⟩
  · simp [Array.getElem?_setIfInBounds, Ne.symm hi]
  · simp [Array.getElem?_setIfInBounds, hj]
theorem IsC.sendTo {w : World} {g : Nat} {ring : Nat → Int} {fr n cap : Nat} {cl : Bool} (h : IsC w g ring fr n cap cl) (k : Nat) (hk : k < 64) (v : Int) (hn : n < cap) :
    IsC ((w.setCell ⟨g, k, none⟩ (.int .i64 v)).setCell ⟨g, 65, none⟩ (.int .i64 ((n : Int) + 1))) g (put ring k v) fr (n + 1) cap cl := by
  obtain ⟨h1, h2, h3, vs, h4, h5, h6, h7, h8, h9⟩ := h
  obtain ⟨vs1, g4, g5, g6⟩ := set_get h4 k (.int .i64 v)
  obtain ⟨vs2, k4, k5, k6⟩ := set_get g4 65 (.int .i64 ((n : Int) + 1))
  have z0 : k < vs.size := (Array.getElem?_eq_some_iff.1 (h5 k hk)).1
  have z1 : 65 < vs1.size := by
    have := g5 65 (by omega)
    rw [h7] at this
    exact (Array.getElem?_eq_some_iff.1 this).1
  refine ⟨h1, by omega, h3, vs2, k4, fun j hj => ?_, ?_, ?_, ?_, ?_⟩
  · rw [k5 j (by omega), put]
    split
    · next e => subst e; exact g6 z0
    · next e => rw [g5 j e]; exact h5 j hj
  · rw [k5 64 (by omega), g5 64 (by omega), h6]
  · rw [k6 z1]; simp
  · rw [k5 66 (by omega), g5 66 (by omega), h8]
  · rw [k5 67 (by omega), g5 67 (by omega), h9]
theorem IsC.took {w : World} {g : Nat} {ring : Nat → Int} {fr n cap : Nat} {cl : Bool} (h : IsC w g ring fr n cap cl) (hn : 0 < n) :
    IsC ((w.setCell ⟨g, 64, none⟩ (.int .i64 (((fr : Int) + 1) % 64))).setCell ⟨g, 65, none⟩ (.int .i64 ((n : Int) - 1))) g ring ((fr + 1) % 64) (n - 1) cap cl := by
  obtain ⟨h1, h2, h3, vs, h4, h5, h6, h7, h8, h9⟩ := h
  obtain ⟨vs1, g4, g5, g6⟩ := set_get h4 64 (.int .i64 (((fr : Int) + 1) % 64))
  obtain ⟨vs2, k4, k5, k6⟩ := set_get g4 65 (.int .i64 ((n : Int) - 1))
  have z0 : 64 < vs.size := (Array.getElem?_eq_some_iff.1 h6).1
  have z1 : 65 < vs1.size := by
    have := g5 65 (by omega)
    rw [h7] at this
    exact (Array.getElem?_eq_some_iff.1 this).1
  refine ⟨by omega, by omega, h3, vs2, k4, fun j hj => ?_, ?_, ?_, ?_, ?_⟩
  · rw [k5 j (by omega), g5 j (by omega)]; exact h5 j hj
  · rw [k5 64 (by omega), g6 z0]; congr 2
  · rw [k6 z1]; congr 2; omega
  · rw [k5 66 (by omega), g5 66 (by omega), h8]
  · rw [k5 67 (by omega), g5 67 (by omega), h9]
theorem IsC.shut {w : World} {g : Nat} {ring : Nat → Int} {fr n cap : Nat} {cl : Bool} (h : IsC w g ring fr n cap cl) :
    IsC (w.setCell ⟨g, 67, none⟩ (.bool true)) g ring fr n cap true := by
  obtain ⟨h1, h2, h3, vs, h4, h5, h6, h7, h8, h9⟩ := h
  obtain ⟨vs1, g4, g5, g6⟩ := set_get h4 67 (.bool true)
  have z0 : 67 < vs.size := (Array.getElem?_eq_some_iff.1 h9).1
  refine ⟨h1, h2, h3, vs1, g4, fun j hj => ?_, ?_, ?_, ?_, g6 z0⟩
  · rw [g5 j (by omega)]; exact h5 j hj
  · rw [g5 64 (by omega), h6]
  · rw [g5 65 (by omega), h7]
  · rw [g5 66 (by omega), h8]
abbrev P (g : Nat) : Value := .pointer (some ⟨g, 0, none⟩)
set_option maxRecDepth 100000
set_option maxHeartbeats 2000000
theorem canSend (w : World) (g : Nat) (ring : Nat → Int) (fr n cap : Nat) (cl : Bool) (h : IsC w g ring fr n cap cl) :
    Calls Try.prog 9 #[P g] w fun e w' => e = .returned (.bool (!cl && decide ((n : Int) < (cap : Int)))) ∧ Drawn0 w w' := by
  obtain ⟨hr, h64, h65, h66, h67, hf⟩ := h.cells
  clear h hr
  cases cl <;>
  · go_enter Try.func9, Try.ntmps9
    go_wp2
    repeat (go_quiet (fail); try go_wp2)
    go_ret
    exact ⟨by first | rfl | (simp; done) | (simp [*]; done), by repeat (first | exact Drawn0.refl _ | apply Drawn0.step)⟩
theorem canSendB (w : World) (g : Nat) (ring : Nat → Int) (fr n cap : Nat) (cl b : Bool) (h : IsC w g ring fr n cap cl) (hb : (!cl && decide ((n : Int) < (cap : Int))) = b) :
    Calls Try.prog 9 #[P g] w fun e w' => e = .returned (.bool b) ∧ Drawn0 w w' := by
  subst hb
  exact canSend w g ring fr n cap cl h
theorem canSendNil (w : World) : Calls Try.prog 9 #[.pointer none] w fun e w' => e = .returned (.bool false) ∧ Drawn0 w w' := by
  go_enter Try.func9, Try.ntmps9
  go_wp2
  repeat (go_quiet (fail); try go_wp2)
  go_ret
  exact ⟨by first | rfl | (simp; done) | (simp [*]; done), by repeat (first | exact Drawn0.refl _ | apply Drawn0.step)⟩
theorem canReceive (w : World) (g : Nat) (ring : Nat → Int) (fr n cap : Nat) (cl : Bool) (h : IsC w g ring fr n cap cl) :
    Calls Try.prog 11 #[P g] w fun e w' => e = .returned (.bool (decide (0 < (n : Int)))) ∧ Drawn0 w w' := by
  obtain ⟨hr, h64, h65, h66, h67, hf⟩ := h.cells
  clear h hr
  · go_enter Try.func11, Try.ntmps11
    go_wp2
    repeat (go_quiet (fail); try go_wp2)
    go_ret
    exact ⟨by first | rfl | (simp; done) | (simp [*]; done), by repeat (first | exact Drawn0.refl _ | apply Drawn0.step)⟩
theorem canReceiveNil (w : World) : Calls Try.prog 11 #[.pointer none] w fun e w' => e = .returned (.bool false) ∧ Drawn0 w w' := by
  go_enter Try.func11, Try.ntmps11
  go_wp2
  repeat (go_quiet (fail); try go_wp2)
  go_ret
  exact ⟨by first | rfl | (simp; done) | (simp [*]; done), by repeat (first | exact Drawn0.refl _ | apply Drawn0.step)⟩
theorem closed (w : World) (g : Nat) (ring : Nat → Int) (fr n cap : Nat) (cl : Bool) (h : IsC w g ring fr n cap cl) :
    Calls Try.prog 20 #[P g] w fun e w' => e = .returned (.bool cl) ∧ Drawn0 w w' := by
  obtain ⟨hr, h64, h65, h66, h67, hf⟩ := h.cells
  clear h hr
  · go_enter Try.func20, Try.ntmps20
    go_wp2
    repeat (go_quiet (fail); try go_wp2)
    go_ret
    exact ⟨by first | rfl | (simp; done) | (simp [*]; done), by repeat (first | exact Drawn0.refl _ | apply Drawn0.step)⟩
theorem closedNil (w : World) : Calls Try.prog 20 #[.pointer none] w fun e w' => e = .returned (.bool true) ∧ Drawn0 w w' := by
  go_enter Try.func20, Try.ntmps20
  go_wp2
  repeat (go_quiet (fail); try go_wp2)
  go_ret
  exact ⟨by first | rfl | (simp; done) | (simp [*]; done), by repeat (first | exact Drawn0.refl _ | apply Drawn0.step)⟩
theorem drained (w : World) (g : Nat) (ring : Nat → Int) (fr n cap : Nat) (cl : Bool) (h : IsC w g ring fr n cap cl) :
    Calls Try.prog 21 #[P g] w fun e w' => e = .returned (.bool (cl && (n : Int) == 0)) ∧ Drawn0 w w' := by
  obtain ⟨hr, h64, h65, h66, h67, hf⟩ := h.cells
  clear h hr
  cases cl <;>
  · go_enter Try.func21, Try.ntmps21
    go_wp2
    repeat (go_quiet (fail); try go_wp2)
    go_ret
    exact ⟨by first | rfl | (simp; done) | (simp [*]; done), by repeat (first | exact Drawn0.refl _ | apply Drawn0.step)⟩
theorem drainedNil (w : World) : Calls Try.prog 21 #[.pointer none] w fun e w' => e = .returned (.bool true) ∧ Drawn0 w w' := by
  go_enter Try.func21, Try.ntmps21
  go_wp2
  repeat (go_quiet (fail); try go_wp2)
  go_ret
  exact ⟨by first | rfl | (simp; done) | (simp [*]; done), by repeat (first | exact Drawn0.refl _ | apply Drawn0.step)⟩
def zc : Array Value := (List.replicate 67 (Value.int .i64 0)).toArray.push (.bool false)
theorem info42 : (Try.prog.info? 42).map (fun i => i.zero) = some (some (.agg zc)) := by kernel_rfl
theorem zc_size : zc.size = 68 := by simp [zc]
theorem zc_ne : zc ≠ #[] := fun h => by have := zc_size; rw [h] at this; simp at this
theorem zc_at (j : Nat) (hj : j < 67) : zc[j]? = some (.int .i64 0) := by
  have hl : (List.replicate 67 (Value.int .i64 0)).length = 67 := List.length_replicate
  rw [zc, Array.getElem?_push, if_neg (by rw [List.size_toArray, hl]; omega), List.getElem?_toArray, List.getElem?_replicate, if_pos hj]
theorem zc_last : zc[67]? = some (.bool false) := by simp [zc, Array.getElem?_push]
theorem zero42 (w : World) : (zeroValue 42).run Try.prog w = .ok (.agg zc) w := by
  have h := info42
  cases hi : Try.prog.info? 42 with
  | none => rw [hi] at h; cases h
  | some i =>
    rw [hi] at h
    have hz : i.zero = some (.agg zc) := Option.some.inj h
    simp [zeroValue, typeInfo, hi, hz]
attribute [local irreducible] zc
attribute [local simp] zc_size zc_ne
attribute [local go_sem] zero42 zc_size
theorem newBad (w : World) (c : Int) (hc : c < 1 ∨ 64 < c) : Calls Try.prog 6 #[.int .i64 c] w fun e w' => e = .returned (.tuple #[.pointer none, .int .i64 3]) ∧ Drawn0 w w' := by
  have hb : (decide (c < 1) || decide (64 < c)) = true := by simpa using hc
  by_cases h1 : c < 1
  · clear hc hb
    have h2 : decide (c < 1) = true := decide_eq_true h1
    clear h1
    go_enter Try.func6, Try.ntmps6
    go_wp2
    repeat (go_quiet (fail); try go_wp2)
    go_ret2
    exact ⟨by first | rfl | (simp; done) | (simp [*]; done), by repeat (first | exact Drawn0.refl _ | apply Drawn0.step)⟩
  · have h2 : decide (c < 1) = false := decide_eq_false h1
    have h3 : decide (c > 64) = true := decide_eq_true (by omega)
    clear hc hb h1
    go_enter Try.func6, Try.ntmps6
    go_wp2
    repeat (go_quiet (fail); try go_wp2)
    go_ret2
    exact ⟨by first | rfl | (simp; done) | (simp [*]; done), by repeat (first | exact Drawn0.refl _ | apply Drawn0.step)⟩
theorem madeC (w : World) (c : Nat) (h2 : c ≤ 64) : IsC (w.alloc (.cells (zc.setIfInBounds 66 (.int .i64 (c : Int))) 42)) w.heap.size (fun _ => 0) 0 0 c false := by
  refine ⟨by omega, by omega, h2, zc.setIfInBounds 66 (.int .i64 (c : Int)), ?_, fun j hj => ?_, ?_, ?_, ?_, ?_⟩
  · show (w.heap.push _)[w.heap.size]? = _
    rw [Array.getElem?_push, if_pos rfl]
  · rw [Array.getElem?_setIfInBounds, if_neg (by omega)]; exact zc_at j (by omega)
  · rw [Array.getElem?_setIfInBounds, if_neg (by omega)]; exact zc_at 64 (by omega)
  · rw [Array.getElem?_setIfInBounds, if_neg (by omega)]; exact zc_at 65 (by omega)
  · rw [Array.getElem?_setIfInBounds, if_pos rfl, if_pos (by rw [zc_size]; omega)]
  · rw [Array.getElem?_setIfInBounds, if_neg (by omega)]; exact zc_last
theorem newGood (w : World) (c : Nat) (h1 : 1 ≤ c) (h2 : c ≤ 64) : Calls Try.prog 6 #[.int .i64 (c : Int)] w fun e w' => ∃ g, e = .returned (.tuple #[P g, .int .i64 0]) ∧ IsC w' g (fun _ => 0) 0 0 c false ∧ w.grownBy w' none ∧ w.heap.size ≤ g := by
  have h3 : decide ((c : Int) < 1) = false := decide_eq_false (by omega)
  have h4 : decide ((c : Int) > 64) = false := decide_eq_false (by omega)
  go_enter Try.func6, Try.ntmps6
  go_wp2
  repeat (go_quiet (fail); try go_wp2)
  go_ret2
  exact ⟨w.heap.size, by first | rfl | (simp; done) | (simp [*]; done), madeC _ _ h2, World.grownBy_alloc _ _ _, Nat.le_refl _⟩
theorem close (w : World) (g : Nat) (ring : Nat → Int) (fr n cap : Nat) (h : IsC w g ring fr n cap false) :
    Calls Try.prog 17 #[P g] w fun e w' => e = .returned (.int .i64 0) ∧ IsC w' g ring fr n cap true ∧ w.grownBy w' (some g) := by
  obtain ⟨hr, h64, h65, h66, h67, hf⟩ := h.cells
  have H := Aside0.mk h
  clear h hr
  · go_enter Try.func17, Try.ntmps17
    go_wp2
    repeat (go_quiet (fail); try go_wp2)
    go_ret
    exact ⟨rfl, H.out.shut.keep rfl, grownBy_cell _ _ _ _⟩
theorem close2 (w : World) (g : Nat) (ring : Nat → Int) (fr n cap : Nat) (h : IsC w g ring fr n cap true) :
    Calls Try.prog 17 #[P g] w fun e w' => e = .returned (.int .i64 11) ∧ Drawn0 w w' := by
  obtain ⟨hr, h64, h65, h66, h67, hf⟩ := h.cells
  clear h hr
  · go_enter Try.func17, Try.ntmps17
    go_wp2
    repeat (go_quiet (fail); try go_wp2)
    go_ret
    exact ⟨by first | rfl | (simp; done) | (simp [*]; done), by repeat (first | exact Drawn0.refl _ | apply Drawn0.step)⟩
theorem closeNil (w : World) : Calls Try.prog 17 #[.pointer none] w fun e w' => e = .returned (.int .i64 1) ∧ Drawn0 w w' := by
  go_enter Try.func17, Try.ntmps17
  go_wp2
  repeat (go_quiet (fail); try go_wp2)
  go_ret
  exact ⟨by first | rfl | (simp; done) | (simp [*]; done), by repeat (first | exact Drawn0.refl _ | apply Drawn0.step)⟩
theorem sendNil (w : World) (v : Int) : Calls Try.prog 10 #[.pointer none, .int .i64 v] w fun e w' => e = .returned (.int .i64 1) ∧ Drawn0 w w' := by
  go_enter Try.func10, Try.ntmps10
  go_wp2
  repeat (go_quiet (fail); try go_wp2)
  go_ret
  exact ⟨by first | rfl | (simp; done) | (simp [*]; done), by repeat (first | exact Drawn0.refl _ | apply Drawn0.step)⟩
theorem sendFull (w : World) (g : Nat) (ring : Nat → Int) (fr n cap : Nat) (cl : Bool) (h : IsC w g ring fr n cap cl) (hb : (!cl && decide ((n : Int) < (cap : Int))) = false) (v : Int) :
    Calls Try.prog 10 #[P g, .int .i64 v] w fun e w' => e = .returned (.int .i64 11) ∧ Drawn0 w w' := by
  have H := Aside0.mk h
  have HB := Aside0.mk hb
  clear h hb
  go_enter Try.func10, Try.ntmps10
  go_wp2_with (go_at_call 9; (with_reducible refine (canSendB _ g ring fr n cap cl false H.out HB.out).mono ?_); rintro e w' ⟨rfl, ⟨nd, rfl⟩⟩)
  repeat (go_quiet (fail); try go_wp2)
  go_ret
  exact ⟨by first | rfl | (simp; done) | (simp [*]; done), by repeat (first | exact Drawn0.refl _ | apply Drawn0.step | exact ⟨⟨_, rfl⟩⟩)⟩
theorem grown0 {w w' : World} (h : Drawn0 w w') (row : Option Nat) : w.grownBy w' row := by
  obtain ⟨n, rfl⟩ := h
  exact ⟨rfl, rfl, rfl, Nat.le_refl _, fun _ _ _ => rfl⟩
theorem grownD {a c : World} {row : Option Nat} (h : a.grownBy c row) : a.grownBy c.drew row := ⟨h.os, h.tape, h.output, h.size, h.block⟩
theorem grown2 (w : World) (g i j : Nat) (u v : Value) : w.grownBy ((w.setCell ⟨g, i, none⟩ u).setCell ⟨g, j, none⟩ v) (some g) := (grownBy_cell w g i u).trans (grownBy_cell _ g j v)
theorem send (w : World) (g : Nat) (ring : Nat → Int) (fr n cap : Nat) (h : IsC w g ring fr n cap false) (hn : n < cap) (v : Int) :
    Calls Try.prog 10 #[P g, .int .i64 v] w fun e w' => e = .returned (.int .i64 0) ∧ IsC w' g (put ring ((fr + n) % 64) v) fr (n + 1) cap false ∧ w.grownBy w' (some g) := by
  have hlt : fr < 64 := h.lt
  have hle : cap ≤ 64 := h.lc
  have hb : (!false && decide ((n : Int) < (cap : Int))) = true := by simpa using hn
  have H := Aside0.mk h
  have HB := Aside0.mk hb
  clear h hb
  go_enter Try.func10, Try.ntmps10
  go_wp2_with (go_at_call 9; (with_reducible refine (canSendB _ g ring fr n cap false true H.out HB.out).mono ?_); rintro e w' ⟨rfl, hd⟩; have HD := Aside0.mk (grown0 hd (some g)); have h := H.out.grown (grown0 hd none) (by simp); clear H hd; obtain ⟨hr, h64, h65, h66, h67, hf⟩ := h.cells; have hrk := hr ((fr + n) % 64) (by omega); have H := Aside0.mk h; clear h hr)
  go_region
  all_goals go_wp2
  all_goals go_ret
  all_goals exact ⟨rfl, (H.out.sendTo _ (by omega) v hn).keep rfl, HD.out.trans (grownD (grown2 _ _ _ _ _ _))⟩
theorem receiveNil (w : World) : Calls Try.prog 12 #[.pointer none] w fun e w' => e = .returned (.tuple #[.int .i64 0, .int .i64 1]) ∧ Drawn0 w w' := by
  go_enter Try.func12, Try.ntmps12
  go_wp2
  repeat (go_quiet (fail); try go_wp2)
  go_ret2
  exact ⟨by first | rfl | (simp; done) | (simp [*]; done), by repeat (first | exact Drawn0.refl _ | apply Drawn0.step)⟩
theorem receiveNone (w : World) (g : Nat) (ring : Nat → Int) (fr cap : Nat) (h : IsC w g ring fr 0 cap true) :
    Calls Try.prog 12 #[P g] w fun e w' => e = .returned (.tuple #[.int .i64 0, .int .i64 15]) ∧ Drawn0 w w' := by
  obtain ⟨hr, h64, h65', h66, h67, hf⟩ := h.cells
  have h65 : w.cell? ⟨g, 65, none⟩ = some (.int .i64 0) := h65'
  clear h hr h65'
  go_enter Try.func12, Try.ntmps12
  go_wp2
  repeat (go_quiet (fail); try go_wp2)
  go_ret2
  exact ⟨by first | rfl | (simp; done) | (simp [*]; done), by repeat (first | exact Drawn0.refl _ | apply Drawn0.step)⟩
theorem receiveLater (w : World) (g : Nat) (ring : Nat → Int) (fr cap : Nat) (h : IsC w g ring fr 0 cap false) :
    Calls Try.prog 12 #[P g] w fun e w' => e = .returned (.tuple #[.int .i64 0, .int .i64 11]) ∧ Drawn0 w w' := by
  obtain ⟨hr, h64, h65', h66, h67, hf⟩ := h.cells
  have h65 : w.cell? ⟨g, 65, none⟩ = some (.int .i64 0) := h65'
  clear h hr h65'
  go_enter Try.func12, Try.ntmps12
  go_wp2
  repeat (go_quiet (fail); try go_wp2)
  go_ret2
  exact ⟨by first | rfl | (simp; done) | (simp [*]; done), by repeat (first | exact Drawn0.refl _ | apply Drawn0.step)⟩
theorem receive (w : World) (g : Nat) (ring : Nat → Int) (fr n cap : Nat) (cl : Bool) (h : IsC w g ring fr n cap cl) (hn : 0 < n) :
    Calls Try.prog 12 #[P g] w fun e w' => e = .returned (.tuple #[.int .i64 (ring fr), .int .i64 0]) ∧ IsC w' g ring ((fr + 1) % 64) (n - 1) cap cl ∧ w.grownBy w' (some g) := by
  have hlt : fr < 64 := h.lt
  have hle : cap ≤ 64 := h.lc
  have hnc := h.ln
  have hn0 : (n : Int) ≠ 0 := by omega
  have hb : ((n : Int) == 0) = false := beq_eq_false_iff_ne.mpr hn0
  obtain ⟨hr, h64, h65, h66, h67, hf⟩ := h.cells
  have hrk := hr fr (by omega)
  have H := Aside0.mk h
  clear h hr
  cases cl <;>
  · go_enter Try.func12, Try.ntmps12
    go_wp2
    repeat (go_quiet (fail); try go_wp2)
    go_ret2
    exact ⟨rfl, ((H.out.keep rfl : IsC (w.drewN nq) g ring fr n cap _).took hn), (grown0 ⟨⟨nq, rfl⟩⟩ _).trans (grown2 _ _ _ _ _ _)⟩
end Go.Proofs.Ytickgiheembcjaa.Ch
