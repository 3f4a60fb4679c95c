import Derived.Test.YtccgcljkgjboaaaR2
import Derived.Laws.ResultCell
import Derived.Deep.CutBlock
/- Take and Held, by hand. -/
namespace Go.Proofs.Ytccgcljkgjboaaa.Rg
open Go.RowKit Go.Proofs.YtccgcljkgjboaaaW.PrintWords Go.Proofs.YtccgcljkgjboaaaW.PrintLast Go.Proofs.YtccgcljkgjboaaaW.PrintMore
set_option linter.unusedVariables false
set_option linter.unusedSimpArgs false
attribute [local go_sem] max2_int min2_int max_two min_two max_three min_three max_four min_four
set_option maxRecDepth 100000
set_option maxHeartbeats 2000000
abbrev Z3 : Array Value := #[.slice none 0 0, .int .i64 0, .int .i64 0]
theorem slot_some {w : World} {s q : Nat} {f : Nat → Option Res} {x : Res} (h : f q = none ∧ w.cell? ⟨s, q, none⟩ = some (.pointer none) ∨ ∃ b x, f q = some x ∧ w.cell? ⟨s, q, none⟩ = some (P b) ∧ Bx w b x) (hf : f q = some x) :
    ∃ bb y, f q = some y ∧ w.cell? ⟨s, q, none⟩ = some (P bb) ∧ Bx w bb y := by
  rcases h with ⟨e, _⟩ | h
  · rw [e] at hf; cases hf
  · exact h
theorem IsQ.final {w w' : World} {g s cap next cr next' cr' : Nat} {f : Nat → Option Res} (h : IsQ w g s cap next cr f) (fr : Fr g s w w') (q : Nat) (n1 : 1 ≤ next') (n2 : next' ≤ 1000000) (k1 : cr' ≤ cap)
    (hr : w'.heap[g]? = some (.cells #[.slice (some ⟨s, 0, none⟩) cap cap, .int .i64 (next' : Int), .int .i64 (cr' : Int)] 49 (0, 0))) (vs : Array Value) (hv : w.heap[s]? = some (.cells vs 50 (0, 0)))
    (hs : w'.heap[s]? = some (.cells (vs.setIfInBounds q (.pointer none)) 50 (0, 0))) : IsQ w' g s cap next' cr' (put f q none) := by
  obtain ⟨h1, h2, h3, h4, h5, h6, vs0, h7, h8, h9⟩ := h
  obtain rfl : vs0 = vs := by rw [h7] at hv; injection hv with hv; injection hv
  refine ⟨h1, h2, n1, n2, k1, hr, _, hs, by simpa using h8, fun k hk => ?_⟩
  rw [Array.getElem?_setIfInBounds, put]
  by_cases e : q = k
  · subst e
    simp only [if_true]
    rw [if_pos (by omega)]
    exact .inl ⟨trivial, rfl⟩
  · rw [if_neg e, if_neg (Ne.symm e)]
    rcases h9 k hk with h | ⟨b, y, e1, e2, e3⟩
    · exact .inl h
    · refine .inr ⟨b, y, e1, e2, e3.move (fun j cur t ht hc => fr.block j (hlt hc) (fun e => ?_) (fun e => ?_))⟩
      · subst e
        have := type_ne hc h6
        rcases ht with rfl | rfl <;> exact absurd this (by decide)
      · subst e
        have := type_ne hc h7
        rcases ht with rfl | rfl <;> exact absurd this (by decide)
theorem takeNil (w : World) : Calls Try.prog 16 #[.pointer none] w fun e w' => e = .returned (.tuple #[.agg #[.slice none 0 0, .int .i64 0, .int .i64 0], .int .i64 1]) ∧ Below w.heap.size w w' := by
  have hA : Below w.heap.size w (w.alloc (.cells Z3 33)) := (Below.refl w.heap.size w).alloc (Nat.le_refl _) _
  have H := Aside0.mk hA
  clear hA
  go_enter Try.func16, Try.ntmps16
  go_wp2
  refine bodyPost_ret (v := .tuple #[.agg #[.slice none 0 0, .int .i64 0, .int .i64 0], .int .i64 1]) (by rw [results_cell_tmp rfl]; go_simp) rfl ?_
  exact ⟨rfl, H.out⟩
theorem takeNone (w : World) (g s cap next cr : Nat) (f : Nat → Option Res) (h : IsQ w g s cap next cr f) (hf : f (next % cap) = none) :
    Calls Try.prog 16 #[P g] w fun e w' => e = .returned (.tuple #[.agg #[.slice none 0 0, .int .i64 0, .int .i64 0], .int .i64 15]) ∧ Below w.heap.size w w' := by
  have hA : Below w.heap.size w (w.alloc (.cells Z3 33)) := (Below.refl w.heap.size w).alloc (Nat.le_refl _) _
  have HR := Aside0.mk (ready _ g s cap next cr f (h.below hA) false (by rw [hf]; rfl))
  have H := Aside0.mk hA
  clear h hA hf
  go_enter Try.func16, Try.ntmps16
  go_wp2_with (go_at_call 15; (with_reducible refine (HR.out).mono ?_); rintro e w1 ⟨rfl, hd⟩; have HF := Aside0.mk (below_D H.out hd); have hX := ((below0 hd).block w.heap.size (by simp)).trans (heap_alloc_new w _); obtain ⟨x0, x1, x2, xf⟩ := cells3 hX; clear hX HR hd)
  refine bodyPost_ret (v := .tuple #[.agg #[.slice none 0 0, .int .i64 0, .int .i64 0], .int .i64 15]) (by rw [results_cell_tmp rfl]; go_simp) rfl ?_
  exact ⟨rfl, ((HF.out.setCell (Nat.le_refl _) _).setCell (Nat.le_refl _) _).setCell (Nat.le_refl _) _⟩
theorem take_ (w : World) (g s cap next cr : Nat) (f : Nat → Option Res) (h : IsQ w g s cap next cr f) (x : Res) (hf : f (next % cap) = some x) (hn : next + 1 ≤ 1000000) :
    Calls Try.prog 16 #[P g] w fun e w' => ∃ A c, e = .returned (.tuple #[.agg #[.slice A x.out.length c, .int .i64 x.st, .int .i64 x.rc], .int .i64 0]) ∧ x.out.length ≤ c ∧ RdB w' A x.out ∧ IsQ w' g s cap (next + 1) (min (cr + 1) cap) (put f (next % cap) none) ∧ Fr g s w w' := by
  have hA : Below w.heap.size w (w.alloc (.cells Z3 33)) := (Below.refl w.heap.size w).alloc (Nat.le_refl _) _
  have HR := Aside0.mk (ready _ g s cap next cr f (h.below hA) true (by rw [hf]; rfl))
  have HA := Aside0.mk hA
  have H := Aside0.mk h
  have hc1 := h.c1
  have hn2 := h.n2
  have hql : next % cap < cap := Nat.mod_lt _ (by omega)
  generalize hq : next % cap = q at *
  have HQ := Aside0.mk (And.intro hq (And.intro hql hf))
  obtain ⟨vs, hv, _⟩ := h.slots
  have HV := Aside0.mk hv
  clear h hA hf hq hql hv
  go_enter Try.func16, Try.ntmps16
  go_wp2_with (go_at_call 15; (with_reducible refine (HR.out).mono ?_); rintro e w1 ⟨rfl, hd⟩; have HF := Aside0.mk (below_D HA.out hd); have HX := Aside0.mk (((below0 hd).block w.heap.size (by simp)).trans (heap_alloc_new w _)); obtain ⟨k0, k1, k2, kf⟩ := cells3 (H.out.below HF.out).ring; clear HR hd)
  have HS := Aside0.mk (slot w1 g s cap next cr f (H.out.below HF.out) next q (by omega) HQ.out.1)
  go_upto_region 6 with (go_at_call 24; (with_reducible refine (HS.out).mono ?_); rintro e w2 ⟨rfl, hd⟩; have HF2 := Aside0.mk (below_D HF.out hd); have HX2 := Aside0.mk (((below0 hd).block w.heap.size (hlt HX.out)).trans HX.out); clear hd k0 k1 k2 kf HS HF HX; obtain ⟨hsl, hfs⟩ := (H.out.below HF2.out).slot q HQ.out.2.1; obtain ⟨bb, y, e, hc, A, c, hbb, hlc, hrd⟩ := slot_some hsl HQ.out.2.2; obtain rfl : x = y := Option.some.inj (HQ.out.2.2.symm.trans e); obtain ⟨z0, z1, z2, zf⟩ := cells3 hbb; have HF3 := Aside0.mk (HF2.out.alloc (below_size HF2.out) (.cells #[.slice A x.out.length c, .int .i64 x.st, .int .i64 x.rc] 33)); obtain ⟨k0, k1, k2, kf⟩ := cells3 (H.out.below HF3.out).ring; have HB := Aside0.mk (And.intro hlc hrd); clear hlc hrd hbb e hsl)
  have HS := Aside0.mk (slot _ g s cap next cr f (H.out.below HF3.out) next q (by omega) HQ.out.1)
  go_upto_region 7 with (go_at_call 24; (with_reducible refine (HS.out).mono ?_); rintro e w4 ⟨rfl, hd⟩; have HF4 := Aside0.mk (below_D HF3.out hd); have hb4 := ((Below.refl w2.heap.size w2).alloc (Nat.le_refl _) (.cells #[.slice A x.out.length c, .int .i64 x.st, .int .i64 x.rc] 33)).trans ((below0 hd).mono (by simp)); have HX4 := Aside0.mk ((hb4.block w.heap.size (hlt HX2.out)).trans HX2.out); have HT4 := Aside0.mk (((below0 hd).block w2.heap.size (by simp)).trans (heap_alloc_new w2 _)); have HR4 := Aside0.mk (HB.out.2.move (fun k cur hk => hb4.block k (hlt hk))); have h4 := (H.out.below HF4.out).slot q HQ.out.2.1; obtain ⟨b5, y5, e5, hc5, hx5⟩ := slot_some h4.1 HQ.out.2.2; have hf5 := h4.2; clear hd hb4 hx5 h4 e5 k0 k1 k2 kf z0 z1 z2 zf hc hfs HS)
  obtain ⟨W5, hW5⟩ : ∃ W5, w4.setCell ⟨s, q, none⟩ (.pointer none) = W5 := ⟨_, rfl⟩
  have h5 : IsQ W5 g s cap next cr (put f q none) := by rw [← hW5]; exact (H.out.below HF4.out).setSlot q HQ.out.2.1 _ none (.inl ⟨rfl, rfl⟩)
  have g5 : w4.grownBy W5 (some s) := by rw [← hW5]; exact grownBy_cell _ _ _ _
  have HQ5 := Aside0.mk h5
  have HV4 : w4.heap[s]? = some (.cells vs 50 (0, 0)) := (HF4.out.block s (hlt HV.out)).trans HV.out
  have HV5 : Aside0 (W5.heap[s]? = some (.cells (vs.setIfInBounds q (.pointer none)) 50 (0, 0))) := ⟨by rw [← hW5, heap_setCell_same _ _ _ _ _ _ HV4]⟩
  clear HV4
  have hs50 : ∃ vs : Array Value, w4.heap[s]? = some (.cells vs 50 (0, 0)) := by obtain ⟨vs, h, _⟩ := (H.out.below HF4.out).slots; exact ⟨vs, h⟩
  have m5 : ∀ (k : Nat) (cur : Array Value) (t : TypeId), t ≠ 50 → w4.heap[k]? = some (.cells cur t (0, 0)) → W5.heap[k]? = w4.heap[k]? := fun k cur t ht hc => g5.block k (hlt hc) (fun e => by obtain ⟨vs, hv⟩ := hs50; cases e; exact ht (type_ne hc hv))
  have HX5 := Aside0.mk ((m5 _ _ 33 (by decide) HX4.out).trans HX4.out)
  have HT5 := Aside0.mk ((m5 _ _ 33 (by decide) HT4.out).trans HT4.out)
  have HR5 := Aside0.mk (HR4.out.move (fun k cur hk => m5 k cur 5 (by decide) hk))
  have HFr5 := Aside0.mk ((Fr.new HF4.out : Fr g s w w4).trans (Fr.s g5))
  obtain ⟨k0, k1, k2, kf⟩ := cells3 h5.ring
  rw [hW5]
  clear hW5 h5 g5 hs50 m5 hc5 hf5 HF4 HX4 HT4 HR4
  go_upto_region 8 with fail
  obtain ⟨W6, hW6⟩ : ∃ W6, W5.setCell ⟨g, 1, none⟩ (.int .i64 ((next : Int) + 1)) = W6 := ⟨_, rfl⟩
  have g6 : W5.grownBy W6 (some g) := by rw [← hW6]; exact grownBy_cell _ _ _ _
  have h6 : IsQ W6 g s cap (next + 1) cr (put f q none) := HQ5.out.setRing g6 (by omega) hn HQ5.out.k1 (by rw [← hW6, heap_setCell_same _ _ _ _ _ _ HQ5.out.ring, show ((next + 1 : Nat) : Int) = (next : Int) + 1 by omega]; rfl)
  have m6 : ∀ (k : Nat) (cur : Array Value) (t : TypeId), t ≠ 49 → W5.heap[k]? = some (.cells cur t (0, 0)) → W6.heap[k]? = W5.heap[k]? := fun k cur t ht hc => g6.block k (hlt hc) (fun e => by cases e; exact ht (type_ne hc HQ5.out.ring))
  have HQ6 := Aside0.mk h6
  have HX6 := Aside0.mk ((m6 _ _ 33 (by decide) HX5.out).trans HX5.out)
  have HT6 := Aside0.mk ((m6 _ _ 33 (by decide) HT5.out).trans HT5.out)
  have HR6 := Aside0.mk (HR5.out.move (fun k cur hk => m6 k cur 5 (by decide) hk))
  have HFr6 := Aside0.mk (HFr5.out.trans (Fr.g g6))
  have HV6 := Aside0.mk ((m6 _ _ 50 (by decide) HV5.out).trans HV5.out)
  rw [hW6]
  clear hW6 k0 k1 k2 kf HX5 HT5 HR5 HFr5 g6 m6
  obtain ⟨k0, k1, k2, kf⟩ := cells3 h6.ring
  have hk1 := h6.k1
  have hc2 := h6.c2
  have hwr : IntKind.i64.wrap ((cr : Int) + 1) = (cr : Int) + 1 := by rw [i64_w]; unfold Go.RowKit.wrap64; omega
  clear h6
  go_region
  have hmin : (if (cap : Int) < (cr : Int) + 1 then (cap : Int) else (cr : Int) + 1) = ((min (cr + 1) cap : Nat) : Int) := by split <;> omega
  rw [hmin]
  obtain ⟨W7, hW7⟩ : ∃ W7, (W6.setCell ⟨g, 2, none⟩ (.int .i64 ((min (cr + 1) cap : Nat) : Int))).drew = W7 := ⟨_, rfl⟩
  have g7 : W6.grownBy W7 (some g) := by
    have h := grownBy_cell W6 g 2 (.int .i64 ((min (cr + 1) cap : Nat) : Int))
    rw [← hW7]
    exact ⟨h.os, h.tape, h.output, h.size, h.block⟩
  have r7 : Aside0 (W7.heap[g]? = some (.cells #[.slice (some ⟨s, 0, none⟩) cap cap, .int .i64 ((next + 1 : Nat) : Int), .int .i64 ((min (cr + 1) cap : Nat) : Int)] 49 (0, 0))) := ⟨by
    rw [← hW7]
    show (W6.setCell ⟨g, 2, none⟩ _).heap[g]? = _
    rw [heap_setCell_same _ _ _ _ _ _ HQ6.out.ring]
    rfl⟩
  have m7 : ∀ (k : Nat) (cur : Array Value) (t : TypeId), t ≠ 49 → W6.heap[k]? = some (.cells cur t (0, 0)) → W7.heap[k]? = W6.heap[k]? := fun k cur t ht hc => g7.block k (hlt hc) (fun e => by cases e; exact ht (type_ne hc HQ6.out.ring))
  have HX7 := Aside0.mk ((m7 _ _ 33 (by decide) HX6.out).trans HX6.out)
  have HT7 := Aside0.mk ((m7 _ _ 33 (by decide) HT6.out).trans HT6.out)
  have HR7 := Aside0.mk (HR6.out.move (fun k cur hk => m7 k cur 5 (by decide) hk))
  have HFr7 := Aside0.mk (HFr6.out.trans (Fr.g g7))
  have HV7 := Aside0.mk ((m7 _ _ 50 (by decide) HV6.out).trans HV6.out)
  rw [hW7]
  clear hW7 k0 k1 k2 kf HX6 HT6 HR6 HFr6 HV6 g7 m7 hmin hwr
  obtain ⟨x0, x1, x2, xf⟩ := cells3 HX7.out
  obtain ⟨t0, t1, t2, tf⟩ := cells3 HT7.out
  go_wp2
  refine bodyPost_ret (v := .tuple #[.agg #[.slice A x.out.length c, .int .i64 x.st, .int .i64 x.rc], .int .i64 0]) (by rw [results_cell_tmp rfl]; go_simp) rfl ?_
  have g8 := ((grownBy_cell W7 w.heap.size 0 (.slice A x.out.length c)).trans (grownBy_cell _ w.heap.size 1 (.int .i64 x.st))).trans (grownBy_cell _ w.heap.size 2 (.int .i64 x.rc))
  have m8 : ∀ (k : Nat) (cur : Array Value) (t : TypeId), t ≠ 33 → W7.heap[k]? = some (.cells cur t (0, 0)) → _ = W7.heap[k]? := fun k cur t ht hc => g8.block k (hlt hc) (fun e => by cases e; exact ht (type_ne hc HX7.out))
  have fr : Fr g s w _ := ⟨g8.os.trans HFr7.out.os, g8.tape.trans HFr7.out.tape, g8.output.trans HFr7.out.output, Nat.le_trans HFr7.out.size g8.size, fun k hk h1 h2 => (g8.block k (Nat.lt_of_lt_of_le hk HFr7.out.size) (fun e => by have := Option.some.inj e; omega)).trans (HFr7.out.block k hk h1 h2)⟩
  exact ⟨A, c, rfl, HB.out.1, HR7.out.move (fun k cur hk => m8 k cur 5 (by decide) hk), H.out.final fr q (by omega) hn (Nat.min_le_right _ _) ((m8 _ _ 49 (by decide) r7.out).trans r7.out) vs HV.out ((m8 _ _ 50 (by decide) HV7.out).trans HV7.out), fr⟩
end Go.Proofs.Ytccgcljkgjboaaa.Rg
