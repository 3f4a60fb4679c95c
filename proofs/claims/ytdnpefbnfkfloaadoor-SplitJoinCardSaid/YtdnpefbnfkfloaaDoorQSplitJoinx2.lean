-- by a program of this session (print2.py): the machine's side of one law; Lean checks it.
import Derived.Test.YtdnpefbnfkfloaaDoorQSplitJoinx0
namespace Go.Proofs.YtdnpefbnfkfloaaDoor.QSplitJoin
open Go.RowKit Go.Proofs.YtdnpefbnfkfloaaDoorW.PrintWords Go.Proofs.YtdnpefbnfkfloaaDoorW.PrintLast Go.Proofs.YtdnpefbnfkfloaaDoorW.PrintMore
attribute [local go_sem] max2_int min2_int max_two min_two max_three min_three max_four min_four   -- for this text's walks alone
set_option linter.unusedVariables false
set_option linter.unusedSimpArgs false

/-! ### automaton_known: function 23 -/
def automaton_known.f (a0 : Int) : Option (Bool) := if a0 ≥ 0 then (some (decide (a0 ≤ 2))) else (some false)
set_option maxHeartbeats 8000000 in
set_option maxRecDepth 100000 in
theorem automaton_known.calls (a0 : Int) (r : Bool) (w : World) (h : automaton_known.f a0 = some r) :
    Calls Tryd.prog 23 #[.int .i64 a0] w fun e w' => e = .returned (.bool r) ∧ Drawn0 w w' := by
  have H : (if a0 ≥ 0 then (some (decide (a0 ≤ 2))) else (some false)) = some r := h
  clear h
  by_cases c2 : a0 ≥ 0
  · rw [if_pos c2] at H
    have c2b0 : decide (0 ≤ a0) = true := decide_eq_true c2
    clear c2
    obtain rfl := Option.some.inj H
    go_enter Tryd.func23, Tryd.ntmps23
    go_wp2
    go_ret
    exact ⟨by first | rfl | (simp; done) | (simp [*]; done), by repeat (first | exact Drawn0.refl _ | apply Drawn0.step)⟩
  · rw [if_neg c2] at H
    have c2b0 : decide (0 ≤ a0) = false := decide_eq_false c2
    clear c2
    obtain rfl := Option.some.inj H
    go_enter Tryd.func23, Tryd.ntmps23
    go_wp2
    go_ret
    exact ⟨by first | rfl | (simp; done) | (simp [*]; done), by repeat (first | exact Drawn0.refl _ | apply Drawn0.step)⟩

/-! ### automaton_class: function 24 -/
def automaton_class.f (a0 : Int) : Option (Int) := if a0 = 34 then (some 1) else (if a0 = 92 then (some 2) else (if a0 = 10 then (some 3) else (some 0)))
set_option maxHeartbeats 8000000 in
set_option maxRecDepth 100000 in
theorem automaton_class.calls (a0 : Int) (r : Int) (w : World) (h : automaton_class.f a0 = some r) :
    Calls Tryd.prog 24 #[.int .u8 a0] w fun e w' => e = .returned (.int .i64 r) ∧ Drawn0 w w' := by
  have H : (if a0 = 34 then (some 1) else (if a0 = 92 then (some 2) else (if a0 = 10 then (some 3) else (some 0)))) = some r := h
  clear h
  by_cases c2 : a0 = 34
  · rw [if_pos c2] at H
    have c2b0 : (a0 == 34) = true := beq_iff_eq.mpr c2
    have c2b1 : (a0 != 34) = false := bne_eq_false_iff_eq.mpr c2
    clear c2
    obtain rfl := Option.some.inj H
    go_enter Tryd.func24, Tryd.ntmps24
    go_wp2
    go_ret
    exact ⟨by first | rfl | (simp; done) | (simp [*]; done), by repeat (first | exact Drawn0.refl _ | apply Drawn0.step)⟩
  · rw [if_neg c2] at H
    have c2b0 : (a0 == 34) = false := beq_eq_false_iff_ne.mpr c2
    have c2b1 : (a0 != 34) = true := bne_iff_ne.mpr c2
    by_cases c3 : a0 = 92
    · rw [if_pos c3] at H
      have c3b0 : (a0 == 92) = true := beq_iff_eq.mpr c3
      have c3b1 : (a0 != 92) = false := bne_eq_false_iff_eq.mpr c3
      clear c3
      obtain rfl := Option.some.inj H
      go_enter Tryd.func24, Tryd.ntmps24
      go_wp2
      go_ret
      exact ⟨by first | rfl | (simp; done) | (simp [*]; done), by repeat (first | exact Drawn0.refl _ | apply Drawn0.step)⟩
    · rw [if_neg c3] at H
      have c3b0 : (a0 == 92) = false := beq_eq_false_iff_ne.mpr c3
      have c3b1 : (a0 != 92) = true := bne_iff_ne.mpr c3
      by_cases c4 : a0 = 10
      · rw [if_pos c4] at H
        have c4b0 : (a0 == 10) = true := beq_iff_eq.mpr c4
        have c4b1 : (a0 != 10) = false := bne_eq_false_iff_eq.mpr c4
        clear c4
        obtain rfl := Option.some.inj H
        go_enter Tryd.func24, Tryd.ntmps24
        go_wp2
        go_ret
        exact ⟨by first | rfl | (simp; done) | (simp [*]; done), by repeat (first | exact Drawn0.refl _ | apply Drawn0.step)⟩
      · rw [if_neg c4] at H
        have c4b0 : (a0 == 10) = false := beq_eq_false_iff_ne.mpr c4
        have c4b1 : (a0 != 10) = true := bne_iff_ne.mpr c4
        obtain rfl := Option.some.inj H
        go_enter Tryd.func24, Tryd.ntmps24
        go_wp2
        go_ret
        exact ⟨by first | rfl | (simp; done) | (simp [*]; done), by repeat (first | exact Drawn0.refl _ | apply Drawn0.step)⟩

/-! ### automaton_Step: function 19 -/
def automaton_Step.f (a0 : Int) (a1 : Int) : Option (Int × Bool) := if a0 = 0 then (if a1 = 34 then some (1, false) else if a1 = 10 then some (0, true) else some (0, false)) else if a0 = 1 then (if a1 = 34 then some (0, false) else if a1 = 92 then some (2, false) else some (1, false)) else if a0 = 2 then some (1, false) else some (0, false)
theorem class_still (b c : Int) (w : World) (hc : automaton_class.f b = some c) : Calls Tryd.prog 24 #[.int .u8 b] w fun e w' => e = .returned (.int .i64 c) ∧ w' = w := by
  unfold automaton_class.f at hc
  by_cases c1 : b = 34
  · rw [if_pos c1] at hc
    obtain rfl := Option.some.inj hc
    subst c1
    go_enter Tryd.func24, Tryd.ntmps24
    go_wp2
    go_ret
    exact ⟨rfl, rfl⟩
  rw [if_neg c1] at hc
  by_cases c2 : b = 92
  · rw [if_pos c2] at hc
    obtain rfl := Option.some.inj hc
    subst c2
    go_enter Tryd.func24, Tryd.ntmps24
    go_wp2
    go_ret
    exact ⟨rfl, rfl⟩
  rw [if_neg c2] at hc
  by_cases c3 : b = 10
  · rw [if_pos c3] at hc
    obtain rfl := Option.some.inj hc
    subst c3
    go_enter Tryd.func24, Tryd.ntmps24
    go_wp2
    go_ret
    exact ⟨rfl, rfl⟩
  rw [if_neg c3] at hc
  obtain rfl := Option.some.inj hc
  have d1 : (b == 34) = false := beq_eq_false_iff_ne.mpr c1
  have d2 : (b == 92) = false := beq_eq_false_iff_ne.mpr c2
  have d3 : (b == 10) = false := beq_eq_false_iff_ne.mpr c3
  clear c1 c2 c3 hc
  go_enter Tryd.func24, Tryd.ntmps24
  go_wp2
  go_ret
  exact ⟨rfl, rfl⟩
set_option maxHeartbeats 800000 in
set_option maxRecDepth 100000 in
theorem step_0_0 (b : Int) (w : World) (hc : automaton_class.f b = some 0) (hG : GlbLaid w) :
    Calls Tryd.prog 19 #[.int .i64 0, .int .u8 b] w fun e w' => e = .returned (.tuple #[.int .i64 0, .bool false]) ∧ Below w.heap.size w w' := by
  have h0 : w.cell? ⟨0, 0, none⟩ = some (.int .i64 0) := hG 0 (by decide)
  have h1 : w.cell? ⟨0, 1, none⟩ = some (.bool false) := hG 1 (by decide)
  clear hG
  have HC := Aside0.mk hc
  clear hc
  go_enter Tryd.func19, Tryd.ntmps19
  go_wp2_with (go_at_call 23; (with_reducible refine (automaton_known.calls 0 true _ rfl).mono ?_); rintro e w' ⟨rfl, ⟨nd, rfl⟩⟩)
  obtain ⟨W, hW⟩ : ∃ W, W = w.drewN nd := ⟨_, rfl⟩
  have g0 : W.cell? ⟨0, 0, none⟩ = some (.int .i64 0) := by rw [hW]; simpa using h0
  have g1 : W.cell? ⟨0, 1, none⟩ = some (.bool false) := by rw [hW]; simpa using h1
  have HB : Below w.heap.size w W := by rw [hW]; exact pw_below_drewN (Below.refl _ _) _
  have hz : 0 < W.heap.size := World.block_lt_of_cell? W _ g0
  rw [← hW]
  have HB' := Aside0.mk HB
  clear HB h0 h1 hW nd
  go_region_with (go_at_call 24; (with_reducible refine (class_still b 0 _ HC.out).mono ?_); rintro e w' ⟨rfl, rfl⟩)
  all_goals
    go_wp2
    go_quiet (fail)
    go_wp2
    go_ret2
    exact ⟨rfl, by repeat (first | exact HB'.out | apply below_alloc | apply pw_below_drewN | apply below_drew1)⟩
set_option maxHeartbeats 800000 in
set_option maxRecDepth 100000 in
theorem step_0_1 (b : Int) (w : World) (hc : automaton_class.f b = some 1) (hG : GlbLaid w) :
    Calls Tryd.prog 19 #[.int .i64 0, .int .u8 b] w fun e w' => e = .returned (.tuple #[.int .i64 1, .bool false]) ∧ Below w.heap.size w w' := by
  have h0 : w.cell? ⟨0, 2, none⟩ = some (.int .i64 1) := hG 2 (by decide)
  have h1 : w.cell? ⟨0, 3, none⟩ = some (.bool false) := hG 3 (by decide)
  clear hG
  have HC := Aside0.mk hc
  clear hc
  go_enter Tryd.func19, Tryd.ntmps19
  go_wp2_with (go_at_call 23; (with_reducible refine (automaton_known.calls 0 true _ rfl).mono ?_); rintro e w' ⟨rfl, ⟨nd, rfl⟩⟩)
  obtain ⟨W, hW⟩ : ∃ W, W = w.drewN nd := ⟨_, rfl⟩
  have g0 : W.cell? ⟨0, 2, none⟩ = some (.int .i64 1) := by rw [hW]; simpa using h0
  have g1 : W.cell? ⟨0, 3, none⟩ = some (.bool false) := by rw [hW]; simpa using h1
  have HB : Below w.heap.size w W := by rw [hW]; exact pw_below_drewN (Below.refl _ _) _
  have hz : 0 < W.heap.size := World.block_lt_of_cell? W _ g0
  rw [← hW]
  have HB' := Aside0.mk HB
  clear HB h0 h1 hW nd
  go_region_with (go_at_call 24; (with_reducible refine (class_still b 1 _ HC.out).mono ?_); rintro e w' ⟨rfl, rfl⟩)
  all_goals
    go_wp2
    go_quiet (fail)
    go_wp2
    go_ret2
    exact ⟨rfl, by repeat (first | exact HB'.out | apply below_alloc | apply pw_below_drewN | apply below_drew1)⟩
set_option maxHeartbeats 800000 in
set_option maxRecDepth 100000 in
theorem step_0_2 (b : Int) (w : World) (hc : automaton_class.f b = some 2) (hG : GlbLaid w) :
    Calls Tryd.prog 19 #[.int .i64 0, .int .u8 b] w fun e w' => e = .returned (.tuple #[.int .i64 0, .bool false]) ∧ Below w.heap.size w w' := by
  have h0 : w.cell? ⟨0, 4, none⟩ = some (.int .i64 0) := hG 4 (by decide)
  have h1 : w.cell? ⟨0, 5, none⟩ = some (.bool false) := hG 5 (by decide)
  clear hG
  have HC := Aside0.mk hc
  clear hc
  go_enter Tryd.func19, Tryd.ntmps19
  go_wp2_with (go_at_call 23; (with_reducible refine (automaton_known.calls 0 true _ rfl).mono ?_); rintro e w' ⟨rfl, ⟨nd, rfl⟩⟩)
  obtain ⟨W, hW⟩ : ∃ W, W = w.drewN nd := ⟨_, rfl⟩
  have g0 : W.cell? ⟨0, 4, none⟩ = some (.int .i64 0) := by rw [hW]; simpa using h0
  have g1 : W.cell? ⟨0, 5, none⟩ = some (.bool false) := by rw [hW]; simpa using h1
  have HB : Below w.heap.size w W := by rw [hW]; exact pw_below_drewN (Below.refl _ _) _
  have hz : 0 < W.heap.size := World.block_lt_of_cell? W _ g0
  rw [← hW]
  have HB' := Aside0.mk HB
  clear HB h0 h1 hW nd
  go_region_with (go_at_call 24; (with_reducible refine (class_still b 2 _ HC.out).mono ?_); rintro e w' ⟨rfl, rfl⟩)
  all_goals
    go_wp2
    go_quiet (fail)
    go_wp2
    go_ret2
    exact ⟨rfl, by repeat (first | exact HB'.out | apply below_alloc | apply pw_below_drewN | apply below_drew1)⟩
set_option maxHeartbeats 800000 in
set_option maxRecDepth 100000 in
theorem step_0_3 (b : Int) (w : World) (hc : automaton_class.f b = some 3) (hG : GlbLaid w) :
    Calls Tryd.prog 19 #[.int .i64 0, .int .u8 b] w fun e w' => e = .returned (.tuple #[.int .i64 0, .bool true]) ∧ Below w.heap.size w w' := by
  have h0 : w.cell? ⟨0, 6, none⟩ = some (.int .i64 0) := hG 6 (by decide)
  have h1 : w.cell? ⟨0, 7, none⟩ = some (.bool true) := hG 7 (by decide)
  clear hG
  have HC := Aside0.mk hc
  clear hc
  go_enter Tryd.func19, Tryd.ntmps19
  go_wp2_with (go_at_call 23; (with_reducible refine (automaton_known.calls 0 true _ rfl).mono ?_); rintro e w' ⟨rfl, ⟨nd, rfl⟩⟩)
  obtain ⟨W, hW⟩ : ∃ W, W = w.drewN nd := ⟨_, rfl⟩
  have g0 : W.cell? ⟨0, 6, none⟩ = some (.int .i64 0) := by rw [hW]; simpa using h0
  have g1 : W.cell? ⟨0, 7, none⟩ = some (.bool true) := by rw [hW]; simpa using h1
  have HB : Below w.heap.size w W := by rw [hW]; exact pw_below_drewN (Below.refl _ _) _
  have hz : 0 < W.heap.size := World.block_lt_of_cell? W _ g0
  rw [← hW]
  have HB' := Aside0.mk HB
  clear HB h0 h1 hW nd
  go_region_with (go_at_call 24; (with_reducible refine (class_still b 3 _ HC.out).mono ?_); rintro e w' ⟨rfl, rfl⟩)
  all_goals
    go_wp2
    go_quiet (fail)
    go_wp2
    go_ret2
    exact ⟨rfl, by repeat (first | exact HB'.out | apply below_alloc | apply pw_below_drewN | apply below_drew1)⟩
set_option maxHeartbeats 800000 in
set_option maxRecDepth 100000 in
theorem step_1_0 (b : Int) (w : World) (hc : automaton_class.f b = some 0) (hG : GlbLaid w) :
    Calls Tryd.prog 19 #[.int .i64 1, .int .u8 b] w fun e w' => e = .returned (.tuple #[.int .i64 1, .bool false]) ∧ Below w.heap.size w w' := by
  have h0 : w.cell? ⟨0, 8, none⟩ = some (.int .i64 1) := hG 8 (by decide)
  have h1 : w.cell? ⟨0, 9, none⟩ = some (.bool false) := hG 9 (by decide)
  clear hG
  have HC := Aside0.mk hc
  clear hc
  go_enter Tryd.func19, Tryd.ntmps19
  go_wp2_with (go_at_call 23; (with_reducible refine (automaton_known.calls 1 true _ rfl).mono ?_); rintro e w' ⟨rfl, ⟨nd, rfl⟩⟩)
  obtain ⟨W, hW⟩ : ∃ W, W = w.drewN nd := ⟨_, rfl⟩
  have g0 : W.cell? ⟨0, 8, none⟩ = some (.int .i64 1) := by rw [hW]; simpa using h0
  have g1 : W.cell? ⟨0, 9, none⟩ = some (.bool false) := by rw [hW]; simpa using h1
  have HB : Below w.heap.size w W := by rw [hW]; exact pw_below_drewN (Below.refl _ _) _
  have hz : 0 < W.heap.size := World.block_lt_of_cell? W _ g0
  rw [← hW]
  have HB' := Aside0.mk HB
  clear HB h0 h1 hW nd
  go_region_with (go_at_call 24; (with_reducible refine (class_still b 0 _ HC.out).mono ?_); rintro e w' ⟨rfl, rfl⟩)
  all_goals
    go_wp2
    go_quiet (fail)
    go_wp2
    go_ret2
    exact ⟨rfl, by repeat (first | exact HB'.out | apply below_alloc | apply pw_below_drewN | apply below_drew1)⟩
set_option maxHeartbeats 800000 in
set_option maxRecDepth 100000 in
theorem step_1_1 (b : Int) (w : World) (hc : automaton_class.f b = some 1) (hG : GlbLaid w) :
    Calls Tryd.prog 19 #[.int .i64 1, .int .u8 b] w fun e w' => e = .returned (.tuple #[.int .i64 0, .bool false]) ∧ Below w.heap.size w w' := by
  have h0 : w.cell? ⟨0, 10, none⟩ = some (.int .i64 0) := hG 10 (by decide)
  have h1 : w.cell? ⟨0, 11, none⟩ = some (.bool false) := hG 11 (by decide)
  clear hG
  have HC := Aside0.mk hc
  clear hc
  go_enter Tryd.func19, Tryd.ntmps19
  go_wp2_with (go_at_call 23; (with_reducible refine (automaton_known.calls 1 true _ rfl).mono ?_); rintro e w' ⟨rfl, ⟨nd, rfl⟩⟩)
  obtain ⟨W, hW⟩ : ∃ W, W = w.drewN nd := ⟨_, rfl⟩
  have g0 : W.cell? ⟨0, 10, none⟩ = some (.int .i64 0) := by rw [hW]; simpa using h0
  have g1 : W.cell? ⟨0, 11, none⟩ = some (.bool false) := by rw [hW]; simpa using h1
  have HB : Below w.heap.size w W := by rw [hW]; exact pw_below_drewN (Below.refl _ _) _
  have hz : 0 < W.heap.size := World.block_lt_of_cell? W _ g0
  rw [← hW]
  have HB' := Aside0.mk HB
  clear HB h0 h1 hW nd
  go_region_with (go_at_call 24; (with_reducible refine (class_still b 1 _ HC.out).mono ?_); rintro e w' ⟨rfl, rfl⟩)
  all_goals
    go_wp2
    go_quiet (fail)
    go_wp2
    go_ret2
    exact ⟨rfl, by repeat (first | exact HB'.out | apply below_alloc | apply pw_below_drewN | apply below_drew1)⟩
set_option maxHeartbeats 800000 in
set_option maxRecDepth 100000 in
theorem step_1_2 (b : Int) (w : World) (hc : automaton_class.f b = some 2) (hG : GlbLaid w) :
    Calls Tryd.prog 19 #[.int .i64 1, .int .u8 b] w fun e w' => e = .returned (.tuple #[.int .i64 2, .bool false]) ∧ Below w.heap.size w w' := by
  have h0 : w.cell? ⟨0, 12, none⟩ = some (.int .i64 2) := hG 12 (by decide)
  have h1 : w.cell? ⟨0, 13, none⟩ = some (.bool false) := hG 13 (by decide)
  clear hG
  have HC := Aside0.mk hc
  clear hc
  go_enter Tryd.func19, Tryd.ntmps19
  go_wp2_with (go_at_call 23; (with_reducible refine (automaton_known.calls 1 true _ rfl).mono ?_); rintro e w' ⟨rfl, ⟨nd, rfl⟩⟩)
  obtain ⟨W, hW⟩ : ∃ W, W = w.drewN nd := ⟨_, rfl⟩
  have g0 : W.cell? ⟨0, 12, none⟩ = some (.int .i64 2) := by rw [hW]; simpa using h0
  have g1 : W.cell? ⟨0, 13, none⟩ = some (.bool false) := by rw [hW]; simpa using h1
  have HB : Below w.heap.size w W := by rw [hW]; exact pw_below_drewN (Below.refl _ _) _
  have hz : 0 < W.heap.size := World.block_lt_of_cell? W _ g0
  rw [← hW]
  have HB' := Aside0.mk HB
  clear HB h0 h1 hW nd
  go_region_with (go_at_call 24; (with_reducible refine (class_still b 2 _ HC.out).mono ?_); rintro e w' ⟨rfl, rfl⟩)
  all_goals
    go_wp2
    go_quiet (fail)
    go_wp2
    go_ret2
    exact ⟨rfl, by repeat (first | exact HB'.out | apply below_alloc | apply pw_below_drewN | apply below_drew1)⟩
set_option maxHeartbeats 800000 in
set_option maxRecDepth 100000 in
theorem step_1_3 (b : Int) (w : World) (hc : automaton_class.f b = some 3) (hG : GlbLaid w) :
    Calls Tryd.prog 19 #[.int .i64 1, .int .u8 b] w fun e w' => e = .returned (.tuple #[.int .i64 1, .bool false]) ∧ Below w.heap.size w w' := by
  have h0 : w.cell? ⟨0, 14, none⟩ = some (.int .i64 1) := hG 14 (by decide)
  have h1 : w.cell? ⟨0, 15, none⟩ = some (.bool false) := hG 15 (by decide)
  clear hG
  have HC := Aside0.mk hc
  clear hc
  go_enter Tryd.func19, Tryd.ntmps19
  go_wp2_with (go_at_call 23; (with_reducible refine (automaton_known.calls 1 true _ rfl).mono ?_); rintro e w' ⟨rfl, ⟨nd, rfl⟩⟩)
  obtain ⟨W, hW⟩ : ∃ W, W = w.drewN nd := ⟨_, rfl⟩
  have g0 : W.cell? ⟨0, 14, none⟩ = some (.int .i64 1) := by rw [hW]; simpa using h0
  have g1 : W.cell? ⟨0, 15, none⟩ = some (.bool false) := by rw [hW]; simpa using h1
  have HB : Below w.heap.size w W := by rw [hW]; exact pw_below_drewN (Below.refl _ _) _
  have hz : 0 < W.heap.size := World.block_lt_of_cell? W _ g0
  rw [← hW]
  have HB' := Aside0.mk HB
  clear HB h0 h1 hW nd
  go_region_with (go_at_call 24; (with_reducible refine (class_still b 3 _ HC.out).mono ?_); rintro e w' ⟨rfl, rfl⟩)
  all_goals
    go_wp2
    go_quiet (fail)
    go_wp2
    go_ret2
    exact ⟨rfl, by repeat (first | exact HB'.out | apply below_alloc | apply pw_below_drewN | apply below_drew1)⟩
set_option maxHeartbeats 800000 in
set_option maxRecDepth 100000 in
theorem step_2_0 (b : Int) (w : World) (hc : automaton_class.f b = some 0) (hG : GlbLaid w) :
    Calls Tryd.prog 19 #[.int .i64 2, .int .u8 b] w fun e w' => e = .returned (.tuple #[.int .i64 1, .bool false]) ∧ Below w.heap.size w w' := by
  have h0 : w.cell? ⟨0, 16, none⟩ = some (.int .i64 1) := hG 16 (by decide)
  have h1 : w.cell? ⟨0, 17, none⟩ = some (.bool false) := hG 17 (by decide)
  clear hG
  have HC := Aside0.mk hc
  clear hc
  go_enter Tryd.func19, Tryd.ntmps19
  go_wp2_with (go_at_call 23; (with_reducible refine (automaton_known.calls 2 true _ rfl).mono ?_); rintro e w' ⟨rfl, ⟨nd, rfl⟩⟩)
  obtain ⟨W, hW⟩ : ∃ W, W = w.drewN nd := ⟨_, rfl⟩
  have g0 : W.cell? ⟨0, 16, none⟩ = some (.int .i64 1) := by rw [hW]; simpa using h0
  have g1 : W.cell? ⟨0, 17, none⟩ = some (.bool false) := by rw [hW]; simpa using h1
  have HB : Below w.heap.size w W := by rw [hW]; exact pw_below_drewN (Below.refl _ _) _
  have hz : 0 < W.heap.size := World.block_lt_of_cell? W _ g0
  rw [← hW]
  have HB' := Aside0.mk HB
  clear HB h0 h1 hW nd
  go_region_with (go_at_call 24; (with_reducible refine (class_still b 0 _ HC.out).mono ?_); rintro e w' ⟨rfl, rfl⟩)
  all_goals
    go_wp2
    go_quiet (fail)
    go_wp2
    go_ret2
    exact ⟨rfl, by repeat (first | exact HB'.out | apply below_alloc | apply pw_below_drewN | apply below_drew1)⟩
set_option maxHeartbeats 800000 in
set_option maxRecDepth 100000 in
theorem step_2_1 (b : Int) (w : World) (hc : automaton_class.f b = some 1) (hG : GlbLaid w) :
    Calls Tryd.prog 19 #[.int .i64 2, .int .u8 b] w fun e w' => e = .returned (.tuple #[.int .i64 1, .bool false]) ∧ Below w.heap.size w w' := by
  have h0 : w.cell? ⟨0, 18, none⟩ = some (.int .i64 1) := hG 18 (by decide)
  have h1 : w.cell? ⟨0, 19, none⟩ = some (.bool false) := hG 19 (by decide)
  clear hG
  have HC := Aside0.mk hc
  clear hc
  go_enter Tryd.func19, Tryd.ntmps19
  go_wp2_with (go_at_call 23; (with_reducible refine (automaton_known.calls 2 true _ rfl).mono ?_); rintro e w' ⟨rfl, ⟨nd, rfl⟩⟩)
  obtain ⟨W, hW⟩ : ∃ W, W = w.drewN nd := ⟨_, rfl⟩
  have g0 : W.cell? ⟨0, 18, none⟩ = some (.int .i64 1) := by rw [hW]; simpa using h0
  have g1 : W.cell? ⟨0, 19, none⟩ = some (.bool false) := by rw [hW]; simpa using h1
  have HB : Below w.heap.size w W := by rw [hW]; exact pw_below_drewN (Below.refl _ _) _
  have hz : 0 < W.heap.size := World.block_lt_of_cell? W _ g0
  rw [← hW]
  have HB' := Aside0.mk HB
  clear HB h0 h1 hW nd
  go_region_with (go_at_call 24; (with_reducible refine (class_still b 1 _ HC.out).mono ?_); rintro e w' ⟨rfl, rfl⟩)
  all_goals
    go_wp2
    go_quiet (fail)
    go_wp2
    go_ret2
    exact ⟨rfl, by repeat (first | exact HB'.out | apply below_alloc | apply pw_below_drewN | apply below_drew1)⟩
set_option maxHeartbeats 800000 in
set_option maxRecDepth 100000 in
theorem step_2_2 (b : Int) (w : World) (hc : automaton_class.f b = some 2) (hG : GlbLaid w) :
    Calls Tryd.prog 19 #[.int .i64 2, .int .u8 b] w fun e w' => e = .returned (.tuple #[.int .i64 1, .bool false]) ∧ Below w.heap.size w w' := by
  have h0 : w.cell? ⟨0, 20, none⟩ = some (.int .i64 1) := hG 20 (by decide)
  have h1 : w.cell? ⟨0, 21, none⟩ = some (.bool false) := hG 21 (by decide)
  clear hG
  have HC := Aside0.mk hc
  clear hc
  go_enter Tryd.func19, Tryd.ntmps19
  go_wp2_with (go_at_call 23; (with_reducible refine (automaton_known.calls 2 true _ rfl).mono ?_); rintro e w' ⟨rfl, ⟨nd, rfl⟩⟩)
  obtain ⟨W, hW⟩ : ∃ W, W = w.drewN nd := ⟨_, rfl⟩
  have g0 : W.cell? ⟨0, 20, none⟩ = some (.int .i64 1) := by rw [hW]; simpa using h0
  have g1 : W.cell? ⟨0, 21, none⟩ = some (.bool false) := by rw [hW]; simpa using h1
  have HB : Below w.heap.size w W := by rw [hW]; exact pw_below_drewN (Below.refl _ _) _
  have hz : 0 < W.heap.size := World.block_lt_of_cell? W _ g0
  rw [← hW]
  have HB' := Aside0.mk HB
  clear HB h0 h1 hW nd
  go_region_with (go_at_call 24; (with_reducible refine (class_still b 2 _ HC.out).mono ?_); rintro e w' ⟨rfl, rfl⟩)
  all_goals
    go_wp2
    go_quiet (fail)
    go_wp2
    go_ret2
    exact ⟨rfl, by repeat (first | exact HB'.out | apply below_alloc | apply pw_below_drewN | apply below_drew1)⟩
set_option maxHeartbeats 800000 in
set_option maxRecDepth 100000 in
theorem step_2_3 (b : Int) (w : World) (hc : automaton_class.f b = some 3) (hG : GlbLaid w) :
    Calls Tryd.prog 19 #[.int .i64 2, .int .u8 b] w fun e w' => e = .returned (.tuple #[.int .i64 1, .bool false]) ∧ Below w.heap.size w w' := by
  have h0 : w.cell? ⟨0, 22, none⟩ = some (.int .i64 1) := hG 22 (by decide)
  have h1 : w.cell? ⟨0, 23, none⟩ = some (.bool false) := hG 23 (by decide)
  clear hG
  have HC := Aside0.mk hc
  clear hc
  go_enter Tryd.func19, Tryd.ntmps19
  go_wp2_with (go_at_call 23; (with_reducible refine (automaton_known.calls 2 true _ rfl).mono ?_); rintro e w' ⟨rfl, ⟨nd, rfl⟩⟩)
  obtain ⟨W, hW⟩ : ∃ W, W = w.drewN nd := ⟨_, rfl⟩
  have g0 : W.cell? ⟨0, 22, none⟩ = some (.int .i64 1) := by rw [hW]; simpa using h0
  have g1 : W.cell? ⟨0, 23, none⟩ = some (.bool false) := by rw [hW]; simpa using h1
  have HB : Below w.heap.size w W := by rw [hW]; exact pw_below_drewN (Below.refl _ _) _
  have hz : 0 < W.heap.size := World.block_lt_of_cell? W _ g0
  rw [← hW]
  have HB' := Aside0.mk HB
  clear HB h0 h1 hW nd
  go_region_with (go_at_call 24; (with_reducible refine (class_still b 3 _ HC.out).mono ?_); rintro e w' ⟨rfl, rfl⟩)
  all_goals
    go_wp2
    go_quiet (fail)
    go_wp2
    go_ret2
    exact ⟨rfl, by repeat (first | exact HB'.out | apply below_alloc | apply pw_below_drewN | apply below_drew1)⟩
theorem step_out (s b : Int) (w : World) (hs : s < 0 ∨ 2 < s) : Calls Tryd.prog 19 #[.int .i64 s, .int .u8 b] w fun e w' => e = .returned (.tuple #[.int .i64 0, .bool false]) ∧ Below w.heap.size w w' := by
  have hk : automaton_known.f s = some false := by
    unfold automaton_known.f
    by_cases h : s ≥ 0
    · rw [if_pos h, decide_eq_false (by omega)]
    · rw [if_neg h]
  have HK := Aside0.mk hk
  clear hk hs
  go_enter Tryd.func19, Tryd.ntmps19
  go_wp2_with (go_at_call 23; (with_reducible refine (automaton_known.calls s false _ HK.out).mono ?_); rintro e w' ⟨rfl, ⟨nd, rfl⟩⟩)
  go_ret2
  exact ⟨rfl, pw_below_drewN (Below.refl _ _) _⟩
theorem class_cases (b : Int) : (b = 34 ∧ automaton_class.f b = some 1) ∨ (b = 92 ∧ automaton_class.f b = some 2) ∨ (b = 10 ∧ automaton_class.f b = some 3) ∨ (b ≠ 34 ∧ b ≠ 92 ∧ b ≠ 10 ∧ automaton_class.f b = some 0) := by
  unfold automaton_class.f
  by_cases c1 : b = 34
  · exact .inl ⟨c1, by rw [if_pos c1]⟩
  by_cases c2 : b = 92
  · exact .inr (.inl ⟨c2, by rw [if_neg c1, if_pos c2]⟩)
  by_cases c3 : b = 10
  · exact .inr (.inr (.inl ⟨c3, by rw [if_neg c1, if_neg c2, if_pos c3]⟩))
  exact .inr (.inr (.inr ⟨c1, c2, c3, by rw [if_neg c1, if_neg c2, if_neg c3]⟩))
theorem automaton_Step.calls (a0 : Int) (a1 : Int) (r1 : Int) (r2 : Bool) (w : World) (hG : GlbLaid w) (h : automaton_Step.f a0 a1 = some (r1, r2)) :
    Calls Tryd.prog 19 #[.int .i64 a0, .int .u8 a1] w fun e w' => e = .returned (.tuple #[.int .i64 r1, .bool r2]) ∧ Below w.heap.size w w' := by
  have hx : automaton_Step.f a0 a1 = some (r1, r2) := h
  unfold automaton_Step.f at hx
  by_cases s0 : a0 = 0
  · subst s0
    rw [if_pos rfl] at hx
    rcases class_cases a1 with ⟨rfl, hc⟩ | ⟨rfl, hc⟩ | ⟨rfl, hc⟩ | ⟨n1, n2, n3, hc⟩
    · obtain ⟨rfl, rfl⟩ := Prod.mk.inj (Option.some.inj hx); exact step_0_1 _ w hc hG
    · obtain ⟨rfl, rfl⟩ := Prod.mk.inj (Option.some.inj hx); exact step_0_2 _ w hc hG
    · obtain ⟨rfl, rfl⟩ := Prod.mk.inj (Option.some.inj hx); exact step_0_3 _ w hc hG
    · rw [if_neg n1, if_neg n3] at hx; obtain ⟨rfl, rfl⟩ := Prod.mk.inj (Option.some.inj hx); exact step_0_0 _ w hc hG
  rw [if_neg s0] at hx
  by_cases s1 : a0 = 1
  · subst s1
    rw [if_pos rfl] at hx
    rcases class_cases a1 with ⟨rfl, hc⟩ | ⟨rfl, hc⟩ | ⟨rfl, hc⟩ | ⟨n1, n2, n3, hc⟩
    · obtain ⟨rfl, rfl⟩ := Prod.mk.inj (Option.some.inj hx); exact step_1_1 _ w hc hG
    · obtain ⟨rfl, rfl⟩ := Prod.mk.inj (Option.some.inj hx); exact step_1_2 _ w hc hG
    · obtain ⟨rfl, rfl⟩ := Prod.mk.inj (Option.some.inj hx); exact step_1_3 _ w hc hG
    · rw [if_neg n1, if_neg n2] at hx; obtain ⟨rfl, rfl⟩ := Prod.mk.inj (Option.some.inj hx); exact step_1_0 _ w hc hG
  rw [if_neg s1] at hx
  by_cases s2 : a0 = 2
  · subst s2
    rw [if_pos rfl] at hx
    rcases class_cases a1 with ⟨rfl, hc⟩ | ⟨rfl, hc⟩ | ⟨rfl, hc⟩ | ⟨n1, n2, n3, hc⟩
    · obtain ⟨rfl, rfl⟩ := Prod.mk.inj (Option.some.inj hx); exact step_2_1 _ w hc hG
    · obtain ⟨rfl, rfl⟩ := Prod.mk.inj (Option.some.inj hx); exact step_2_2 _ w hc hG
    · obtain ⟨rfl, rfl⟩ := Prod.mk.inj (Option.some.inj hx); exact step_2_3 _ w hc hG
    · obtain ⟨rfl, rfl⟩ := Prod.mk.inj (Option.some.inj hx); exact step_2_0 _ w hc hG
  rw [if_neg s2] at hx
  obtain ⟨rfl, rfl⟩ := Prod.mk.inj (Option.some.inj hx)
  exact step_out a0 a1 w (by omega)

/-! ### split_Lines: function 10 -/
def split_Lines.l0 : Nat → List Int → Int → List Int → Int → Int → Option (List Int × Int × Int)
  | 0, _, _, _, _, _ => none
  | k + 1, x5, x6, x15, x16, x17 => if x17 < x16 then (if 0 ≤ x17 then (if x17 < (x15.length : Int) then ((automaton_Step.f x6 (rd x15 x17)).bind fun bt105 => (if bt105.2 = true then (if x5.length < 17592186044416 then (split_Lines.l0 k (x5 ++ [x17]) bt105.1 x15 x16 (wrap64 (x17 + 1))) else (none)) else (split_Lines.l0 k x5 bt105.1 x15 x16 (wrap64 (x17 + 1))))) else (none)) else (none)) else (some (x5, x6, 0))
def split_Lines.f (k : Nat) (a0 : ByteArray) : Option (List Int × Int × Int) := if (a0.size : Int) > 1048576 then (some (([] : List Int), 0, 2)) else (if a0.size ≤ 9223372036854775807 then ((some (bytesOf a0 : List Int)).bind fun y101 => (split_Lines.l0 k ([] : List Int) 0 y101 (y101.length : Int) 0)) else (none))
theorem split_Lines.mono_l : ∀ k, (∀ y0 y1 y2 y3 y4, LeO (split_Lines.l0 k y0 y1 y2 y3 y4) (split_Lines.l0 (k + 1) y0 y1 y2 y3 y4))
  | 0 => fun _ _ _ _ _ r h => by simp [split_Lines.l0] at h
  | k + 1 => by
    have ih0 := split_Lines.mono_l k
    · intro y0 y1 y2 y3 y4
      unfold split_Lines.l0
      repeat' first
      | (with_reducible exact ih0 _ _ _ _ _)
      | (with_reducible exact LeO.refl _)
      | (with_reducible exact LeO.none _)
      | (with_reducible refine LeO.ite ?_ ?_)
      | (with_reducible refine LeO.bind ?_ (fun _ => ?_))
      | exact ih0 _ _ _ _ _
      | exact LeO.none _
      | refine LeO.ite ?_ ?_
      | refine LeO.bind ?_ (fun _ => ?_)
theorem split_Lines.mono : ∀ a0 k, LeO (split_Lines.f k a0) (split_Lines.f (k + 1) a0) := by
  intro a0 k
  have ih0 := split_Lines.mono_l k
  unfold split_Lines.f
  repeat' first
      | (with_reducible exact ih0 _ _ _ _ _)
      | (with_reducible exact LeO.refl _)
      | (with_reducible exact LeO.none _)
      | (with_reducible refine LeO.ite ?_ ?_)
      | (with_reducible refine LeO.bind ?_ (fun _ => ?_))
      | exact ih0 _ _ _ _ _
      | exact LeO.none _
      | refine LeO.ite ?_ ?_
      | refine LeO.bind ?_ (fun _ => ?_)
set_option maxHeartbeats 8000000 in
set_option maxRecDepth 100000 in
theorem split_Lines.calls (k : Nat) (a0 : ByteArray) (r1 : List Int) (r2 : Int) (r3 : Int) (w : World) (hG : GlbLaid w) (h : split_Lines.f k a0 = some (r1, r2, r3)) :
    Calls Tryd.prog 10 #[.string a0] w fun e w' => ∃ v0_ : Value, e = .returned (.tuple #[v0_, .int .i64 r2, .int .i64 r3]) ∧ Kd.R (Kd.int .i64) 3 w' w.heap.size (fun _ => True) v0_ r1 ∧ Below w.heap.size w w' := by
  have HG := Aside0.mk hG
  clear hG
  have HB := Aside0.mk (Below.refl w.heap.size w)
  have H : (if (a0.size : Int) > 1048576 then (some (([] : List Int), 0, 2)) else (if a0.size ≤ 9223372036854775807 then ((some (bytesOf a0 : List Int)).bind fun y101 => (split_Lines.l0 k ([] : List Int) 0 y101 (y101.length : Int) 0)) else (none))) = some (r1, r2, r3) := h
  clear h
  by_cases c2 : (a0.size : Int) > 1048576
  · rw [if_pos c2] at H
    have c2b0 : decide (1048576 < (a0.size : Int)) = true := decide_eq_true c2
    have c2b1 : decide (1048576 < a0.size) = true := decide_eq_true (by omega)
    clear c2
    simp only [Option.some.injEq, Prod.mk.injEq] at H
    obtain ⟨rfl, rfl, rfl⟩ := H
    go_enter Tryd.func10, Tryd.ntmps10
    go_wp2
    go_ret3
    exact ⟨_, by first | rfl | (simp [errW_none, errW_some] <;> rfl) | (simp [*, errW_none, errW_some] <;> rfl), by first | exact Kd.R_nil _ _ _ _ _ | exact Kd.N_nil _ _ _ _ _ | exact Kd.V_nil _ _ _ _ _ | exact Kd.Q_nil _ _ _ _ _ | exact Kd.S_nil _ _ _ _ _, by repeat (first | (with_reducible first | exact HB.out | apply below_alloc | apply pw_below_drewN | apply below_drew1) | exact HB.out)⟩
  · rw [if_neg c2] at H
    have c2b0 : decide (1048576 < (a0.size : Int)) = false := decide_eq_false c2
    have c2b1 : decide (1048576 < a0.size) = false := decide_eq_false (by omega)
    clear c2
    by_cases c3 : a0.size ≤ 9223372036854775807
    · rw [if_pos c3] at H
      have c3b0 := eq_true c3
      have c3b1 : decide (a0.size ≤ 9223372036854775807) = true := decide_eq_true c3
      try have c3b2 : (9223372036854775807 < a0.size) = False := eq_false (Nat.not_lt.2 c3)
      clear c3
      obtain ⟨y101, hy101⟩ : ∃ y_ : List Int, y_ = (bytesOf a0) := ⟨_, rfl⟩
      replace H : (split_Lines.l0 k ([] : List Int) 0 y101 (y101.length : Int) 0) = some (r1, r2, r3) := by first | (rw [hy101]; with_reducible exact H) | (have H2_ := (Option.bind_some _ _).symm.trans H; rw [hy101]; with_reducible exact H2_) | (have H2_ := (Option.bind_some _ _).symm.trans H; with_reducible exact H2_) | with_reducible exact H | (rw [hy101]; exact H) | exact H
      have Ny101 := Aside0.mk hy101
      clear hy101
      have H' := Aside0.mk H
      clear H
      go_enter Tryd.func10, Tryd.ntmps10
      go_wp2_with (first | ((with_reducible refine gate_dst (N := 15) rfl ?_); refine V_conv _ 5 rfl (N := 15) rfl 9 39 _ rfl a0 rfl Tryd.underlying9 Tryd.underlying39 Tryd.underlying5 (of_decide_eq_true (by first | (with_reducible assumption) | assumption)) (Below.refl _ _) (Nat.le_refl _) ?_; intro v102 w4 ho5 hb hg_ hnew_; clear hg_ hnew_; (first | rw [← Ny101.out] at ho5 | (simp only [Int.reduceToNat] at ho5; rw [← Ny101.out] at ho5)); have n0_ := Aside0.mk (Kd.V_lower (Kd.V_mono (ok' := fun k_ => True) ho5 (fun k_ hk_ => trivial)) (below_size (by repeat (first | (with_reducible first | exact HB.out | apply below_alloc | apply pw_below_drewN | apply below_drew1) | exact HB.out)))); have n1_ := Aside0.mk (below_step (by repeat (first | (with_reducible first | exact HB.out | apply below_alloc | apply pw_below_drewN | apply below_drew1) | exact HB.out)) hb); clear HB; have HO103 := n0_; have HB := n1_; clear n0_ n1_; clear hb ho5; obtain ⟨Ao6, co6, eo6⟩ := Kd.V_slice HO103.out; subst eo6))
      go_loopg [5, 6, 17] k (fun kq v5 v6 v17 w' => ∃ (x5_1 : List Int) (x6_1 : Int) (x17_1 : Int), v6 = .int .i64 x6_1 ∧ v17 = .int .i64 x17_1 ∧ Aside0 (split_Lines.l0 kq x5_1 x6_1 y101 (y101.length : Int) x17_1 = some (r1, r2, r3)) ∧ Aside0 (kq ≤ k) ∧ Aside0 (Kd.R (Kd.int .i64) 3 w' w.heap.size (fun _ => True) v5 x5_1) ∧ Aside0 (Kd.V (Kd.int .u8) 5 w' w.heap.size (fun k_ => some k_ ≠ (v5 : Value).ownBlock) (.slice Ao6 y101.length co6) y101) ∧ Aside0 (Below w.heap.size w w'))
      case atStart => exact ⟨(([] : List Int)), (0), (0), (by first | rfl | (simp; done) | (simp [*]; done)), (by first | rfl | (simp; done) | (simp [*]; done)), H', ⟨Nat.le_refl _⟩, ⟨by first | exact Kd.R_nil _ _ _ _ _ | exact Kd.N_nil _ _ _ _ _ | exact Kd.V_nil _ _ _ _ _ | exact Kd.Q_nil _ _ _ _ _ | exact Kd.S_nil _ _ _ _ _⟩, ⟨by (with_reducible repeat (first | apply Kd.V_alloc | apply Kd.V_drewN | apply Kd.V_drew)); exact Kd.V_mono HO103.out (fun _ hk => (by simp [Value.ownBlock]))⟩, ⟨by repeat (first | (with_reducible first | exact HB.out | apply below_alloc | apply pw_below_drewN | apply below_drew1) | exact HB.out)⟩⟩
      case round =>
        clear H'
        try clear c1
        try clear c2
        try clear c2b0
        try clear c2b1
        try clear p2
        try clear c3
        try clear c3b0
        try clear c3b1
        try clear c3b2
        obtain ⟨x5_1, x6_1, x17_1, rfl, rfl, HA, HK1, HO_5, HO_15, HB⟩ := hrel
        cases gk with
        | zero => exact absurd HA.out (by simp [split_Lines.l0])
        | succ k1 =>
          have H := HA.out
          clear HA
          simp only [split_Lines.l0] at H
          by_cases c7 : x17_1 < (y101.length : Int)
          · rw [if_pos c7] at H
            have c7b0 : decide (x17_1 < (y101.length : Int)) = true := decide_eq_true c7
            clear c7
            by_cases c8 : 0 ≤ x17_1
            · rw [if_pos c8] at H
              have c8b0 : decide (0 ≤ x17_1) = true := decide_eq_true c8
              clear c8
              by_cases c9 : x17_1 < (y101.length : Int)
              · rw [if_pos c9] at H
                have c9b0 : decide (x17_1 < (y101.length : Int)) = true := decide_eq_true c9
                clear c9
                replace H := Option.bind_eq_some_iff.mp H
                obtain ⟨⟨t105, t106⟩, A100, H⟩ := H
                replace H : (if t106 = true then (if x5_1.length < 17592186044416 then (split_Lines.l0 k1 (x5_1 ++ [x17_1]) t105 y101 (y101.length : Int) (wrap64 (x17_1 + 1))) else (none)) else (split_Lines.l0 k1 x5_1 t105 y101 (y101.length : Int) (wrap64 (x17_1 + 1)))) = some (r1, r2, r3) := H
                have A10 := Aside0.mk A100
                clear A100
                by_cases c11 : t106 = true
                · subst c11
                  have H1 : (if x5_1.length < 17592186044416 then (split_Lines.l0 k1 (x5_1 ++ [x17_1]) t105 y101 (y101.length : Int) (wrap64 (x17_1 + 1))) else (none)) = some (r1, r2, r3) := by rw [if_pos rfl] at H; exact H
                  clear H
                  have H := H1
                  clear H1
                  by_cases c12 : x5_1.length < 17592186044416
                  · rw [if_pos c12] at H
                    have LMc12 := Aside0.mk c12
                    clear c12
                    obtain ⟨y107, hy107⟩ : ∃ y_ : List Int, y_ = (x5_1 ++ [x17_1]) := ⟨_, rfl⟩
                    replace H : (split_Lines.l0 k1 y107 t105 y101 (y101.length : Int) (wrap64 (x17_1 + 1))) = some (r1, r2, r3) := by first | (rw [hy107]; with_reducible exact H) | (have H2_ := (Option.bind_some _ _).symm.trans H; rw [hy107]; with_reducible exact H2_) | (have H2_ := (Option.bind_some _ _).symm.trans H; with_reducible exact H2_) | with_reducible exact H | (rw [hy107]; exact H) | exact H
                    have Ny107 := Aside0.mk hy107
                    clear hy107
                    have H' := Aside0.mk H
                    clear H
                    have p104 : 0 ≤ (x17_1 : Int) := of_decide_eq_true (by first | (with_reducible assumption) | assumption)
                    have q104 : x17_1 < (y101.length : Int) := of_decide_eq_true (by first | (with_reducible assumption) | assumption)
                    obtain ⟨ad104, e104, hx104_0⟩ := Kd.at_int (Kd.V_reads' HO_15.out).2.2 x17_1 p104 q104
                    cases e104
                    replace p104 := eq_true p104
                    replace q104 := eq_true q104
                    go_wp2_with (first | ((with_reducible refine gate_callee (f := 19) rfl ?_); refine goesL_ (some 25) rfl rfl Tryd.func19 (by kernel_rfl) rfl #[.int .i64 x6_1, .int .u8 (rd y101 x17_1)] rfl (by (try simp only [List.map_toArray, List.map_cons, List.map_nil]); first | done | rfl | (simp only [List.length_drop, List.length_take]; rfl)) ?_; (with_reducible refine (automaton_Step.calls x6_1 (rd y101 x17_1) t105 true _ ?side1 A10.out).mono ?_); (case side1 => exact GlbLaid.below HG.out (by repeat (first | (with_reducible first | exact HB.out | apply below_alloc | apply pw_below_drewN | apply below_drew1) | exact HB.out))); rintro e w13 ⟨rfl, hb⟩; refine ⟨_, rfl, ?_⟩; have n0_ := Aside0.mk (Kd.R_below (by (with_reducible repeat (first | apply Kd.R_alloc | apply Kd.R_drewN | apply Kd.R_drew)); exact HO_5.out) hb); have n1_ := Aside0.mk (Kd.V_below (by (with_reducible repeat (first | apply Kd.V_alloc | apply Kd.V_drewN | apply Kd.V_drew)); exact HO_15.out) hb); have n2_ := Aside0.mk (below_step (by repeat (first | (with_reducible first | exact HB.out | apply below_alloc | apply pw_below_drewN | apply below_drew1) | exact HB.out)) hb); clear HO_5; clear HO_15; clear HB; have HO_5 := n0_; have HO_15 := n1_; have HB := n2_; clear n0_ n1_ n2_; (try clear hb); (try clear hb2); (try clear hk); (try clear hi)) | ((with_reducible refine gate_builtin (b := .append) (xs := #[.tmp 29, .tmp 31]) rfl ?_); at_builtin; refine Kd.R_append (Kd.int .i64) (w0 := w) w.heap.size rfl (.tmp 29) (.tmp 31) 27 3 (.int .i64 0) 8 rfl Tryd.underlying27 info3 rfl (by decide) (by omega) u5 x5_1 x17_1 [.int .i64 x17_1] (fun _ => True) (fun _ => False) rfl rfl ?aP (fun _ hk => hk.elim) ?aF ?aO ?aB ?aS ?aL ?_; (case aP => exact rfl); (case aB => exact (by repeat (first | (with_reducible first | exact HB.out | apply below_alloc | apply pw_below_drewN | apply below_drew1) | exact HB.out))); (case aF => exact (fun _ _ => trivial)); (case aO => exact (by (with_reducible repeat (first | apply Kd.R_alloc | apply Kd.R_drewN | apply Kd.R_drew)); exact HO_5.out)); (case aS => exact (below_size (by repeat (first | (with_reducible first | exact HB.out | apply below_alloc | apply pw_below_drewN | apply below_drew1) | exact HB.out)))); (case aL => have := LMc12.out; omega); intro v108 w14 ho hb hg hat; rw [← Ny107.out] at ho; have n0_ := Aside0.mk (Kd.V_afterv (ok := (fun _ => True)) (by (with_reducible repeat (first | apply Kd.V_alloc | apply Kd.V_drewN | apply Kd.V_drew)); exact Kd.V_mono HO_15.out (fun _ hk => ⟨trivial, hk⟩)) hg hat); have n1_ := Aside0.mk (hb); have n2_ := Aside0.mk (ho); clear HO_15; clear HB; clear HO_5; have HO_15 := n0_; have HB := n1_; have HO109 := n2_; clear n0_ n1_ n2_; clear ho hb hg hat))
                    go_roundg k1
                    case measure => have := HK1.out; omega
                    case rel => exact ⟨(y107), (t105), (wrap64 (x17_1 + 1)), (by first | rfl | (simp; done) | (simp [*]; done)), (by first | rfl | (simp; done) | (simp [*]; done)), H', ⟨by have := HK1.out; omega⟩, ⟨by (with_reducible repeat (first | apply Kd.R_alloc | apply Kd.R_drewN | apply Kd.R_drew)); exact HO109.out⟩, ⟨by (with_reducible repeat (first | apply Kd.V_alloc | apply Kd.V_drewN | apply Kd.V_drew)); exact Kd.V_mono HO_15.out (fun _ hk => hk.2)⟩, ⟨by repeat (first | (with_reducible first | exact HB.out | apply below_alloc | apply pw_below_drewN | apply below_drew1) | exact HB.out)⟩⟩
                  · rw [if_neg c12] at H
                    exact absurd H (by simp)
                · replace c11 := Bool.eq_false_iff.mpr c11
                  subst c11
                  have H1 : (split_Lines.l0 k1 x5_1 t105 y101 (y101.length : Int) (wrap64 (x17_1 + 1))) = some (r1, r2, r3) := by rw [if_neg (show ¬ (false = true) by decide)] at H; exact H
                  clear H
                  have H := H1
                  clear H1
                  have H' := Aside0.mk H
                  clear H
                  have p104 : 0 ≤ (x17_1 : Int) := of_decide_eq_true (by first | (with_reducible assumption) | assumption)
                  have q104 : x17_1 < (y101.length : Int) := of_decide_eq_true (by first | (with_reducible assumption) | assumption)
                  obtain ⟨ad104, e104, hx104_0⟩ := Kd.at_int (Kd.V_reads' HO_15.out).2.2 x17_1 p104 q104
                  cases e104
                  replace p104 := eq_true p104
                  replace q104 := eq_true q104
                  go_wp2_with (first | ((with_reducible refine gate_callee (f := 19) rfl ?_); refine goesL_ (some 25) rfl rfl Tryd.func19 (by kernel_rfl) rfl #[.int .i64 x6_1, .int .u8 (rd y101 x17_1)] rfl (by (try simp only [List.map_toArray, List.map_cons, List.map_nil]); first | done | rfl | (simp only [List.length_drop, List.length_take]; rfl)) ?_; (with_reducible refine (automaton_Step.calls x6_1 (rd y101 x17_1) t105 false _ ?side1 A10.out).mono ?_); (case side1 => exact GlbLaid.below HG.out (by repeat (first | (with_reducible first | exact HB.out | apply below_alloc | apply pw_below_drewN | apply below_drew1) | exact HB.out))); rintro e w15 ⟨rfl, hb⟩; refine ⟨_, rfl, ?_⟩; have n0_ := Aside0.mk (Kd.R_below (by (with_reducible repeat (first | apply Kd.R_alloc | apply Kd.R_drewN | apply Kd.R_drew)); exact HO_5.out) hb); have n1_ := Aside0.mk (Kd.V_below (by (with_reducible repeat (first | apply Kd.V_alloc | apply Kd.V_drewN | apply Kd.V_drew)); exact HO_15.out) hb); have n2_ := Aside0.mk (below_step (by repeat (first | (with_reducible first | exact HB.out | apply below_alloc | apply pw_below_drewN | apply below_drew1) | exact HB.out)) hb); clear HO_5; clear HO_15; clear HB; have HO_5 := n0_; have HO_15 := n1_; have HB := n2_; clear n0_ n1_ n2_; (try clear hb); (try clear hb2); (try clear hk); (try clear hi)))
                  go_roundg k1
                  case measure => have := HK1.out; omega
                  case rel => exact ⟨(x5_1), (t105), (wrap64 (x17_1 + 1)), (by first | rfl | (simp; done) | (simp [*]; done)), (by first | rfl | (simp; done) | (simp [*]; done)), H', ⟨by have := HK1.out; omega⟩, ⟨by (with_reducible repeat (first | apply Kd.R_alloc | apply Kd.R_drewN | apply Kd.R_drew)); exact HO_5.out⟩, ⟨by (with_reducible repeat (first | apply Kd.V_alloc | apply Kd.V_drewN | apply Kd.V_drew)); exact HO_15.out⟩, ⟨by repeat (first | (with_reducible first | exact HB.out | apply below_alloc | apply pw_below_drewN | apply below_drew1) | exact HB.out)⟩⟩
              · rw [if_neg c9] at H
                exact absurd H (by simp)
            · rw [if_neg c8] at H
              exact absurd H (by simp)
          · rw [if_neg c7] at H
            have c7b0 : decide (x17_1 < (y101.length : Int)) = false := decide_eq_false c7
            clear c7
            simp only [Option.some.injEq, Prod.mk.injEq] at H
            obtain ⟨rfl, rfl, rfl⟩ := H
            go_wp2
            go_ret3
            exact ⟨_, by first | rfl | (simp [errW_none, errW_some] <;> rfl) | (simp [*, errW_none, errW_some] <;> rfl), by (with_reducible repeat (first | apply Kd.R_alloc | apply Kd.R_drewN | apply Kd.R_drew)); exact HO_5.out, by repeat (first | (with_reducible first | exact HB.out | apply below_alloc | apply pw_below_drewN | apply below_drew1) | exact HB.out)⟩
    · rw [if_neg c3] at H
      exact absurd H (by simp)

/-! ### split_Records: function 8 -/
def split_Records.l0 : Nat → ByteArray → List (S34) → Int → List Int → Int → Int → Option ((List (S34)) × Int)
  | 0, _, _, _, _, _, _ => none
  | k + 1, x0, x7, x8, x20, x21, x22 => if x22 < x21 then (if 0 ≤ x22 then (if x22 < (x20.length : Int) then (if x7.length < 8796093022208 then (split_Records.l0 k x0 (x7 ++ [(⟨x8, rd x20 x22⟩ : S34)]) (wrap64 ((rd x20 x22) + 1)) x20 x21 (wrap64 (x22 + 1))) else (none)) else (none)) else (none)) else (if x8 < (x0.size : Int) then (if x7.length < 8796093022208 then (some ((x7 ++ [(⟨x8, (x0.size : Int)⟩ : S34)]), 0)) else (none)) else (some (x7, 0)))
def split_Records.f (k : Nat) (a0 : ByteArray) : Option ((List (S34)) × Int) := (split_Lines.f k a0).bind fun bt110 => (if bt110.2.2 = 0 then (split_Records.l0 k a0 ([] : List (S34)) 0 bt110.1 (bt110.1.length : Int) 0) else (some (([] : List (S34)), bt110.2.2)))
theorem split_Records.mono_l : ∀ k, (∀ y0 y1 y2 y3 y4 y5, LeO (split_Records.l0 k y0 y1 y2 y3 y4 y5) (split_Records.l0 (k + 1) y0 y1 y2 y3 y4 y5))
  | 0 => fun _ _ _ _ _ _ r h => by simp [split_Records.l0] at h
  | k + 1 => by
    have ih0 := split_Records.mono_l k
    · intro y0 y1 y2 y3 y4 y5
      unfold split_Records.l0
      repeat' first
      | (with_reducible exact ih0 _ _ _ _ _ _)
      | (with_reducible exact split_Lines.mono _ _)
      | (with_reducible exact LeO.refl _)
      | (with_reducible exact LeO.none _)
      | (with_reducible refine LeO.ite ?_ ?_)
      | (with_reducible refine LeO.bind ?_ (fun _ => ?_))
      | exact ih0 _ _ _ _ _ _
      | exact split_Lines.mono _ _
      | exact LeO.none _
      | refine LeO.ite ?_ ?_
      | refine LeO.bind ?_ (fun _ => ?_)
theorem split_Records.mono : ∀ a0 k, LeO (split_Records.f k a0) (split_Records.f (k + 1) a0) := by
  intro a0 k
  have ih0 := split_Records.mono_l k
  unfold split_Records.f
  repeat' first
      | (with_reducible exact ih0 _ _ _ _ _ _)
      | (with_reducible exact split_Lines.mono _ _)
      | (with_reducible exact LeO.refl _)
      | (with_reducible exact LeO.none _)
      | (with_reducible refine LeO.ite ?_ ?_)
      | (with_reducible refine LeO.bind ?_ (fun _ => ?_))
      | exact ih0 _ _ _ _ _ _
      | exact split_Lines.mono _ _
      | exact LeO.none _
      | refine LeO.ite ?_ ?_
      | refine LeO.bind ?_ (fun _ => ?_)
set_option maxHeartbeats 8000000 in
set_option maxRecDepth 100000 in
theorem split_Records.calls (k : Nat) (a0 : ByteArray) (r1 : List (S34)) (r2 : Int) (w : World) (hG : GlbLaid w) (h : split_Records.f k a0 = some (r1, r2)) :
    Calls Tryd.prog 8 #[.string a0] w fun e w' => ∃ v0_ : Value, e = .returned (.tuple #[v0_, .int .i64 r2]) ∧ Kd.R k34 34 w' w.heap.size (fun _ => True) v0_ r1 ∧ Below w.heap.size w w' := by
  have hu34 := Tryd.underlying34
  have HG := Aside0.mk hG
  clear hG
  have HB := Aside0.mk (Below.refl w.heap.size w)
  have H : ((split_Lines.f k a0).bind fun bt110 => (if bt110.2.2 = 0 then (split_Records.l0 k a0 ([] : List (S34)) 0 bt110.1 (bt110.1.length : Int) 0) else (some (([] : List (S34)), bt110.2.2)))) = some (r1, r2) := h
  clear h
  replace H := Option.bind_eq_some_iff.mp H
  obtain ⟨⟨t110, t111, t112⟩, A20, H⟩ := H
  replace H : (if t112 = 0 then (split_Records.l0 k a0 ([] : List (S34)) 0 t110 (t110.length : Int) 0) else (some (([] : List (S34)), t112))) = some (r1, r2) := H
  have A2 := Aside0.mk A20
  clear A20
  by_cases c3 : t112 = 0
  · rw [if_pos c3] at H
    have c3b0 : (t112 == 0) = true := beq_iff_eq.mpr c3
    have c3b1 : (t112 != 0) = false := bne_eq_false_iff_eq.mpr c3
    clear c3
    have H' := Aside0.mk H
    clear H
    go_enter Tryd.func8, Tryd.ntmps8
    go_wp2_with (first | ((with_reducible refine gate_callee (f := 10) rfl ?_); refine goesL_ (some 13) rfl rfl Tryd.func10 (by kernel_rfl) rfl #[.string a0] rfl (by (try simp only [List.map_toArray, List.map_cons, List.map_nil]); first | done | rfl | (simp only [List.length_drop, List.length_take]; rfl)) ?_; (with_reducible refine (split_Lines.calls k a0 t110 t111 t112 _ ?side1 A2.out).mono ?_); (case side1 => exact GlbLaid.below HG.out (by repeat (first | (with_reducible first | exact HB.out | apply below_alloc | apply pw_below_drewN | apply below_drew1) | exact HB.out))); rintro e w4 ⟨v113, rfl, ho0, hb⟩; refine ⟨_, rfl, ?_⟩; have n0_ := Aside0.mk (Kd.R_lower ho0 (below_size (by repeat (first | (with_reducible first | exact HB.out | apply below_alloc | apply pw_below_drewN | apply below_drew1) | exact HB.out)))); have n1_ := Aside0.mk (below_step (by repeat (first | (with_reducible first | exact HB.out | apply below_alloc | apply pw_below_drewN | apply below_drew1) | exact HB.out)) hb); clear HB; have HO114 := n0_; have HB := n1_; clear n0_ n1_; (try clear hb); (try clear hb2); (try clear hk); (try clear hi); (try clear ho0); obtain ⟨Ao5, co5, eo5⟩ := Kd.R_slice HO114.out; subst eo5))
    go_loopg [7, 8, 22] k (fun kq v7 v8 v22 w' => ∃ (x7_1 : List (S34)) (x8_1 : Int) (x22_1 : Int), v8 = .int .i64 x8_1 ∧ v22 = .int .i64 x22_1 ∧ Aside0 (split_Records.l0 kq a0 x7_1 x8_1 t110 (t110.length : Int) x22_1 = some (r1, r2)) ∧ Aside0 (kq ≤ k) ∧ Aside0 (Kd.R k34 34 w' w.heap.size (fun _ => True) v7 x7_1) ∧ Aside0 (Kd.R (Kd.int .i64) 3 w' w.heap.size (fun _ => True) (.slice Ao5 t110.length co5) t110) ∧ Aside0 (Below w.heap.size w w'))
    case atStart => exact ⟨(([] : List (S34))), (0), (0), (by first | rfl | (simp; done) | (simp [*]; done)), (by first | rfl | (simp; done) | (simp [*]; done)), H', ⟨Nat.le_refl _⟩, ⟨by first | exact Kd.R_nil _ _ _ _ _ | exact Kd.N_nil _ _ _ _ _ | exact Kd.V_nil _ _ _ _ _ | exact Kd.Q_nil _ _ _ _ _ | exact Kd.S_nil _ _ _ _ _⟩, ⟨by (with_reducible repeat (first | apply Kd.R_alloc | apply Kd.R_drewN | apply Kd.R_drew)); exact HO114.out⟩, ⟨by repeat (first | (with_reducible first | exact HB.out | apply below_alloc | apply pw_below_drewN | apply below_drew1) | exact HB.out)⟩⟩
    case round =>
      clear H'
      try clear c1
      try clear p2
      try clear c3
      try clear c3b0
      try clear c3b1
      obtain ⟨x7_1, x8_1, x22_1, rfl, rfl, HA, HK1, HO_7, HO_20, HB⟩ := hrel
      cases gk with
      | zero => exact absurd HA.out (by simp [split_Records.l0])
      | succ k1 =>
        have H := HA.out
        clear HA
        simp only [split_Records.l0] at H
        by_cases c6 : x22_1 < (t110.length : Int)
        · rw [if_pos c6] at H
          have c6b0 : decide (x22_1 < (t110.length : Int)) = true := decide_eq_true c6
          clear c6
          by_cases c7 : 0 ≤ x22_1
          · rw [if_pos c7] at H
            have c7b0 : decide (0 ≤ x22_1) = true := decide_eq_true c7
            clear c7
            by_cases c8 : x22_1 < (t110.length : Int)
            · rw [if_pos c8] at H
              have c8b0 : decide (x22_1 < (t110.length : Int)) = true := decide_eq_true c8
              clear c8
              by_cases c9 : x7_1.length < 8796093022208
              · rw [if_pos c9] at H
                have LMc9 := Aside0.mk c9
                clear c9
                obtain ⟨y116, hy116⟩ : ∃ y_ : List (S34), y_ = (x7_1 ++ [(⟨x8_1, rd t110 x22_1⟩ : S34)]) := ⟨_, rfl⟩
                replace H : (split_Records.l0 k1 a0 y116 (wrap64 ((rd t110 x22_1) + 1)) t110 (t110.length : Int) (wrap64 (x22_1 + 1))) = some (r1, r2) := by first | (rw [hy116]; with_reducible exact H) | (have H2_ := (Option.bind_some _ _).symm.trans H; rw [hy116]; with_reducible exact H2_) | (have H2_ := (Option.bind_some _ _).symm.trans H; with_reducible exact H2_) | with_reducible exact H | (rw [hy116]; exact H) | exact H
                have Ny116 := Aside0.mk hy116
                clear hy116
                have H' := Aside0.mk H
                clear H
                have p115 : 0 ≤ (x22_1 : Int) := of_decide_eq_true (by first | (with_reducible assumption) | assumption)
                have q115 : x22_1 < (t110.length : Int) := of_decide_eq_true (by first | (with_reducible assumption) | assumption)
                obtain ⟨ad115, e115, hx115_0⟩ := Kd.at_int (Kd.R_reads' HO_20.out).2.2 x22_1 p115 q115
                cases e115
                replace p115 := eq_true p115
                replace q115 := eq_true q115
                go_wp2_with (first | ((with_reducible refine gate_builtin (b := .append) (xs := #[.tmp 26, .tmp 30]) rfl ?_); at_builtin; refine Kd.R_append k34 (w0 := w) w.heap.size rfl (.tmp 26) (.tmp 30) 23 34 (.agg #[(.int .i64 0), (.int .i64 0)]) 16 rfl Tryd.underlying23 info34 rfl (by decide) (by omega) u7 x7_1 (⟨x8_1, rd t110 x22_1⟩ : S34) [.int .i64 x8_1, .int .i64 (rd t110 x22_1)] (fun _ => True) (fun _ => False) rfl rfl ?aP (fun _ hk => hk.elim) ?aF ?aO ?aB ?aS ?aL ?_; (case aP => exact k34_mkM _ _ _ (⟨x8_1, rd t110 x22_1⟩ : S34)); (case aB => exact (by repeat (first | (with_reducible first | exact HB.out | apply below_alloc | apply pw_below_drewN | apply below_drew1) | exact HB.out))); (case aF => exact (fun _ _ => trivial)); (case aO => exact (by (with_reducible repeat (first | apply Kd.R_alloc | apply Kd.R_drewN | apply Kd.R_drew)); exact HO_7.out)); (case aS => exact (below_size (by repeat (first | (with_reducible first | exact HB.out | apply below_alloc | apply pw_below_drewN | apply below_drew1) | exact HB.out)))); (case aL => have := LMc9.out; omega); intro v117 w10 ho hb hg hat; rw [← Ny116.out] at ho; have n0_ := Aside0.mk (Kd.R_over' (by (with_reducible repeat (first | apply Kd.R_alloc | apply Kd.R_drewN | apply Kd.R_drew)); exact HO_20.out) (Kd.R_typed (by (with_reducible repeat (first | apply Kd.R_alloc | apply Kd.R_drewN | apply Kd.R_drew)); exact HO_7.out)) (by decide) hg); have n1_ := Aside0.mk (hb); have n2_ := Aside0.mk (ho); clear HO_20; clear HB; clear HO_7; have HO_20 := n0_; have HB := n1_; have HO118 := n2_; clear n0_ n1_ n2_; clear ho hb hg hat))
                go_roundg k1
                case measure => have := HK1.out; omega
                case rel => exact ⟨(y116), (wrap64 ((rd t110 x22_1) + 1)), (wrap64 (x22_1 + 1)), (by first | rfl | (simp; done) | (simp [*]; done)), (by first | rfl | (simp; done) | (simp [*]; done)), H', ⟨by have := HK1.out; omega⟩, ⟨by (with_reducible repeat (first | apply Kd.R_alloc | apply Kd.R_drewN | apply Kd.R_drew)); exact HO118.out⟩, ⟨by (with_reducible repeat (first | apply Kd.R_alloc | apply Kd.R_drewN | apply Kd.R_drew)); exact HO_20.out⟩, ⟨by repeat (first | (with_reducible first | exact HB.out | apply below_alloc | apply pw_below_drewN | apply below_drew1) | exact HB.out)⟩⟩
              · rw [if_neg c9] at H
                exact absurd H (by simp)
            · rw [if_neg c8] at H
              exact absurd H (by simp)
          · rw [if_neg c7] at H
            exact absurd H (by simp)
        · rw [if_neg c6] at H
          have c6b0 : decide (x22_1 < (t110.length : Int)) = false := decide_eq_false c6
          clear c6
          by_cases c11 : x8_1 < (a0.size : Int)
          · rw [if_pos c11] at H
            have c11b0 : decide (x8_1 < (a0.size : Int)) = true := decide_eq_true c11
            clear c11
            by_cases c12 : x7_1.length < 8796093022208
            · rw [if_pos c12] at H
              have LMc12 := Aside0.mk c12
              clear c12
              obtain ⟨y119, hy119⟩ : ∃ y_ : List (S34), y_ = (x7_1 ++ [(⟨x8_1, (a0.size : Int)⟩ : S34)]) := ⟨_, rfl⟩
              replace H : (some (y119, 0)) = some (r1, r2) := by first | (rw [hy119]; with_reducible exact H) | (have H2_ := (Option.bind_some _ _).symm.trans H; rw [hy119]; with_reducible exact H2_) | (have H2_ := (Option.bind_some _ _).symm.trans H; with_reducible exact H2_) | with_reducible exact H | (rw [hy119]; exact H) | exact H
              have Ny119 := Aside0.mk hy119
              clear hy119
              simp only [Option.some.injEq, Prod.mk.injEq] at H
              obtain ⟨rfl, rfl⟩ := H
              go_wp2_with (first | ((with_reducible refine gate_builtin (b := .append) (xs := #[.tmp 39, .tmp 44]) rfl ?_); at_builtin; refine Kd.R_append k34 (w0 := w) w.heap.size rfl (.tmp 39) (.tmp 44) 23 34 (.agg #[(.int .i64 0), (.int .i64 0)]) 16 rfl Tryd.underlying23 info34 rfl (by decide) (by omega) u7 x7_1 (⟨x8_1, (a0.size : Int)⟩ : S34) [.int .i64 x8_1, .int .i64 (a0.size : Int)] (fun _ => True) (fun _ => False) rfl rfl ?aP (fun _ hk => hk.elim) ?aF ?aO ?aB ?aS ?aL ?_; (case aP => exact k34_mkM _ _ _ (⟨x8_1, (a0.size : Int)⟩ : S34)); (case aB => exact (by repeat (first | (with_reducible first | exact HB.out | apply below_alloc | apply pw_below_drewN | apply below_drew1) | exact HB.out))); (case aF => exact (fun _ _ => trivial)); (case aO => exact (by (with_reducible repeat (first | apply Kd.R_alloc | apply Kd.R_drewN | apply Kd.R_drew)); exact HO_7.out)); (case aS => exact (below_size (by repeat (first | (with_reducible first | exact HB.out | apply below_alloc | apply pw_below_drewN | apply below_drew1) | exact HB.out)))); (case aL => have := LMc12.out; omega); intro v120 w13 ho hb hg hat; rw [← Ny119.out] at ho; have n0_ := Aside0.mk (Kd.R_over' (by (with_reducible repeat (first | apply Kd.R_alloc | apply Kd.R_drewN | apply Kd.R_drew)); exact HO_20.out) (Kd.R_typed (by (with_reducible repeat (first | apply Kd.R_alloc | apply Kd.R_drewN | apply Kd.R_drew)); exact HO_7.out)) (by decide) hg); have n1_ := Aside0.mk (hb); have n2_ := Aside0.mk (ho); clear HO_20; clear HB; clear HO_7; have HO_20 := n0_; have HB := n1_; have HO121 := n2_; clear n0_ n1_ n2_; clear ho hb hg hat))
              go_ret2
              exact ⟨_, by first | rfl | (simp [errW_none, errW_some] <;> rfl) | (simp [*, errW_none, errW_some] <;> rfl), by (with_reducible repeat (first | apply Kd.R_alloc | apply Kd.R_drewN | apply Kd.R_drew)); exact HO121.out, by repeat (first | (with_reducible first | exact HB.out | apply below_alloc | apply pw_below_drewN | apply below_drew1) | exact HB.out)⟩
            · rw [if_neg c12] at H
              exact absurd H (by simp)
          · rw [if_neg c11] at H
            have c11b0 : decide (x8_1 < (a0.size : Int)) = false := decide_eq_false c11
            clear c11
            simp only [Option.some.injEq, Prod.mk.injEq] at H
            obtain ⟨rfl, rfl⟩ := H
            go_wp2
            go_ret2
            exact ⟨_, by first | rfl | (simp [errW_none, errW_some] <;> rfl) | (simp [*, errW_none, errW_some] <;> rfl), by (with_reducible repeat (first | apply Kd.R_alloc | apply Kd.R_drewN | apply Kd.R_drew)); exact HO_7.out, by repeat (first | (with_reducible first | exact HB.out | apply below_alloc | apply pw_below_drewN | apply below_drew1) | exact HB.out)⟩
  · rw [if_neg c3] at H
    have c3b0 : (t112 == 0) = false := beq_eq_false_iff_ne.mpr c3
    have c3b1 : (t112 != 0) = true := bne_iff_ne.mpr c3
    simp only [Option.some.injEq, Prod.mk.injEq] at H
    obtain ⟨rfl, rfl⟩ := H
    go_enter Tryd.func8, Tryd.ntmps8
    go_wp2_with (first | ((with_reducible refine gate_callee (f := 10) rfl ?_); refine goesL_ (some 13) rfl rfl Tryd.func10 (by kernel_rfl) rfl #[.string a0] rfl (by (try simp only [List.map_toArray, List.map_cons, List.map_nil]); first | done | rfl | (simp only [List.length_drop, List.length_take]; rfl)) ?_; (with_reducible refine (split_Lines.calls k a0 t110 t111 t112 _ ?side1 A2.out).mono ?_); (case side1 => exact GlbLaid.below HG.out (by repeat (first | (with_reducible first | exact HB.out | apply below_alloc | apply pw_below_drewN | apply below_drew1) | exact HB.out))); rintro e w14 ⟨v113, rfl, ho0, hb⟩; refine ⟨_, rfl, ?_⟩; have n0_ := Aside0.mk (Kd.R_lower ho0 (below_size (by repeat (first | (with_reducible first | exact HB.out | apply below_alloc | apply pw_below_drewN | apply below_drew1) | exact HB.out)))); have n1_ := Aside0.mk (below_step (by repeat (first | (with_reducible first | exact HB.out | apply below_alloc | apply pw_below_drewN | apply below_drew1) | exact HB.out)) hb); clear HB; have HO114 := n0_; have HB := n1_; clear n0_ n1_; (try clear hb); (try clear hb2); (try clear hk); (try clear hi); (try clear ho0)))
    go_ret2
    exact ⟨_, by first | rfl | (simp [errW_none, errW_some] <;> rfl) | (simp [*, errW_none, errW_some] <;> rfl), by first | exact Kd.R_nil _ _ _ _ _ | exact Kd.N_nil _ _ _ _ _ | exact Kd.V_nil _ _ _ _ _ | exact Kd.Q_nil _ _ _ _ _ | exact Kd.S_nil _ _ _ _ _, by repeat (first | (with_reducible first | exact HB.out | apply below_alloc | apply pw_below_drewN | apply below_drew1) | exact HB.out)⟩

end Go.Proofs.YtdnpefbnfkfloaaDoor.QSplitJoin
