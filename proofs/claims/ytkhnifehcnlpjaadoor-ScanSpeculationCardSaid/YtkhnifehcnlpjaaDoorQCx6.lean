-- by a program of this session (print2.py): the machine's side of one law; Lean checks it.
import Derived.Test.YtkhnifehcnlpjaaDoorQCx0
import Derived.Test.YtkhnifehcnlpjaaDoorQCx3
import Derived.Test.YtkhnifehcnlpjaaDoorQCx5
namespace Go.Proofs.YtkhnifehcnlpjaaDoor.QC
open Go.RowKit Go.Proofs.YtkhnifehcnlpjaaDoorW.PrintWords Go.Proofs.YtkhnifehcnlpjaaDoorW.PrintLast Go.Proofs.YtkhnifehcnlpjaaDoorW.PrintMore
attribute [local go_sem] max2_int min2_int max_two min_two max_three min_three max_four min_four   -- for this text's walks alone
set_option linter.unusedVariables false
set_option linter.unusedSimpArgs false

/-! ### automaton_Step: function 36 -/
def automaton_Step.f (a0 : Int) (a1 : Int) : Option (Int × Bool) := if a0 = 0 then (if a1 = 34 then some (1, false) else if a1 = 10 then some (0, true) else some (0, false)) else if a0 = 1 then (if a1 = 34 then some (0, false) else if a1 = 92 then some (2, false) else some (1, false)) else if a0 = 2 then some (1, false) else some (0, false)
theorem class_still (b c : Int) (w : World) (hc : automaton_class.f b = some c) : Calls Tryd.prog 43 #[.int .u8 b] w fun e w' => e = .returned (.int .i64 c) ∧ w' = w := by
  unfold automaton_class.f at hc
  by_cases c1 : b = 34
  · rw [if_pos c1] at hc
    obtain rfl := Option.some.inj hc
    subst c1
    go_enter Tryd.func43, Tryd.ntmps43
    go_wp2
    go_ret
    exact ⟨rfl, rfl⟩
  rw [if_neg c1] at hc
  by_cases c2 : b = 92
  · rw [if_pos c2] at hc
    obtain rfl := Option.some.inj hc
    subst c2
    go_enter Tryd.func43, Tryd.ntmps43
    go_wp2
    go_ret
    exact ⟨rfl, rfl⟩
  rw [if_neg c2] at hc
  by_cases c3 : b = 10
  · rw [if_pos c3] at hc
    obtain rfl := Option.some.inj hc
    subst c3
    go_enter Tryd.func43, Tryd.ntmps43
    go_wp2
    go_ret
    exact ⟨rfl, rfl⟩
  rw [if_neg c3] at hc
  obtain rfl := Option.some.inj hc
  have d1 : (b == 34) = false := beq_eq_false_iff_ne.mpr c1
  have d2 : (b == 92) = false := beq_eq_false_iff_ne.mpr c2
  have d3 : (b == 10) = false := beq_eq_false_iff_ne.mpr c3
  clear c1 c2 c3 hc
  go_enter Tryd.func43, Tryd.ntmps43
  go_wp2
  go_ret
  exact ⟨rfl, rfl⟩
set_option maxHeartbeats 800000 in
set_option maxRecDepth 100000 in
theorem step_0_0 (b : Int) (w : World) (hc : automaton_class.f b = some 0) (hG : GlbLaid w) :
    Calls Tryd.prog 36 #[.int .i64 0, .int .u8 b] w fun e w' => e = .returned (.tuple #[.int .i64 0, .bool false]) ∧ Below w.heap.size w w' := by
  have h0 : w.cell? ⟨0, 0, none⟩ = some (.int .i64 0) := hG 0 (by decide)
  have h1 : w.cell? ⟨0, 1, none⟩ = some (.bool false) := hG 1 (by decide)
  clear hG
  have HC := Aside0.mk hc
  clear hc
  go_enter Tryd.func36, Tryd.ntmps36
  go_wp2_with (go_at_call 41; (with_reducible refine (automaton_known.calls 0 true _ rfl).mono ?_); rintro e w' ⟨rfl, ⟨nd, rfl⟩⟩)
  obtain ⟨W, hW⟩ : ∃ W, W = w.drewN nd := ⟨_, rfl⟩
  have g0 : W.cell? ⟨0, 0, none⟩ = some (.int .i64 0) := by rw [hW]; simpa using h0
  have g1 : W.cell? ⟨0, 1, none⟩ = some (.bool false) := by rw [hW]; simpa using h1
  have HB : Below w.heap.size w W := by rw [hW]; exact pw_below_drewN (Below.refl _ _) _
  have hz : 0 < W.heap.size := World.block_lt_of_cell? W _ g0
  rw [← hW]
  have HB' := Aside0.mk HB
  clear HB h0 h1 hW nd
  go_region_with (go_at_call 43; (with_reducible refine (class_still b 0 _ HC.out).mono ?_); rintro e w' ⟨rfl, rfl⟩)
  all_goals
    go_wp2
    go_quiet (fail)
    go_wp2
    go_ret2
    exact ⟨rfl, by repeat (first | exact HB'.out | apply below_alloc | apply pw_below_drewN | apply below_drew1)⟩
set_option maxHeartbeats 800000 in
set_option maxRecDepth 100000 in
theorem step_0_1 (b : Int) (w : World) (hc : automaton_class.f b = some 1) (hG : GlbLaid w) :
    Calls Tryd.prog 36 #[.int .i64 0, .int .u8 b] w fun e w' => e = .returned (.tuple #[.int .i64 1, .bool false]) ∧ Below w.heap.size w w' := by
  have h0 : w.cell? ⟨0, 2, none⟩ = some (.int .i64 1) := hG 2 (by decide)
  have h1 : w.cell? ⟨0, 3, none⟩ = some (.bool false) := hG 3 (by decide)
  clear hG
  have HC := Aside0.mk hc
  clear hc
  go_enter Tryd.func36, Tryd.ntmps36
  go_wp2_with (go_at_call 41; (with_reducible refine (automaton_known.calls 0 true _ rfl).mono ?_); rintro e w' ⟨rfl, ⟨nd, rfl⟩⟩)
  obtain ⟨W, hW⟩ : ∃ W, W = w.drewN nd := ⟨_, rfl⟩
  have g0 : W.cell? ⟨0, 2, none⟩ = some (.int .i64 1) := by rw [hW]; simpa using h0
  have g1 : W.cell? ⟨0, 3, none⟩ = some (.bool false) := by rw [hW]; simpa using h1
  have HB : Below w.heap.size w W := by rw [hW]; exact pw_below_drewN (Below.refl _ _) _
  have hz : 0 < W.heap.size := World.block_lt_of_cell? W _ g0
  rw [← hW]
  have HB' := Aside0.mk HB
  clear HB h0 h1 hW nd
  go_region_with (go_at_call 43; (with_reducible refine (class_still b 1 _ HC.out).mono ?_); rintro e w' ⟨rfl, rfl⟩)
  all_goals
    go_wp2
    go_quiet (fail)
    go_wp2
    go_ret2
    exact ⟨rfl, by repeat (first | exact HB'.out | apply below_alloc | apply pw_below_drewN | apply below_drew1)⟩
set_option maxHeartbeats 800000 in
set_option maxRecDepth 100000 in
theorem step_0_2 (b : Int) (w : World) (hc : automaton_class.f b = some 2) (hG : GlbLaid w) :
    Calls Tryd.prog 36 #[.int .i64 0, .int .u8 b] w fun e w' => e = .returned (.tuple #[.int .i64 0, .bool false]) ∧ Below w.heap.size w w' := by
  have h0 : w.cell? ⟨0, 4, none⟩ = some (.int .i64 0) := hG 4 (by decide)
  have h1 : w.cell? ⟨0, 5, none⟩ = some (.bool false) := hG 5 (by decide)
  clear hG
  have HC := Aside0.mk hc
  clear hc
  go_enter Tryd.func36, Tryd.ntmps36
  go_wp2_with (go_at_call 41; (with_reducible refine (automaton_known.calls 0 true _ rfl).mono ?_); rintro e w' ⟨rfl, ⟨nd, rfl⟩⟩)
  obtain ⟨W, hW⟩ : ∃ W, W = w.drewN nd := ⟨_, rfl⟩
  have g0 : W.cell? ⟨0, 4, none⟩ = some (.int .i64 0) := by rw [hW]; simpa using h0
  have g1 : W.cell? ⟨0, 5, none⟩ = some (.bool false) := by rw [hW]; simpa using h1
  have HB : Below w.heap.size w W := by rw [hW]; exact pw_below_drewN (Below.refl _ _) _
  have hz : 0 < W.heap.size := World.block_lt_of_cell? W _ g0
  rw [← hW]
  have HB' := Aside0.mk HB
  clear HB h0 h1 hW nd
  go_region_with (go_at_call 43; (with_reducible refine (class_still b 2 _ HC.out).mono ?_); rintro e w' ⟨rfl, rfl⟩)
  all_goals
    go_wp2
    go_quiet (fail)
    go_wp2
    go_ret2
    exact ⟨rfl, by repeat (first | exact HB'.out | apply below_alloc | apply pw_below_drewN | apply below_drew1)⟩
set_option maxHeartbeats 800000 in
set_option maxRecDepth 100000 in
theorem step_0_3 (b : Int) (w : World) (hc : automaton_class.f b = some 3) (hG : GlbLaid w) :
    Calls Tryd.prog 36 #[.int .i64 0, .int .u8 b] w fun e w' => e = .returned (.tuple #[.int .i64 0, .bool true]) ∧ Below w.heap.size w w' := by
  have h0 : w.cell? ⟨0, 6, none⟩ = some (.int .i64 0) := hG 6 (by decide)
  have h1 : w.cell? ⟨0, 7, none⟩ = some (.bool true) := hG 7 (by decide)
  clear hG
  have HC := Aside0.mk hc
  clear hc
  go_enter Tryd.func36, Tryd.ntmps36
  go_wp2_with (go_at_call 41; (with_reducible refine (automaton_known.calls 0 true _ rfl).mono ?_); rintro e w' ⟨rfl, ⟨nd, rfl⟩⟩)
  obtain ⟨W, hW⟩ : ∃ W, W = w.drewN nd := ⟨_, rfl⟩
  have g0 : W.cell? ⟨0, 6, none⟩ = some (.int .i64 0) := by rw [hW]; simpa using h0
  have g1 : W.cell? ⟨0, 7, none⟩ = some (.bool true) := by rw [hW]; simpa using h1
  have HB : Below w.heap.size w W := by rw [hW]; exact pw_below_drewN (Below.refl _ _) _
  have hz : 0 < W.heap.size := World.block_lt_of_cell? W _ g0
  rw [← hW]
  have HB' := Aside0.mk HB
  clear HB h0 h1 hW nd
  go_region_with (go_at_call 43; (with_reducible refine (class_still b 3 _ HC.out).mono ?_); rintro e w' ⟨rfl, rfl⟩)
  all_goals
    go_wp2
    go_quiet (fail)
    go_wp2
    go_ret2
    exact ⟨rfl, by repeat (first | exact HB'.out | apply below_alloc | apply pw_below_drewN | apply below_drew1)⟩
set_option maxHeartbeats 800000 in
set_option maxRecDepth 100000 in
theorem step_1_0 (b : Int) (w : World) (hc : automaton_class.f b = some 0) (hG : GlbLaid w) :
    Calls Tryd.prog 36 #[.int .i64 1, .int .u8 b] w fun e w' => e = .returned (.tuple #[.int .i64 1, .bool false]) ∧ Below w.heap.size w w' := by
  have h0 : w.cell? ⟨0, 8, none⟩ = some (.int .i64 1) := hG 8 (by decide)
  have h1 : w.cell? ⟨0, 9, none⟩ = some (.bool false) := hG 9 (by decide)
  clear hG
  have HC := Aside0.mk hc
  clear hc
  go_enter Tryd.func36, Tryd.ntmps36
  go_wp2_with (go_at_call 41; (with_reducible refine (automaton_known.calls 1 true _ rfl).mono ?_); rintro e w' ⟨rfl, ⟨nd, rfl⟩⟩)
  obtain ⟨W, hW⟩ : ∃ W, W = w.drewN nd := ⟨_, rfl⟩
  have g0 : W.cell? ⟨0, 8, none⟩ = some (.int .i64 1) := by rw [hW]; simpa using h0
  have g1 : W.cell? ⟨0, 9, none⟩ = some (.bool false) := by rw [hW]; simpa using h1
  have HB : Below w.heap.size w W := by rw [hW]; exact pw_below_drewN (Below.refl _ _) _
  have hz : 0 < W.heap.size := World.block_lt_of_cell? W _ g0
  rw [← hW]
  have HB' := Aside0.mk HB
  clear HB h0 h1 hW nd
  go_region_with (go_at_call 43; (with_reducible refine (class_still b 0 _ HC.out).mono ?_); rintro e w' ⟨rfl, rfl⟩)
  all_goals
    go_wp2
    go_quiet (fail)
    go_wp2
    go_ret2
    exact ⟨rfl, by repeat (first | exact HB'.out | apply below_alloc | apply pw_below_drewN | apply below_drew1)⟩
set_option maxHeartbeats 800000 in
set_option maxRecDepth 100000 in
theorem step_1_1 (b : Int) (w : World) (hc : automaton_class.f b = some 1) (hG : GlbLaid w) :
    Calls Tryd.prog 36 #[.int .i64 1, .int .u8 b] w fun e w' => e = .returned (.tuple #[.int .i64 0, .bool false]) ∧ Below w.heap.size w w' := by
  have h0 : w.cell? ⟨0, 10, none⟩ = some (.int .i64 0) := hG 10 (by decide)
  have h1 : w.cell? ⟨0, 11, none⟩ = some (.bool false) := hG 11 (by decide)
  clear hG
  have HC := Aside0.mk hc
  clear hc
  go_enter Tryd.func36, Tryd.ntmps36
  go_wp2_with (go_at_call 41; (with_reducible refine (automaton_known.calls 1 true _ rfl).mono ?_); rintro e w' ⟨rfl, ⟨nd, rfl⟩⟩)
  obtain ⟨W, hW⟩ : ∃ W, W = w.drewN nd := ⟨_, rfl⟩
  have g0 : W.cell? ⟨0, 10, none⟩ = some (.int .i64 0) := by rw [hW]; simpa using h0
  have g1 : W.cell? ⟨0, 11, none⟩ = some (.bool false) := by rw [hW]; simpa using h1
  have HB : Below w.heap.size w W := by rw [hW]; exact pw_below_drewN (Below.refl _ _) _
  have hz : 0 < W.heap.size := World.block_lt_of_cell? W _ g0
  rw [← hW]
  have HB' := Aside0.mk HB
  clear HB h0 h1 hW nd
  go_region_with (go_at_call 43; (with_reducible refine (class_still b 1 _ HC.out).mono ?_); rintro e w' ⟨rfl, rfl⟩)
  all_goals
    go_wp2
    go_quiet (fail)
    go_wp2
    go_ret2
    exact ⟨rfl, by repeat (first | exact HB'.out | apply below_alloc | apply pw_below_drewN | apply below_drew1)⟩
set_option maxHeartbeats 800000 in
set_option maxRecDepth 100000 in
theorem step_1_2 (b : Int) (w : World) (hc : automaton_class.f b = some 2) (hG : GlbLaid w) :
    Calls Tryd.prog 36 #[.int .i64 1, .int .u8 b] w fun e w' => e = .returned (.tuple #[.int .i64 2, .bool false]) ∧ Below w.heap.size w w' := by
  have h0 : w.cell? ⟨0, 12, none⟩ = some (.int .i64 2) := hG 12 (by decide)
  have h1 : w.cell? ⟨0, 13, none⟩ = some (.bool false) := hG 13 (by decide)
  clear hG
  have HC := Aside0.mk hc
  clear hc
  go_enter Tryd.func36, Tryd.ntmps36
  go_wp2_with (go_at_call 41; (with_reducible refine (automaton_known.calls 1 true _ rfl).mono ?_); rintro e w' ⟨rfl, ⟨nd, rfl⟩⟩)
  obtain ⟨W, hW⟩ : ∃ W, W = w.drewN nd := ⟨_, rfl⟩
  have g0 : W.cell? ⟨0, 12, none⟩ = some (.int .i64 2) := by rw [hW]; simpa using h0
  have g1 : W.cell? ⟨0, 13, none⟩ = some (.bool false) := by rw [hW]; simpa using h1
  have HB : Below w.heap.size w W := by rw [hW]; exact pw_below_drewN (Below.refl _ _) _
  have hz : 0 < W.heap.size := World.block_lt_of_cell? W _ g0
  rw [← hW]
  have HB' := Aside0.mk HB
  clear HB h0 h1 hW nd
  go_region_with (go_at_call 43; (with_reducible refine (class_still b 2 _ HC.out).mono ?_); rintro e w' ⟨rfl, rfl⟩)
  all_goals
    go_wp2
    go_quiet (fail)
    go_wp2
    go_ret2
    exact ⟨rfl, by repeat (first | exact HB'.out | apply below_alloc | apply pw_below_drewN | apply below_drew1)⟩
set_option maxHeartbeats 800000 in
set_option maxRecDepth 100000 in
theorem step_1_3 (b : Int) (w : World) (hc : automaton_class.f b = some 3) (hG : GlbLaid w) :
    Calls Tryd.prog 36 #[.int .i64 1, .int .u8 b] w fun e w' => e = .returned (.tuple #[.int .i64 1, .bool false]) ∧ Below w.heap.size w w' := by
  have h0 : w.cell? ⟨0, 14, none⟩ = some (.int .i64 1) := hG 14 (by decide)
  have h1 : w.cell? ⟨0, 15, none⟩ = some (.bool false) := hG 15 (by decide)
  clear hG
  have HC := Aside0.mk hc
  clear hc
  go_enter Tryd.func36, Tryd.ntmps36
  go_wp2_with (go_at_call 41; (with_reducible refine (automaton_known.calls 1 true _ rfl).mono ?_); rintro e w' ⟨rfl, ⟨nd, rfl⟩⟩)
  obtain ⟨W, hW⟩ : ∃ W, W = w.drewN nd := ⟨_, rfl⟩
  have g0 : W.cell? ⟨0, 14, none⟩ = some (.int .i64 1) := by rw [hW]; simpa using h0
  have g1 : W.cell? ⟨0, 15, none⟩ = some (.bool false) := by rw [hW]; simpa using h1
  have HB : Below w.heap.size w W := by rw [hW]; exact pw_below_drewN (Below.refl _ _) _
  have hz : 0 < W.heap.size := World.block_lt_of_cell? W _ g0
  rw [← hW]
  have HB' := Aside0.mk HB
  clear HB h0 h1 hW nd
  go_region_with (go_at_call 43; (with_reducible refine (class_still b 3 _ HC.out).mono ?_); rintro e w' ⟨rfl, rfl⟩)
  all_goals
    go_wp2
    go_quiet (fail)
    go_wp2
    go_ret2
    exact ⟨rfl, by repeat (first | exact HB'.out | apply below_alloc | apply pw_below_drewN | apply below_drew1)⟩
set_option maxHeartbeats 800000 in
set_option maxRecDepth 100000 in
theorem step_2_0 (b : Int) (w : World) (hc : automaton_class.f b = some 0) (hG : GlbLaid w) :
    Calls Tryd.prog 36 #[.int .i64 2, .int .u8 b] w fun e w' => e = .returned (.tuple #[.int .i64 1, .bool false]) ∧ Below w.heap.size w w' := by
  have h0 : w.cell? ⟨0, 16, none⟩ = some (.int .i64 1) := hG 16 (by decide)
  have h1 : w.cell? ⟨0, 17, none⟩ = some (.bool false) := hG 17 (by decide)
  clear hG
  have HC := Aside0.mk hc
  clear hc
  go_enter Tryd.func36, Tryd.ntmps36
  go_wp2_with (go_at_call 41; (with_reducible refine (automaton_known.calls 2 true _ rfl).mono ?_); rintro e w' ⟨rfl, ⟨nd, rfl⟩⟩)
  obtain ⟨W, hW⟩ : ∃ W, W = w.drewN nd := ⟨_, rfl⟩
  have g0 : W.cell? ⟨0, 16, none⟩ = some (.int .i64 1) := by rw [hW]; simpa using h0
  have g1 : W.cell? ⟨0, 17, none⟩ = some (.bool false) := by rw [hW]; simpa using h1
  have HB : Below w.heap.size w W := by rw [hW]; exact pw_below_drewN (Below.refl _ _) _
  have hz : 0 < W.heap.size := World.block_lt_of_cell? W _ g0
  rw [← hW]
  have HB' := Aside0.mk HB
  clear HB h0 h1 hW nd
  go_region_with (go_at_call 43; (with_reducible refine (class_still b 0 _ HC.out).mono ?_); rintro e w' ⟨rfl, rfl⟩)
  all_goals
    go_wp2
    go_quiet (fail)
    go_wp2
    go_ret2
    exact ⟨rfl, by repeat (first | exact HB'.out | apply below_alloc | apply pw_below_drewN | apply below_drew1)⟩
set_option maxHeartbeats 800000 in
set_option maxRecDepth 100000 in
theorem step_2_1 (b : Int) (w : World) (hc : automaton_class.f b = some 1) (hG : GlbLaid w) :
    Calls Tryd.prog 36 #[.int .i64 2, .int .u8 b] w fun e w' => e = .returned (.tuple #[.int .i64 1, .bool false]) ∧ Below w.heap.size w w' := by
  have h0 : w.cell? ⟨0, 18, none⟩ = some (.int .i64 1) := hG 18 (by decide)
  have h1 : w.cell? ⟨0, 19, none⟩ = some (.bool false) := hG 19 (by decide)
  clear hG
  have HC := Aside0.mk hc
  clear hc
  go_enter Tryd.func36, Tryd.ntmps36
  go_wp2_with (go_at_call 41; (with_reducible refine (automaton_known.calls 2 true _ rfl).mono ?_); rintro e w' ⟨rfl, ⟨nd, rfl⟩⟩)
  obtain ⟨W, hW⟩ : ∃ W, W = w.drewN nd := ⟨_, rfl⟩
  have g0 : W.cell? ⟨0, 18, none⟩ = some (.int .i64 1) := by rw [hW]; simpa using h0
  have g1 : W.cell? ⟨0, 19, none⟩ = some (.bool false) := by rw [hW]; simpa using h1
  have HB : Below w.heap.size w W := by rw [hW]; exact pw_below_drewN (Below.refl _ _) _
  have hz : 0 < W.heap.size := World.block_lt_of_cell? W _ g0
  rw [← hW]
  have HB' := Aside0.mk HB
  clear HB h0 h1 hW nd
  go_region_with (go_at_call 43; (with_reducible refine (class_still b 1 _ HC.out).mono ?_); rintro e w' ⟨rfl, rfl⟩)
  all_goals
    go_wp2
    go_quiet (fail)
    go_wp2
    go_ret2
    exact ⟨rfl, by repeat (first | exact HB'.out | apply below_alloc | apply pw_below_drewN | apply below_drew1)⟩
set_option maxHeartbeats 800000 in
set_option maxRecDepth 100000 in
theorem step_2_2 (b : Int) (w : World) (hc : automaton_class.f b = some 2) (hG : GlbLaid w) :
    Calls Tryd.prog 36 #[.int .i64 2, .int .u8 b] w fun e w' => e = .returned (.tuple #[.int .i64 1, .bool false]) ∧ Below w.heap.size w w' := by
  have h0 : w.cell? ⟨0, 20, none⟩ = some (.int .i64 1) := hG 20 (by decide)
  have h1 : w.cell? ⟨0, 21, none⟩ = some (.bool false) := hG 21 (by decide)
  clear hG
  have HC := Aside0.mk hc
  clear hc
  go_enter Tryd.func36, Tryd.ntmps36
  go_wp2_with (go_at_call 41; (with_reducible refine (automaton_known.calls 2 true _ rfl).mono ?_); rintro e w' ⟨rfl, ⟨nd, rfl⟩⟩)
  obtain ⟨W, hW⟩ : ∃ W, W = w.drewN nd := ⟨_, rfl⟩
  have g0 : W.cell? ⟨0, 20, none⟩ = some (.int .i64 1) := by rw [hW]; simpa using h0
  have g1 : W.cell? ⟨0, 21, none⟩ = some (.bool false) := by rw [hW]; simpa using h1
  have HB : Below w.heap.size w W := by rw [hW]; exact pw_below_drewN (Below.refl _ _) _
  have hz : 0 < W.heap.size := World.block_lt_of_cell? W _ g0
  rw [← hW]
  have HB' := Aside0.mk HB
  clear HB h0 h1 hW nd
  go_region_with (go_at_call 43; (with_reducible refine (class_still b 2 _ HC.out).mono ?_); rintro e w' ⟨rfl, rfl⟩)
  all_goals
    go_wp2
    go_quiet (fail)
    go_wp2
    go_ret2
    exact ⟨rfl, by repeat (first | exact HB'.out | apply below_alloc | apply pw_below_drewN | apply below_drew1)⟩
set_option maxHeartbeats 800000 in
set_option maxRecDepth 100000 in
theorem step_2_3 (b : Int) (w : World) (hc : automaton_class.f b = some 3) (hG : GlbLaid w) :
    Calls Tryd.prog 36 #[.int .i64 2, .int .u8 b] w fun e w' => e = .returned (.tuple #[.int .i64 1, .bool false]) ∧ Below w.heap.size w w' := by
  have h0 : w.cell? ⟨0, 22, none⟩ = some (.int .i64 1) := hG 22 (by decide)
  have h1 : w.cell? ⟨0, 23, none⟩ = some (.bool false) := hG 23 (by decide)
  clear hG
  have HC := Aside0.mk hc
  clear hc
  go_enter Tryd.func36, Tryd.ntmps36
  go_wp2_with (go_at_call 41; (with_reducible refine (automaton_known.calls 2 true _ rfl).mono ?_); rintro e w' ⟨rfl, ⟨nd, rfl⟩⟩)
  obtain ⟨W, hW⟩ : ∃ W, W = w.drewN nd := ⟨_, rfl⟩
  have g0 : W.cell? ⟨0, 22, none⟩ = some (.int .i64 1) := by rw [hW]; simpa using h0
  have g1 : W.cell? ⟨0, 23, none⟩ = some (.bool false) := by rw [hW]; simpa using h1
  have HB : Below w.heap.size w W := by rw [hW]; exact pw_below_drewN (Below.refl _ _) _
  have hz : 0 < W.heap.size := World.block_lt_of_cell? W _ g0
  rw [← hW]
  have HB' := Aside0.mk HB
  clear HB h0 h1 hW nd
  go_region_with (go_at_call 43; (with_reducible refine (class_still b 3 _ HC.out).mono ?_); rintro e w' ⟨rfl, rfl⟩)
  all_goals
    go_wp2
    go_quiet (fail)
    go_wp2
    go_ret2
    exact ⟨rfl, by repeat (first | exact HB'.out | apply below_alloc | apply pw_below_drewN | apply below_drew1)⟩
theorem step_out (s b : Int) (w : World) (hs : s < 0 ∨ 2 < s) : Calls Tryd.prog 36 #[.int .i64 s, .int .u8 b] w fun e w' => e = .returned (.tuple #[.int .i64 0, .bool false]) ∧ Below w.heap.size w w' := by
  have hk : automaton_known.f s = some false := by
    unfold automaton_known.f
    by_cases h : s ≥ 0
    · rw [if_pos h, decide_eq_false (by omega)]
    · rw [if_neg h]
  have HK := Aside0.mk hk
  clear hk hs
  go_enter Tryd.func36, Tryd.ntmps36
  go_wp2_with (go_at_call 41; (with_reducible refine (automaton_known.calls s false _ HK.out).mono ?_); rintro e w' ⟨rfl, ⟨nd, rfl⟩⟩)
  go_ret2
  exact ⟨rfl, pw_below_drewN (Below.refl _ _) _⟩
theorem class_cases (b : Int) : (b = 34 ∧ automaton_class.f b = some 1) ∨ (b = 92 ∧ automaton_class.f b = some 2) ∨ (b = 10 ∧ automaton_class.f b = some 3) ∨ (b ≠ 34 ∧ b ≠ 92 ∧ b ≠ 10 ∧ automaton_class.f b = some 0) := by
  unfold automaton_class.f
  by_cases c1 : b = 34
  · exact .inl ⟨c1, by rw [if_pos c1]⟩
  by_cases c2 : b = 92
  · exact .inr (.inl ⟨c2, by rw [if_neg c1, if_pos c2]⟩)
  by_cases c3 : b = 10
  · exact .inr (.inr (.inl ⟨c3, by rw [if_neg c1, if_neg c2, if_pos c3]⟩))
  exact .inr (.inr (.inr ⟨c1, c2, c3, by rw [if_neg c1, if_neg c2, if_neg c3]⟩))
theorem automaton_Step.calls (a0 : Int) (a1 : Int) (r1 : Int) (r2 : Bool) (w : World) (hG : GlbLaid w) (h : automaton_Step.f a0 a1 = some (r1, r2)) :
    Calls Tryd.prog 36 #[.int .i64 a0, .int .u8 a1] w fun e w' => e = .returned (.tuple #[.int .i64 r1, .bool r2]) ∧ Below w.heap.size w w' := by
  have hx : automaton_Step.f a0 a1 = some (r1, r2) := h
  unfold automaton_Step.f at hx
  by_cases s0 : a0 = 0
  · subst s0
    rw [if_pos rfl] at hx
    rcases class_cases a1 with ⟨rfl, hc⟩ | ⟨rfl, hc⟩ | ⟨rfl, hc⟩ | ⟨n1, n2, n3, hc⟩
    · obtain ⟨rfl, rfl⟩ := Prod.mk.inj (Option.some.inj hx); exact step_0_1 _ w hc hG
    · obtain ⟨rfl, rfl⟩ := Prod.mk.inj (Option.some.inj hx); exact step_0_2 _ w hc hG
    · obtain ⟨rfl, rfl⟩ := Prod.mk.inj (Option.some.inj hx); exact step_0_3 _ w hc hG
    · rw [if_neg n1, if_neg n3] at hx; obtain ⟨rfl, rfl⟩ := Prod.mk.inj (Option.some.inj hx); exact step_0_0 _ w hc hG
  rw [if_neg s0] at hx
  by_cases s1 : a0 = 1
  · subst s1
    rw [if_pos rfl] at hx
    rcases class_cases a1 with ⟨rfl, hc⟩ | ⟨rfl, hc⟩ | ⟨rfl, hc⟩ | ⟨n1, n2, n3, hc⟩
    · obtain ⟨rfl, rfl⟩ := Prod.mk.inj (Option.some.inj hx); exact step_1_1 _ w hc hG
    · obtain ⟨rfl, rfl⟩ := Prod.mk.inj (Option.some.inj hx); exact step_1_2 _ w hc hG
    · obtain ⟨rfl, rfl⟩ := Prod.mk.inj (Option.some.inj hx); exact step_1_3 _ w hc hG
    · rw [if_neg n1, if_neg n2] at hx; obtain ⟨rfl, rfl⟩ := Prod.mk.inj (Option.some.inj hx); exact step_1_0 _ w hc hG
  rw [if_neg s1] at hx
  by_cases s2 : a0 = 2
  · subst s2
    rw [if_pos rfl] at hx
    rcases class_cases a1 with ⟨rfl, hc⟩ | ⟨rfl, hc⟩ | ⟨rfl, hc⟩ | ⟨n1, n2, n3, hc⟩
    · obtain ⟨rfl, rfl⟩ := Prod.mk.inj (Option.some.inj hx); exact step_2_1 _ w hc hG
    · obtain ⟨rfl, rfl⟩ := Prod.mk.inj (Option.some.inj hx); exact step_2_2 _ w hc hG
    · obtain ⟨rfl, rfl⟩ := Prod.mk.inj (Option.some.inj hx); exact step_2_3 _ w hc hG
    · obtain ⟨rfl, rfl⟩ := Prod.mk.inj (Option.some.inj hx); exact step_2_0 _ w hc hG
  rw [if_neg s2] at hx
  obtain ⟨rfl, rfl⟩ := Prod.mk.inj (Option.some.inj hx)
  exact step_out a0 a1 w (by omega)

end Go.Proofs.YtkhnifehcnlpjaaDoor.QC
