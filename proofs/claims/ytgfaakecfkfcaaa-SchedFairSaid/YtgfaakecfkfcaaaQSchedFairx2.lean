-- by a program of this session (print2.py): the machine's side of one law; Lean checks it.
import Derived.Test.YtgfaakecfkfcaaaQSchedFairx0
import Derived.Test.YtgfaakecfkfcaaaQSchedFairx1
namespace Go.Proofs.Ytgfaakecfkfcaaa.QSchedFair
open Go.RowKit Go.Proofs.YtgfaakecfkfcaaaW.PrintWords Go.Proofs.YtgfaakecfkfcaaaW.PrintLast Go.Proofs.YtgfaakecfkfcaaaW.PrintMore
attribute [local go_sem] max2_int min2_int max_two min_two max_three min_three max_four min_four   -- for this text's walks alone
set_option linter.unusedVariables false
set_option linter.unusedSimpArgs false

/-! ### ndjqlaw24_awake: function 7 -/
def ndjqlaw24_awake.f (k : Nat)  : Option (Bool) := (sched_Choose.f (([2, 5, 7] : List Int)) (-1)).bind fun bt108 => ((sched_Choose.f (([2, 5, 7] : List Int)) 4).bind fun bt113 => (if bt108.2 = true then (if bt113.2 = true then (if bt108.1 = 7 then (if bt113.1 = 5 then ((sched_Round.f 2 5).bind fun t115 => ((ndjqkeep_Ints.f k t115 (([0, 1, 0, 1, 0] : List Int))).bind fun t121 => (some t121))) else (some false)) else (some false)) else (some false)) else (some false)))
theorem ndjqlaw24_awake.mono : ∀ k, LeO (ndjqlaw24_awake.f k ) (ndjqlaw24_awake.f (k + 1) ) := by
  intro  k
  unfold ndjqlaw24_awake.f
  repeat' first
      | (with_reducible exact ndjqkeep_Ints.mono _ _ _)
      | (with_reducible exact LeO.refl _)
      | (with_reducible exact LeO.none _)
      | (with_reducible refine LeO.ite ?_ ?_)
      | (with_reducible refine LeO.bind ?_ (fun _ => ?_))
      | exact ndjqkeep_Ints.mono _ _ _
      | exact LeO.none _
      | refine LeO.ite ?_ ?_
      | refine LeO.bind ?_ (fun _ => ?_)
set_option maxHeartbeats 8000000 in
set_option maxRecDepth 100000 in
theorem ndjqlaw24_awake.calls (k : Nat)  (r : Bool) (w : World) (h : ndjqlaw24_awake.f k  = some r) :
    Calls Try.prog 7 #[] w fun e w' => e = .returned (.bool r) ∧ Below w.heap.size w w' := by
  have HB := Aside0.mk (Below.refl w.heap.size w)
  have H : ((sched_Choose.f (([2, 5, 7] : List Int)) (-1)).bind fun bt108 => ((sched_Choose.f (([2, 5, 7] : List Int)) 4).bind fun bt113 => (if bt108.2 = true then (if bt113.2 = true then (if bt108.1 = 7 then (if bt113.1 = 5 then ((sched_Round.f 2 5).bind fun t115 => ((ndjqkeep_Ints.f k t115 (([0, 1, 0, 1, 0] : List Int))).bind fun t121 => (some t121))) else (some false)) else (some false)) else (some false)) else (some false)))) = some r := h
  clear h
  obtain ⟨y105, hy105⟩ : ∃ y_ : List Int, y_ = (([2, 5, 7] : List Int)) := ⟨_, rfl⟩
  replace H : ((sched_Choose.f y105 (-1)).bind fun bt108 => ((sched_Choose.f (([2, 5, 7] : List Int)) 4).bind fun bt113 => (if bt108.2 = true then (if bt113.2 = true then (if bt108.1 = 7 then (if bt113.1 = 5 then ((sched_Round.f 2 5).bind fun t115 => ((ndjqkeep_Ints.f k t115 (([0, 1, 0, 1, 0] : List Int))).bind fun t121 => (some t121))) else (some false)) else (some false)) else (some false)) else (some false)))) = some r := by first | (rw [hy105]; with_reducible exact H) | (have H2_ := (Option.bind_some _ _).symm.trans H; rw [hy105]; with_reducible exact H2_) | (have H2_ := (Option.bind_some _ _).symm.trans H; with_reducible exact H2_) | with_reducible exact H | (rw [hy105]; exact H) | exact H
  have Ny105 := Aside0.mk hy105
  clear hy105
  replace H := Option.bind_eq_some_iff.mp H
  obtain ⟨⟨t108, t109⟩, A10, H⟩ := H
  replace H : ((sched_Choose.f (([2, 5, 7] : List Int)) 4).bind fun bt113 => (if t109 = true then (if bt113.2 = true then (if t108 = 7 then (if bt113.1 = 5 then ((sched_Round.f 2 5).bind fun t115 => ((ndjqkeep_Ints.f k t115 (([0, 1, 0, 1, 0] : List Int))).bind fun t121 => (some t121))) else (some false)) else (some false)) else (some false)) else (some false))) = some r := H
  have A1 := Aside0.mk A10
  clear A10
  obtain ⟨y110, hy110⟩ : ∃ y_ : List Int, y_ = (([2, 5, 7] : List Int)) := ⟨_, rfl⟩
  replace H : ((sched_Choose.f y110 4).bind fun bt113 => (if t109 = true then (if bt113.2 = true then (if t108 = 7 then (if bt113.1 = 5 then ((sched_Round.f 2 5).bind fun t115 => ((ndjqkeep_Ints.f k t115 (([0, 1, 0, 1, 0] : List Int))).bind fun t121 => (some t121))) else (some false)) else (some false)) else (some false)) else (some false))) = some r := by first | (rw [hy110]; with_reducible exact H) | (have H2_ := (Option.bind_some _ _).symm.trans H; rw [hy110]; with_reducible exact H2_) | (have H2_ := (Option.bind_some _ _).symm.trans H; with_reducible exact H2_) | with_reducible exact H | (rw [hy110]; exact H) | exact H
  have Ny110 := Aside0.mk hy110
  clear hy110
  replace H := Option.bind_eq_some_iff.mp H
  obtain ⟨⟨t113, t114⟩, A20, H⟩ := H
  replace H : (if t109 = true then (if t114 = true then (if t108 = 7 then (if t113 = 5 then ((sched_Round.f 2 5).bind fun t115 => ((ndjqkeep_Ints.f k t115 (([0, 1, 0, 1, 0] : List Int))).bind fun t121 => (some t121))) else (some false)) else (some false)) else (some false)) else (some false)) = some r := H
  have A2 := Aside0.mk A20
  clear A20
  have HF3 := Aside0.mk H
  clear H
  go_enter Try.func7, Try.ntmps7
  go_wp2_with (first | ((with_reducible refine gate_dst (N := 6) rfl ?_); (try (refine gate_guard (by rfl) ?_; dsimp only)); refine Kd.R_lit (Kd.int .i64) _ 3 ?hg (N := 6) ?hd (xs := ([2, 5, 7] : List Int)) (inner := [.int .i64 2, .int .i64 5, .int .i64 7]) (ok := fun _ => True) (okp := fun _ => True) ?hr ?hp (fun _ hk => hk) trivial (Below.refl _ _) (Nat.le_refl _) (by simp) ?_; (case hd => rfl); (case hg => rfl); (case hr => first | (go_simp; done) | (go_simp; rfl)); (case hp => exact (Reps.one (show Kd.M (Kd.int .i64) _ _ _ 2 [.int .i64 2] from rfl) (Reps.one (show Kd.M (Kd.int .i64) _ _ _ 5 [.int .i64 5] from rfl) (Reps.one (show Kd.M (Kd.int .i64) _ _ _ 7 [.int .i64 7] from rfl) (Reps.none _ _))))); intro v106 w4 ho5 hb hg_ hnew_; clear hg_ hnew_; (first | rw [← Ny105.out] at ho5 | (simp only [Int.reduceToNat] at ho5; rw [← Ny105.out] at ho5)); have n0_ := Aside0.mk (Kd.R_lower ho5 (below_size (by repeat (first | (with_reducible first | exact HB.out | apply below_alloc | apply pw_below_drewN | apply below_drew1) | exact HB.out)))); have n1_ := Aside0.mk (below_step (by repeat (first | (with_reducible first | exact HB.out | apply below_alloc | apply pw_below_drewN | apply below_drew1) | exact HB.out)) hb); clear HB; have HO107 := n0_; have HB := n1_; clear n0_ n1_; clear hb ho5; obtain ⟨Ao6, co6, eo6⟩ := Kd.R_slice HO107.out; subst eo6) | ((with_reducible refine gate_callee (f := 8) rfl ?_); refine goesL_ (some 7) rfl rfl Try.func8 (by kernel_rfl) rfl #[.slice Ao6 y105.length co6, .int .i64 (-1)] rfl (by (try simp only [List.map_toArray, List.map_cons, List.map_nil]); first | done | rfl | (simp only [List.length_drop, List.length_take]; rfl)) ?_; (with_reducible refine (sched_Choose.calls _ _ y105 (-1) t108 t109 _ ?side1 ?side2 A1.out).mono ?_); (case side1 => repeat (first | exact (Kd.R_reads' HO107.out).2.2 | (with_reducible refine Kd.C_alloc ?_ _) | (with_reducible refine Kd.C_drewN ?_ _) | (with_reducible refine Kd.C_drew ?_))); (case side2 => exact (Kd.R_reads' HO107.out).2.1); rintro e w' ⟨rfl, ⟨nd, rfl⟩⟩; refine ⟨_, rfl, ?_⟩) | ((with_reducible refine gate_dst (N := 11) rfl ?_); (try (refine gate_guard (by rfl) ?_; dsimp only)); refine Kd.R_lit (Kd.int .i64) _ 3 ?hg (N := 11) ?hd (xs := ([2, 5, 7] : List Int)) (inner := [.int .i64 2, .int .i64 5, .int .i64 7]) (ok := fun _ => True) (okp := fun _ => True) ?hr ?hp (fun _ hk => hk) trivial (Below.refl _ _) (Nat.le_refl _) (by simp) ?_; (case hd => rfl); (case hg => rfl); (case hr => first | (go_simp; done) | (go_simp; rfl)); (case hp => exact (Reps.one (show Kd.M (Kd.int .i64) _ _ _ 2 [.int .i64 2] from rfl) (Reps.one (show Kd.M (Kd.int .i64) _ _ _ 5 [.int .i64 5] from rfl) (Reps.one (show Kd.M (Kd.int .i64) _ _ _ 7 [.int .i64 7] from rfl) (Reps.none _ _))))); intro v111 w7 ho8 hb hg_ hnew_; clear hg_ hnew_; (first | rw [← Ny110.out] at ho8 | (simp only [Int.reduceToNat] at ho8; rw [← Ny110.out] at ho8)); have n0_ := Aside0.mk (Kd.R_elder' (by (with_reducible repeat (first | apply Kd.R_alloc | apply Kd.R_drewN | apply Kd.R_drew)); exact HO107.out) (Kd.R_base ho8) hb); have n1_ := Aside0.mk (Kd.R_lower (Kd.R_new' ho8 (Kd.R_lt (by (with_reducible repeat (first | apply Kd.R_alloc | apply Kd.R_drewN | apply Kd.R_drew)); exact HO107.out))) (below_size (by repeat (first | (with_reducible first | exact HB.out | apply below_alloc | apply pw_below_drewN | apply below_drew1) | exact HB.out)))); have n2_ := Aside0.mk (below_step (by repeat (first | (with_reducible first | exact HB.out | apply below_alloc | apply pw_below_drewN | apply below_drew1) | exact HB.out)) hb); clear HO107; clear HB; have HO107 := n0_; have HO112 := n1_; have HB := n2_; clear n0_ n1_ n2_; clear hb ho8))
  have H := HF3.out
  clear HF3
  by_cases c9 : t109 = true
  · subst c9
    have H1 : (if t114 = true then (if t108 = 7 then (if t113 = 5 then ((sched_Round.f 2 5).bind fun t115 => ((ndjqkeep_Ints.f k t115 (([0, 1, 0, 1, 0] : List Int))).bind fun t121 => (some t121))) else (some false)) else (some false)) else (some false)) = some r := by rw [if_pos rfl] at H; exact H
    clear H
    have H := H1
    clear H1
    by_cases c10 : t114 = true
    · subst c10
      have H1 : (if t108 = 7 then (if t113 = 5 then ((sched_Round.f 2 5).bind fun t115 => ((ndjqkeep_Ints.f k t115 (([0, 1, 0, 1, 0] : List Int))).bind fun t121 => (some t121))) else (some false)) else (some false)) = some r := by rw [if_pos rfl] at H; exact H
      clear H
      have H := H1
      clear H1
      by_cases c11 : t108 = 7
      · rw [if_pos c11] at H
        have c11b0 : (t108 == 7) = true := beq_iff_eq.mpr c11
        have c11b1 : (t108 != 7) = false := bne_eq_false_iff_eq.mpr c11
        clear c11
        by_cases c12 : t113 = 5
        · rw [if_pos c12] at H
          have c12b0 : (t113 == 5) = true := beq_iff_eq.mpr c12
          have c12b1 : (t113 != 5) = false := bne_eq_false_iff_eq.mpr c12
          clear c12
          replace H := Option.bind_eq_some_iff.mp H
          obtain ⟨t115, A130, H⟩ := H
          replace H : ((ndjqkeep_Ints.f k t115 (([0, 1, 0, 1, 0] : List Int))).bind fun t121 => (some t121)) = some r := H
          have A13 := Aside0.mk A130
          clear A130
          obtain ⟨y118, hy118⟩ : ∃ y_ : List Int, y_ = (([0, 1, 0, 1, 0] : List Int)) := ⟨_, rfl⟩
          replace H : ((ndjqkeep_Ints.f k t115 y118).bind fun t121 => (some t121)) = some r := by first | (rw [hy118]; with_reducible exact H) | (have H2_ := (Option.bind_some _ _).symm.trans H; rw [hy118]; with_reducible exact H2_) | (have H2_ := (Option.bind_some _ _).symm.trans H; with_reducible exact H2_) | with_reducible exact H | (rw [hy118]; exact H) | exact H
          have Ny118 := Aside0.mk hy118
          clear hy118
          replace H := Option.bind_eq_some_iff.mp H
          obtain ⟨t121, A140, H⟩ := H
          replace H : (some t121) = some r := H
          have A14 := Aside0.mk A140
          clear A140
          obtain rfl := Option.some.inj H
          obtain ⟨Ao15, co15, eo15⟩ := Kd.R_slice HO112.out
          subst eo15
          go_wp2_with (first | (go_at_call 8; (with_reducible refine (sched_Choose.calls _ _ y110 4 t113 true _ ?side1 ?side2 A2.out).mono ?_); (case side1 => repeat (first | exact (Kd.R_reads' HO112.out).2.2 | (with_reducible refine Kd.C_alloc ?_ _) | (with_reducible refine Kd.C_drewN ?_ _) | (with_reducible refine Kd.C_drew ?_))); (case side2 => exact (Kd.R_reads' HO112.out).2.1); rintro e w' ⟨rfl, ⟨nd, rfl⟩⟩) | (go_at_call 14; (with_reducible refine (sched_Round.calls 2 5 t115 _ A13.out).mono ?_); rintro e w16 ⟨v116, rfl, ho0, hb⟩; have n0_ := Aside0.mk (Kd.R_elder' (by (with_reducible repeat (first | apply Kd.R_alloc | apply Kd.R_drewN | apply Kd.R_drew)); exact HO107.out) (Kd.R_base ho0) hb); have n1_ := Aside0.mk (Kd.R_elder' (by (with_reducible repeat (first | apply Kd.R_alloc | apply Kd.R_drewN | apply Kd.R_drew)); exact HO112.out) (Kd.R_base ho0) hb); have n2_ := Aside0.mk (Kd.R_lower (Kd.R_new' (Kd.R_new' ho0 (Kd.R_lt (by (with_reducible repeat (first | apply Kd.R_alloc | apply Kd.R_drewN | apply Kd.R_drew)); exact HO107.out))) (Kd.R_lt (by (with_reducible repeat (first | apply Kd.R_alloc | apply Kd.R_drewN | apply Kd.R_drew)); exact HO112.out))) (below_size (by repeat (first | (with_reducible first | exact HB.out | apply below_alloc | apply pw_below_drewN | apply below_drew1) | exact HB.out)))); have n3_ := Aside0.mk (below_step (by repeat (first | (with_reducible first | exact HB.out | apply below_alloc | apply pw_below_drewN | apply below_drew1) | exact HB.out)) hb); clear HO107; clear HO112; clear HB; have HO107 := n0_; have HO112 := n1_; have HO117 := n2_; have HB := n3_; clear n0_ n1_ n2_ n3_; (try clear hb); (try clear hb2); (try clear hk); (try clear hi); (try clear ho0)) | ((with_reducible refine gate_dst (N := 29) rfl ?_); (try (refine gate_guard (by rfl) ?_; dsimp only)); refine Kd.R_lit (Kd.int .i64) _ 3 ?hg (N := 29) ?hd (xs := ([0, 1, 0, 1, 0] : List Int)) (inner := [.int .i64 0, .int .i64 1, .int .i64 0, .int .i64 1, .int .i64 0]) (ok := fun _ => True) (okp := fun _ => True) ?hr ?hp (fun _ hk => hk) trivial (Below.refl _ _) (Nat.le_refl _) (by simp) ?_; (case hd => rfl); (case hg => rfl); (case hr => first | (go_simp; done) | (go_simp; rfl)); (case hp => exact (Reps.one (show Kd.M (Kd.int .i64) _ _ _ 0 [.int .i64 0] from rfl) (Reps.one (show Kd.M (Kd.int .i64) _ _ _ 1 [.int .i64 1] from rfl) (Reps.one (show Kd.M (Kd.int .i64) _ _ _ 0 [.int .i64 0] from rfl) (Reps.one (show Kd.M (Kd.int .i64) _ _ _ 1 [.int .i64 1] from rfl) (Reps.one (show Kd.M (Kd.int .i64) _ _ _ 0 [.int .i64 0] from rfl) (Reps.none _ _))))))); intro v119 w17 ho18 hb hg_ hnew_; clear hg_ hnew_; (first | rw [← Ny118.out] at ho18 | (simp only [Int.reduceToNat] at ho18; rw [← Ny118.out] at ho18)); have n0_ := Aside0.mk (Kd.R_elder' (by (with_reducible repeat (first | apply Kd.R_alloc | apply Kd.R_drewN | apply Kd.R_drew)); exact HO107.out) (Kd.R_base ho18) hb); have n1_ := Aside0.mk (Kd.R_elder' (by (with_reducible repeat (first | apply Kd.R_alloc | apply Kd.R_drewN | apply Kd.R_drew)); exact HO112.out) (Kd.R_base ho18) hb); have n2_ := Aside0.mk (Kd.R_elder' (by (with_reducible repeat (first | apply Kd.R_alloc | apply Kd.R_drewN | apply Kd.R_drew)); exact HO117.out) (Kd.R_base ho18) hb); have n3_ := Aside0.mk (Kd.R_lower (Kd.R_new' (Kd.R_new' (Kd.R_new' ho18 (Kd.R_lt (by (with_reducible repeat (first | apply Kd.R_alloc | apply Kd.R_drewN | apply Kd.R_drew)); exact HO107.out))) (Kd.R_lt (by (with_reducible repeat (first | apply Kd.R_alloc | apply Kd.R_drewN | apply Kd.R_drew)); exact HO112.out))) (Kd.R_lt (by (with_reducible repeat (first | apply Kd.R_alloc | apply Kd.R_drewN | apply Kd.R_drew)); exact HO117.out))) (below_size (by repeat (first | (with_reducible first | exact HB.out | apply below_alloc | apply pw_below_drewN | apply below_drew1) | exact HB.out)))); have n4_ := Aside0.mk (below_step (by repeat (first | (with_reducible first | exact HB.out | apply below_alloc | apply pw_below_drewN | apply below_drew1) | exact HB.out)) hb); clear HO107; clear HO112; clear HO117; clear HB; have HO107 := n0_; have HO112 := n1_; have HO117 := n2_; have HO120 := n3_; have HB := n4_; clear n0_ n1_ n2_ n3_ n4_; clear hb ho18; obtain ⟨Ao19, co19, eo19⟩ := Kd.R_slice HO117.out; subst eo19; obtain ⟨Ao20, co20, eo20⟩ := Kd.R_slice HO120.out; subst eo20) | (go_at_call 13; (with_reducible refine (ndjqkeep_Ints.calls k _ _ t115 _ _ y118 t121 _ ?side1 ?side2 ?side3 ?side4 A14.out).mono ?_); (case side1 => repeat (first | exact (Kd.R_reads' HO117.out).2.2 | (with_reducible refine Kd.C_alloc ?_ _) | (with_reducible refine Kd.C_drewN ?_ _) | (with_reducible refine Kd.C_drew ?_))); (case side2 => exact (Kd.R_reads' HO117.out).2.1); (case side3 => repeat (first | exact (Kd.R_reads' HO120.out).2.2 | (with_reducible refine Kd.C_alloc ?_ _) | (with_reducible refine Kd.C_drewN ?_ _) | (with_reducible refine Kd.C_drew ?_))); (case side4 => exact (Kd.R_reads' HO120.out).2.1); rintro e w' ⟨rfl, ⟨nd, rfl⟩⟩))
          go_ret
          exact ⟨by first | rfl | (simp [errW_none, errW_some] <;> rfl) | (simp [*, errW_none, errW_some] <;> rfl), by repeat (first | (with_reducible first | exact HB.out | apply below_alloc | apply pw_below_drewN | apply below_drew1) | exact HB.out)⟩
        · rw [if_neg c12] at H
          have c12b0 : (t113 == 5) = false := beq_eq_false_iff_ne.mpr c12
          have c12b1 : (t113 != 5) = true := bne_iff_ne.mpr c12
          obtain rfl := Option.some.inj H
          obtain ⟨Ao21, co21, eo21⟩ := Kd.R_slice HO112.out
          subst eo21
          go_wp2_with (first | (go_at_call 8; (with_reducible refine (sched_Choose.calls _ _ y110 4 t113 true _ ?side1 ?side2 A2.out).mono ?_); (case side1 => repeat (first | exact (Kd.R_reads' HO112.out).2.2 | (with_reducible refine Kd.C_alloc ?_ _) | (with_reducible refine Kd.C_drewN ?_ _) | (with_reducible refine Kd.C_drew ?_))); (case side2 => exact (Kd.R_reads' HO112.out).2.1); rintro e w' ⟨rfl, ⟨nd, rfl⟩⟩))
          go_ret
          exact ⟨by first | rfl | (simp [errW_none, errW_some] <;> rfl) | (simp [*, errW_none, errW_some] <;> rfl), by repeat (first | (with_reducible first | exact HB.out | apply below_alloc | apply pw_below_drewN | apply below_drew1) | exact HB.out)⟩
      · rw [if_neg c11] at H
        have c11b0 : (t108 == 7) = false := beq_eq_false_iff_ne.mpr c11
        have c11b1 : (t108 != 7) = true := bne_iff_ne.mpr c11
        obtain rfl := Option.some.inj H
        obtain ⟨Ao22, co22, eo22⟩ := Kd.R_slice HO112.out
        subst eo22
        go_wp2_with (first | (go_at_call 8; (with_reducible refine (sched_Choose.calls _ _ y110 4 t113 true _ ?side1 ?side2 A2.out).mono ?_); (case side1 => repeat (first | exact (Kd.R_reads' HO112.out).2.2 | (with_reducible refine Kd.C_alloc ?_ _) | (with_reducible refine Kd.C_drewN ?_ _) | (with_reducible refine Kd.C_drew ?_))); (case side2 => exact (Kd.R_reads' HO112.out).2.1); rintro e w' ⟨rfl, ⟨nd, rfl⟩⟩))
        go_ret
        exact ⟨by first | rfl | (simp [errW_none, errW_some] <;> rfl) | (simp [*, errW_none, errW_some] <;> rfl), by repeat (first | (with_reducible first | exact HB.out | apply below_alloc | apply pw_below_drewN | apply below_drew1) | exact HB.out)⟩
    · replace c10 := Bool.eq_false_iff.mpr c10
      subst c10
      have H1 : (some false) = some r := by rw [if_neg (show ¬ (false = true) by decide)] at H; exact H
      clear H
      have H := H1
      clear H1
      obtain rfl := Option.some.inj H
      obtain ⟨Ao23, co23, eo23⟩ := Kd.R_slice HO112.out
      subst eo23
      go_wp2_with (first | (go_at_call 8; (with_reducible refine (sched_Choose.calls _ _ y110 4 t113 false _ ?side1 ?side2 A2.out).mono ?_); (case side1 => repeat (first | exact (Kd.R_reads' HO112.out).2.2 | (with_reducible refine Kd.C_alloc ?_ _) | (with_reducible refine Kd.C_drewN ?_ _) | (with_reducible refine Kd.C_drew ?_))); (case side2 => exact (Kd.R_reads' HO112.out).2.1); rintro e w' ⟨rfl, ⟨nd, rfl⟩⟩))
      go_ret
      exact ⟨by first | rfl | (simp [errW_none, errW_some] <;> rfl) | (simp [*, errW_none, errW_some] <;> rfl), by repeat (first | (with_reducible first | exact HB.out | apply below_alloc | apply pw_below_drewN | apply below_drew1) | exact HB.out)⟩
  · replace c9 := Bool.eq_false_iff.mpr c9
    subst c9
    have H1 : (some false) = some r := by rw [if_neg (show ¬ (false = true) by decide)] at H; exact H
    clear H
    have H := H1
    clear H1
    obtain rfl := Option.some.inj H
    obtain ⟨Ao24, co24, eo24⟩ := Kd.R_slice HO112.out
    subst eo24
    go_wp2_with (first | (go_at_call 8; (with_reducible refine (sched_Choose.calls _ _ y110 4 t113 t114 _ ?side1 ?side2 A2.out).mono ?_); (case side1 => repeat (first | exact (Kd.R_reads' HO112.out).2.2 | (with_reducible refine Kd.C_alloc ?_ _) | (with_reducible refine Kd.C_drewN ?_ _) | (with_reducible refine Kd.C_drew ?_))); (case side2 => exact (Kd.R_reads' HO112.out).2.1); rintro e w' ⟨rfl, ⟨nd, rfl⟩⟩))
    go_ret
    exact ⟨by first | rfl | (simp [errW_none, errW_some] <;> rfl) | (simp [*, errW_none, errW_some] <;> rfl), by repeat (first | (with_reducible first | exact HB.out | apply below_alloc | apply pw_below_drewN | apply below_drew1) | exact HB.out)⟩

/-! ### ndjqkeep_Mod: function 12 -/
def ndjqkeep_Mod.f (a0 : Int) (a1 : Int) : Option (Int) := if a1 = 0 then (none) else (if (Int.tmod a0 a1) < 0 then (some (wrap64 ((Int.tmod a0 a1) + a1))) else (some (Int.tmod a0 a1)))
set_option maxHeartbeats 8000000 in
set_option maxRecDepth 100000 in
theorem ndjqkeep_Mod.calls (a0 : Int) (a1 : Int) (r : Int) (w : World) (h : ndjqkeep_Mod.f a0 a1 = some r) :
    Calls Try.prog 12 #[.int .i64 a0, .int .i64 a1] w fun e w' => e = .returned (.int .i64 r) ∧ Drawn0 w w' := by
  have H : (if a1 = 0 then (none) else (if (Int.tmod a0 a1) < 0 then (some (wrap64 ((Int.tmod a0 a1) + a1))) else (some (Int.tmod a0 a1)))) = some r := h
  clear h
  by_cases c3 : a1 = 0
  · rw [if_pos c3] at H
    exact absurd H (by simp)
  · rw [if_neg c3] at H
    have c3b0 : (a1 == 0) = false := beq_eq_false_iff_ne.mpr c3
    have c3b1 : (a1 != 0) = true := bne_iff_ne.mpr c3
    by_cases c4 : (Int.tmod a0 a1) < 0
    · rw [if_pos c4] at H
      have c4b0 : decide ((Int.tmod a0 a1) < 0) = true := decide_eq_true c4
      clear c4
      obtain rfl := Option.some.inj H
      go_enter Try.func12, Try.ntmps12
      go_wp2
      go_ret
      exact ⟨by first | rfl | (simp; done) | (simp [*]; done), by repeat (first | exact Drawn0.refl _ | apply Drawn0.step)⟩
    · rw [if_neg c4] at H
      have c4b0 : decide ((Int.tmod a0 a1) < 0) = false := decide_eq_false c4
      clear c4
      obtain rfl := Option.some.inj H
      go_enter Try.func12, Try.ntmps12
      go_wp2
      go_ret
      exact ⟨by first | rfl | (simp; done) | (simp [*]; done), by repeat (first | exact Drawn0.refl _ | apply Drawn0.step)⟩

/-! ### ndjqlaw24_SchedFair: function 4 -/
def ndjqlaw24_SchedFair.j0 : Nat → List Int → Int → Int → Int → Bool → Option (Bool)
 | 0, _, _, _, _, _ => none
 | k + 1, x0, x1, x2, x7, x21 => if x21 = true then ((sched_Choose.f ([] : List Int) x1).bind fun bt122 => (if bt122.2 = true then (some false) else ((ndjqlaw24_awake.f k).bind fun t124 => (some t124)))) else ((ndjqkeep_Mod.f x1 x7).bind fun t125 => ((sched_Choose.f x0 t125).bind fun bt126 => ((sched_Choose.f x0 (wrap64 (t125 + (wrap64 (x7 * (wrap64 (x2))))))).bind fun bt128 => (if bt126.2 = true then (if bt128.2 = true then (if 0 ≤ t125 then (if t125 < (x0.length : Int) then (if bt126.1 = (rd x0 t125) then (if bt128.1 = (rd x0 t125) then ((ndjqlaw24_awake.f k).bind fun t132 => (some t132)) else (some false)) else (some false)) else (none)) else (none)) else (some false)) else (some false)))))
def ndjqlaw24_SchedFair.f (k : Nat) (l0 : List Int) (a1 : Int) (a2 : Int) : Option (Bool) := if (l0.length : Int) = 0 then (ndjqlaw24_SchedFair.j0 k l0 a1 a2 (l0.length : Int) true) else (ndjqlaw24_SchedFair.j0 k l0 a1 a2 (l0.length : Int) (decide ((l0.length : Int) > 50)))
theorem ndjqlaw24_SchedFair.mono_l : ∀ k, (∀ y0 y1 y2 y3 y4, LeO (ndjqlaw24_SchedFair.j0 k y0 y1 y2 y3 y4) (ndjqlaw24_SchedFair.j0 (k + 1) y0 y1 y2 y3 y4))
 | 0 => fun _ _ _ _ _ r h => by simp [ndjqlaw24_SchedFair.j0] at h
 | k + 1 => by
  have ih0 := ndjqlaw24_SchedFair.mono_l k
  ·intro y0 y1 y2 y3 y4
   unfold ndjqlaw24_SchedFair.j0
   repeat' first
   | (with_reducible exact ih0 _ _ _ _ _)
   | (with_reducible exact ndjqlaw24_awake.mono _)
   | (with_reducible exact LeO.refl _)
   | (with_reducible exact LeO.none _)
   | (with_reducible refine LeO.ite ?_ ?_)
   | (with_reducible refine LeO.bind ?_ (fun _ => ?_))
   | exact ih0 _ _ _ _ _
   | exact ndjqlaw24_awake.mono _
   | exact LeO.none _
   | refine LeO.ite ?_ ?_
   | refine LeO.bind ?_ (fun _ => ?_)
theorem ndjqlaw24_SchedFair.mono : ∀ a0 a1 a2 k, LeO (ndjqlaw24_SchedFair.f k a0 a1 a2) (ndjqlaw24_SchedFair.f (k + 1) a0 a1 a2) := by
 intro a0 a1 a2 k
 have ih0 := ndjqlaw24_SchedFair.mono_l k
 unfold ndjqlaw24_SchedFair.f
 repeat' first
   | (with_reducible exact ih0 _ _ _ _ _)
   | (with_reducible exact ndjqlaw24_awake.mono _)
   | (with_reducible exact LeO.refl _)
   | (with_reducible exact LeO.none _)
   | (with_reducible refine LeO.ite ?_ ?_)
   | (with_reducible refine LeO.bind ?_ (fun _ => ?_))
   | exact ih0 _ _ _ _ _
   | exact ndjqlaw24_awake.mono _
   | exact LeO.none _
   | refine LeO.ite ?_ ?_
   | refine LeO.bind ?_ (fun _ => ?_)
set_option maxHeartbeats 8000000 in
set_option maxRecDepth 100000 in
theorem ndjqlaw24_SchedFair.calls (k : Nat) (A0 : Option Addr) (c0 : Nat) (l0 : List Int) (a1 : Int) (a2 : Int) (r : Bool) (w : World) (hr0 : Kd.C (Kd.int .i64) w A0 l0.length l0) (hc0 : l0.length ≤ c0) (h : ndjqlaw24_SchedFair.f k l0 a1 a2 = some r) :
  Calls Try.prog 4 #[.slice A0 l0.length c0, .int .i64 a1, .int .i32 a2] w fun e w' => e = .returned (.bool r) ∧ Below w.heap.size w w' := by
 have HR0 := Aside0.mk hr0
 have HC0 := Aside0.mk hc0
 clear hr0 hc0
 have HB := Aside0.mk (Below.refl w.heap.size w)
 have H : (if (l0.length : Int) = 0 then (ndjqlaw24_SchedFair.j0 k l0 a1 a2 (l0.length : Int) true) else (ndjqlaw24_SchedFair.j0 k l0 a1 a2 (l0.length : Int) (decide ((l0.length : Int) > 50)))) = some r := h
 clear h
 have HC4 := Aside0.mk H
 clear H
 go_enter Try.func4, Try.ntmps4
 go_upto_region 2 with (fail)
 go_cut [21] (fun v21 wc => ∃ (kq : Nat) (x21_3 : Bool), v21 = .bool x21_3 ∧ Aside0 (ndjqlaw24_SchedFair.j0 kq l0 a1 a2 (l0.length : Int) x21_3 = some r) ∧ Aside0 (kq ≤ k) ∧ Aside0 (Below w.heap.size w wc))
 case first =>
  have H := HC4.out
  clear HC4
  by_cases c5 : (l0.length : Int) = 0
  ·rw [if_pos c5] at H
   have c5b0 : ((l0.length : Int) == 0) = true := beq_iff_eq.mpr c5
   have c5b1 : ((l0.length : Int) != 0) = false := bne_eq_false_iff_eq.mpr c5
   clear c5
   (first | rw [c5b0] | (simp only [i64_w, i32_w]; rw [c5b0]) | skip)
   have H' := Aside0.mk H
   clear H
   go_wp2
   go_meet
   case rel => exact ⟨_, (true), (by first | rfl | (simp; done) | (simp [*]; done)), H', ⟨by first | omega | exact Nat.le_refl _⟩, ⟨by repeat (first | (with_reducible first | exact HB.out | apply wA | apply wN | apply wD) | exact HB.out)⟩⟩
  ·rw [if_neg c5] at H
   have c5b0 : ((l0.length : Int) == 0) = false := beq_eq_false_iff_ne.mpr c5
   have c5b1 : ((l0.length : Int) != 0) = true := bne_iff_ne.mpr c5
   have c5b2 : ¬ (l0 = []) := fun h_ => c5 (by rw [h_]; rfl)
   (first | rw [c5b0] | (simp only [i64_w, i32_w]; rw [c5b0]) | skip)
   have H' := Aside0.mk H
   clear H
   go_wp2
   go_meet
   case rel => exact ⟨_, (decide ((l0.length : Int) > 50)), (by first | rfl | (simp; done) | (simp [*]; done)), H', ⟨by first | omega | exact Nat.le_refl _⟩, ⟨by repeat (first | (with_reducible first | exact HB.out | apply wA | apply wN | apply wD) | exact HB.out)⟩⟩
 case rest =>
  clear HC4
  (try clear p2); (try clear c4); (try clear c5); (try clear c5b0); (try clear c5b1); (try clear c5b2)
  obtain ⟨kq, x21_3, rfl, HA, HJ3, HB⟩ := hcut
  cases kq with
  | zero => exact absurd HA.out (by simp [ndjqlaw24_SchedFair.j0])
  | succ kj3 =>
   have H := HA.out
   clear HA
   simp only [ndjqlaw24_SchedFair.j0] at H
   by_cases c6 : x21_3 = true
   ·subst c6
    have H1 : ((sched_Choose.f ([] : List Int) a1).bind fun bt122 => (if bt122.2 = true then (some false) else ((ndjqlaw24_awake.f kj3).bind fun t124 => (some t124)))) = some r := by rw [if_pos rfl] at H; exact H
    clear H; have H := H1; clear H1
    replace H := Option.bind_eq_some_iff.mp H
    obtain ⟨⟨t122, t123⟩, A70, H⟩ := H
    replace H : (if t123 = true then (some false) else ((ndjqlaw24_awake.f kj3).bind fun t124 => (some t124))) = some r := H
    have A7 := Aside0.mk A70
    clear A70
    by_cases c8 : t123 = true
    ·subst c8
     have H1 : (some false) = some r := by rw [if_pos rfl] at H; exact H
     clear H; have H := H1; clear H1
     obtain rfl := Option.some.inj H
     go_wp2_with (first | ((with_reducible refine gate_callee (f := 8) rfl ?_); refine goesL_ (some 24) rfl rfl Try.func8 (by kernel_rfl) rfl #[.slice none 0 0, .int .i64 a1] rfl (by (try simp only [List.map_toArray, List.map_cons, List.map_nil]); first | done | rfl | (simp only [List.length_drop, List.length_take]; rfl)) ?_; (refine (sched_Choose.calls _ _ ([] : List Int) a1 t122 true _ ?side1 ?side2 A7.out).mono ?_); (case side1 => exact Kd.C_nil _ _); (case side2 => exact Nat.le_refl _); rintro e w' ⟨rfl, ⟨nd, rfl⟩⟩; refine ⟨_, rfl, ?_⟩))
     go_ret
     exact ⟨by first | rfl | (simp [errW_none, errW_some] <;> rfl) | (simp [*, errW_none, errW_some] <;> rfl), by repeat (first | (with_reducible first | exact HB.out | apply wA | apply wN | apply wD) | exact HB.out)⟩
    ·replace c8 := Bool.eq_false_iff.mpr c8
     subst c8
     have H1 : ((ndjqlaw24_awake.f kj3).bind fun t124 => (some t124)) = some r := by rw [if_neg (show ¬ (false = true) by decide)] at H; exact H
     clear H; have H := H1; clear H1
     replace H := Option.bind_eq_some_iff.mp H
     obtain ⟨t124, A90, H⟩ := H
     replace H : (some t124) = some r := H
     have A9 := Aside0.mk A90
     clear A90
     obtain rfl := Option.some.inj H
     go_wp2_with (first | ((with_reducible refine gate_callee (f := 8) rfl ?_); refine goesL_ (some 24) rfl rfl Try.func8 (by kernel_rfl) rfl #[.slice none 0 0, .int .i64 a1] rfl (by (try simp only [List.map_toArray, List.map_cons, List.map_nil]); first | done | rfl | (simp only [List.length_drop, List.length_take]; rfl)) ?_; (refine (sched_Choose.calls _ _ ([] : List Int) a1 t122 false _ ?side1 ?side2 A7.out).mono ?_); (case side1 => exact Kd.C_nil _ _); (case side2 => exact Nat.le_refl _); rintro e w' ⟨rfl, ⟨nd, rfl⟩⟩; refine ⟨_, rfl, ?_⟩) | (go_at_call 7; (with_reducible refine (ndjqlaw24_awake.calls kj3  t124 _ A9.out).mono ?_); rintro e w10 ⟨rfl, hb⟩; have n0_ := Aside0.mk (below_step (by repeat (first | (with_reducible first | exact HB.out | apply wA | apply wN | apply wD) | exact HB.out)) hb); clear HB; have HB := n0_; clear n0_; (try clear hb); (try clear hb2); (try clear hk); (try clear hi)))
     go_ret
     exact ⟨by first | rfl | (simp [errW_none, errW_some] <;> rfl) | (simp [*, errW_none, errW_some] <;> rfl), by repeat (first | (with_reducible first | exact HB.out | apply wA | apply wN | apply wD) | exact HB.out)⟩
   ·replace c6 := Bool.eq_false_iff.mpr c6
    subst c6
    have H1 : ((ndjqkeep_Mod.f a1 (l0.length : Int)).bind fun t125 => ((sched_Choose.f l0 t125).bind fun bt126 => ((sched_Choose.f l0 (wrap64 (t125 + (wrap64 ((l0.length : Int) * (wrap64 (a2))))))).bind fun bt128 => (if bt126.2 = true then (if bt128.2 = true then (if 0 ≤ t125 then (if t125 < (l0.length : Int) then (if bt126.1 = (rd l0 t125) then (if bt128.1 = (rd l0 t125) then ((ndjqlaw24_awake.f kj3).bind fun t132 => (some t132)) else (some false)) else (some false)) else (none)) else (none)) else (some false)) else (some false))))) = some r := by rw [if_neg (show ¬ (false = true) by decide)] at H; exact H
    clear H; have H := H1; clear H1
    replace H := Option.bind_eq_some_iff.mp H
    obtain ⟨t125, A110, H⟩ := H
    replace H : ((sched_Choose.f l0 t125).bind fun bt126 => ((sched_Choose.f l0 (wrap64 (t125 + (wrap64 ((l0.length : Int) * (wrap64 (a2))))))).bind fun bt128 => (if bt126.2 = true then (if bt128.2 = true then (if 0 ≤ t125 then (if t125 < (l0.length : Int) then (if bt126.1 = (rd l0 t125) then (if bt128.1 = (rd l0 t125) then ((ndjqlaw24_awake.f kj3).bind fun t132 => (some t132)) else (some false)) else (some false)) else (none)) else (none)) else (some false)) else (some false)))) = some r := H
    have A11 := Aside0.mk A110
    clear A110
    replace H := Option.bind_eq_some_iff.mp H
    obtain ⟨⟨t126, t127⟩, A120, H⟩ := H
    replace H : ((sched_Choose.f l0 (wrap64 (t125 + (wrap64 ((l0.length : Int) * (wrap64 (a2))))))).bind fun bt128 => (if t127 = true then (if bt128.2 = true then (if 0 ≤ t125 then (if t125 < (l0.length : Int) then (if t126 = (rd l0 t125) then (if bt128.1 = (rd l0 t125) then ((ndjqlaw24_awake.f kj3).bind fun t132 => (some t132)) else (some false)) else (some false)) else (none)) else (none)) else (some false)) else (some false))) = some r := H
    have A12 := Aside0.mk A120
    clear A120
    replace H := Option.bind_eq_some_iff.mp H
    obtain ⟨⟨t128, t129⟩, A130, H⟩ := H
    replace H : (if t127 = true then (if t129 = true then (if 0 ≤ t125 then (if t125 < (l0.length : Int) then (if t126 = (rd l0 t125) then (if t128 = (rd l0 t125) then ((ndjqlaw24_awake.f kj3).bind fun t132 => (some t132)) else (some false)) else (some false)) else (none)) else (none)) else (some false)) else (some false)) = some r := H
    have A13 := Aside0.mk A130
    clear A130
    have HF14 := Aside0.mk H
    clear H
    go_wp2_with (first | ((with_reducible refine gate_callee (f := 12) rfl ?_); refine goesL_ (some 34) rfl rfl Try.func12 (by kernel_rfl) rfl #[.int .i64 a1, .int .i64 (l0.length : Int)] rfl (by (try simp only [List.map_toArray, List.map_cons, List.map_nil]); first | done | rfl | (simp only [List.length_drop, List.length_take]; rfl)) ?_; (with_reducible refine (ndjqkeep_Mod.calls a1 (l0.length : Int) t125 _ A11.out).mono ?_); rintro e w' ⟨rfl, ⟨nd, rfl⟩⟩; refine ⟨_, rfl, ?_⟩) | ((with_reducible refine gate_callee (f := 8) rfl ?_); refine goesL_ (some 38) rfl rfl Try.func8 (by kernel_rfl) rfl #[.slice A0 l0.length c0, .int .i64 t125] rfl (by (try simp only [List.map_toArray, List.map_cons, List.map_nil]); first | done | rfl | (simp only [List.length_drop, List.length_take]; rfl)) ?_; (with_reducible refine (sched_Choose.calls _ _ l0 t125 t126 t127 _ ?side1 ?side2 A12.out).mono ?_); (case side1 => repeat (first | exact (Kd.C_below HR0.out (by repeat (first | (with_reducible first | exact HB.out | apply wA | apply wN | apply wD) | exact HB.out))) | (with_reducible refine Kd.C_alloc ?_ _) | (with_reducible refine Kd.C_drewN ?_ _) | (with_reducible refine Kd.C_drew ?_))); (case side2 => exact HC0.out); rintro e w' ⟨rfl, ⟨nd, rfl⟩⟩; refine ⟨_, rfl, ?_⟩))
    have H := HF14.out
    clear HF14
    by_cases c15 : t127 = true
    ·subst c15
     have H1 : (if t129 = true then (if 0 ≤ t125 then (if t125 < (l0.length : Int) then (if t126 = (rd l0 t125) then (if t128 = (rd l0 t125) then ((ndjqlaw24_awake.f kj3).bind fun t132 => (some t132)) else (some false)) else (some false)) else (none)) else (none)) else (some false)) = some r := by rw [if_pos rfl] at H; exact H
     clear H; have H := H1; clear H1
     by_cases c16 : t129 = true
     ·subst c16
      have H1 : (if 0 ≤ t125 then (if t125 < (l0.length : Int) then (if t126 = (rd l0 t125) then (if t128 = (rd l0 t125) then ((ndjqlaw24_awake.f kj3).bind fun t132 => (some t132)) else (some false)) else (some false)) else (none)) else (none)) = some r := by rw [if_pos rfl] at H; exact H
      clear H; have H := H1; clear H1
      by_cases c17 : 0 ≤ t125
      ·rw [if_pos c17] at H
       have c17b0 : decide (0 ≤ t125) = true := decide_eq_true c17
       clear c17
       by_cases c18 : t125 < (l0.length : Int)
       ·rw [if_pos c18] at H
        have c18b0 : decide (t125 < (l0.length : Int)) = true := decide_eq_true c18
        clear c18
        by_cases c19 : t126 = (rd l0 t125)
        ·rw [if_pos c19] at H
         have c19b0 : (t126 == (rd l0 t125)) = true := beq_iff_eq.mpr c19
         have c19b1 : (t126 != (rd l0 t125)) = false := bne_eq_false_iff_eq.mpr c19
         clear c19
         by_cases c20 : t128 = (rd l0 t125)
         ·rw [if_pos c20] at H
          have c20b0 : (t128 == (rd l0 t125)) = true := beq_iff_eq.mpr c20
          have c20b1 : (t128 != (rd l0 t125)) = false := bne_eq_false_iff_eq.mpr c20
          clear c20
          replace H := Option.bind_eq_some_iff.mp H
          obtain ⟨t132, A210, H⟩ := H
          replace H : (some t132) = some r := H
          have A21 := Aside0.mk A210
          clear A210
          obtain rfl := Option.some.inj H
          go_wp2_with (first | (go_at_call 8; (with_reducible refine (sched_Choose.calls _ _ l0 (wrap64 (t125 + (wrap64 ((l0.length : Int) * (wrap64 (a2)))))) t128 true _ ?side1 ?side2 A13.out).mono ?_); (case side1 => repeat (first | exact (Kd.C_below HR0.out HB.out) | (with_reducible refine Kd.C_alloc ?_ _) | (with_reducible refine Kd.C_drewN ?_ _) | (with_reducible refine Kd.C_drew ?_))); (case side2 => exact HC0.out); rintro e w' ⟨rfl, ⟨nd, rfl⟩⟩; have p130 : 0 ≤ (t125 : Int) := of_decide_eq_true (by first | (with_reducible assumption) | assumption); have q130 : t125 < (l0.length : Int) := of_decide_eq_true (by first | (with_reducible assumption) | assumption); obtain ⟨ad130, e130, hx130_0⟩ := Kd.at_int HR0.out t125 p130 q130; cases e130; replace hx130_0 := (HB.out.cell (World.block_lt_of_cell? w _ hx130_0)).trans hx130_0; replace p130 := eq_true p130; replace q130 := eq_true q130; have p131 : 0 ≤ (t125 : Int) := of_decide_eq_true (by first | (with_reducible assumption) | assumption); have q131 : t125 < (l0.length : Int) := of_decide_eq_true (by first | (with_reducible assumption) | assumption); obtain ⟨ad131, e131, hx131_0⟩ := Kd.at_int HR0.out t125 p131 q131; obtain rfl : ad130 = ad131 := (by injection e131); replace hx131_0 := (HB.out.cell (World.block_lt_of_cell? w _ hx131_0)).trans hx131_0; replace p131 := eq_true p131; replace q131 := eq_true q131) | (go_at_call 7; (with_reducible refine (ndjqlaw24_awake.calls kj3  t132 _ A21.out).mono ?_); rintro e w22 ⟨rfl, hb⟩; have n0_ := Aside0.mk (below_step (by repeat (first | (with_reducible first | exact HB.out | apply wA | apply wN | apply wD) | exact HB.out)) hb); clear HB; have HB := n0_; clear n0_; (try clear hb); (try clear hb2); (try clear hk); (try clear hi)))
          go_ret
          exact ⟨by first | rfl | (simp [errW_none, errW_some] <;> rfl) | (simp [*, errW_none, errW_some] <;> rfl), by repeat (first | (with_reducible first | exact HB.out | apply wA | apply wN | apply wD) | exact HB.out)⟩
         ·rw [if_neg c20] at H
          have c20b0 : (t128 == (rd l0 t125)) = false := beq_eq_false_iff_ne.mpr c20
          have c20b1 : (t128 != (rd l0 t125)) = true := bne_iff_ne.mpr c20
          obtain rfl := Option.some.inj H
          go_wp2_with (first | (go_at_call 8; (with_reducible refine (sched_Choose.calls _ _ l0 (wrap64 (t125 + (wrap64 ((l0.length : Int) * (wrap64 (a2)))))) t128 true _ ?side1 ?side2 A13.out).mono ?_); (case side1 => repeat (first | exact (Kd.C_below HR0.out HB.out) | (with_reducible refine Kd.C_alloc ?_ _) | (with_reducible refine Kd.C_drewN ?_ _) | (with_reducible refine Kd.C_drew ?_))); (case side2 => exact HC0.out); rintro e w' ⟨rfl, ⟨nd, rfl⟩⟩; have p130 : 0 ≤ (t125 : Int) := of_decide_eq_true (by first | (with_reducible assumption) | assumption); have q130 : t125 < (l0.length : Int) := of_decide_eq_true (by first | (with_reducible assumption) | assumption); obtain ⟨ad130, e130, hx130_0⟩ := Kd.at_int HR0.out t125 p130 q130; cases e130; replace hx130_0 := (HB.out.cell (World.block_lt_of_cell? w _ hx130_0)).trans hx130_0; replace p130 := eq_true p130; replace q130 := eq_true q130; have p131 : 0 ≤ (t125 : Int) := of_decide_eq_true (by first | (with_reducible assumption) | assumption); have q131 : t125 < (l0.length : Int) := of_decide_eq_true (by first | (with_reducible assumption) | assumption); obtain ⟨ad131, e131, hx131_0⟩ := Kd.at_int HR0.out t125 p131 q131; obtain rfl : ad130 = ad131 := (by injection e131); replace hx131_0 := (HB.out.cell (World.block_lt_of_cell? w _ hx131_0)).trans hx131_0; replace p131 := eq_true p131; replace q131 := eq_true q131))
          go_ret
          exact ⟨by first | rfl | (simp [errW_none, errW_some] <;> rfl) | (simp [*, errW_none, errW_some] <;> rfl), by repeat (first | (with_reducible first | exact HB.out | apply wA | apply wN | apply wD) | exact HB.out)⟩
        ·rw [if_neg c19] at H
         have c19b0 : (t126 == (rd l0 t125)) = false := beq_eq_false_iff_ne.mpr c19
         have c19b1 : (t126 != (rd l0 t125)) = true := bne_iff_ne.mpr c19
         obtain rfl := Option.some.inj H
         go_wp2_with (first | (go_at_call 8; (with_reducible refine (sched_Choose.calls _ _ l0 (wrap64 (t125 + (wrap64 ((l0.length : Int) * (wrap64 (a2)))))) t128 true _ ?side1 ?side2 A13.out).mono ?_); (case side1 => repeat (first | exact (Kd.C_below HR0.out HB.out) | (with_reducible refine Kd.C_alloc ?_ _) | (with_reducible refine Kd.C_drewN ?_ _) | (with_reducible refine Kd.C_drew ?_))); (case side2 => exact HC0.out); rintro e w' ⟨rfl, ⟨nd, rfl⟩⟩; have p130 : 0 ≤ (t125 : Int) := of_decide_eq_true (by first | (with_reducible assumption) | assumption); have q130 : t125 < (l0.length : Int) := of_decide_eq_true (by first | (with_reducible assumption) | assumption); obtain ⟨ad130, e130, hx130_0⟩ := Kd.at_int HR0.out t125 p130 q130; cases e130; replace hx130_0 := (HB.out.cell (World.block_lt_of_cell? w _ hx130_0)).trans hx130_0; replace p130 := eq_true p130; replace q130 := eq_true q130))
         go_ret
         exact ⟨by first | rfl | (simp [errW_none, errW_some] <;> rfl) | (simp [*, errW_none, errW_some] <;> rfl), by repeat (first | (with_reducible first | exact HB.out | apply wA | apply wN | apply wD) | exact HB.out)⟩
       ·rw [if_neg c18] at H
        exact absurd H (by simp)
      ·rw [if_neg c17] at H
       exact absurd H (by simp)
     ·replace c16 := Bool.eq_false_iff.mpr c16
      subst c16
      have H1 : (some false) = some r := by rw [if_neg (show ¬ (false = true) by decide)] at H; exact H
      clear H; have H := H1; clear H1
      obtain rfl := Option.some.inj H
      go_wp2_with (first | (go_at_call 8; (with_reducible refine (sched_Choose.calls _ _ l0 (wrap64 (t125 + (wrap64 ((l0.length : Int) * (wrap64 (a2)))))) t128 false _ ?side1 ?side2 A13.out).mono ?_); (case side1 => repeat (first | exact (Kd.C_below HR0.out HB.out) | (with_reducible refine Kd.C_alloc ?_ _) | (with_reducible refine Kd.C_drewN ?_ _) | (with_reducible refine Kd.C_drew ?_))); (case side2 => exact HC0.out); rintro e w' ⟨rfl, ⟨nd, rfl⟩⟩))
      go_ret
      exact ⟨by first | rfl | (simp [errW_none, errW_some] <;> rfl) | (simp [*, errW_none, errW_some] <;> rfl), by repeat (first | (with_reducible first | exact HB.out | apply wA | apply wN | apply wD) | exact HB.out)⟩
    ·replace c15 := Bool.eq_false_iff.mpr c15
     subst c15
     have H1 : (some false) = some r := by rw [if_neg (show ¬ (false = true) by decide)] at H; exact H
     clear H; have H := H1; clear H1
     obtain rfl := Option.some.inj H
     go_wp2_with (first | (go_at_call 8; (with_reducible refine (sched_Choose.calls _ _ l0 (wrap64 (t125 + (wrap64 ((l0.length : Int) * (wrap64 (a2)))))) t128 t129 _ ?side1 ?side2 A13.out).mono ?_); (case side1 => repeat (first | exact (Kd.C_below HR0.out HB.out) | (with_reducible refine Kd.C_alloc ?_ _) | (with_reducible refine Kd.C_drewN ?_ _) | (with_reducible refine Kd.C_drew ?_))); (case side2 => exact HC0.out); rintro e w' ⟨rfl, ⟨nd, rfl⟩⟩))
     go_ret
     exact ⟨by first | rfl | (simp [errW_none, errW_some] <;> rfl) | (simp [*, errW_none, errW_some] <;> rfl), by repeat (first | (with_reducible first | exact HB.out | apply wA | apply wN | apply wD) | exact HB.out)⟩

/-- THE ONE PURE STATEMENT of ndjqlaw24_SchedFair: yours. -/
def ndjqlaw24_SchedFair.Pure : Prop := ∀ (l0 : List Int) (a1 : Int) (a2 : Int), l0.length ≤ maxLen → l0.length * 8 ≤ 140737488351232 → (∀ x ∈ l0, (Lit.int .i64 x).wf = true) → (Lit.int .i64 a1).wf = true → (Lit.int .i32 a2).wf = true → ∃ k, ndjqlaw24_SchedFair.f k l0 a1 a2 = some true
theorem ndjqlaw24_SchedFair.walk (P : ndjqlaw24_SchedFair.Pure) (a0 : Option Addr) (len0 cap0 : Nat) (z0 : List Int) (a1 : Int) (a2 : Int) (w : World) (w0 : (a0 = none ∧ len0 = 0 ∧ cap0 = 0 ∧ z0 = []) ∨ ∃ x, a0 = some x ∧ len0 ≤ cap0 ∧ cap0 ≤ maxLen ∧ z0.length = cap0 ∧ (∀ i, i < z0.length → w.cell? (x.add i) = some (.int .i64 (z0.getD i 0))) ∧ ∀ n ∈ z0, (Lit.int .i64 n).wf = true) (y0 : len0 * 8 ≤ 140737488351232) (w1 : (Lit.int .i64 a1).wf = true) (w2 : (Lit.int .i32 a2).wf = true) :
  Calls Try.prog 4 #[.slice a0 len0 cap0, .int .i64 a1, .int .i32 a2] w fun e w' => e = .returned (.bool true) ∧ Below w.heap.size w w' := by
 obtain ⟨l0, rfl, hr0, hm0, hw0, hc0⟩ := ReadsInt.ofRowC w0
 obtain ⟨k, h⟩ := P l0 a1 a2 hm0 y0 hw0 w1 w2
 refine (ndjqlaw24_SchedFair.calls k _ _ l0 a1 a2 true w (Kd.C_of_reads (d := (0 : Int)) (h1 := fun _ => rfl) hr0) hc0 h).mono ?_
 rintro e w' ⟨rfl, hd⟩
 exact ⟨rfl, hd⟩

end Go.Proofs.Ytgfaakecfkfcaaa.QSchedFair
