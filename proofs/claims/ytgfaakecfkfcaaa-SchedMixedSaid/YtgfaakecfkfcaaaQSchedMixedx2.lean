-- by a program of this session (print2.py): the machine's side of one law; Lean checks it.
import Derived.Test.YtgfaakecfkfcaaaQSchedMixedx0
import Derived.Test.YtgfaakecfkfcaaaQSchedMixedx1
namespace Go.Proofs.Ytgfaakecfkfcaaa.QSchedMixed
open Go.RowKit Go.Proofs.YtgfaakecfkfcaaaW.PrintWords Go.Proofs.YtgfaakecfkfcaaaW.PrintLast Go.Proofs.YtgfaakecfkfcaaaW.PrintMore
attribute [local go_sem] max2_int min2_int max_two min_two max_three min_three max_four min_four   -- for this text's walks alone
set_option linter.unusedVariables false
set_option linter.unusedSimpArgs false

/-! ### ndjqlaw24_awake: function 7 -/
def ndjqlaw24_awake.f (k : Nat)  : Option (Bool) := (sched_Choose.f (([2, 5, 7] : List Int)) (-1)).bind fun bt108 => ((sched_Choose.f (([2, 5, 7] : List Int)) 4).bind fun bt113 => (if bt108.2 = true then (if bt113.2 = true then (if bt108.1 = 7 then (if bt113.1 = 5 then ((sched_Round.f 2 5).bind fun t115 => ((ndjqkeep_Ints.f k t115 (([0, 1, 0, 1, 0] : List Int))).bind fun t121 => (some t121))) else (some false)) else (some false)) else (some false)) else (some false)))
theorem ndjqlaw24_awake.mono : ∀ k, LeO (ndjqlaw24_awake.f k ) (ndjqlaw24_awake.f (k + 1) ) := by
  intro  k
  unfold ndjqlaw24_awake.f
  repeat' first
      | (with_reducible exact ndjqkeep_Ints.mono _ _ _)
      | (with_reducible exact LeO.refl _)
      | (with_reducible exact LeO.none _)
      | (with_reducible refine LeO.ite ?_ ?_)
      | (with_reducible refine LeO.bind ?_ (fun _ => ?_))
      | exact ndjqkeep_Ints.mono _ _ _
      | exact LeO.none _
      | refine LeO.ite ?_ ?_
      | refine LeO.bind ?_ (fun _ => ?_)
set_option maxHeartbeats 8000000 in
set_option maxRecDepth 100000 in
theorem ndjqlaw24_awake.calls (k : Nat)  (r : Bool) (w : World) (h : ndjqlaw24_awake.f k  = some r) :
    Calls Try.prog 7 #[] w fun e w' => e = .returned (.bool r) ∧ Below w.heap.size w w' := by
  have HB := Aside0.mk (Below.refl w.heap.size w)
  have H : ((sched_Choose.f (([2, 5, 7] : List Int)) (-1)).bind fun bt108 => ((sched_Choose.f (([2, 5, 7] : List Int)) 4).bind fun bt113 => (if bt108.2 = true then (if bt113.2 = true then (if bt108.1 = 7 then (if bt113.1 = 5 then ((sched_Round.f 2 5).bind fun t115 => ((ndjqkeep_Ints.f k t115 (([0, 1, 0, 1, 0] : List Int))).bind fun t121 => (some t121))) else (some false)) else (some false)) else (some false)) else (some false)))) = some r := h
  clear h
  obtain ⟨y105, hy105⟩ : ∃ y_ : List Int, y_ = (([2, 5, 7] : List Int)) := ⟨_, rfl⟩
  replace H : ((sched_Choose.f y105 (-1)).bind fun bt108 => ((sched_Choose.f (([2, 5, 7] : List Int)) 4).bind fun bt113 => (if bt108.2 = true then (if bt113.2 = true then (if bt108.1 = 7 then (if bt113.1 = 5 then ((sched_Round.f 2 5).bind fun t115 => ((ndjqkeep_Ints.f k t115 (([0, 1, 0, 1, 0] : List Int))).bind fun t121 => (some t121))) else (some false)) else (some false)) else (some false)) else (some false)))) = some r := by first | (rw [hy105]; with_reducible exact H) | (have H2_ := (Option.bind_some _ _).symm.trans H; rw [hy105]; with_reducible exact H2_) | (have H2_ := (Option.bind_some _ _).symm.trans H; with_reducible exact H2_) | with_reducible exact H | (rw [hy105]; exact H) | exact H
  have Ny105 := Aside0.mk hy105
  clear hy105
  replace H := Option.bind_eq_some_iff.mp H
  obtain ⟨⟨t108, t109⟩, A10, H⟩ := H
  replace H : ((sched_Choose.f (([2, 5, 7] : List Int)) 4).bind fun bt113 => (if t109 = true then (if bt113.2 = true then (if t108 = 7 then (if bt113.1 = 5 then ((sched_Round.f 2 5).bind fun t115 => ((ndjqkeep_Ints.f k t115 (([0, 1, 0, 1, 0] : List Int))).bind fun t121 => (some t121))) else (some false)) else (some false)) else (some false)) else (some false))) = some r := H
  have A1 := Aside0.mk A10
  clear A10
  obtain ⟨y110, hy110⟩ : ∃ y_ : List Int, y_ = (([2, 5, 7] : List Int)) := ⟨_, rfl⟩
  replace H : ((sched_Choose.f y110 4).bind fun bt113 => (if t109 = true then (if bt113.2 = true then (if t108 = 7 then (if bt113.1 = 5 then ((sched_Round.f 2 5).bind fun t115 => ((ndjqkeep_Ints.f k t115 (([0, 1, 0, 1, 0] : List Int))).bind fun t121 => (some t121))) else (some false)) else (some false)) else (some false)) else (some false))) = some r := by first | (rw [hy110]; with_reducible exact H) | (have H2_ := (Option.bind_some _ _).symm.trans H; rw [hy110]; with_reducible exact H2_) | (have H2_ := (Option.bind_some _ _).symm.trans H; with_reducible exact H2_) | with_reducible exact H | (rw [hy110]; exact H) | exact H
  have Ny110 := Aside0.mk hy110
  clear hy110
  replace H := Option.bind_eq_some_iff.mp H
  obtain ⟨⟨t113, t114⟩, A20, H⟩ := H
  replace H : (if t109 = true then (if t114 = true then (if t108 = 7 then (if t113 = 5 then ((sched_Round.f 2 5).bind fun t115 => ((ndjqkeep_Ints.f k t115 (([0, 1, 0, 1, 0] : List Int))).bind fun t121 => (some t121))) else (some false)) else (some false)) else (some false)) else (some false)) = some r := H
  have A2 := Aside0.mk A20
  clear A20
  have HF3 := Aside0.mk H
  clear H
  go_enter Try.func7, Try.ntmps7
  go_wp2_with (first | ((with_reducible refine gate_dst (N := 6) rfl ?_); (try (refine gate_guard (by rfl) ?_; dsimp only)); refine Kd.R_lit (Kd.int .i64) _ 3 ?hg (N := 6) ?hd (xs := ([2, 5, 7] : List Int)) (inner := [.int .i64 2, .int .i64 5, .int .i64 7]) (ok := fun _ => True) (okp := fun _ => True) ?hr ?hp (fun _ hk => hk) trivial (Below.refl _ _) (Nat.le_refl _) (by simp) ?_; (case hd => rfl); (case hg => rfl); (case hr => first | (go_simp; done) | (go_simp; rfl)); (case hp => exact (Reps.one (show Kd.M (Kd.int .i64) _ _ _ 2 [.int .i64 2] from rfl) (Reps.one (show Kd.M (Kd.int .i64) _ _ _ 5 [.int .i64 5] from rfl) (Reps.one (show Kd.M (Kd.int .i64) _ _ _ 7 [.int .i64 7] from rfl) (Reps.none _ _))))); intro v106 w4 ho5 hb hg_ hnew_; clear hg_ hnew_; (first | rw [← Ny105.out] at ho5 | (simp only [Int.reduceToNat] at ho5; rw [← Ny105.out] at ho5)); have n0_ := Aside0.mk (Kd.R_lower ho5 (below_size (by repeat (first | (with_reducible first | exact HB.out | apply below_alloc | apply pw_below_drewN | apply below_drew1) | exact HB.out)))); have n1_ := Aside0.mk (below_step (by repeat (first | (with_reducible first | exact HB.out | apply below_alloc | apply pw_below_drewN | apply below_drew1) | exact HB.out)) hb); clear HB; have HO107 := n0_; have HB := n1_; clear n0_ n1_; clear hb ho5; obtain ⟨Ao6, co6, eo6⟩ := Kd.R_slice HO107.out; subst eo6) | ((with_reducible refine gate_callee (f := 8) rfl ?_); refine goesL_ (some 7) rfl rfl Try.func8 (by kernel_rfl) rfl #[.slice Ao6 y105.length co6, .int .i64 (-1)] rfl (by (try simp only [List.map_toArray, List.map_cons, List.map_nil]); first | done | rfl | (simp only [List.length_drop, List.length_take]; rfl)) ?_; (with_reducible refine (sched_Choose.calls _ _ y105 (-1) t108 t109 _ ?side1 ?side2 A1.out).mono ?_); (case side1 => repeat (first | exact (Kd.R_reads' HO107.out).2.2 | (with_reducible refine Kd.C_alloc ?_ _) | (with_reducible refine Kd.C_drewN ?_ _) | (with_reducible refine Kd.C_drew ?_))); (case side2 => exact (Kd.R_reads' HO107.out).2.1); rintro e w' ⟨rfl, ⟨nd, rfl⟩⟩; refine ⟨_, rfl, ?_⟩) | ((with_reducible refine gate_dst (N := 11) rfl ?_); (try (refine gate_guard (by rfl) ?_; dsimp only)); refine Kd.R_lit (Kd.int .i64) _ 3 ?hg (N := 11) ?hd (xs := ([2, 5, 7] : List Int)) (inner := [.int .i64 2, .int .i64 5, .int .i64 7]) (ok := fun _ => True) (okp := fun _ => True) ?hr ?hp (fun _ hk => hk) trivial (Below.refl _ _) (Nat.le_refl _) (by simp) ?_; (case hd => rfl); (case hg => rfl); (case hr => first | (go_simp; done) | (go_simp; rfl)); (case hp => exact (Reps.one (show Kd.M (Kd.int .i64) _ _ _ 2 [.int .i64 2] from rfl) (Reps.one (show Kd.M (Kd.int .i64) _ _ _ 5 [.int .i64 5] from rfl) (Reps.one (show Kd.M (Kd.int .i64) _ _ _ 7 [.int .i64 7] from rfl) (Reps.none _ _))))); intro v111 w7 ho8 hb hg_ hnew_; clear hg_ hnew_; (first | rw [← Ny110.out] at ho8 | (simp only [Int.reduceToNat] at ho8; rw [← Ny110.out] at ho8)); have n0_ := Aside0.mk (Kd.R_elder' (by (with_reducible repeat (first | apply Kd.R_alloc | apply Kd.R_drewN | apply Kd.R_drew)); exact HO107.out) (Kd.R_base ho8) hb); have n1_ := Aside0.mk (Kd.R_lower (Kd.R_new' ho8 (Kd.R_lt (by (with_reducible repeat (first | apply Kd.R_alloc | apply Kd.R_drewN | apply Kd.R_drew)); exact HO107.out))) (below_size (by repeat (first | (with_reducible first | exact HB.out | apply below_alloc | apply pw_below_drewN | apply below_drew1) | exact HB.out)))); have n2_ := Aside0.mk (below_step (by repeat (first | (with_reducible first | exact HB.out | apply below_alloc | apply pw_below_drewN | apply below_drew1) | exact HB.out)) hb); clear HO107; clear HB; have HO107 := n0_; have HO112 := n1_; have HB := n2_; clear n0_ n1_ n2_; clear hb ho8))
  have H := HF3.out
  clear HF3
  by_cases c9 : t109 = true
  · subst c9
    have H1 : (if t114 = true then (if t108 = 7 then (if t113 = 5 then ((sched_Round.f 2 5).bind fun t115 => ((ndjqkeep_Ints.f k t115 (([0, 1, 0, 1, 0] : List Int))).bind fun t121 => (some t121))) else (some false)) else (some false)) else (some false)) = some r := by rw [if_pos rfl] at H; exact H
    clear H
    have H := H1
    clear H1
    by_cases c10 : t114 = true
    · subst c10
      have H1 : (if t108 = 7 then (if t113 = 5 then ((sched_Round.f 2 5).bind fun t115 => ((ndjqkeep_Ints.f k t115 (([0, 1, 0, 1, 0] : List Int))).bind fun t121 => (some t121))) else (some false)) else (some false)) = some r := by rw [if_pos rfl] at H; exact H
      clear H
      have H := H1
      clear H1
      by_cases c11 : t108 = 7
      · rw [if_pos c11] at H
        have c11b0 : (t108 == 7) = true := beq_iff_eq.mpr c11
        have c11b1 : (t108 != 7) = false := bne_eq_false_iff_eq.mpr c11
        clear c11
        by_cases c12 : t113 = 5
        · rw [if_pos c12] at H
          have c12b0 : (t113 == 5) = true := beq_iff_eq.mpr c12
          have c12b1 : (t113 != 5) = false := bne_eq_false_iff_eq.mpr c12
          clear c12
          replace H := Option.bind_eq_some_iff.mp H
          obtain ⟨t115, A130, H⟩ := H
          replace H : ((ndjqkeep_Ints.f k t115 (([0, 1, 0, 1, 0] : List Int))).bind fun t121 => (some t121)) = some r := H
          have A13 := Aside0.mk A130
          clear A130
          obtain ⟨y118, hy118⟩ : ∃ y_ : List Int, y_ = (([0, 1, 0, 1, 0] : List Int)) := ⟨_, rfl⟩
          replace H : ((ndjqkeep_Ints.f k t115 y118).bind fun t121 => (some t121)) = some r := by first | (rw [hy118]; with_reducible exact H) | (have H2_ := (Option.bind_some _ _).symm.trans H; rw [hy118]; with_reducible exact H2_) | (have H2_ := (Option.bind_some _ _).symm.trans H; with_reducible exact H2_) | with_reducible exact H | (rw [hy118]; exact H) | exact H
          have Ny118 := Aside0.mk hy118
          clear hy118
          replace H := Option.bind_eq_some_iff.mp H
          obtain ⟨t121, A140, H⟩ := H
          replace H : (some t121) = some r := H
          have A14 := Aside0.mk A140
          clear A140
          obtain rfl := Option.some.inj H
          obtain ⟨Ao15, co15, eo15⟩ := Kd.R_slice HO112.out
          subst eo15
          go_wp2_with (first | (go_at_call 8; (with_reducible refine (sched_Choose.calls _ _ y110 4 t113 true _ ?side1 ?side2 A2.out).mono ?_); (case side1 => repeat (first | exact (Kd.R_reads' HO112.out).2.2 | (with_reducible refine Kd.C_alloc ?_ _) | (with_reducible refine Kd.C_drewN ?_ _) | (with_reducible refine Kd.C_drew ?_))); (case side2 => exact (Kd.R_reads' HO112.out).2.1); rintro e w' ⟨rfl, ⟨nd, rfl⟩⟩) | (go_at_call 14; (with_reducible refine (sched_Round.calls 2 5 t115 _ A13.out).mono ?_); rintro e w16 ⟨v116, rfl, ho0, hb⟩; have n0_ := Aside0.mk (Kd.R_elder' (by (with_reducible repeat (first | apply Kd.R_alloc | apply Kd.R_drewN | apply Kd.R_drew)); exact HO107.out) (Kd.R_base ho0) hb); have n1_ := Aside0.mk (Kd.R_elder' (by (with_reducible repeat (first | apply Kd.R_alloc | apply Kd.R_drewN | apply Kd.R_drew)); exact HO112.out) (Kd.R_base ho0) hb); have n2_ := Aside0.mk (Kd.R_lower (Kd.R_new' (Kd.R_new' ho0 (Kd.R_lt (by (with_reducible repeat (first | apply Kd.R_alloc | apply Kd.R_drewN | apply Kd.R_drew)); exact HO107.out))) (Kd.R_lt (by (with_reducible repeat (first | apply Kd.R_alloc | apply Kd.R_drewN | apply Kd.R_drew)); exact HO112.out))) (below_size (by repeat (first | (with_reducible first | exact HB.out | apply below_alloc | apply pw_below_drewN | apply below_drew1) | exact HB.out)))); have n3_ := Aside0.mk (below_step (by repeat (first | (with_reducible first | exact HB.out | apply below_alloc | apply pw_below_drewN | apply below_drew1) | exact HB.out)) hb); clear HO107; clear HO112; clear HB; have HO107 := n0_; have HO112 := n1_; have HO117 := n2_; have HB := n3_; clear n0_ n1_ n2_ n3_; (try clear hb); (try clear hb2); (try clear hk); (try clear hi); (try clear ho0)) | ((with_reducible refine gate_dst (N := 29) rfl ?_); (try (refine gate_guard (by rfl) ?_; dsimp only)); refine Kd.R_lit (Kd.int .i64) _ 3 ?hg (N := 29) ?hd (xs := ([0, 1, 0, 1, 0] : List Int)) (inner := [.int .i64 0, .int .i64 1, .int .i64 0, .int .i64 1, .int .i64 0]) (ok := fun _ => True) (okp := fun _ => True) ?hr ?hp (fun _ hk => hk) trivial (Below.refl _ _) (Nat.le_refl _) (by simp) ?_; (case hd => rfl); (case hg => rfl); (case hr => first | (go_simp; done) | (go_simp; rfl)); (case hp => exact (Reps.one (show Kd.M (Kd.int .i64) _ _ _ 0 [.int .i64 0] from rfl) (Reps.one (show Kd.M (Kd.int .i64) _ _ _ 1 [.int .i64 1] from rfl) (Reps.one (show Kd.M (Kd.int .i64) _ _ _ 0 [.int .i64 0] from rfl) (Reps.one (show Kd.M (Kd.int .i64) _ _ _ 1 [.int .i64 1] from rfl) (Reps.one (show Kd.M (Kd.int .i64) _ _ _ 0 [.int .i64 0] from rfl) (Reps.none _ _))))))); intro v119 w17 ho18 hb hg_ hnew_; clear hg_ hnew_; (first | rw [← Ny118.out] at ho18 | (simp only [Int.reduceToNat] at ho18; rw [← Ny118.out] at ho18)); have n0_ := Aside0.mk (Kd.R_elder' (by (with_reducible repeat (first | apply Kd.R_alloc | apply Kd.R_drewN | apply Kd.R_drew)); exact HO107.out) (Kd.R_base ho18) hb); have n1_ := Aside0.mk (Kd.R_elder' (by (with_reducible repeat (first | apply Kd.R_alloc | apply Kd.R_drewN | apply Kd.R_drew)); exact HO112.out) (Kd.R_base ho18) hb); have n2_ := Aside0.mk (Kd.R_elder' (by (with_reducible repeat (first | apply Kd.R_alloc | apply Kd.R_drewN | apply Kd.R_drew)); exact HO117.out) (Kd.R_base ho18) hb); have n3_ := Aside0.mk (Kd.R_lower (Kd.R_new' (Kd.R_new' (Kd.R_new' ho18 (Kd.R_lt (by (with_reducible repeat (first | apply Kd.R_alloc | apply Kd.R_drewN | apply Kd.R_drew)); exact HO107.out))) (Kd.R_lt (by (with_reducible repeat (first | apply Kd.R_alloc | apply Kd.R_drewN | apply Kd.R_drew)); exact HO112.out))) (Kd.R_lt (by (with_reducible repeat (first | apply Kd.R_alloc | apply Kd.R_drewN | apply Kd.R_drew)); exact HO117.out))) (below_size (by repeat (first | (with_reducible first | exact HB.out | apply below_alloc | apply pw_below_drewN | apply below_drew1) | exact HB.out)))); have n4_ := Aside0.mk (below_step (by repeat (first | (with_reducible first | exact HB.out | apply below_alloc | apply pw_below_drewN | apply below_drew1) | exact HB.out)) hb); clear HO107; clear HO112; clear HO117; clear HB; have HO107 := n0_; have HO112 := n1_; have HO117 := n2_; have HO120 := n3_; have HB := n4_; clear n0_ n1_ n2_ n3_ n4_; clear hb ho18; obtain ⟨Ao19, co19, eo19⟩ := Kd.R_slice HO117.out; subst eo19; obtain ⟨Ao20, co20, eo20⟩ := Kd.R_slice HO120.out; subst eo20) | (go_at_call 13; (with_reducible refine (ndjqkeep_Ints.calls k _ _ t115 _ _ y118 t121 _ ?side1 ?side2 ?side3 ?side4 A14.out).mono ?_); (case side1 => repeat (first | exact (Kd.R_reads' HO117.out).2.2 | (with_reducible refine Kd.C_alloc ?_ _) | (with_reducible refine Kd.C_drewN ?_ _) | (with_reducible refine Kd.C_drew ?_))); (case side2 => exact (Kd.R_reads' HO117.out).2.1); (case side3 => repeat (first | exact (Kd.R_reads' HO120.out).2.2 | (with_reducible refine Kd.C_alloc ?_ _) | (with_reducible refine Kd.C_drewN ?_ _) | (with_reducible refine Kd.C_drew ?_))); (case side4 => exact (Kd.R_reads' HO120.out).2.1); rintro e w' ⟨rfl, ⟨nd, rfl⟩⟩))
          go_ret
          exact ⟨by first | rfl | (simp [errW_none, errW_some] <;> rfl) | (simp [*, errW_none, errW_some] <;> rfl), by repeat (first | (with_reducible first | exact HB.out | apply below_alloc | apply pw_below_drewN | apply below_drew1) | exact HB.out)⟩
        · rw [if_neg c12] at H
          have c12b0 : (t113 == 5) = false := beq_eq_false_iff_ne.mpr c12
          have c12b1 : (t113 != 5) = true := bne_iff_ne.mpr c12
          obtain rfl := Option.some.inj H
          obtain ⟨Ao21, co21, eo21⟩ := Kd.R_slice HO112.out
          subst eo21
          go_wp2_with (first | (go_at_call 8; (with_reducible refine (sched_Choose.calls _ _ y110 4 t113 true _ ?side1 ?side2 A2.out).mono ?_); (case side1 => repeat (first | exact (Kd.R_reads' HO112.out).2.2 | (with_reducible refine Kd.C_alloc ?_ _) | (with_reducible refine Kd.C_drewN ?_ _) | (with_reducible refine Kd.C_drew ?_))); (case side2 => exact (Kd.R_reads' HO112.out).2.1); rintro e w' ⟨rfl, ⟨nd, rfl⟩⟩))
          go_ret
          exact ⟨by first | rfl | (simp [errW_none, errW_some] <;> rfl) | (simp [*, errW_none, errW_some] <;> rfl), by repeat (first | (with_reducible first | exact HB.out | apply below_alloc | apply pw_below_drewN | apply below_drew1) | exact HB.out)⟩
      · rw [if_neg c11] at H
        have c11b0 : (t108 == 7) = false := beq_eq_false_iff_ne.mpr c11
        have c11b1 : (t108 != 7) = true := bne_iff_ne.mpr c11
        obtain rfl := Option.some.inj H
        obtain ⟨Ao22, co22, eo22⟩ := Kd.R_slice HO112.out
        subst eo22
        go_wp2_with (first | (go_at_call 8; (with_reducible refine (sched_Choose.calls _ _ y110 4 t113 true _ ?side1 ?side2 A2.out).mono ?_); (case side1 => repeat (first | exact (Kd.R_reads' HO112.out).2.2 | (with_reducible refine Kd.C_alloc ?_ _) | (with_reducible refine Kd.C_drewN ?_ _) | (with_reducible refine Kd.C_drew ?_))); (case side2 => exact (Kd.R_reads' HO112.out).2.1); rintro e w' ⟨rfl, ⟨nd, rfl⟩⟩))
        go_ret
        exact ⟨by first | rfl | (simp [errW_none, errW_some] <;> rfl) | (simp [*, errW_none, errW_some] <;> rfl), by repeat (first | (with_reducible first | exact HB.out | apply below_alloc | apply pw_below_drewN | apply below_drew1) | exact HB.out)⟩
    · replace c10 := Bool.eq_false_iff.mpr c10
      subst c10
      have H1 : (some false) = some r := by rw [if_neg (show ¬ (false = true) by decide)] at H; exact H
      clear H
      have H := H1
      clear H1
      obtain rfl := Option.some.inj H
      obtain ⟨Ao23, co23, eo23⟩ := Kd.R_slice HO112.out
      subst eo23
      go_wp2_with (first | (go_at_call 8; (with_reducible refine (sched_Choose.calls _ _ y110 4 t113 false _ ?side1 ?side2 A2.out).mono ?_); (case side1 => repeat (first | exact (Kd.R_reads' HO112.out).2.2 | (with_reducible refine Kd.C_alloc ?_ _) | (with_reducible refine Kd.C_drewN ?_ _) | (with_reducible refine Kd.C_drew ?_))); (case side2 => exact (Kd.R_reads' HO112.out).2.1); rintro e w' ⟨rfl, ⟨nd, rfl⟩⟩))
      go_ret
      exact ⟨by first | rfl | (simp [errW_none, errW_some] <;> rfl) | (simp [*, errW_none, errW_some] <;> rfl), by repeat (first | (with_reducible first | exact HB.out | apply below_alloc | apply pw_below_drewN | apply below_drew1) | exact HB.out)⟩
  · replace c9 := Bool.eq_false_iff.mpr c9
    subst c9
    have H1 : (some false) = some r := by rw [if_neg (show ¬ (false = true) by decide)] at H; exact H
    clear H
    have H := H1
    clear H1
    obtain rfl := Option.some.inj H
    obtain ⟨Ao24, co24, eo24⟩ := Kd.R_slice HO112.out
    subst eo24
    go_wp2_with (first | (go_at_call 8; (with_reducible refine (sched_Choose.calls _ _ y110 4 t113 t114 _ ?side1 ?side2 A2.out).mono ?_); (case side1 => repeat (first | exact (Kd.R_reads' HO112.out).2.2 | (with_reducible refine Kd.C_alloc ?_ _) | (with_reducible refine Kd.C_drewN ?_ _) | (with_reducible refine Kd.C_drew ?_))); (case side2 => exact (Kd.R_reads' HO112.out).2.1); rintro e w' ⟨rfl, ⟨nd, rfl⟩⟩))
    go_ret
    exact ⟨by first | rfl | (simp [errW_none, errW_some] <;> rfl) | (simp [*, errW_none, errW_some] <;> rfl), by repeat (first | (with_reducible first | exact HB.out | apply below_alloc | apply pw_below_drewN | apply below_drew1) | exact HB.out)⟩

/-! ### ndjqkeep_Mod: function 12 -/
def ndjqkeep_Mod.f (a0 : Int) (a1 : Int) : Option (Int) := if a1 = 0 then (none) else (if (Int.tmod a0 a1) < 0 then (some (wrap64 ((Int.tmod a0 a1) + a1))) else (some (Int.tmod a0 a1)))
set_option maxHeartbeats 8000000 in
set_option maxRecDepth 100000 in
theorem ndjqkeep_Mod.calls (a0 : Int) (a1 : Int) (r : Int) (w : World) (h : ndjqkeep_Mod.f a0 a1 = some r) :
    Calls Try.prog 12 #[.int .i64 a0, .int .i64 a1] w fun e w' => e = .returned (.int .i64 r) ∧ Drawn0 w w' := by
  have H : (if a1 = 0 then (none) else (if (Int.tmod a0 a1) < 0 then (some (wrap64 ((Int.tmod a0 a1) + a1))) else (some (Int.tmod a0 a1)))) = some r := h
  clear h
  by_cases c3 : a1 = 0
  · rw [if_pos c3] at H
    exact absurd H (by simp)
  · rw [if_neg c3] at H
    have c3b0 : (a1 == 0) = false := beq_eq_false_iff_ne.mpr c3
    have c3b1 : (a1 != 0) = true := bne_iff_ne.mpr c3
    by_cases c4 : (Int.tmod a0 a1) < 0
    · rw [if_pos c4] at H
      have c4b0 : decide ((Int.tmod a0 a1) < 0) = true := decide_eq_true c4
      clear c4
      obtain rfl := Option.some.inj H
      go_enter Try.func12, Try.ntmps12
      go_wp2
      go_ret
      exact ⟨by first | rfl | (simp; done) | (simp [*]; done), by repeat (first | exact Drawn0.refl _ | apply Drawn0.step)⟩
    · rw [if_neg c4] at H
      have c4b0 : decide ((Int.tmod a0 a1) < 0) = false := decide_eq_false c4
      clear c4
      obtain rfl := Option.some.inj H
      go_enter Try.func12, Try.ntmps12
      go_wp2
      go_ret
      exact ⟨by first | rfl | (simp; done) | (simp [*]; done), by repeat (first | exact Drawn0.refl _ | apply Drawn0.step)⟩

/-! ### sched_Mix: function 16 -/
def sched_Mix.f (a0 a1 : Int) : Option (List Int) := if a1 < 1 then some [] else if a1 > 1048576 then some [] else some (mixL a0 a1.toNat)
section
open Go Go.Shelf
attribute [local go_sem] Oper.semAt_some
set_option maxHeartbeats 1000000 in
theorem mixIn (a0 a1 : Int) (r : List Int) (w : World) (h : sched_Mix.f a0 a1 = some r) : CallsIn Fence.wide 9 Try.prog 16 #[.int .u64 a0, .int .i64 a1] w fun e w' => ∃ v, e = .returned v ∧ w'.ownsRow w.heap.size 3 1 v r.length (r.map (Value.int .i64)) ∧ Below w.heap.size w w' := by
  obtain ⟨W, hW⟩ : ∃ W, w.alloc (.cells #[.int .u64 a0] 29) = W := ⟨_, rfl⟩
  have hs : W.heap.size = w.heap.size + 1 := by rw [← hW]; simp
  have h0 : W.heap[w.heap.size]? = some (.cells #[.int .u64 a0] 29 (0, 0)) := by rw [← hW]; exact World.alloc_heap_new w _
  have hb : Below w.heap.size w W := by rw [← hW]; exact (Below.refl _ w).alloc (Nat.le_refl _) _
  have hC : Aside (CallsIn Fence.wide 8 Try.prog 18 #[.int .i64 a1, .func (.func 20) #[] #[.pointer (some ⟨w.heap.size, 0, none⟩)]] W fun e W' => ∃ v, e = .returned v ∧ W'.ownsRow w.heap.size 3 1 v r.length (r.map (Value.int .i64)) ∧ Below w.heap.size W W') := by
    unfold sched_Mix.f at h
    by_cases c : a1 < 1 ∨ a1 > 1048576
    · have e : r = [] := by
        rcases c with c | c
        · rw [if_pos c] at h; exact (Option.some.inj h).symm
        · rw [if_neg (by omega), if_pos c] at h; exact (Option.some.inj h).symm
      subst e
      refine (collectedBad Fence.wide rfl trivial _ a1 _ W c).mono ?_
      rintro e W' ⟨rfl, rfl⟩
      exact ⟨_, rfl, ⟨rfl, .inl ⟨rfl, rfl⟩⟩, Below.refl _ _⟩
    · rw [if_neg (by omega), if_neg (by omega)] at h
      obtain rfl := Option.some.inj h
      refine (collectedGood Fence.wide rfl rfl (fun _ => trivial) 20 eg20 _ w.heap.size a1 (.int .u64 a0) 29 (mixL a0 a1.toNat) W hs h0 (by omega) (fun m fn1 fn2 sv1 sv2 W2 h1 h2 hat hse => mix1 Fence.wide rfl rfl trivial m _ a1 fn1 fn2 h1 h2 sv1 sv2 a0 W2 hat hse (by omega))).mono ?_
      rintro e W' ⟨v, rfl, hr, hb'⟩
      refine ⟨v, rfl, ⟨hr.1, ?_⟩, hb'⟩
      rcases hr.2 with q | ⟨g, cap, cur, q1, q2, q3⟩
      · exact .inl q
      · exact .inr ⟨g, cap, cur, q1, by omega, q3⟩
  have hB := Aside.mk0 hb
  have hd : Fence.wide.depth = none := rfl
  refine callsIn_of_wp Try.func16 rfl trivial ?_ rfl
  simp only [Try.ntmps16, List.size_toArray, List.length_cons, List.length_nil, Nat.reduceAdd, Nat.reduceSub, Array.replicate_succ, Array.replicate_zero, List.push_toArray, List.append_toArray, List.nil_append, List.cons_append]
  rw [← hW] at hC hB
  clear hs h0 hb hW h
  gi_wp2
  refine ⟨trivial, hC.out.mono ?_⟩
  rintro e w' ⟨v, rfl, hrow, hb⟩
  gi_wp2
  go_ret
  exact ⟨v, rfl, hrow, hB.out.trans hb⟩
end
theorem sched_Mix.calls (a0 : Int) (a1 : Int) (r : List Int) (w : World) (h : sched_Mix.f a0 a1 = some r) :
    Calls Try.prog 16 #[.int .u64 a0, .int .i64 a1] w fun e w' => ∃ v0_ : Value, e = .returned (v0_) ∧ Kd.R (Kd.int .i64) 3 w' w.heap.size (fun _ => True) v0_ r ∧ Below w.heap.size w w' :=
  (callsIn_wide.1 (mixIn a0 a1 r w h)).mono fun e w' ⟨v, he, hr, hb⟩ => ⟨v, he, Kd.R_of_own (h1 := fun _ => rfl) (ok := fun _ => True) hr (fun _ _ => trivial), hb⟩

/-! ### ndjqlaw24_SchedMixed: function 6 -/
mutual
def ndjqlaw24_SchedMixed.j0 : Nat → Int → Int → Int → Option (Bool)
 | 0, _, _, _ => none
 | k + 1, x0, x1, x2 => (sched_Mix.f x0 x1).bind fun t124 => ((sched_Mix.f x0 x2).bind fun t127 => (if (t124.length : Int) = x1 then (if (t127.length : Int) = x2 then (if 0 ≤ x1 then (if x1 ≤ (t127.length : Int) then ((ndjqkeep_Ints.f k t124 (t127.take (x1 : Int).toNat)).bind fun t134 => (ndjqlaw24_SchedMixed.j1 k x2 t127 (!t134))) else (none)) else (none)) else (ndjqlaw24_SchedMixed.j1 k x2 t127 true)) else (ndjqlaw24_SchedMixed.j1 k x2 t127 true)))
def ndjqlaw24_SchedMixed.j1 : Nat → Int → List Int → Bool → Option (Bool)
 | 0, _, _, _ => none
 | k + 1, x2, x8, x44 => if x44 = true then (some false) else (ndjqlaw24_SchedMixed.l0 k x2 x8 0)
def ndjqlaw24_SchedMixed.l0 : Nat → Int → List Int → Int → Option (Bool)
 | 0, _, _, _ => none
 | k + 1, x2, x8, x9 => if x9 < x2 then (if 0 ≤ x9 then (if x9 < (x8.length : Int) then (if (rd x8 x9) < 0 then (some false) else (if (rd x8 x9) ≥ 2147483648 then (some false) else (ndjqlaw24_SchedMixed.l0 k x2 x8 (wrap64 (x9 + 1))))) else (none)) else (none)) else ((ndjqlaw24_awake.f k).bind fun t137 => (some t137))
end
def ndjqlaw24_SchedMixed.f (k : Nat) (a0 : Int) (a1 : Int) (a2 : Int) : Option (Bool) := (ndjqkeep_Mod.f a1 200).bind fun t122 => ((ndjqkeep_Mod.f a2 200).bind fun t123 => (if (wrap64 (t122 + 1)) > (wrap64 (t123 + 1)) then (ndjqlaw24_SchedMixed.j0 k a0 (wrap64 (t123 + 1)) (wrap64 (t122 + 1))) else (ndjqlaw24_SchedMixed.j0 k a0 (wrap64 (t122 + 1)) (wrap64 (t123 + 1)))))
theorem ndjqlaw24_SchedMixed.mono_l : ∀ k, (∀ y0 y1 y2, LeO (ndjqlaw24_SchedMixed.j0 k y0 y1 y2) (ndjqlaw24_SchedMixed.j0 (k + 1) y0 y1 y2)) ∧ (∀ y0 y1 y2, LeO (ndjqlaw24_SchedMixed.j1 k y0 y1 y2) (ndjqlaw24_SchedMixed.j1 (k + 1) y0 y1 y2)) ∧ (∀ y0 y1 y2, LeO (ndjqlaw24_SchedMixed.l0 k y0 y1 y2) (ndjqlaw24_SchedMixed.l0 (k + 1) y0 y1 y2))
 | 0 => ⟨fun _ _ _ r h => by simp [ndjqlaw24_SchedMixed.j0] at h, fun _ _ _ r h => by simp [ndjqlaw24_SchedMixed.j1] at h, fun _ _ _ r h => by simp [ndjqlaw24_SchedMixed.l0] at h⟩
 | k + 1 => by
  obtain ⟨ih0, ih1, ih2⟩ := ndjqlaw24_SchedMixed.mono_l k
  refine ⟨?_, ?_, ?_⟩
  ·intro y0 y1 y2
   unfold ndjqlaw24_SchedMixed.j0
   repeat' first
   | (with_reducible exact ih0 _ _ _)
   | (with_reducible exact ih1 _ _ _)
   | (with_reducible exact ih2 _ _ _)
   | (with_reducible exact ndjqkeep_Ints.mono _ _ _)
   | (with_reducible exact ndjqlaw24_awake.mono _)
   | (with_reducible exact LeO.refl _)
   | (with_reducible exact LeO.none _)
   | (with_reducible refine LeO.ite ?_ ?_)
   | (with_reducible refine LeO.bind ?_ (fun _ => ?_))
   | exact ih0 _ _ _
   | exact ih1 _ _ _
   | exact ih2 _ _ _
   | exact ndjqkeep_Ints.mono _ _ _
   | exact ndjqlaw24_awake.mono _
   | exact LeO.none _
   | refine LeO.ite ?_ ?_
   | refine LeO.bind ?_ (fun _ => ?_)
  ·intro y0 y1 y2
   unfold ndjqlaw24_SchedMixed.j1
   repeat' first
   | (with_reducible exact ih0 _ _ _)
   | (with_reducible exact ih1 _ _ _)
   | (with_reducible exact ih2 _ _ _)
   | (with_reducible exact ndjqkeep_Ints.mono _ _ _)
   | (with_reducible exact ndjqlaw24_awake.mono _)
   | (with_reducible exact LeO.refl _)
   | (with_reducible exact LeO.none _)
   | (with_reducible refine LeO.ite ?_ ?_)
   | (with_reducible refine LeO.bind ?_ (fun _ => ?_))
   | exact ih0 _ _ _
   | exact ih1 _ _ _
   | exact ih2 _ _ _
   | exact ndjqkeep_Ints.mono _ _ _
   | exact ndjqlaw24_awake.mono _
   | exact LeO.none _
   | refine LeO.ite ?_ ?_
   | refine LeO.bind ?_ (fun _ => ?_)
  ·intro y0 y1 y2
   unfold ndjqlaw24_SchedMixed.l0
   repeat' first
   | (with_reducible exact ih0 _ _ _)
   | (with_reducible exact ih1 _ _ _)
   | (with_reducible exact ih2 _ _ _)
   | (with_reducible exact ndjqkeep_Ints.mono _ _ _)
   | (with_reducible exact ndjqlaw24_awake.mono _)
   | (with_reducible exact LeO.refl _)
   | (with_reducible exact LeO.none _)
   | (with_reducible refine LeO.ite ?_ ?_)
   | (with_reducible refine LeO.bind ?_ (fun _ => ?_))
   | exact ih0 _ _ _
   | exact ih1 _ _ _
   | exact ih2 _ _ _
   | exact ndjqkeep_Ints.mono _ _ _
   | exact ndjqlaw24_awake.mono _
   | exact LeO.none _
   | refine LeO.ite ?_ ?_
   | refine LeO.bind ?_ (fun _ => ?_)
theorem ndjqlaw24_SchedMixed.mono : ∀ a0 a1 a2 k, LeO (ndjqlaw24_SchedMixed.f k a0 a1 a2) (ndjqlaw24_SchedMixed.f (k + 1) a0 a1 a2) := by
 intro a0 a1 a2 k
 obtain ⟨ih0, ih1, ih2⟩ := ndjqlaw24_SchedMixed.mono_l k
 unfold ndjqlaw24_SchedMixed.f
 repeat' first
   | (with_reducible exact ih0 _ _ _)
   | (with_reducible exact ih1 _ _ _)
   | (with_reducible exact ih2 _ _ _)
   | (with_reducible exact ndjqkeep_Ints.mono _ _ _)
   | (with_reducible exact ndjqlaw24_awake.mono _)
   | (with_reducible exact LeO.refl _)
   | (with_reducible exact LeO.none _)
   | (with_reducible refine LeO.ite ?_ ?_)
   | (with_reducible refine LeO.bind ?_ (fun _ => ?_))
   | exact ih0 _ _ _
   | exact ih1 _ _ _
   | exact ih2 _ _ _
   | exact ndjqkeep_Ints.mono _ _ _
   | exact ndjqlaw24_awake.mono _
   | exact LeO.none _
   | refine LeO.ite ?_ ?_
   | refine LeO.bind ?_ (fun _ => ?_)
set_option maxHeartbeats 8000000 in
set_option maxRecDepth 100000 in
theorem ndjqlaw24_SchedMixed.calls (k : Nat) (a0 : Int) (a1 : Int) (a2 : Int) (r : Bool) (w : World) (h : ndjqlaw24_SchedMixed.f k a0 a1 a2 = some r) :
  Calls Try.prog 6 #[.int .u64 a0, .int .i64 a1, .int .i64 a2] w fun e w' => e = .returned (.bool r) ∧ Below w.heap.size w w' := by
 have HB := Aside0.mk (Below.refl w.heap.size w)
 have H : ((ndjqkeep_Mod.f a1 200).bind fun t122 => ((ndjqkeep_Mod.f a2 200).bind fun t123 => (if (wrap64 (t122 + 1)) > (wrap64 (t123 + 1)) then (ndjqlaw24_SchedMixed.j0 k a0 (wrap64 (t123 + 1)) (wrap64 (t122 + 1))) else (ndjqlaw24_SchedMixed.j0 k a0 (wrap64 (t122 + 1)) (wrap64 (t123 + 1)))))) = some r := h
 clear h
 replace H := Option.bind_eq_some_iff.mp H
 obtain ⟨t122, A40, H⟩ := H
 replace H : ((ndjqkeep_Mod.f a2 200).bind fun t123 => (if (wrap64 (t122 + 1)) > (wrap64 (t123 + 1)) then (ndjqlaw24_SchedMixed.j0 k a0 (wrap64 (t123 + 1)) (wrap64 (t122 + 1))) else (ndjqlaw24_SchedMixed.j0 k a0 (wrap64 (t122 + 1)) (wrap64 (t123 + 1))))) = some r := H
 have A4 := Aside0.mk A40
 clear A40
 replace H := Option.bind_eq_some_iff.mp H
 obtain ⟨t123, A50, H⟩ := H
 replace H : (if (wrap64 (t122 + 1)) > (wrap64 (t123 + 1)) then (ndjqlaw24_SchedMixed.j0 k a0 (wrap64 (t123 + 1)) (wrap64 (t122 + 1))) else (ndjqlaw24_SchedMixed.j0 k a0 (wrap64 (t122 + 1)) (wrap64 (t123 + 1)))) = some r := H
 have A5 := Aside0.mk A50
 clear A50
 have HC6 := Aside0.mk H
 clear H
 go_enter Try.func6, Try.ntmps6
 go_upto_if 18 with (first | ((with_reducible refine gate_callee (f := 12) rfl ?_); refine goesL_ (some 11) rfl rfl Try.func12 (by kernel_rfl) rfl #[.int .i64 a1, .int .i64 200] rfl (by (try simp only [List.map_toArray, List.map_cons, List.map_nil]); first | done | rfl | (simp only [List.length_drop, List.length_take]; rfl)) ?_; (with_reducible refine (ndjqkeep_Mod.calls a1 200 t122 _ A4.out).mono ?_); rintro e w' ⟨rfl, ⟨nd, rfl⟩⟩; refine ⟨_, rfl, ?_⟩) | ((with_reducible refine gate_callee (f := 12) rfl ?_); refine goesL_ (some 14) rfl rfl Try.func12 (by kernel_rfl) rfl #[.int .i64 a2, .int .i64 200] rfl (by (try simp only [List.map_toArray, List.map_cons, List.map_nil]); first | done | rfl | (simp only [List.length_drop, List.length_take]; rfl)) ?_; (with_reducible refine (ndjqkeep_Mod.calls a2 200 t123 _ A5.out).mono ?_); rintro e w' ⟨rfl, ⟨nd, rfl⟩⟩; refine ⟨_, rfl, ?_⟩))
 (try simp only [Act.put, List.setIfInBounds_toArray, List.set_cons_zero, List.set_cons_succ])
 go_cut [1, 2] (fun v1 v2 wc => ∃ (kq : Nat) (x1_5 : Int) (x2_5 : Int), v1 = .int .i64 x1_5 ∧ v2 = .int .i64 x2_5 ∧ Aside0 (ndjqlaw24_SchedMixed.j0 kq a0 x1_5 x2_5 = some r) ∧ Aside0 (kq ≤ k) ∧ Aside0 (Below w.heap.size w wc))
 case first =>
  have H := HC6.out
  clear HC6
  by_cases c7 : (wrap64 (t122 + 1)) > (wrap64 (t123 + 1))
  ·rw [if_pos c7] at H
   have c7b0 : decide ((wrap64 (t123 + 1)) < (wrap64 (t122 + 1))) = true := decide_eq_true c7
   clear c7
   (first | rw [c7b0] | (simp only [i64_w, i32_w]; rw [c7b0]) | skip)
   have H' := Aside0.mk H
   clear H
   go_wp2
   go_meet
   case rel => exact ⟨_, (wrap64 (t123 + 1)), (wrap64 (t122 + 1)), (by first | rfl | (simp; done) | (simp [*]; done)), (by first | rfl | (simp; done) | (simp [*]; done)), H', ⟨by first | omega | exact Nat.le_refl _⟩, ⟨by repeat (first | (with_reducible first | exact HB.out | apply wA | apply wN | apply wD) | exact HB.out)⟩⟩
  ·rw [if_neg c7] at H
   have c7b0 : decide ((wrap64 (t123 + 1)) < (wrap64 (t122 + 1))) = false := decide_eq_false c7
   clear c7
   (first | rw [c7b0] | (simp only [i64_w, i32_w]; rw [c7b0]) | skip)
   have H' := Aside0.mk H
   clear H
   go_wp2
   go_meet
   case rel => exact ⟨_, (wrap64 (t122 + 1)), (wrap64 (t123 + 1)), (by first | rfl | (simp; done) | (simp [*]; done)), (by first | rfl | (simp; done) | (simp [*]; done)), H', ⟨by first | omega | exact Nat.le_refl _⟩, ⟨by repeat (first | (with_reducible first | exact HB.out | apply wA | apply wN | apply wD) | exact HB.out)⟩⟩
 case rest =>
  clear HC6
  (try clear c1); (try clear p2); (try clear c6); (try clear p6); (try clear c7); (try clear c7b0)
  obtain ⟨kq, x1_5, x2_5, rfl, rfl, HA, HJ5, HB⟩ := hcut
  cases kq with
  | zero => exact absurd HA.out (by simp [ndjqlaw24_SchedMixed.j0])
  | succ kj5 =>
   have H := HA.out
   clear HA
   simp only [ndjqlaw24_SchedMixed.j0] at H
   replace H := Option.bind_eq_some_iff.mp H
   obtain ⟨t124, A80, H⟩ := H
   replace H : ((sched_Mix.f a0 x2_5).bind fun t127 => (if (t124.length : Int) = x1_5 then (if (t127.length : Int) = x2_5 then (if 0 ≤ x1_5 then (if x1_5 ≤ (t127.length : Int) then ((ndjqkeep_Ints.f kj5 t124 (t127.take (x1_5 : Int).toNat)).bind fun t134 => (ndjqlaw24_SchedMixed.j1 kj5 x2_5 t127 (!t134))) else (none)) else (none)) else (ndjqlaw24_SchedMixed.j1 kj5 x2_5 t127 true)) else (ndjqlaw24_SchedMixed.j1 kj5 x2_5 t127 true))) = some r := H
   have A8 := Aside0.mk A80
   clear A80
   replace H := Option.bind_eq_some_iff.mp H
   obtain ⟨t127, A90, H⟩ := H
   replace H : (if (t124.length : Int) = x1_5 then (if (t127.length : Int) = x2_5 then (if 0 ≤ x1_5 then (if x1_5 ≤ (t127.length : Int) then ((ndjqkeep_Ints.f kj5 t124 (t127.take (x1_5 : Int).toNat)).bind fun t134 => (ndjqlaw24_SchedMixed.j1 kj5 x2_5 t127 (!t134))) else (none)) else (none)) else (ndjqlaw24_SchedMixed.j1 kj5 x2_5 t127 true)) else (ndjqlaw24_SchedMixed.j1 kj5 x2_5 t127 true)) = some r := H
   have A9 := Aside0.mk A90
   clear A90
   have HC10 := Aside0.mk H
   clear H
   go_upto_region 5 with (first | ((with_reducible refine gate_callee (f := 16) rfl ?_); refine goesL_ (some 23) rfl rfl Try.func16 (by kernel_rfl) rfl #[.int .u64 a0, .int .i64 x1_5] rfl (by (try simp only [List.map_toArray, List.map_cons, List.map_nil]); first | done | rfl | (simp only [List.length_drop, List.length_take]; rfl)) ?_; (with_reducible refine (sched_Mix.calls a0 x1_5 t124 _ A8.out).mono ?_); rintro e w11 ⟨v125, rfl, ho0, hb⟩; refine ⟨_, rfl, ?_⟩; have n0_ := Aside0.mk (Kd.R_lower ho0 (below_size (by repeat (first | (with_reducible first | exact HB.out | apply wA | apply wN | apply wD) | exact HB.out)))); have n1_ := Aside0.mk (below_step (by repeat (first | (with_reducible first | exact HB.out | apply wA | apply wN | apply wD) | exact HB.out)) hb); clear HB; have HO126 := n0_; have HB := n1_; clear n0_ n1_; (try clear hb); (try clear hb2); (try clear hk); (try clear hi); (try clear ho0)) | ((with_reducible refine gate_callee (f := 16) rfl ?_); refine goesL_ (some 26) rfl rfl Try.func16 (by kernel_rfl) rfl #[.int .u64 a0, .int .i64 x2_5] rfl (by (try simp only [List.map_toArray, List.map_cons, List.map_nil]); first | done | rfl | (simp only [List.length_drop, List.length_take]; rfl)) ?_; (with_reducible refine (sched_Mix.calls a0 x2_5 t127 _ A9.out).mono ?_); rintro e w12 ⟨v128, rfl, ho0, hb⟩; refine ⟨_, rfl, ?_⟩; have n0_ := Aside0.mk (Kd.R_elder' (by (with_reducible repeat (first | apply rA | apply rN | apply rD)); exact HO126.out) (Kd.R_base ho0) hb); have n1_ := Aside0.mk (Kd.R_lower (Kd.R_new' ho0 (Kd.R_lt (by (with_reducible repeat (first | apply rA | apply rN | apply rD)); exact HO126.out))) (below_size (by repeat (first | (with_reducible first | exact HB.out | apply wA | apply wN | apply wD) | exact HB.out)))); have n2_ := Aside0.mk (below_step (by repeat (first | (with_reducible first | exact HB.out | apply wA | apply wN | apply wD) | exact HB.out)) hb); clear HO126; clear HB; have HO126 := n0_; have HO129 := n1_; have HB := n2_; clear n0_ n1_ n2_; (try clear hb); (try clear hb2); (try clear hk); (try clear hi); (try clear ho0)))
   (try simp only [Act.put, List.setIfInBounds_toArray, List.set_cons_zero, List.set_cons_succ])
   go_cut [44] (fun v44 wc => ∃ (kq : Nat) (x44_9 : Bool), v44 = .bool x44_9 ∧ Aside0 (ndjqlaw24_SchedMixed.j1 kq x2_5 t127 x44_9 = some r) ∧ Aside0 (kq ≤ kj5) ∧ Aside0 (Kd.R (Kd.int .i64) 3 wc w.heap.size (fun _ => True) v128 t127) ∧ Aside0 (Below w.heap.size w wc))
   case first =>
    have H := HC10.out
    clear HC10
    by_cases c13 : (t124.length : Int) = x1_5
    ·rw [if_pos c13] at H
     have c13b0 : ((t124.length : Int) == x1_5) = true := beq_iff_eq.mpr c13
     have c13b1 : ((t124.length : Int) != x1_5) = false := bne_eq_false_iff_eq.mpr c13
     clear c13
     (first | rw [c13b0] | (simp only [i64_w, i32_w]; rw [c13b0]) | skip)
     by_cases c14 : (t127.length : Int) = x2_5
     ·rw [if_pos c14] at H
      have c14b0 : ((t127.length : Int) == x2_5) = true := beq_iff_eq.mpr c14
      have c14b1 : ((t127.length : Int) != x2_5) = false := bne_eq_false_iff_eq.mpr c14
      clear c14
      by_cases c15 : 0 ≤ x1_5
      ·rw [if_pos c15] at H
       have c15b0 := eq_true c15
       have c15b1 : decide (0 ≤ x1_5) = true := decide_eq_true c15
       clear c15
       by_cases c16 : x1_5 ≤ (t127.length : Int)
       ·rw [if_pos c16] at H
        have c16b0 := eq_true c16
        have c16b1 : decide (x1_5 ≤ (t127.length : Int)) = true := decide_eq_true c16
        clear c16
        obtain ⟨y130, hy130⟩ : ∃ y_ : List Int, y_ = (t127.take (x1_5 : Int).toNat) := ⟨_, rfl⟩
        replace H : ((ndjqkeep_Ints.f kj5 t124 y130).bind fun t134 => (ndjqlaw24_SchedMixed.j1 kj5 x2_5 t127 (!t134))) = some r := by first | (rw [hy130]; with_reducible exact H) | (have H2_ := (Option.bind_some _ _).symm.trans H; rw [hy130]; with_reducible exact H2_) | (have H2_ := (Option.bind_some _ _).symm.trans H; with_reducible exact H2_) | with_reducible exact H | (rw [hy130]; exact H) | exact H
        have Ny130 := Aside0.mk hy130
        clear hy130
        replace H := Option.bind_eq_some_iff.mp H
        obtain ⟨t134, A170, H⟩ := H
        replace H : (ndjqlaw24_SchedMixed.j1 kj5 x2_5 t127 (!t134)) = some r := H
        have A17 := Aside0.mk A170
        clear A170
        have H' := Aside0.mk H
        clear H
        obtain ⟨Ao18, co18, eo18⟩ := Kd.R_slice HO126.out
        subst eo18
        obtain ⟨Ao19, co19, eo19⟩ := Kd.R_slice HO129.out
        subst eo19
        have q20 : (x1_5 : Int) ≤ ((t127.length : Int) : Int) := of_decide_eq_true (by first | (with_reducible assumption) | assumption)
        obtain ⟨i020, hi020, _, hsz20, _⟩ := info_parts info3
        have hroom20 : t127.length ≤ co19 := (Kd.R_reads' HO129.out).2.1
        have hC20 : Kd.C (Kd.int .i64) _ Ao19 t127.length t127 := (Kd.R_reads' HO129.out).2.2
        have hcut20 := cut_to (P := Try.prog) 22 3 .i64 Try.underlying22 hi020 Ao19 t127.length co19 x1_5 (of_decide_eq_true (by first | (with_reducible assumption) | assumption)) q20 hroom20
        have hr20 := Kd.C_take (m := (x1_5 : Int).toNat) hC20 (by omega)
        have hy20 : y130.length = (x1_5 : Int).toNat := (by rw [Ny130.out, List.length_take]; omega)
        rw [← Ny130.out] at hr20
        rw [← hy20] at hcut20
        have HR133 := Aside0.mk hr20
        have HC133 := Aside0.mk (show y130.length ≤ co19 from by omega)
        clear hr20 hC20 hroom20 hi020 hsz20
        have KY20 := Aside0.mk hy20
        clear hy20
        have KL20 := Aside0.mk (show (x1_5 : Int).toNat ≤ t127.length from by omega)
        replace q20 := eq_true q20
        go_wp2_with (first | (go_at_call 13; (with_reducible refine (ndjqkeep_Ints.calls kj5 _ _ t124 _ _ y130 t134 _ ?side1 ?side2 ?side3 ?side4 A17.out).mono ?_); (case side1 => repeat (first | exact (Kd.R_reads' HO126.out).2.2 | (with_reducible refine Kd.C_alloc ?_ _) | (with_reducible refine Kd.C_drewN ?_ _) | (with_reducible refine Kd.C_drew ?_))); (case side2 => exact (Kd.R_reads' HO126.out).2.1); (case side3 => repeat (first | exact (by repeat (first | (with_reducible exact HR133.out) | (with_reducible refine Kd.C_alloc ?_ _) | (with_reducible refine Kd.C_drewN ?_ _) | (with_reducible refine Kd.C_drew ?_) | exact HR133.out)) | (with_reducible refine Kd.C_alloc ?_ _) | (with_reducible refine Kd.C_drewN ?_ _) | (with_reducible refine Kd.C_drew ?_))); (case side4 => exact HC133.out); rintro e w' ⟨rfl, ⟨nd, rfl⟩⟩))
        go_meet
        case rel => exact ⟨_, (!t134), (by first | rfl | (simp; done) | (simp [*]; done)), H', ⟨by have := HJ5.out; first | omega | exact Nat.le_refl _⟩, ⟨by (with_reducible repeat (first | apply rA | apply rN | apply rD)); exact Kd.R_mono HO129.out (fun _ hk => trivial)⟩, ⟨by repeat (first | (with_reducible first | exact HB.out | apply wA | apply wN | apply wD) | exact HB.out)⟩⟩
       ·rw [if_neg c16] at H
        exact absurd H (by simp)
      ·rw [if_neg c15] at H
       exact absurd H (by simp)
     ·rw [if_neg c14] at H
      have c14b0 : ((t127.length : Int) == x2_5) = false := beq_eq_false_iff_ne.mpr c14
      have c14b1 : ((t127.length : Int) != x2_5) = true := bne_iff_ne.mpr c14
      have H' := Aside0.mk H
      clear H
      obtain ⟨Ao21, co21, eo21⟩ := Kd.R_slice HO126.out
      subst eo21
      obtain ⟨Ao22, co22, eo22⟩ := Kd.R_slice HO129.out
      subst eo22
      go_wp2
      go_meet
      case rel => exact ⟨_, (true), (by first | rfl | (simp; done) | (simp [*]; done)), H', ⟨by have := HJ5.out; first | omega | exact Nat.le_refl _⟩, ⟨by (with_reducible repeat (first | apply rA | apply rN | apply rD)); exact Kd.R_mono HO129.out (fun _ hk => trivial)⟩, ⟨by repeat (first | (with_reducible first | exact HB.out | apply wA | apply wN | apply wD) | exact HB.out)⟩⟩
    ·rw [if_neg c13] at H
     have c13b0 : ((t124.length : Int) == x1_5) = false := beq_eq_false_iff_ne.mpr c13
     have c13b1 : ((t124.length : Int) != x1_5) = true := bne_iff_ne.mpr c13
     (first | rw [c13b0] | (simp only [i64_w, i32_w]; rw [c13b0]) | skip)
     have H' := Aside0.mk H
     clear H
     obtain ⟨Ao23, co23, eo23⟩ := Kd.R_slice HO126.out
     subst eo23
     go_wp2
     go_meet
     case rel => exact ⟨_, (true), (by first | rfl | (simp; done) | (simp [*]; done)), H', ⟨by have := HJ5.out; first | omega | exact Nat.le_refl _⟩, ⟨by (with_reducible repeat (first | apply rA | apply rN | apply rD)); exact Kd.R_mono HO129.out (fun _ hk => trivial)⟩, ⟨by repeat (first | (with_reducible first | exact HB.out | apply wA | apply wN | apply wD) | exact HB.out)⟩⟩
   case rest =>
    clear HC10
    (try clear q2); (try clear c12); (try clear c13); (try clear c13b0); (try clear c13b1); (try clear c14); (try clear c14b0); (try clear c14b1); (try clear c15); (try clear c15b0); (try clear c15b1); (try clear c16); (try clear c16b0); (try clear c16b1); (try clear q20)
    obtain ⟨kq, x44_9, rfl, HA, HJ9, HO_8, HB⟩ := hcut
    cases kq with
    | zero => exact absurd HA.out (by simp [ndjqlaw24_SchedMixed.j1])
    | succ kj9 =>
     have H := HA.out
     clear HA
     simp only [ndjqlaw24_SchedMixed.j1] at H
     by_cases c24 : x44_9 = true
     ·subst c24
      have H1 : (some false) = some r := by rw [if_pos rfl] at H; exact H
      clear H; have H := H1; clear H1
      obtain rfl := Option.some.inj H
      go_wp2
      go_ret
      exact ⟨by first | rfl | (simp [errW_none, errW_some] <;> rfl) | (simp [*, errW_none, errW_some] <;> rfl), by repeat (first | (with_reducible first | exact HB.out | apply wA | apply wN | apply wD) | exact HB.out)⟩
     ·replace c24 := Bool.eq_false_iff.mpr c24
      subst c24
      have H1 : (ndjqlaw24_SchedMixed.l0 kj9 x2_5 t127 0) = some r := by rw [if_neg (show ¬ (false = true) by decide)] at H; exact H
      clear H; have H := H1; clear H1
      have H' := Aside0.mk H
      clear H
      go_wp2
      go_loopg [9] kj9 (fun kq v9 w' => ∃ (x9_3 : Int), v9 = .int .i64 x9_3 ∧ Aside0 (ndjqlaw24_SchedMixed.l0 kq x2_5 t127 x9_3 = some r) ∧ Aside0 (kq ≤ kj9) ∧ Aside0 (Kd.R (Kd.int .i64) 3 w' w.heap.size (fun _ => True) v128 t127) ∧ Aside0 (Below w.heap.size w w'))
      case atStart => exact ⟨(0), (by first | rfl | (simp; done) | (simp [*]; done)), H', ⟨Nat.le_refl _⟩, ⟨by (with_reducible repeat (first | apply rA | apply rN | apply rD)); exact HO_8.out⟩, ⟨by repeat (first | (with_reducible first | exact HB.out | apply wA | apply wN | apply wD) | exact HB.out)⟩⟩
      case round =>
       clear H'
       (try clear c2); (try clear c24)
       obtain ⟨x9_3, rfl, HA, HK3, HO_8, HB⟩ := hrel
       cases gk with
       | zero => exact absurd HA.out (by simp [ndjqlaw24_SchedMixed.l0])
       | succ k3 =>
        have H := HA.out
        clear HA
        simp only [ndjqlaw24_SchedMixed.l0] at H
        by_cases c25 : x9_3 < x2_5
        ·rw [if_pos c25] at H
         have c25b0 : decide (x9_3 < x2_5) = true := decide_eq_true c25
         clear c25
         by_cases c26 : 0 ≤ x9_3
         ·rw [if_pos c26] at H
          have c26b0 : decide (0 ≤ x9_3) = true := decide_eq_true c26
          clear c26
          by_cases c27 : x9_3 < (t127.length : Int)
          ·rw [if_pos c27] at H
           have c27b0 : decide (x9_3 < (t127.length : Int)) = true := decide_eq_true c27
           clear c27
           by_cases c28 : (rd t127 x9_3) < 0
           ·rw [if_pos c28] at H
            have c28b0 : decide ((rd t127 x9_3) < 0) = true := decide_eq_true c28
            clear c28
            obtain rfl := Option.some.inj H
            obtain ⟨Ao29, co29, eo29⟩ := Kd.R_slice HO_8.out
            subst eo29
            have p135 : 0 ≤ (x9_3 : Int) := of_decide_eq_true (by first | (with_reducible assumption) | assumption)
            have q135 : x9_3 < (t127.length : Int) := of_decide_eq_true (by first | (with_reducible assumption) | assumption)
            obtain ⟨ad135, e135, hx135_0⟩ := Kd.at_int (Kd.R_reads' HO_8.out).2.2 x9_3 p135 q135
            cases e135
            replace p135 := eq_true p135; replace q135 := eq_true q135
            go_wp2
            go_ret
            exact ⟨by first | rfl | (simp [errW_none, errW_some] <;> rfl) | (simp [*, errW_none, errW_some] <;> rfl), by repeat (first | (with_reducible first | exact HB.out | apply wA | apply wN | apply wD) | exact HB.out)⟩
           ·rw [if_neg c28] at H
            have c28b0 : decide ((rd t127 x9_3) < 0) = false := decide_eq_false c28
            clear c28
            by_cases c30 : (rd t127 x9_3) ≥ 2147483648
            ·rw [if_pos c30] at H
             have c30b0 : decide (2147483648 ≤ (rd t127 x9_3)) = true := decide_eq_true c30
             clear c30
             obtain rfl := Option.some.inj H
             obtain ⟨Ao31, co31, eo31⟩ := Kd.R_slice HO_8.out
             subst eo31
             have p135 : 0 ≤ (x9_3 : Int) := of_decide_eq_true (by first | (with_reducible assumption) | assumption)
             have q135 : x9_3 < (t127.length : Int) := of_decide_eq_true (by first | (with_reducible assumption) | assumption)
             obtain ⟨ad135, e135, hx135_0⟩ := Kd.at_int (Kd.R_reads' HO_8.out).2.2 x9_3 p135 q135
             cases e135
             replace p135 := eq_true p135; replace q135 := eq_true q135
             have p136 : 0 ≤ (x9_3 : Int) := of_decide_eq_true (by first | (with_reducible assumption) | assumption)
             have q136 : x9_3 < (t127.length : Int) := of_decide_eq_true (by first | (with_reducible assumption) | assumption)
             obtain ⟨ad136, e136, hx136_0⟩ := Kd.at_int (Kd.R_reads' HO_8.out).2.2 x9_3 p136 q136
             obtain rfl : ad135 = ad136 := (by injection e136)
             replace p136 := eq_true p136; replace q136 := eq_true q136
             go_wp2
             go_ret
             exact ⟨by first | rfl | (simp [errW_none, errW_some] <;> rfl) | (simp [*, errW_none, errW_some] <;> rfl), by repeat (first | (with_reducible first | exact HB.out | apply wA | apply wN | apply wD) | exact HB.out)⟩
            ·rw [if_neg c30] at H
             have c30b0 : decide (2147483648 ≤ (rd t127 x9_3)) = false := decide_eq_false c30
             clear c30
             have H' := Aside0.mk H
             clear H
             obtain ⟨Ao32, co32, eo32⟩ := Kd.R_slice HO_8.out
             subst eo32
             have p135 : 0 ≤ (x9_3 : Int) := of_decide_eq_true (by first | (with_reducible assumption) | assumption)
             have q135 : x9_3 < (t127.length : Int) := of_decide_eq_true (by first | (with_reducible assumption) | assumption)
             obtain ⟨ad135, e135, hx135_0⟩ := Kd.at_int (Kd.R_reads' HO_8.out).2.2 x9_3 p135 q135
             cases e135
             replace p135 := eq_true p135; replace q135 := eq_true q135
             have p136 : 0 ≤ (x9_3 : Int) := of_decide_eq_true (by first | (with_reducible assumption) | assumption)
             have q136 : x9_3 < (t127.length : Int) := of_decide_eq_true (by first | (with_reducible assumption) | assumption)
             obtain ⟨ad136, e136, hx136_0⟩ := Kd.at_int (Kd.R_reads' HO_8.out).2.2 x9_3 p136 q136
             obtain rfl : ad135 = ad136 := (by injection e136)
             replace p136 := eq_true p136; replace q136 := eq_true q136
             go_wp2
             go_roundg k3
             case measure => have := HJ5.out; have := HJ9.out; have := HK3.out; omega
             case rel => exact ⟨(wrap64 (x9_3 + 1)), (by first | rfl | (simp; done) | (simp [*]; done)), H', ⟨by have := HJ5.out; have := HJ9.out; have := HK3.out; omega⟩, ⟨by (with_reducible repeat (first | apply rA | apply rN | apply rD)); exact HO_8.out⟩, ⟨by repeat (first | (with_reducible first | exact HB.out | apply wA | apply wN | apply wD) | exact HB.out)⟩⟩
          ·rw [if_neg c27] at H
           exact absurd H (by simp)
         ·rw [if_neg c26] at H
          exact absurd H (by simp)
        ·rw [if_neg c25] at H
         have c25b0 : decide (x9_3 < x2_5) = false := decide_eq_false c25
         clear c25
         replace H := Option.bind_eq_some_iff.mp H
         obtain ⟨t137, A330, H⟩ := H
         replace H : (some t137) = some r := H
         have A33 := Aside0.mk A330
         clear A330
         obtain rfl := Option.some.inj H
         go_wp2_with (first | ((with_reducible refine gate_callee (f := 7) rfl ?_); refine goesL_ (some 62) rfl rfl Try.func7 (by kernel_rfl) rfl #[] rfl (by (try simp only [List.map_toArray, List.map_cons, List.map_nil]); first | done | rfl | (simp only [List.length_drop, List.length_take]; rfl)) ?_; (with_reducible refine (ndjqlaw24_awake.calls k3  t137 _ A33.out).mono ?_); rintro e w34 ⟨rfl, hb⟩; refine ⟨_, rfl, ?_⟩; have n0_ := Aside0.mk (Kd.R_below (by (with_reducible repeat (first | apply rA | apply rN | apply rD)); exact HO_8.out) hb); have n1_ := Aside0.mk (below_step (by repeat (first | (with_reducible first | exact HB.out | apply wA | apply wN | apply wD) | exact HB.out)) hb); clear HO_8; clear HB; have HO_8 := n0_; have HB := n1_; clear n0_ n1_; (try clear hb); (try clear hb2); (try clear hk); (try clear hi)))
         go_ret
         exact ⟨by first | rfl | (simp [errW_none, errW_some] <;> rfl) | (simp [*, errW_none, errW_some] <;> rfl), by repeat (first | (with_reducible first | exact HB.out | apply wA | apply wN | apply wD) | exact HB.out)⟩

/-- THE ONE PURE STATEMENT of ndjqlaw24_SchedMixed: yours. -/
def ndjqlaw24_SchedMixed.Pure : Prop := ∀ (a0 : Int) (a1 : Int) (a2 : Int), (Lit.int .u64 a0).wf = true → (Lit.int .i64 a1).wf = true → (Lit.int .i64 a2).wf = true → ∃ k, ndjqlaw24_SchedMixed.f k a0 a1 a2 = some true
theorem ndjqlaw24_SchedMixed.walk (P : ndjqlaw24_SchedMixed.Pure) (a0 : Int) (a1 : Int) (a2 : Int) (w : World) (w0 : (Lit.int .u64 a0).wf = true) (w1 : (Lit.int .i64 a1).wf = true) (w2 : (Lit.int .i64 a2).wf = true) :
  Calls Try.prog 6 #[.int .u64 a0, .int .i64 a1, .int .i64 a2] w fun e w' => e = .returned (.bool true) ∧ Below w.heap.size w w' := by
 obtain ⟨k, h⟩ := P a0 a1 a2 w0 w1 w2
 refine (ndjqlaw24_SchedMixed.calls k a0 a1 a2 true w h).mono ?_
 rintro e w' ⟨rfl, hd⟩
 exact ⟨rfl, hd⟩

end Go.Proofs.Ytgfaakecfkfcaaa.QSchedMixed
