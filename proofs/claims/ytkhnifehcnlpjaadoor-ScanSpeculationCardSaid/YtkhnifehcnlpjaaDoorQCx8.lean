-- by a program of this session (print2.py): the machine's side of one law; Lean checks it.
import Derived.Test.YtkhnifehcnlpjaaDoorQCx0
import Derived.Test.YtkhnifehcnlpjaaDoorQCx1
import Derived.Test.YtkhnifehcnlpjaaDoorQCx3
import Derived.Test.YtkhnifehcnlpjaaDoorQCx5
import Derived.Test.YtkhnifehcnlpjaaDoorQCx7
namespace Go.Proofs.YtkhnifehcnlpjaaDoor.QC
open Go.RowKit Go.Proofs.YtkhnifehcnlpjaaDoorW.PrintWords Go.Proofs.YtkhnifehcnlpjaaDoorW.PrintLast Go.Proofs.YtkhnifehcnlpjaaDoorW.PrintMore
attribute [local go_sem] max2_int min2_int max_two min_two max_three min_three max_four min_four   -- for this text's walks alone
set_option linter.unusedVariables false
set_option linter.unusedSimpArgs false

attribute [local go_sem high] eqA22
/-! ### scan_Summaries: function 15 -/
def scan_Summaries.l0 : Nat → ByteArray → List (S26) → List (S51) → Int → Int → Option ((List (S26)) × Int)
 | 0, _, _, _, _, _ => none
 | k + 1, x0, x8, x23, x24, x25 => if x25 < x24 then (if 0 ≤ x25 then (if x25 < (x23.length : Int) then (if 0 ≤ ((rd_T51 x23 x25).f0) then (if ((rd_T51 x23 x25).f0) ≤ ((rd_T51 x23 x25).f1) then (if ((rd_T51 x23 x25).f1) ≤ (x0.size : Int) then ((automaton_Summarize.f k (x0.extract (((rd_T51 x23 x25).f0) : Int).toNat (((rd_T51 x23 x25).f1) : Int).toNat)).bind fun bt164 => (if x8.length < 1353245080339 then (scan_Summaries.l0 k x0 (x8 ++ [(⟨bt164.1, (⟨bt164.2.1, bt164.2.2.1, bt164.2.2.2.1⟩ : S22), (⟨bt164.2.2.2.2.1, bt164.2.2.2.2.2.1, bt164.2.2.2.2.2.2.1⟩ : S24)⟩ : S26)]) x23 x24 (wrap64 (x25 + 1))) else (none))) else (none)) else (none)) else (none)) else (none)) else (none)) else (some (x8, 0))
def scan_Summaries.f (k : Nat) (a0 : ByteArray) (a1 : Int) : Option ((List (S26)) × Int) := (scan_Chunks.f k (a0.size : Int) a1).bind fun bt158 => (if bt158.2 = 0 then (scan_Summaries.l0 k a0 ([] : List (S26)) bt158.1 (bt158.1.length : Int) 0) else (some (([] : List (S26)), bt158.2)))
theorem scan_Summaries.mono_l : ∀ k, (∀ y0 y1 y2 y3 y4, LeO (scan_Summaries.l0 k y0 y1 y2 y3 y4) (scan_Summaries.l0 (k + 1) y0 y1 y2 y3 y4))
 | 0 => fun _ _ _ _ _ r h => by simp [scan_Summaries.l0] at h
 | k + 1 => by
  have ih0 := scan_Summaries.mono_l k
  ·intro y0 y1 y2 y3 y4
   unfold scan_Summaries.l0
   repeat' first
   | (with_reducible exact ih0 _ _ _ _ _)
   | (with_reducible exact automaton_Summarize.mono _ _)
   | (with_reducible exact scan_Chunks.mono _ _ _)
   | (with_reducible exact LeO.refl _)
   | (with_reducible exact LeO.none _)
   | (with_reducible refine LeO.ite ?_ ?_)
   | (with_reducible refine LeO.bind ?_ (fun _ => ?_))
   | exact ih0 _ _ _ _ _
   | exact automaton_Summarize.mono _ _
   | exact scan_Chunks.mono _ _ _
   | exact LeO.none _
   | refine LeO.ite ?_ ?_
   | refine LeO.bind ?_ (fun _ => ?_)
theorem scan_Summaries.mono : ∀ a0 a1 k, LeO (scan_Summaries.f k a0 a1) (scan_Summaries.f (k + 1) a0 a1) := by
 intro a0 a1 k
 have ih0 := scan_Summaries.mono_l k
 unfold scan_Summaries.f
 repeat' first
   | (with_reducible exact ih0 _ _ _ _ _)
   | (with_reducible exact automaton_Summarize.mono _ _)
   | (with_reducible exact scan_Chunks.mono _ _ _)
   | (with_reducible exact LeO.refl _)
   | (with_reducible exact LeO.none _)
   | (with_reducible refine LeO.ite ?_ ?_)
   | (with_reducible refine LeO.bind ?_ (fun _ => ?_))
   | exact ih0 _ _ _ _ _
   | exact automaton_Summarize.mono _ _
   | exact scan_Chunks.mono _ _ _
   | exact LeO.none _
   | refine LeO.ite ?_ ?_
   | refine LeO.bind ?_ (fun _ => ?_)
set_option maxHeartbeats 8000000 in
set_option maxRecDepth 100000 in
theorem scan_Summaries.calls (k : Nat) (a0 : ByteArray) (a1 : Int) (r1 : List (S26)) (r2 : Int) (w : World) (hG : GlbLaid w) (h : scan_Summaries.f k a0 a1 = some (r1, r2)) :
  Calls Tryd.prog 15 #[.string a0, .int .i64 a1] w fun e w' => ∃ v0_ : Value, e = .returned (.tuple #[v0_, .int .i64 r2]) ∧ Kd.S k26 26 w' w.heap.size (fun _ => True) v0_ r1 ∧ Below w.heap.size w w' := by
 have hu51 := Tryd.underlying51
 have hu26 := Tryd.underlying26
 have HG := Aside0.mk hG
 clear hG
 have HB := Aside0.mk (Below.refl w.heap.size w)
 have H : ((scan_Chunks.f k (a0.size : Int) a1).bind fun bt158 => (if bt158.2 = 0 then (scan_Summaries.l0 k a0 ([] : List (S26)) bt158.1 (bt158.1.length : Int) 0) else (some (([] : List (S26)), bt158.2)))) = some (r1, r2) := h
 clear h
 replace H := Option.bind_eq_some_iff.mp H
 obtain ⟨⟨t158, t159⟩, A30, H⟩ := H
 replace H : (if t159 = 0 then (scan_Summaries.l0 k a0 ([] : List (S26)) t158 (t158.length : Int) 0) else (some (([] : List (S26)), t159))) = some (r1, r2) := H
 have A3 := Aside0.mk A30
 clear A30
 by_cases c4 : t159 = 0
 ·rw [if_pos c4] at H
  have c4b0 : (t159 == 0) = true := beq_iff_eq.mpr c4
  have c4b1 : (t159 != 0) = false := bne_eq_false_iff_eq.mpr c4
  clear c4
  have H' := Aside0.mk H
  clear H
  go_enter Tryd.func15, Tryd.ntmps15
  go_wp2_with (first | ((with_reducible refine gate_callee (f := 13) rfl ?_); refine goesL_ (some 17) rfl rfl Tryd.func13 (by kernel_rfl) rfl #[.int .i64 (a0.size : Int), .int .i64 a1] rfl (by (try simp only [List.map_toArray, List.map_cons, List.map_nil]); first | done | rfl | (simp only [List.length_drop, List.length_take]; rfl)) ?_; (with_reducible refine (scan_Chunks.calls k (a0.size : Int) a1 t158 t159 _ A3.out).mono ?_); rintro e w5 ⟨v160, rfl, ho0, hb⟩; refine ⟨_, rfl, ?_⟩; have n0_ := Aside0.mk (Kd.R_lower ho0 (below_size (by repeat (first | (with_reducible first | exact HB.out | apply wA | apply wN | apply wD) | exact HB.out)))); have n1_ := Aside0.mk (below_step (by repeat (first | (with_reducible first | exact HB.out | apply wA | apply wN | apply wD) | exact HB.out)) hb); clear HB; have HO161 := n0_; have HB := n1_; clear n0_ n1_; (try clear hb); (try clear hb2); (try clear hk); (try clear hi); (try clear ho0); obtain ⟨Ao6, co6, eo6⟩ := Kd.R_slice HO161.out; subst eo6))
  go_loopg [8, 25] k (fun kq v8 v25 w' => ∃ (x8_1 : List (S26)) (x25_1 : Int), v25 = .int .i64 x25_1 ∧ Aside0 (scan_Summaries.l0 kq a0 x8_1 t158 (t158.length : Int) x25_1 = some (r1, r2)) ∧ Aside0 (kq ≤ k) ∧ Aside0 (Kd.S k26 26 w' w.heap.size (fun _ => True) v8 x8_1) ∧ Aside0 (Kd.R k51 51 w' w.heap.size (fun _ => True) (.slice Ao6 t158.length co6) t158) ∧ Aside0 (Below w.heap.size w w'))
  case atStart => exact ⟨(([] : List (S26))), (0), (by first | rfl | (simp; done) | (simp [*]; done)), H', ⟨Nat.le_refl _⟩, ⟨by first | exact Kd.S_nil _ _ _ _ _ | exact Kd.N_nil _ _ _ _ _ | exact Kd.V_nil _ _ _ _ _ | exact Kd.Q_nil _ _ _ _ _ | exact Kd.R_nil _ _ _ _ _⟩, ⟨by (with_reducible repeat (first | apply rA | apply rN | apply rD)); exact HO161.out⟩, ⟨by repeat (first | (with_reducible first | exact HB.out | apply wA | apply wN | apply wD) | exact HB.out)⟩⟩
  case round =>
   clear H'
   (try clear c1); (try clear p2); (try clear c4); (try clear c4b0); (try clear c4b1)
   obtain ⟨x8_1, x25_1, rfl, HA, HK1, HO_8, HO_23, HB⟩ := hrel
   cases gk with
   | zero => exact absurd HA.out (by simp [scan_Summaries.l0])
   | succ k1 =>
    have H := HA.out
    clear HA
    simp only [scan_Summaries.l0] at H
    by_cases c7 : x25_1 < (t158.length : Int)
    ·rw [if_pos c7] at H
     have c7b0 : decide (x25_1 < (t158.length : Int)) = true := decide_eq_true c7
     clear c7
     by_cases c8 : 0 ≤ x25_1
     ·rw [if_pos c8] at H
      have c8b0 : decide (0 ≤ x25_1) = true := decide_eq_true c8
      clear c8
      by_cases c9 : x25_1 < (t158.length : Int)
      ·rw [if_pos c9] at H
       have c9b0 : decide (x25_1 < (t158.length : Int)) = true := decide_eq_true c9
       clear c9
       by_cases c10 : 0 ≤ ((rd_T51 t158 x25_1).f0)
       ·rw [if_pos c10] at H
        have c10b0 := eq_true c10
        have c10b1 : decide (0 ≤ ((rd_T51 t158 x25_1).f0)) = true := decide_eq_true c10
        clear c10
        by_cases c11 : ((rd_T51 t158 x25_1).f0) ≤ ((rd_T51 t158 x25_1).f1)
        ·rw [if_pos c11] at H
         have c11b0 := eq_true c11
         have c11b1 : decide (((rd_T51 t158 x25_1).f0) ≤ ((rd_T51 t158 x25_1).f1)) = true := decide_eq_true c11
         clear c11
         by_cases c12 : ((rd_T51 t158 x25_1).f1) ≤ (a0.size : Int)
         ·rw [if_pos c12] at H
          have c12b0 := eq_true c12
          have c12b1 : decide (((rd_T51 t158 x25_1).f1) ≤ (a0.size : Int)) = true := decide_eq_true c12
          clear c12
          replace H := Option.bind_eq_some_iff.mp H
          obtain ⟨⟨t164, t165, t166, t167, t168, t171, t174, t177⟩, A130, H⟩ := H
          replace H : (if x8_1.length < 1353245080339 then (scan_Summaries.l0 k1 a0 (x8_1 ++ [(⟨t164, (⟨t165, t166, t167⟩ : S22), (⟨t168, t171, t174⟩ : S24)⟩ : S26)]) t158 (t158.length : Int) (wrap64 (x25_1 + 1))) else (none)) = some (r1, r2) := H
          have A13 := Aside0.mk A130
          clear A130
          by_cases c14 : x8_1.length < 1353245080339
          ·rw [if_pos c14] at H
           have LMc14 := Aside0.mk c14
           clear c14
           obtain ⟨y179, hy179⟩ : ∃ y_ : List (S26), y_ = (x8_1 ++ [(⟨t164, (⟨t165, t166, t167⟩ : S22), (⟨t168, t171, t174⟩ : S24)⟩ : S26)]) := ⟨_, rfl⟩
           replace H : (scan_Summaries.l0 k1 a0 y179 t158 (t158.length : Int) (wrap64 (x25_1 + 1))) = some (r1, r2) := by first | (rw [hy179]; with_reducible exact H) | (have H2_ := (Option.bind_some _ _).symm.trans H; rw [hy179]; with_reducible exact H2_) | (have H2_ := (Option.bind_some _ _).symm.trans H; with_reducible exact H2_) | with_reducible exact H | (rw [hy179]; exact H) | exact H
           have Ny179 := Aside0.mk hy179
           clear hy179
           have H' := Aside0.mk H
           clear H
           have p162 : 0 ≤ (x25_1 : Int) := of_decide_eq_true (by first | (with_reducible assumption) | assumption)
           have q162 : x25_1 < (t158.length : Int) := of_decide_eq_true (by first | (with_reducible assumption) | assumption)
           obtain ⟨ad162, e162, hx162_0, hx162_1⟩ := at_T51 (Kd.R_reads' HO_23.out).2.2 x25_1 p162 q162
           cases e162
           replace p162 := eq_true p162; replace q162 := eq_true q162
           go_wp2_with (first | ((with_reducible refine gate_dst (N := 10) rfl ?_); refine box_event ?hg (N := 10) ?hd (cs := #[.int .i64 0, .int .i64 0]) (t := 51) ?hr ?_; (case hd => rfl); (case hg => rfl); (case hr => first | (go_simp; done) | (go_simp; rfl)); intro gb163 hg w15 hbox hb; have n0_ := Aside0.mk (Kd.S_below (by (with_reducible repeat (first | apply Kd.S_alloc | apply Kd.S_drewN | apply Kd.S_drew)); exact HO_8.out) hb); have n1_ := Aside0.mk (Kd.R_below (Kd.R_elderB (by (with_reducible repeat (first | apply rA | apply rN | apply rD)); exact HO_23.out) gb163 (Nat.le_of_eq hg.symm)) hb); have n2_ := Aside0.mk (below_step (by repeat (first | (with_reducible first | exact HB.out | apply wA | apply wN | apply wD) | exact HB.out)) hb); have n3_ := Aside0.mk (hbox); have n4_ := Aside0.mk ((by rw [hg]; exact (below_size (by repeat (first | (with_reducible first | exact HB.out | apply wA | apply wN | apply wD) | exact HB.out))) : w.heap.size ≤ gb163)); have n5_ := n4_; clear HO_8; clear HO_23; clear HB; have HO_8 := n0_; have HO_23 := n1_; have HB := n2_; have BK163 := n3_; have GW163 := n4_; have GE163 := n5_; clear n0_ n1_ n2_ n3_ n4_ n5_; clear hb hbox hg; have hcz16_0 : w15.cell? ⟨gb163, 0, none⟩ = some (.int .i64 0) := (blk_cell BK163.out 0).trans rfl; have hcz16_1 : w15.cell? ⟨gb163, 1, none⟩ = some (.int .i64 0) := (blk_cell BK163.out 1).trans rfl; have hfz16_0 := blk_frozen BK163.out 0; have hfz16_1 := blk_frozen BK163.out 1) | ((with_reducible refine gate_callee (f := 24) rfl ?_); refine goesL_ (some 36) rfl rfl Tryd.func24 (by kernel_rfl) rfl #[.string (a0.extract (((rd_T51 t158 x25_1).f0) : Int).toNat (((rd_T51 t158 x25_1).f1) : Int).toNat)] rfl (by (try simp only [List.map_toArray, List.map_cons, List.map_nil]); first | done | rfl | (simp only [List.length_drop, List.length_take]; rfl)) ?_; (with_reducible refine (automaton_Summarize.calls k1 (a0.extract (((rd_T51 t158 x25_1).f0) : Int).toNat (((rd_T51 t158 x25_1).f1) : Int).toNat) t164 t165 t166 t167 t168 t171 t174 t177 _ ?side1 A13.out).mono ?_); (case side1 => exact GlbLaid.below HG.out (by repeat (first | (with_reducible first | exact HB.out | apply wA | apply wN | apply wD | refine wS ?_ GE163.out) | exact HB.out))); rintro e w17 ⟨v169, v172, v175, rfl, ho0, ho1, ho2, hb⟩; refine ⟨_, rfl, ?_⟩; have n0_ := Aside0.mk (Kd.S_mono (Kd.S_told (Kd.S_told (Kd.S_told (Kd.S_old (by (with_reducible repeat (first | apply Kd.S_alloc | apply Kd.S_drewN | apply Kd.S_drew)); exact (Kd.S_mono (Kd.S_far (p := ⟨gb163, 1, none⟩) (Kd.S_far (p := ⟨gb163, 0, none⟩) (Kd.S_types HO_8.out BK163.out (by decide)) (fun _ hk => hk.2) (.int .i64 ((rd_T51 t158 x25_1).f0))) (fun _ hk => hk.2) (.int .i64 ((rd_T51 t158 x25_1).f1))) (fun _ h_ => h_.1))) hb) (Kd.R_base ho0)) (Kd.R_base ho1)) (Kd.R_base ho2)) (fun _ h_ => h_.1)); have n1_ := Aside0.mk (Kd.R_below (by (with_reducible repeat (first | apply rA | apply rN | apply rD)); exact (Kd.R_mono (R_fars2 gb163 (Kd.R_mono HO_23.out (fun k_ hk => (⟨hk, hk.2⟩ : _ ∧ k_ ≠ gb163))) (fun _ hk => hk.2) (.int .i64 ((rd_T51 t158 x25_1).f0)) (.int .i64 ((rd_T51 t158 x25_1).f1))) (fun _ h_ => h_.1))) hb); have n2_ := Aside0.mk (Kd.R_lower ho0 (below_size (by repeat (first | (with_reducible first | exact HB.out | apply wA | apply wN | apply wD | refine wS ?_ GE163.out) | exact HB.out)))); have n3_ := Aside0.mk (Kd.R_lower ho1 (below_size (by repeat (first | (with_reducible first | exact HB.out | apply wA | apply wN | apply wD | refine wS ?_ GE163.out) | exact HB.out)))); have n4_ := Aside0.mk (Kd.R_lower ho2 (below_size (by repeat (first | (with_reducible first | exact HB.out | apply wA | apply wN | apply wD | refine wS ?_ GE163.out) | exact HB.out)))); have n5_ := Aside0.mk (blk_below (g := gb163) (o := .cells #[.int .i64 ((rd_T51 t158 x25_1).f0), .int .i64 ((rd_T51 t158 x25_1).f1)] 51 (0, 0)) (by (with_reducible repeat (first | refine bN ?_ _ | refine bD ?_ | refine bA ?_ _)); refine blk_put (cs := #[.int .i64 ((rd_T51 t158 x25_1).f0), .int .i64 0]) ?_ 1 _ rfl; (with_reducible repeat (first | refine bN ?_ _ | refine bD ?_ | refine bA ?_ _)); refine blk_put (cs := #[.int .i64 0, .int .i64 0]) ?_ 0 _ rfl; (with_reducible repeat (first | refine bN ?_ _ | refine bD ?_ | refine bA ?_ _)); exact BK163.out) hb); have n6_ := Aside0.mk (below_step (by repeat (first | (with_reducible first | exact HB.out | apply wA | apply wN | apply wD | refine wS ?_ GE163.out) | exact HB.out)) hb); clear HO_8; clear HO_23; clear BK163; clear HB; have HO_8 := n0_; have HO_23 := n1_; have HO170 := n2_; have HO173 := n3_; have HO176 := n4_; have BK163 := n5_; have HB := n6_; clear n0_ n1_ n2_ n3_ n4_ n5_ n6_; (try clear hb); (try clear hb2); (try clear hk); (try clear hi); (try clear ho0); (try clear ho1); (try clear ho2)) | ((with_reducible refine gate_dst (N := 11) rfl ?_); refine box_event ?hg (N := 11) ?hd (cs := #[.int .i64 0, .int .i64 0, .int .i64 0, .int .i64 0, .slice none 0 0, .slice none 0 0, .slice none 0 0]) (t := 26) ?hr ?_; (case hd => rfl); (case hg => rfl); (case hr => first | (go_simp; done) | (go_simp; rfl)); intro gb178 hg w18 hbox hb; have n0_ := Aside0.mk (Kd.S_below (Kd.S_elderB (by (with_reducible repeat (first | apply Kd.S_alloc | apply Kd.S_drewN | apply Kd.S_drew)); exact HO_8.out) gb178 (Nat.le_of_eq hg.symm)) hb); have n1_ := Aside0.mk (Kd.R_below (by (with_reducible repeat (first | apply rA | apply rN | apply rD)); exact HO_23.out) hb); have n2_ := Aside0.mk (Kd.R_below (by (with_reducible repeat (first | apply rA | apply rN | apply rD)); exact HO170.out) hb); have n3_ := Aside0.mk (Kd.R_below (by (with_reducible repeat (first | apply rA | apply rN | apply rD)); exact HO173.out) hb); have n4_ := Aside0.mk (Kd.R_below (by (with_reducible repeat (first | apply rA | apply rN | apply rD)); exact HO176.out) hb); have n5_ := Aside0.mk (blk_below (g := gb163) (o := .cells #[.int .i64 ((rd_T51 t158 x25_1).f0), .int .i64 ((rd_T51 t158 x25_1).f1)] 51 (0, 0)) (by (with_reducible repeat (first | refine bN ?_ _ | refine bD ?_ | refine bA ?_ _)); exact BK163.out) hb); have n6_ := Aside0.mk (below_step (by repeat (first | (with_reducible first | exact HB.out | apply wA | apply wN | apply wD | refine wS ?_ GE163.out) | exact HB.out)) hb); have n7_ := Aside0.mk (hbox); have n8_ := Aside0.mk ((by rw [hg]; exact (below_size (by repeat (first | (with_reducible first | exact HB.out | apply wA | apply wN | apply wD | refine wS ?_ GE163.out) | exact HB.out))) : w.heap.size ≤ gb178)); have n9_ := n8_; have n10_ := Aside0.mk ((by rw [hg]; exact Nat.ne_of_lt (blk_lt (g := gb163) (o := .cells #[.int .i64 ((rd_T51 t158 x25_1).f0), .int .i64 ((rd_T51 t158 x25_1).f1)] 51 (0, 0)) (by (with_reducible repeat (first | refine bN ?_ _ | refine bD ?_ | refine bA ?_ _)); exact BK163.out)) : gb163 ≠ gb178)); have n11_ := Aside0.mk ((by rw [hg]; exact Nat.ne_of_gt (blk_lt (g := gb163) (o := .cells #[.int .i64 ((rd_T51 t158 x25_1).f0), .int .i64 ((rd_T51 t158 x25_1).f1)] 51 (0, 0)) (by (with_reducible repeat (first | refine bN ?_ _ | refine bD ?_ | refine bA ?_ _)); exact BK163.out)) : gb178 ≠ gb163)); clear HO_8; clear HO_23; clear HO170; clear HO173; clear HO176; clear BK163; clear HB; have HO_8 := n0_; have HO_23 := n1_; have HO170 := n2_; have HO173 := n3_; have HO176 := n4_; have BK163 := n5_; have HB := n6_; have BK178 := n7_; have GW178 := n8_; have GE178 := n9_; have NB163_178 := n10_; have NB178_163 := n11_; clear n0_ n1_ n2_ n3_ n4_ n5_ n6_ n7_ n8_ n9_ n10_ n11_; clear hb hbox hg; have hnb19 := NB178_163.out; have hnc19 := NB163_178.out; have hcz20_0 : w18.cell? ⟨gb178, 0, none⟩ = some (.int .i64 0) := (blk_cell BK178.out 0).trans rfl; have hcz20_1 : w18.cell? ⟨gb178, 1, none⟩ = some (.int .i64 0) := (blk_cell BK178.out 1).trans rfl; have hcz20_2 : w18.cell? ⟨gb178, 2, none⟩ = some (.int .i64 0) := (blk_cell BK178.out 2).trans rfl; have hcz20_3 : w18.cell? ⟨gb178, 3, none⟩ = some (.int .i64 0) := (blk_cell BK178.out 3).trans rfl; have hcz20_4 : w18.cell? ⟨gb178, 4, none⟩ = some (.slice none 0 0) := (blk_cell BK178.out 4).trans rfl; have hcz20_5 : w18.cell? ⟨gb178, 5, none⟩ = some (.slice none 0 0) := (blk_cell BK178.out 5).trans rfl; have hcz20_6 : w18.cell? ⟨gb178, 6, none⟩ = some (.slice none 0 0) := (blk_cell BK178.out 6).trans rfl; have hfz20_0 := blk_frozen BK178.out 0; have hfz20_1 := blk_frozen BK178.out 1; have hfz20_2 := blk_frozen BK178.out 2; have hfz20_3 := blk_frozen BK178.out 3; have hfz20_4 := blk_frozen BK178.out 4; have hfz20_5 := blk_frozen BK178.out 5; have hfz20_6 := blk_frozen BK178.out 6; obtain ⟨Ao21, co21, eo21⟩ := Kd.R_slice HO170.out; subst eo21; obtain ⟨Ao22, co22, eo22⟩ := Kd.R_slice HO173.out; subst eo22; obtain ⟨Ao23, co23, eo23⟩ := Kd.R_slice HO176.out; subst eo23) | ((with_reducible refine gate_store (t := 26) (p := 11) rfl ?_); refine store_event (t := 26) (p := 11) (v := ?vo_w24) (w1 := (((((((w18.setCell ⟨gb178, 0, none⟩ (.int .i64 t164)).setCell ⟨gb178, 1, none⟩ (.int .i64 t165)).setCell ⟨gb178, 2, none⟩ (.int .i64 t166)).setCell ⟨gb178, 3, none⟩ (.int .i64 t167)).setCell ⟨gb178, 4, none⟩ (.slice Ao21 t168.length co21)).setCell ⟨gb178, 5, none⟩ (.slice Ao22 t171.length co22)).setCell ⟨gb178, 6, none⟩ (.slice Ao23 t174.length co23))) ?hg ?ho ?hn ?hr ?_; (case ho => rfl); (case hg => rfl); (case hn => rfl); (case hr => first | (go_simp; done) | (go_simp; rfl)); intro w24 hw; have n0_ : Aside0 (Kd.S k26 26 w24 w.heap.size (fun k_ => some k_ ≠ (.slice Ao21 t168.length co21 : Value).ownBlock ∧ some k_ ≠ (.slice Ao22 t171.length co22 : Value).ownBlock ∧ some k_ ≠ (.slice Ao23 t174.length co23 : Value).ownBlock ∧ k_ ≠ gb178) u8 x8_1) := ⟨(by rw [hw]; exact (by (with_reducible repeat (first | apply Kd.S_alloc | apply Kd.S_drewN | apply Kd.S_drew)); exact Kd.S_mono (Kd.S_far (p := ⟨gb178, 6, none⟩) (Kd.S_far (p := ⟨gb178, 5, none⟩) (Kd.S_far (p := ⟨gb178, 4, none⟩) (Kd.S_far (p := ⟨gb178, 3, none⟩) (Kd.S_far (p := ⟨gb178, 2, none⟩) (Kd.S_far (p := ⟨gb178, 1, none⟩) (Kd.S_far (p := ⟨gb178, 0, none⟩) (Kd.S_mono HO_8.out (fun k_ hk => (⟨hk, hk.2⟩ : _ ∧ k_ ≠ gb178))) (fun _ hk => hk.2) (.int .i64 t164)) (fun _ hk => hk.2) (.int .i64 t165)) (fun _ hk => hk.2) (.int .i64 t166)) (fun _ hk => hk.2) (.int .i64 t167)) (fun _ hk => hk.2) (.slice Ao21 t168.length co21)) (fun _ hk => hk.2) (.slice Ao22 t171.length co22)) (fun _ hk => hk.2) (.slice Ao23 t174.length co23)) (fun _ hk => ⟨hk.1.1.1.1.2, ⟨hk.1.1.1.2, ⟨hk.1.1.2, hk.1.2⟩⟩⟩)))⟩; have n1_ : Aside0 (Kd.R k51 51 w24 w.heap.size (fun k_ => k_ ≠ gb163) (.slice (some ad162) t158.length co6) t158) := ⟨(by rw [hw]; exact (by (with_reducible repeat (first | apply rA | apply rN | apply rD)); exact Kd.R_mono (R_fars7 gb178 (Kd.R_types HO_23.out BK178.out (by decide)) (fun _ hk => hk.2) (.int .i64 t164) (.int .i64 t165) (.int .i64 t166) (.int .i64 t167) (.slice Ao21 t168.length co21) (.slice Ao22 t171.length co22) (.slice Ao23 t174.length co23)) (fun _ hk => hk.1.2)))⟩; have n2_ : Aside0 (Kd.R (Kd.int .i64) 3 w24 w.heap.size (fun k_ => some k_ ≠ (.slice Ao22 t171.length co22 : Value).ownBlock ∧ some k_ ≠ (.slice Ao23 t174.length co23 : Value).ownBlock) (.slice Ao21 t168.length co21) t168) := ⟨(by rw [hw]; exact (by (with_reducible repeat (first | apply rA | apply rN | apply rD)); exact Kd.R_mono (R_fars7 gb178 (Kd.R_types HO170.out BK178.out (by decide)) (fun _ hk => hk.2) (.int .i64 t164) (.int .i64 t165) (.int .i64 t166) (.int .i64 t167) (.slice Ao21 t168.length co21) (.slice Ao22 t171.length co22) (.slice Ao23 t174.length co23)) (fun _ hk => hk.1)))⟩; have n3_ : Aside0 (Kd.R (Kd.int .i64) 3 w24 w.heap.size (fun k_ => some k_ ≠ (.slice Ao21 t168.length co21 : Value).ownBlock ∧ some k_ ≠ (.slice Ao23 t174.length co23 : Value).ownBlock) (.slice Ao22 t171.length co22) t171) := ⟨(by rw [hw]; exact (by (with_reducible repeat (first | apply rA | apply rN | apply rD)); exact Kd.R_mono (R_fars7 gb178 (Kd.R_types HO173.out BK178.out (by decide)) (fun _ hk => hk.2) (.int .i64 t164) (.int .i64 t165) (.int .i64 t166) (.int .i64 t167) (.slice Ao21 t168.length co21) (.slice Ao22 t171.length co22) (.slice Ao23 t174.length co23)) (fun _ hk => hk.1)))⟩; have n4_ : Aside0 (Kd.R (Kd.int .i64) 3 w24 w.heap.size (fun k_ => some k_ ≠ (.slice Ao21 t168.length co21 : Value).ownBlock ∧ some k_ ≠ (.slice Ao22 t171.length co22 : Value).ownBlock) (.slice Ao23 t174.length co23) t174) := ⟨(by rw [hw]; exact (by (with_reducible repeat (first | apply rA | apply rN | apply rD)); exact Kd.R_mono (R_fars7 gb178 (Kd.R_types HO176.out BK178.out (by decide)) (fun _ hk => hk.2) (.int .i64 t164) (.int .i64 t165) (.int .i64 t166) (.int .i64 t167) (.slice Ao21 t168.length co21) (.slice Ao22 t171.length co22) (.slice Ao23 t174.length co23)) (fun _ hk => hk.1)))⟩; have n5_ : Aside0 (w24.heap[gb163]? = some (.cells #[.int .i64 ((rd_T51 t158 x25_1).f0), .int .i64 ((rd_T51 t158 x25_1).f1)] 51 (0, 0))) := ⟨(by rw [hw]; exact (by (with_reducible repeat (first | refine bN ?_ _ | refine bD ?_ | refine bA ?_ _ | refine blk_far ?_ NB163_178.out _)); exact BK163.out))⟩; have n6_ : Aside0 (w24.heap[gb178]? = some (.cells #[.int .i64 t164, .int .i64 t165, .int .i64 t166, .int .i64 t167, .slice Ao21 t168.length co21, .slice Ao22 t171.length co22, .slice Ao23 t174.length co23] 26 (0, 0))) := ⟨(by rw [hw]; exact (by (with_reducible repeat (first | refine bN ?_ _ | refine bD ?_ | refine bA ?_ _)); refine blk_put (cs := #[.int .i64 t164, .int .i64 t165, .int .i64 t166, .int .i64 t167, .slice Ao21 t168.length co21, .slice Ao22 t171.length co22, .slice none 0 0]) ?_ 6 _ rfl; (with_reducible repeat (first | refine bN ?_ _ | refine bD ?_ | refine bA ?_ _)); refine blk_put (cs := #[.int .i64 t164, .int .i64 t165, .int .i64 t166, .int .i64 t167, .slice Ao21 t168.length co21, .slice none 0 0, .slice none 0 0]) ?_ 5 _ rfl; (with_reducible repeat (first | refine bN ?_ _ | refine bD ?_ | refine bA ?_ _)); refine blk_put (cs := #[.int .i64 t164, .int .i64 t165, .int .i64 t166, .int .i64 t167, .slice none 0 0, .slice none 0 0, .slice none 0 0]) ?_ 4 _ rfl; (with_reducible repeat (first | refine bN ?_ _ | refine bD ?_ | refine bA ?_ _)); refine blk_put (cs := #[.int .i64 t164, .int .i64 t165, .int .i64 t166, .int .i64 0, .slice none 0 0, .slice none 0 0, .slice none 0 0]) ?_ 3 _ rfl; (with_reducible repeat (first | refine bN ?_ _ | refine bD ?_ | refine bA ?_ _)); refine blk_put (cs := #[.int .i64 t164, .int .i64 t165, .int .i64 0, .int .i64 0, .slice none 0 0, .slice none 0 0, .slice none 0 0]) ?_ 2 _ rfl; (with_reducible repeat (first | refine bN ?_ _ | refine bD ?_ | refine bA ?_ _)); refine blk_put (cs := #[.int .i64 t164, .int .i64 0, .int .i64 0, .int .i64 0, .slice none 0 0, .slice none 0 0, .slice none 0 0]) ?_ 1 _ rfl; (with_reducible repeat (first | refine bN ?_ _ | refine bD ?_ | refine bA ?_ _)); refine blk_put (cs := #[.int .i64 0, .int .i64 0, .int .i64 0, .int .i64 0, .slice none 0 0, .slice none 0 0, .slice none 0 0]) ?_ 0 _ rfl; (with_reducible repeat (first | refine bN ?_ _ | refine bD ?_ | refine bA ?_ _)); exact BK178.out))⟩; have n7_ : Aside0 (Below w.heap.size w w24) := ⟨(by rw [hw]; exact (by repeat (first | (with_reducible first | exact HB.out | apply wA | apply wN | apply wD | refine wS ?_ GE163.out | refine wS ?_ GE178.out) | exact HB.out)))⟩; clear hw; clear HO_8; clear HO_23; clear HO170; clear HO173; clear HO176; clear BK163; clear BK178; clear HB; have HO_8 := n0_; have HO_23 := n1_; have HO170 := n2_; have HO173 := n3_; have HO176 := n4_; have BK163 := n5_; have BK178 := n6_; have HB := n7_; clear n0_ n1_ n2_ n3_ n4_ n5_ n6_ n7_; have hcz25_0 : w24.cell? ⟨gb178, 0, none⟩ = some (.int .i64 t164) := (blk_cell BK178.out 0).trans rfl; have hcz25_1 : w24.cell? ⟨gb178, 1, none⟩ = some (.int .i64 t165) := (blk_cell BK178.out 1).trans rfl; have hcz25_2 : w24.cell? ⟨gb178, 2, none⟩ = some (.int .i64 t166) := (blk_cell BK178.out 2).trans rfl; have hcz25_3 : w24.cell? ⟨gb178, 3, none⟩ = some (.int .i64 t167) := (blk_cell BK178.out 3).trans rfl; have hcz25_4 : w24.cell? ⟨gb178, 4, none⟩ = some (.slice Ao21 t168.length co21) := (blk_cell BK178.out 4).trans rfl; have hcz25_5 : w24.cell? ⟨gb178, 5, none⟩ = some (.slice Ao22 t171.length co22) := (blk_cell BK178.out 5).trans rfl; have hcz25_6 : w24.cell? ⟨gb178, 6, none⟩ = some (.slice Ao23 t174.length co23) := (blk_cell BK178.out 6).trans rfl; have hfz25_0 := blk_frozen BK178.out 0; have hfz25_1 := blk_frozen BK178.out 1; have hfz25_2 := blk_frozen BK178.out 2; have hfz25_3 := blk_frozen BK178.out 3; have hfz25_4 := blk_frozen BK178.out 4; have hfz25_5 := blk_frozen BK178.out 5; have hfz25_6 := blk_frozen BK178.out 6) | ((with_reducible refine gate_builtin (b := .append) (xs := #[.tmp 39, .tmp 41]) rfl ?_); at_builtin; refine Kd.S_append k26 (w0 := w) w.heap.size rfl (.tmp 39) (.tmp 41) 34 26 (.agg #[(.int .i64 0), (.int .i64 0), (.int .i64 0), (.int .i64 0), (.slice none 0 0), (.slice none 0 0), (.slice none 0 0)]) 104 rfl Tryd.underlying34 info26 rfl (by decide) (by omega) u8 x8_1 (⟨t164, (⟨t165, t166, t167⟩ : S22), (⟨t168, t171, t174⟩ : S24)⟩ : S26) [.int .i64 t164, .int .i64 t165, .int .i64 t166, .int .i64 t167, .slice Ao21 t168.length co21, .slice Ao22 t171.length co22, .slice Ao23 t174.length co23] (fun k_ => k_ ≠ gb178) (fun k_ => some k_ = (.slice Ao21 t168.length co21 : Value).ownBlock ∨ some k_ = (.slice Ao22 t171.length co22 : Value).ownBlock ∨ some k_ = (.slice Ao23 t174.length co23 : Value).ownBlock) rfl rfl ?aP (fun k_ hk_ => hk_.elim (fun h_ => ((Kd.R_mono (ok' := fun k_ => ((fun k_ => k_ ≠ gb178)) k_ ∧ some k_ ≠ (u8 : Value).ownBlock) (Kd.R_types (Kd.R_apart' (HO170.out) (Kd.S_typed HO_8.out) (by decide)) BK178.out (by decide)) (fun k_ hk => ⟨hk.2, hk.1.2⟩))).1 k_ h_.symm) (fun h_ => h_.elim (fun h_ => ((Kd.R_mono (ok' := fun k_ => ((fun k_ => k_ ≠ gb178)) k_ ∧ some k_ ≠ (u8 : Value).ownBlock) (Kd.R_types (Kd.R_apart' (HO173.out) (Kd.S_typed HO_8.out) (by decide)) BK178.out (by decide)) (fun k_ hk => ⟨hk.2, hk.1.2⟩))).1 k_ h_.symm) (fun h_ => ((Kd.R_mono (ok' := fun k_ => ((fun k_ => k_ ≠ gb178)) k_ ∧ some k_ ≠ (u8 : Value).ownBlock) (Kd.R_types (Kd.R_apart' (HO176.out) (Kd.S_typed HO_8.out) (by decide)) BK178.out (by decide)) (fun k_ hk => ⟨hk.2, hk.1.2⟩))).1 k_ h_.symm))) ?aF ?aO ?aB ?aS ?aL ?_; (case aP => exact k26_mkM _ _ _ (⟨t164, (⟨t165, t166, t167⟩ : S22), (⟨t168, t171, t174⟩ : S24)⟩ : S26) (Kd.R_mono (Kd.R_tight rfl (Kd.R_mono (ok' := fun k_ => ((fun k_ => k_ ≠ gb178)) k_ ∧ some k_ ≠ (u8 : Value).ownBlock) (Kd.R_types (Kd.R_apart' (HO170.out) (Kd.S_typed HO_8.out) (by decide)) BK178.out (by decide)) (fun k_ hk => ⟨hk.2, hk.1.2⟩))) (fun _ h_ => Or.inl h_)) (Kd.R_mono (Kd.R_tight rfl (Kd.R_mono (ok' := fun k_ => ((fun k_ => k_ ≠ gb178)) k_ ∧ some k_ ≠ (u8 : Value).ownBlock) (Kd.R_types (Kd.R_apart' (HO173.out) (Kd.S_typed HO_8.out) (by decide)) BK178.out (by decide)) (fun k_ hk => ⟨hk.2, hk.1.2⟩))) (fun _ h_ => Or.inr (Or.inl h_))) (Kd.R_mono (Kd.R_tight rfl (Kd.R_mono (ok' := fun k_ => ((fun k_ => k_ ≠ gb178)) k_ ∧ some k_ ≠ (u8 : Value).ownBlock) (Kd.R_types (Kd.R_apart' (HO176.out) (Kd.S_typed HO_8.out) (by decide)) BK178.out (by decide)) (fun k_ hk => ⟨hk.2, hk.1.2⟩))) (fun _ h_ => Or.inr (Or.inr (h_))))); (case aB => exact (by repeat (first | (with_reducible first | exact HB.out | apply wA | apply wN | apply wD | refine wS ?_ GE163.out | refine wS ?_ GE178.out) | exact HB.out))); (case aF => exact (fun k_ hk => Kd.freshB (g := gb178) (o := .cells #[.int .i64 t164, .int .i64 t165, .int .i64 t166, .int .i64 t167, .slice Ao21 t168.length co21, .slice Ao22 t171.length co22, .slice Ao23 t174.length co23] 26 (0, 0)) (by (with_reducible repeat (first | refine bN ?_ _ | refine bD ?_ | refine bA ?_ _)); exact BK178.out) k_ hk)); (case aO => exact (by (with_reducible repeat (first | apply Kd.S_alloc | apply Kd.S_drewN | apply Kd.S_drew)); exact Kd.S_mono HO_8.out (fun k_ hk => ⟨hk.2.2.2, fun e_ => e_.elim (fun h_ => hk.1 h_) (fun h_ => h_.elim (fun h_ => hk.2.1 h_) (fun h_ => hk.2.2.1 h_))⟩))); (case aS => exact (below_size (by repeat (first | (with_reducible first | exact HB.out | apply wA | apply wN | apply wD | refine wS ?_ GE163.out | refine wS ?_ GE178.out) | exact HB.out)))); (case aL => have := LMc14.out; first | omega | exact Nat.le_of_lt this); intro v180 w26 ho hb hg hat; rw [← Ny179.out] at ho; have n0_ := Aside0.mk (Kd.R_over' (by (with_reducible repeat (first | apply rA | apply rN | apply rD)); exact HO_23.out) (Kd.S_typed (by (with_reducible repeat (first | apply Kd.S_alloc | apply Kd.S_drewN | apply Kd.S_drew)); exact HO_8.out)) (by decide) hg); have n1_ := Aside0.mk (blk_grown (g := gb163) (o := .cells #[.int .i64 ((rd_T51 t158 x25_1).f0), .int .i64 ((rd_T51 t158 x25_1).f1)] 51 (0, 0)) (by (with_reducible repeat (first | refine bN ?_ _ | refine bD ?_ | refine bA ?_ _)); exact BK163.out) hg (Kd.S_ne HO_8.out BK163.out (by decide))); have n2_ := Aside0.mk (blk_grown (g := gb178) (o := .cells #[.int .i64 t164, .int .i64 t165, .int .i64 t166, .int .i64 t167, .slice Ao21 t168.length co21, .slice Ao22 t171.length co22, .slice Ao23 t174.length co23] 26 (0, 0)) (by (with_reducible repeat (first | refine bN ?_ _ | refine bD ?_ | refine bA ?_ _)); exact BK178.out) hg (Kd.S_away HO_8.out (fun _ hk => hk.2.2.2))); have n3_ := Aside0.mk (hb); have n4_ := Aside0.mk (ho); clear HO_23; clear BK163; clear BK178; clear HB; clear HO_8; clear HO170; clear HO173; clear HO176; have HO_23 := n0_; have BK163 := n1_; have BK178 := n2_; have HB := n3_; have HO181 := n4_; clear n0_ n1_ n2_ n3_ n4_; clear ho hb hg hat))
           go_roundg k1
           case measure => have := HK1.out; omega
           case rel => exact ⟨(y179), (wrap64 (x25_1 + 1)), (by first | rfl | (simp; done) | (simp [*]; done)), H', ⟨by have := HK1.out; omega⟩, ⟨by (with_reducible repeat (first | apply Kd.S_alloc | apply Kd.S_drewN | apply Kd.S_drew)); exact Kd.S_mono HO181.out (fun _ hk => trivial)⟩, ⟨by (with_reducible repeat (first | apply rA | apply rN | apply rD)); exact Kd.R_mono HO_23.out (fun _ hk => trivial)⟩, ⟨by repeat (first | (with_reducible first | exact HB.out | apply wA | apply wN | apply wD | refine wS ?_ GE163.out | refine wS ?_ GE178.out) | exact HB.out)⟩⟩
          ·rw [if_neg c14] at H
           exact absurd H (by simp)
         ·rw [if_neg c12] at H
          exact absurd H (by simp)
        ·rw [if_neg c11] at H
         exact absurd H (by simp)
       ·rw [if_neg c10] at H
        exact absurd H (by simp)
      ·rw [if_neg c9] at H
       exact absurd H (by simp)
     ·rw [if_neg c8] at H
      exact absurd H (by simp)
    ·rw [if_neg c7] at H
     have c7b0 : decide (x25_1 < (t158.length : Int)) = false := decide_eq_false c7
     clear c7
     simp only [Option.some.injEq, Prod.mk.injEq] at H
     obtain ⟨rfl, rfl⟩ := H
     go_wp2
     go_ret2
     exact ⟨_, by first | rfl | (simp [errW_none, errW_some] <;> rfl) | (simp [*, errW_none, errW_some] <;> rfl), by (with_reducible repeat (first | apply Kd.S_alloc | apply Kd.S_drewN | apply Kd.S_drew)); exact HO_8.out, by repeat (first | (with_reducible first | exact HB.out | apply wA | apply wN | apply wD) | exact HB.out)⟩
 ·rw [if_neg c4] at H
  have c4b0 : (t159 == 0) = false := beq_eq_false_iff_ne.mpr c4
  have c4b1 : (t159 != 0) = true := bne_iff_ne.mpr c4
  simp only [Option.some.injEq, Prod.mk.injEq] at H
  obtain ⟨rfl, rfl⟩ := H
  go_enter Tryd.func15, Tryd.ntmps15
  go_wp2_with (first | ((with_reducible refine gate_callee (f := 13) rfl ?_); refine goesL_ (some 17) rfl rfl Tryd.func13 (by kernel_rfl) rfl #[.int .i64 (a0.size : Int), .int .i64 a1] rfl (by (try simp only [List.map_toArray, List.map_cons, List.map_nil]); first | done | rfl | (simp only [List.length_drop, List.length_take]; rfl)) ?_; (with_reducible refine (scan_Chunks.calls k (a0.size : Int) a1 t158 t159 _ A3.out).mono ?_); rintro e w27 ⟨v160, rfl, ho0, hb⟩; refine ⟨_, rfl, ?_⟩; have n0_ := Aside0.mk (Kd.R_lower ho0 (below_size (by repeat (first | (with_reducible first | exact HB.out | apply wA | apply wN | apply wD) | exact HB.out)))); have n1_ := Aside0.mk (below_step (by repeat (first | (with_reducible first | exact HB.out | apply wA | apply wN | apply wD) | exact HB.out)) hb); clear HB; have HO161 := n0_; have HB := n1_; clear n0_ n1_; (try clear hb); (try clear hb2); (try clear hk); (try clear hi); (try clear ho0)))
  go_ret2
  exact ⟨_, by first | rfl | (simp [errW_none, errW_some] <;> rfl) | (simp [*, errW_none, errW_some] <;> rfl), by first | exact Kd.S_nil _ _ _ _ _ | exact Kd.N_nil _ _ _ _ _ | exact Kd.V_nil _ _ _ _ _ | exact Kd.Q_nil _ _ _ _ _ | exact Kd.R_nil _ _ _ _ _, by repeat (first | (with_reducible first | exact HB.out | apply wA | apply wN | apply wD) | exact HB.out)⟩

/-! ### scan_Records: function 21 -/
def scan_Records.l0 : Nat → ByteArray → List (S51) → Int → Int → Int → List (S26) → Int → Int → Option ((List (S51)) × Int)
 | 0, _, _, _, _, _, _, _, _ => none
 | k + 1, x0, x8, x9, x10, x11, x24, x25, x26 => if x26 < x25 then (if 0 ≤ x26 then (if x26 < (x24.length : Int) then ((scan_Resolve.f k x9 x10 x11 ((rd_T26 x24 x26).f0) ((rd_T26 x24 x26).f1.f0) ((rd_T26 x24 x26).f1.f1) ((rd_T26 x24 x26).f1.f2) ((rd_T26 x24 x26).f2.f0) ((rd_T26 x24 x26).f2.f1) ((rd_T26 x24 x26).f2.f2)).bind fun bt188 => (if x8.length + bt188.1.length < 8796093022208 then (scan_Records.l0 k x0 (x8 ++ bt188.1) (wrap64 (x9 + ((rd_T26 x24 x26).f0))) bt188.2.1 bt188.2.2.1 x24 x25 (wrap64 (x26 + 1))) else (none))) else (none)) else (none)) else (if x11 < (x0.size : Int) then (if x8.length < 8796093022208 then (some ((x8 ++ [(⟨x11, (x0.size : Int)⟩ : S51)]), 0)) else (none)) else (some (x8, 0)))
def scan_Records.f (k : Nat) (a0 : ByteArray) (a1 : Int) : Option ((List (S51)) × Int) := (scan_Summaries.f k a0 a1).bind fun bt182 => (if bt182.2 = 0 then (scan_Records.l0 k a0 ([] : List (S51)) 0 0 0 bt182.1 (bt182.1.length : Int) 0) else (some (([] : List (S51)), bt182.2)))
theorem scan_Records.mono_l : ∀ k, (∀ y0 y1 y2 y3 y4 y5 y6 y7, LeO (scan_Records.l0 k y0 y1 y2 y3 y4 y5 y6 y7) (scan_Records.l0 (k + 1) y0 y1 y2 y3 y4 y5 y6 y7))
 | 0 => fun _ _ _ _ _ _ _ _ r h => by simp [scan_Records.l0] at h
 | k + 1 => by
  have ih0 := scan_Records.mono_l k
  ·intro y0 y1 y2 y3 y4 y5 y6 y7
   unfold scan_Records.l0
   repeat' first
   | (with_reducible exact ih0 _ _ _ _ _ _ _ _)
   | (with_reducible exact scan_Resolve.mono _ _ _ _ _ _ _ _ _ _ _)
   | (with_reducible exact scan_Summaries.mono _ _ _)
   | (with_reducible exact LeO.refl _)
   | (with_reducible exact LeO.none _)
   | (with_reducible refine LeO.ite ?_ ?_)
   | (with_reducible refine LeO.bind ?_ (fun _ => ?_))
   | exact ih0 _ _ _ _ _ _ _ _
   | exact scan_Resolve.mono _ _ _ _ _ _ _ _ _ _ _
   | exact scan_Summaries.mono _ _ _
   | exact LeO.none _
   | refine LeO.ite ?_ ?_
   | refine LeO.bind ?_ (fun _ => ?_)
theorem scan_Records.mono : ∀ a0 a1 k, LeO (scan_Records.f k a0 a1) (scan_Records.f (k + 1) a0 a1) := by
 intro a0 a1 k
 have ih0 := scan_Records.mono_l k
 unfold scan_Records.f
 repeat' first
   | (with_reducible exact ih0 _ _ _ _ _ _ _ _)
   | (with_reducible exact scan_Resolve.mono _ _ _ _ _ _ _ _ _ _ _)
   | (with_reducible exact scan_Summaries.mono _ _ _)
   | (with_reducible exact LeO.refl _)
   | (with_reducible exact LeO.none _)
   | (with_reducible refine LeO.ite ?_ ?_)
   | (with_reducible refine LeO.bind ?_ (fun _ => ?_))
   | exact ih0 _ _ _ _ _ _ _ _
   | exact scan_Resolve.mono _ _ _ _ _ _ _ _ _ _ _
   | exact scan_Summaries.mono _ _ _
   | exact LeO.none _
   | refine LeO.ite ?_ ?_
   | refine LeO.bind ?_ (fun _ => ?_)
set_option maxHeartbeats 8000000 in
set_option maxRecDepth 100000 in
theorem scan_Records.calls (k : Nat) (a0 : ByteArray) (a1 : Int) (r1 : List (S51)) (r2 : Int) (w : World) (hG : GlbLaid w) (h : scan_Records.f k a0 a1 = some (r1, r2)) :
  Calls Tryd.prog 21 #[.string a0, .int .i64 a1] w fun e w' => ∃ v0_ : Value, e = .returned (.tuple #[v0_, .int .i64 r2]) ∧ Kd.R k51 51 w' w.heap.size (fun _ => True) v0_ r1 ∧ Below w.heap.size w w' := by
 have hu26 := Tryd.underlying26
 have hu51 := Tryd.underlying51
 have HG := Aside0.mk hG
 clear hG
 have HB := Aside0.mk (Below.refl w.heap.size w)
 have H : ((scan_Summaries.f k a0 a1).bind fun bt182 => (if bt182.2 = 0 then (scan_Records.l0 k a0 ([] : List (S51)) 0 0 0 bt182.1 (bt182.1.length : Int) 0) else (some (([] : List (S51)), bt182.2)))) = some (r1, r2) := h
 clear h
 replace H := Option.bind_eq_some_iff.mp H
 obtain ⟨⟨t182, t183⟩, A30, H⟩ := H
 replace H : (if t183 = 0 then (scan_Records.l0 k a0 ([] : List (S51)) 0 0 0 t182 (t182.length : Int) 0) else (some (([] : List (S51)), t183))) = some (r1, r2) := H
 have A3 := Aside0.mk A30
 clear A30
 by_cases c4 : t183 = 0
 ·rw [if_pos c4] at H
  have c4b0 : (t183 == 0) = true := beq_iff_eq.mpr c4
  have c4b1 : (t183 != 0) = false := bne_eq_false_iff_eq.mpr c4
  clear c4
  have H' := Aside0.mk H
  clear H
  go_enter Tryd.func21, Tryd.ntmps21
  go_wp2_with (first | ((with_reducible refine gate_callee (f := 15) rfl ?_); refine goesL_ (some 18) rfl rfl Tryd.func15 (by kernel_rfl) rfl #[.string a0, .int .i64 a1] rfl (by (try simp only [List.map_toArray, List.map_cons, List.map_nil]); first | done | rfl | (simp only [List.length_drop, List.length_take]; rfl)) ?_; (with_reducible refine (scan_Summaries.calls k a0 a1 t182 t183 _ ?side1 A3.out).mono ?_); (case side1 => exact GlbLaid.below HG.out (by repeat (first | (with_reducible first | exact HB.out | apply wA | apply wN | apply wD) | exact HB.out))); rintro e w5 ⟨v184, rfl, ho0, hb⟩; refine ⟨_, rfl, ?_⟩; have n0_ := Aside0.mk (Kd.S_lower ho0 (below_size (by repeat (first | (with_reducible first | exact HB.out | apply wA | apply wN | apply wD) | exact HB.out)))); have n1_ := Aside0.mk (below_step (by repeat (first | (with_reducible first | exact HB.out | apply wA | apply wN | apply wD) | exact HB.out)) hb); clear HB; have HO185 := n0_; have HB := n1_; clear n0_ n1_; (try clear hb); (try clear hb2); (try clear hk); (try clear hi); (try clear ho0); obtain ⟨Ao6, co6, eo6⟩ := Kd.S_slice HO185.out; subst eo6))
  go_loopg [8, 9, 10, 11, 26] k (fun kq v8 v9 v10 v11 v26 w' => ∃ (x8_1 : List (S51)) (x9_1 : Int) (x10_1 : Int) (x11_1 : Int) (x26_1 : Int), v9 = .int .i64 x9_1 ∧ v10 = .int .i64 x10_1 ∧ v11 = .int .i64 x11_1 ∧ v26 = .int .i64 x26_1 ∧ Aside0 (scan_Records.l0 kq a0 x8_1 x9_1 x10_1 x11_1 t182 (t182.length : Int) x26_1 = some (r1, r2)) ∧ Aside0 (kq ≤ k) ∧ Aside0 (Kd.R k51 51 w' w.heap.size (fun _ => True) v8 x8_1) ∧ Aside0 (Kd.S k26 26 w' w.heap.size (fun _ => True) (.slice Ao6 t182.length co6) t182) ∧ Aside0 (Below w.heap.size w w'))
  case atStart => exact ⟨(([] : List (S51))), (0), (0), (0), (0), (by first | rfl | (simp; done) | (simp [*]; done)), (by first | rfl | (simp; done) | (simp [*]; done)), (by first | rfl | (simp; done) | (simp [*]; done)), (by first | rfl | (simp; done) | (simp [*]; done)), H', ⟨Nat.le_refl _⟩, ⟨by first | exact Kd.R_nil _ _ _ _ _ | exact Kd.N_nil _ _ _ _ _ | exact Kd.V_nil _ _ _ _ _ | exact Kd.Q_nil _ _ _ _ _ | exact Kd.S_nil _ _ _ _ _⟩, ⟨by (with_reducible repeat (first | apply Kd.S_alloc | apply Kd.S_drewN | apply Kd.S_drew)); exact HO185.out⟩, ⟨by repeat (first | (with_reducible first | exact HB.out | apply wA | apply wN | apply wD) | exact HB.out)⟩⟩
  case round =>
   clear H'
   (try clear c1); (try clear c2); (try clear p2); (try clear c4); (try clear c4b0); (try clear c4b1)
   obtain ⟨x8_1, x9_1, x10_1, x11_1, x26_1, rfl, rfl, rfl, rfl, HA, HK1, HO_8, HO_24, HB⟩ := hrel
   cases gk with
   | zero => exact absurd HA.out (by simp [scan_Records.l0])
   | succ k1 =>
    have H := HA.out
    clear HA
    simp only [scan_Records.l0] at H
    by_cases c7 : x26_1 < (t182.length : Int)
    ·rw [if_pos c7] at H
     have c7b0 : decide (x26_1 < (t182.length : Int)) = true := decide_eq_true c7
     clear c7
     by_cases c8 : 0 ≤ x26_1
     ·rw [if_pos c8] at H
      have c8b0 : decide (0 ≤ x26_1) = true := decide_eq_true c8
      clear c8
      by_cases c9 : x26_1 < (t182.length : Int)
      ·rw [if_pos c9] at H
       have c9b0 : decide (x26_1 < (t182.length : Int)) = true := decide_eq_true c9
       clear c9
       replace H := Option.bind_eq_some_iff.mp H
       obtain ⟨⟨t188, t191, t192, t193⟩, A100, H⟩ := H
       replace H : (if x8_1.length + t188.length < 8796093022208 then (scan_Records.l0 k1 a0 (x8_1 ++ t188) (wrap64 (x9_1 + ((rd_T26 t182 x26_1).f0))) t191 t192 t182 (t182.length : Int) (wrap64 (x26_1 + 1))) else (none)) = some (r1, r2) := H
       have A10 := Aside0.mk A100
       clear A100
       by_cases c11 : x8_1.length + t188.length < 8796093022208
       ·rw [if_pos c11] at H
        have LMc11 := Aside0.mk c11
        clear c11
        obtain ⟨y194, hy194⟩ : ∃ y_ : List (S51), y_ = (x8_1 ++ t188) := ⟨_, rfl⟩
        replace H : (scan_Records.l0 k1 a0 y194 (wrap64 (x9_1 + ((rd_T26 t182 x26_1).f0))) t191 t192 t182 (t182.length : Int) (wrap64 (x26_1 + 1))) = some (r1, r2) := by first | (rw [hy194]; with_reducible exact H) | (have H2_ := (Option.bind_some _ _).symm.trans H; rw [hy194]; with_reducible exact H2_) | (have H2_ := (Option.bind_some _ _).symm.trans H; with_reducible exact H2_) | with_reducible exact H | (rw [hy194]; exact H) | exact H
        have Ny194 := Aside0.mk hy194
        clear hy194
        have H' := Aside0.mk H
        clear H
        have p186 : 0 ≤ (x26_1 : Int) := of_decide_eq_true (by first | (with_reducible assumption) | assumption)
        have q186 : x26_1 < (t182.length : Int) := of_decide_eq_true (by first | (with_reducible assumption) | assumption)
        obtain ⟨ad186, A186_4, c186_4, A186_5, c186_5, A186_6, c186_6, e186, hx186_0, hx186_1, hx186_2, hx186_3, hx186_4, hx186_5, hx186_6, hl186_4, hi186_4, hl186_5, hi186_5, hl186_6, hi186_6⟩ := at_T26 (Kd.S_reads' HO_24.out).2.2 x26_1 p186 q186
        cases e186
        obtain ⟨ce186, hce186, hMe186, hcc186⟩ := Kd.S_get HO_24.out z26 x26_1 p186 (by first | exact q186 | exact of_decide_eq_true (by first | (with_reducible assumption) | assumption) | (have e_ := (Kd.S_reads' HO_24.out).1; omega))
        obtain ⟨ve186_4, ve186_5, ve186_6, rfl, ge186_4, ge186_5, ge186_6⟩ := k26_openM hMe186
        have hv186_4 := hcc186 4 _ rfl
        rw [add_field _ _ 4 (by omega)] at hv186_4
        replace hv186_4 := Option.some.inj (hv186_4.symm.trans hx186_4)
        rw [hv186_4] at ge186_4
        have HL186_4 := Aside0.mk (show Kd.R (Kd.int .i64) 3 _ _ _ _ ((rd_T26 t182 x26_1).f2.f0) from ge186_4)
        clear hv186_4 ge186_4
        have hv186_5 := hcc186 5 _ rfl
        rw [add_field _ _ 5 (by omega)] at hv186_5
        replace hv186_5 := Option.some.inj (hv186_5.symm.trans hx186_5)
        rw [hv186_5] at ge186_5
        have HL186_5 := Aside0.mk (show Kd.R (Kd.int .i64) 3 _ _ _ _ ((rd_T26 t182 x26_1).f2.f1) from ge186_5)
        clear hv186_5 ge186_5
        have hv186_6 := hcc186 6 _ rfl
        rw [add_field _ _ 6 (by omega)] at hv186_6
        replace hv186_6 := Option.some.inj (hv186_6.symm.trans hx186_6)
        rw [hv186_6] at ge186_6
        have HL186_6 := Aside0.mk (show Kd.R (Kd.int .i64) 3 _ _ _ _ ((rd_T26 t182 x26_1).f2.f2) from ge186_6)
        clear hv186_6 ge186_6
        clear hcc186 hce186
        have HR186_4 := Aside0.mk hi186_4
        have HC186_4 := Aside0.mk hl186_4
        clear hi186_4 hl186_4
        have HR186_5 := Aside0.mk hi186_5
        have HC186_5 := Aside0.mk hl186_5
        clear hi186_5 hl186_5
        have HR186_6 := Aside0.mk hi186_6
        have HC186_6 := Aside0.mk hl186_6
        clear hi186_6 hl186_6
        replace p186 := eq_true p186; replace q186 := eq_true q186
        go_wp2_with (first | ((with_reducible refine gate_dst (N := 13) rfl ?_); refine box_event ?hg (N := 13) ?hd (cs := #[.int .i64 0, .int .i64 0, .int .i64 0, .int .i64 0, .slice none 0 0, .slice none 0 0, .slice none 0 0]) (t := 26) ?hr ?_; (case hd => rfl); (case hg => rfl); (case hr => first | (go_simp; done) | (go_simp; rfl)); intro gb187 hg w12 hbox hb; have n0_ := Aside0.mk (Kd.R_below (by (with_reducible repeat (first | apply rA | apply rN | apply rD)); exact HO_8.out) hb); have n1_ := Aside0.mk (Kd.S_below (Kd.S_elderB (by (with_reducible repeat (first | apply Kd.S_alloc | apply Kd.S_drewN | apply Kd.S_drew)); exact HO_24.out) gb187 (Nat.le_of_eq hg.symm)) hb); have n2_ := Aside0.mk (Kd.R_below (by (with_reducible repeat (first | apply rA | apply rN | apply rD)); exact HL186_4.out) hb); have n3_ := Aside0.mk (Kd.R_below (by (with_reducible repeat (first | apply rA | apply rN | apply rD)); exact HL186_5.out) hb); have n4_ := Aside0.mk (Kd.R_below (by (with_reducible repeat (first | apply rA | apply rN | apply rD)); exact HL186_6.out) hb); have n5_ := Aside0.mk (Kd.C_below (by repeat (first | (with_reducible exact HR186_4.out) | (with_reducible refine Kd.C_alloc ?_ _) | (with_reducible refine Kd.C_drewN ?_ _) | (with_reducible refine Kd.C_drew ?_) | exact HR186_4.out)) hb); have n6_ := Aside0.mk (Kd.C_below (by repeat (first | (with_reducible exact HR186_5.out) | (with_reducible refine Kd.C_alloc ?_ _) | (with_reducible refine Kd.C_drewN ?_ _) | (with_reducible refine Kd.C_drew ?_) | exact HR186_5.out)) hb); have n7_ := Aside0.mk (Kd.C_below (by repeat (first | (with_reducible exact HR186_6.out) | (with_reducible refine Kd.C_alloc ?_ _) | (with_reducible refine Kd.C_drewN ?_ _) | (with_reducible refine Kd.C_drew ?_) | exact HR186_6.out)) hb); have n8_ := Aside0.mk (below_step (by repeat (first | (with_reducible first | exact HB.out | apply wA | apply wN | apply wD) | exact HB.out)) hb); have n9_ := Aside0.mk (hbox); have n10_ := Aside0.mk ((by rw [hg]; exact (below_size (by repeat (first | (with_reducible first | exact HB.out | apply wA | apply wN | apply wD) | exact HB.out))) : w.heap.size ≤ gb187)); have n11_ := n10_; clear HO_8; clear HO_24; clear HL186_4; clear HL186_5; clear HL186_6; clear HR186_4; clear HR186_5; clear HR186_6; clear HB; have HO_8 := n0_; have HO_24 := n1_; have HL186_4 := n2_; have HL186_5 := n3_; have HL186_6 := n4_; have HR186_4 := n5_; have HR186_5 := n6_; have HR186_6 := n7_; have HB := n8_; have BK187 := n9_; have GW187 := n10_; have GE187 := n11_; clear n0_ n1_ n2_ n3_ n4_ n5_ n6_ n7_ n8_ n9_ n10_ n11_; clear hb hbox hg; have hcz13_0 : w12.cell? ⟨gb187, 0, none⟩ = some (.int .i64 0) := (blk_cell BK187.out 0).trans rfl; have hcz13_1 : w12.cell? ⟨gb187, 1, none⟩ = some (.int .i64 0) := (blk_cell BK187.out 1).trans rfl; have hcz13_2 : w12.cell? ⟨gb187, 2, none⟩ = some (.int .i64 0) := (blk_cell BK187.out 2).trans rfl; have hcz13_3 : w12.cell? ⟨gb187, 3, none⟩ = some (.int .i64 0) := (blk_cell BK187.out 3).trans rfl; have hcz13_4 : w12.cell? ⟨gb187, 4, none⟩ = some (.slice none 0 0) := (blk_cell BK187.out 4).trans rfl; have hcz13_5 : w12.cell? ⟨gb187, 5, none⟩ = some (.slice none 0 0) := (blk_cell BK187.out 5).trans rfl; have hcz13_6 : w12.cell? ⟨gb187, 6, none⟩ = some (.slice none 0 0) := (blk_cell BK187.out 6).trans rfl; have hfz13_0 := blk_frozen BK187.out 0; have hfz13_1 := blk_frozen BK187.out 1; have hfz13_2 := blk_frozen BK187.out 2; have hfz13_3 := blk_frozen BK187.out 3; have hfz13_4 := blk_frozen BK187.out 4; have hfz13_5 := blk_frozen BK187.out 5; have hfz13_6 := blk_frozen BK187.out 6) | ((with_reducible refine gate_callee (f := 10) rfl ?_); refine goesL_ (some 35) rfl rfl Tryd.func10 (by kernel_rfl) rfl #[.int .i64 x9_1, .int .i64 x10_1, .int .i64 x11_1, .agg #[.int .i64 ((rd_T26 t182 x26_1).f0), .int .i64 ((rd_T26 t182 x26_1).f1.f0), .int .i64 ((rd_T26 t182 x26_1).f1.f1), .int .i64 ((rd_T26 t182 x26_1).f1.f2), .slice A186_4 ((rd_T26 t182 x26_1).f2.f0).length c186_4, .slice A186_5 ((rd_T26 t182 x26_1).f2.f1).length c186_5, .slice A186_6 ((rd_T26 t182 x26_1).f2.f2).length c186_6]] rfl (by (try simp only [List.map_toArray, List.map_cons, List.map_nil]); first | done | rfl | (simp only [List.length_drop, List.length_take]; rfl)) ?_; (with_reducible refine (scan_Resolve.calls k1 x9_1 x10_1 x11_1 ((rd_T26 t182 x26_1).f0) ((rd_T26 t182 x26_1).f1.f0) ((rd_T26 t182 x26_1).f1.f1) ((rd_T26 t182 x26_1).f1.f2) _ _ ((rd_T26 t182 x26_1).f2.f0) _ _ ((rd_T26 t182 x26_1).f2.f1) _ _ ((rd_T26 t182 x26_1).f2.f2) t188 t191 t192 t193 _ ?side1 ?side2 ?side3 ?side4 ?side5 ?side6 A10.out).mono ?_); (case side1 => repeat (first | exact ((Kd.R_reads' (by (with_reducible repeat (first | apply rA | apply rN | apply rD)); exact (Kd.R_mono (R_fars7 gb187 (Kd.R_types HL186_4.out BK187.out (by decide)) (fun _ hk => hk.2) (.int .i64 ((rd_T26 t182 x26_1).f0)) (.int .i64 ((rd_T26 t182 x26_1).f1.f0)) (.int .i64 ((rd_T26 t182 x26_1).f1.f1)) (.int .i64 ((rd_T26 t182 x26_1).f1.f2)) (.slice A186_4 ((rd_T26 t182 x26_1).f2.f0).length c186_4) (.slice A186_5 ((rd_T26 t182 x26_1).f2.f1).length c186_5) (.slice A186_6 ((rd_T26 t182 x26_1).f2.f2).length c186_6)) (fun _ h_ => h_.1)))).2.2) | (with_reducible refine Kd.C_alloc ?_ _) | (with_reducible refine Kd.C_drewN ?_ _) | (with_reducible refine Kd.C_drew ?_))); (case side2 => exact HC186_4.out); (case side3 => repeat (first | exact ((Kd.R_reads' (by (with_reducible repeat (first | apply rA | apply rN | apply rD)); exact (Kd.R_mono (R_fars7 gb187 (Kd.R_types HL186_5.out BK187.out (by decide)) (fun _ hk => hk.2) (.int .i64 ((rd_T26 t182 x26_1).f0)) (.int .i64 ((rd_T26 t182 x26_1).f1.f0)) (.int .i64 ((rd_T26 t182 x26_1).f1.f1)) (.int .i64 ((rd_T26 t182 x26_1).f1.f2)) (.slice A186_4 ((rd_T26 t182 x26_1).f2.f0).length c186_4) (.slice A186_5 ((rd_T26 t182 x26_1).f2.f1).length c186_5) (.slice A186_6 ((rd_T26 t182 x26_1).f2.f2).length c186_6)) (fun _ h_ => h_.1)))).2.2) | (with_reducible refine Kd.C_alloc ?_ _) | (with_reducible refine Kd.C_drewN ?_ _) | (with_reducible refine Kd.C_drew ?_))); (case side4 => exact HC186_5.out); (case side5 => repeat (first | exact ((Kd.R_reads' (by (with_reducible repeat (first | apply rA | apply rN | apply rD)); exact (Kd.R_mono (R_fars7 gb187 (Kd.R_types HL186_6.out BK187.out (by decide)) (fun _ hk => hk.2) (.int .i64 ((rd_T26 t182 x26_1).f0)) (.int .i64 ((rd_T26 t182 x26_1).f1.f0)) (.int .i64 ((rd_T26 t182 x26_1).f1.f1)) (.int .i64 ((rd_T26 t182 x26_1).f1.f2)) (.slice A186_4 ((rd_T26 t182 x26_1).f2.f0).length c186_4) (.slice A186_5 ((rd_T26 t182 x26_1).f2.f1).length c186_5) (.slice A186_6 ((rd_T26 t182 x26_1).f2.f2).length c186_6)) (fun _ h_ => h_.1)))).2.2) | (with_reducible refine Kd.C_alloc ?_ _) | (with_reducible refine Kd.C_drewN ?_ _) | (with_reducible refine Kd.C_drew ?_))); (case side6 => exact HC186_6.out); rintro e w14 ⟨v189, rfl, ho0, hb⟩; refine ⟨_, rfl, ?_⟩; have n0_ := Aside0.mk (Kd.R_elder' (by (with_reducible repeat (first | apply rA | apply rN | apply rD)); exact (Kd.R_mono (R_fars7 gb187 (Kd.R_types HO_8.out BK187.out (by decide)) (fun _ hk => hk.2) (.int .i64 ((rd_T26 t182 x26_1).f0)) (.int .i64 ((rd_T26 t182 x26_1).f1.f0)) (.int .i64 ((rd_T26 t182 x26_1).f1.f1)) (.int .i64 ((rd_T26 t182 x26_1).f1.f2)) (.slice A186_4 ((rd_T26 t182 x26_1).f2.f0).length c186_4) (.slice A186_5 ((rd_T26 t182 x26_1).f2.f1).length c186_5) (.slice A186_6 ((rd_T26 t182 x26_1).f2.f2).length c186_6)) (fun _ h_ => h_.1))) (Kd.R_base ho0) hb); have n1_ := Aside0.mk (Kd.S_below (by (with_reducible repeat (first | apply Kd.S_alloc | apply Kd.S_drewN | apply Kd.S_drew)); exact (Kd.S_mono (Kd.S_far (p := ⟨gb187, 6, none⟩) (Kd.S_far (p := ⟨gb187, 5, none⟩) (Kd.S_far (p := ⟨gb187, 4, none⟩) (Kd.S_far (p := ⟨gb187, 3, none⟩) (Kd.S_far (p := ⟨gb187, 2, none⟩) (Kd.S_far (p := ⟨gb187, 1, none⟩) (Kd.S_far (p := ⟨gb187, 0, none⟩) (Kd.S_mono HO_24.out (fun k_ hk => (⟨hk, hk.2⟩ : _ ∧ k_ ≠ gb187))) (fun _ hk => hk.2) (.int .i64 ((rd_T26 t182 x26_1).f0))) (fun _ hk => hk.2) (.int .i64 ((rd_T26 t182 x26_1).f1.f0))) (fun _ hk => hk.2) (.int .i64 ((rd_T26 t182 x26_1).f1.f1))) (fun _ hk => hk.2) (.int .i64 ((rd_T26 t182 x26_1).f1.f2))) (fun _ hk => hk.2) (.slice A186_4 ((rd_T26 t182 x26_1).f2.f0).length c186_4)) (fun _ hk => hk.2) (.slice A186_5 ((rd_T26 t182 x26_1).f2.f1).length c186_5)) (fun _ hk => hk.2) (.slice A186_6 ((rd_T26 t182 x26_1).f2.f2).length c186_6)) (fun _ h_ => h_.1))) hb); have n2_ := Aside0.mk (Kd.R_below (by (with_reducible repeat (first | apply rA | apply rN | apply rD)); exact (Kd.R_mono (R_fars7 gb187 (Kd.R_types HL186_4.out BK187.out (by decide)) (fun _ hk => hk.2) (.int .i64 ((rd_T26 t182 x26_1).f0)) (.int .i64 ((rd_T26 t182 x26_1).f1.f0)) (.int .i64 ((rd_T26 t182 x26_1).f1.f1)) (.int .i64 ((rd_T26 t182 x26_1).f1.f2)) (.slice A186_4 ((rd_T26 t182 x26_1).f2.f0).length c186_4) (.slice A186_5 ((rd_T26 t182 x26_1).f2.f1).length c186_5) (.slice A186_6 ((rd_T26 t182 x26_1).f2.f2).length c186_6)) (fun _ h_ => h_.1))) hb); have n3_ := Aside0.mk (Kd.R_below (by (with_reducible repeat (first | apply rA | apply rN | apply rD)); exact (Kd.R_mono (R_fars7 gb187 (Kd.R_types HL186_5.out BK187.out (by decide)) (fun _ hk => hk.2) (.int .i64 ((rd_T26 t182 x26_1).f0)) (.int .i64 ((rd_T26 t182 x26_1).f1.f0)) (.int .i64 ((rd_T26 t182 x26_1).f1.f1)) (.int .i64 ((rd_T26 t182 x26_1).f1.f2)) (.slice A186_4 ((rd_T26 t182 x26_1).f2.f0).length c186_4) (.slice A186_5 ((rd_T26 t182 x26_1).f2.f1).length c186_5) (.slice A186_6 ((rd_T26 t182 x26_1).f2.f2).length c186_6)) (fun _ h_ => h_.1))) hb); have n4_ := Aside0.mk (Kd.R_below (by (with_reducible repeat (first | apply rA | apply rN | apply rD)); exact (Kd.R_mono (R_fars7 gb187 (Kd.R_types HL186_6.out BK187.out (by decide)) (fun _ hk => hk.2) (.int .i64 ((rd_T26 t182 x26_1).f0)) (.int .i64 ((rd_T26 t182 x26_1).f1.f0)) (.int .i64 ((rd_T26 t182 x26_1).f1.f1)) (.int .i64 ((rd_T26 t182 x26_1).f1.f2)) (.slice A186_4 ((rd_T26 t182 x26_1).f2.f0).length c186_4) (.slice A186_5 ((rd_T26 t182 x26_1).f2.f1).length c186_5) (.slice A186_6 ((rd_T26 t182 x26_1).f2.f2).length c186_6)) (fun _ h_ => h_.1))) hb); have n5_ := Aside0.mk (Kd.R_lower (Kd.R_new' ho0 (Kd.R_lt (by (with_reducible repeat (first | apply rA | apply rN | apply rD)); exact (Kd.R_mono (R_fars7 gb187 (Kd.R_types HO_8.out BK187.out (by decide)) (fun _ hk => hk.2) (.int .i64 ((rd_T26 t182 x26_1).f0)) (.int .i64 ((rd_T26 t182 x26_1).f1.f0)) (.int .i64 ((rd_T26 t182 x26_1).f1.f1)) (.int .i64 ((rd_T26 t182 x26_1).f1.f2)) (.slice A186_4 ((rd_T26 t182 x26_1).f2.f0).length c186_4) (.slice A186_5 ((rd_T26 t182 x26_1).f2.f1).length c186_5) (.slice A186_6 ((rd_T26 t182 x26_1).f2.f2).length c186_6)) (fun _ h_ => h_.1))))) (below_size (by repeat (first | (with_reducible first | exact HB.out | apply wA | apply wN | apply wD | refine wS ?_ GE187.out) | exact HB.out)))); have n6_ := Aside0.mk (Kd.C_below ((Kd.R_reads' (by (with_reducible repeat (first | apply rA | apply rN | apply rD)); exact (Kd.R_mono (R_fars7 gb187 (Kd.R_types HL186_4.out BK187.out (by decide)) (fun _ hk => hk.2) (.int .i64 ((rd_T26 t182 x26_1).f0)) (.int .i64 ((rd_T26 t182 x26_1).f1.f0)) (.int .i64 ((rd_T26 t182 x26_1).f1.f1)) (.int .i64 ((rd_T26 t182 x26_1).f1.f2)) (.slice A186_4 ((rd_T26 t182 x26_1).f2.f0).length c186_4) (.slice A186_5 ((rd_T26 t182 x26_1).f2.f1).length c186_5) (.slice A186_6 ((rd_T26 t182 x26_1).f2.f2).length c186_6)) (fun _ h_ => h_.1)))).2.2) hb); have n7_ := Aside0.mk (Kd.C_below ((Kd.R_reads' (by (with_reducible repeat (first | apply rA | apply rN | apply rD)); exact (Kd.R_mono (R_fars7 gb187 (Kd.R_types HL186_5.out BK187.out (by decide)) (fun _ hk => hk.2) (.int .i64 ((rd_T26 t182 x26_1).f0)) (.int .i64 ((rd_T26 t182 x26_1).f1.f0)) (.int .i64 ((rd_T26 t182 x26_1).f1.f1)) (.int .i64 ((rd_T26 t182 x26_1).f1.f2)) (.slice A186_4 ((rd_T26 t182 x26_1).f2.f0).length c186_4) (.slice A186_5 ((rd_T26 t182 x26_1).f2.f1).length c186_5) (.slice A186_6 ((rd_T26 t182 x26_1).f2.f2).length c186_6)) (fun _ h_ => h_.1)))).2.2) hb); have n8_ := Aside0.mk (Kd.C_below ((Kd.R_reads' (by (with_reducible repeat (first | apply rA | apply rN | apply rD)); exact (Kd.R_mono (R_fars7 gb187 (Kd.R_types HL186_6.out BK187.out (by decide)) (fun _ hk => hk.2) (.int .i64 ((rd_T26 t182 x26_1).f0)) (.int .i64 ((rd_T26 t182 x26_1).f1.f0)) (.int .i64 ((rd_T26 t182 x26_1).f1.f1)) (.int .i64 ((rd_T26 t182 x26_1).f1.f2)) (.slice A186_4 ((rd_T26 t182 x26_1).f2.f0).length c186_4) (.slice A186_5 ((rd_T26 t182 x26_1).f2.f1).length c186_5) (.slice A186_6 ((rd_T26 t182 x26_1).f2.f2).length c186_6)) (fun _ h_ => h_.1)))).2.2) hb); have n9_ := Aside0.mk (blk_below (g := gb187) (o := .cells #[.int .i64 ((rd_T26 t182 x26_1).f0), .int .i64 ((rd_T26 t182 x26_1).f1.f0), .int .i64 ((rd_T26 t182 x26_1).f1.f1), .int .i64 ((rd_T26 t182 x26_1).f1.f2), .slice A186_4 ((rd_T26 t182 x26_1).f2.f0).length c186_4, .slice A186_5 ((rd_T26 t182 x26_1).f2.f1).length c186_5, .slice A186_6 ((rd_T26 t182 x26_1).f2.f2).length c186_6] 26 (0, 0)) (by (with_reducible repeat (first | refine bN ?_ _ | refine bD ?_ | refine bA ?_ _)); refine blk_put (cs := #[.int .i64 ((rd_T26 t182 x26_1).f0), .int .i64 ((rd_T26 t182 x26_1).f1.f0), .int .i64 ((rd_T26 t182 x26_1).f1.f1), .int .i64 ((rd_T26 t182 x26_1).f1.f2), .slice A186_4 ((rd_T26 t182 x26_1).f2.f0).length c186_4, .slice A186_5 ((rd_T26 t182 x26_1).f2.f1).length c186_5, .slice none 0 0]) ?_ 6 _ rfl; (with_reducible repeat (first | refine bN ?_ _ | refine bD ?_ | refine bA ?_ _)); refine blk_put (cs := #[.int .i64 ((rd_T26 t182 x26_1).f0), .int .i64 ((rd_T26 t182 x26_1).f1.f0), .int .i64 ((rd_T26 t182 x26_1).f1.f1), .int .i64 ((rd_T26 t182 x26_1).f1.f2), .slice A186_4 ((rd_T26 t182 x26_1).f2.f0).length c186_4, .slice none 0 0, .slice none 0 0]) ?_ 5 _ rfl; (with_reducible repeat (first | refine bN ?_ _ | refine bD ?_ | refine bA ?_ _)); refine blk_put (cs := #[.int .i64 ((rd_T26 t182 x26_1).f0), .int .i64 ((rd_T26 t182 x26_1).f1.f0), .int .i64 ((rd_T26 t182 x26_1).f1.f1), .int .i64 ((rd_T26 t182 x26_1).f1.f2), .slice none 0 0, .slice none 0 0, .slice none 0 0]) ?_ 4 _ rfl; (with_reducible repeat (first | refine bN ?_ _ | refine bD ?_ | refine bA ?_ _)); refine blk_put (cs := #[.int .i64 ((rd_T26 t182 x26_1).f0), .int .i64 ((rd_T26 t182 x26_1).f1.f0), .int .i64 ((rd_T26 t182 x26_1).f1.f1), .int .i64 0, .slice none 0 0, .slice none 0 0, .slice none 0 0]) ?_ 3 _ rfl; (with_reducible repeat (first | refine bN ?_ _ | refine bD ?_ | refine bA ?_ _)); refine blk_put (cs := #[.int .i64 ((rd_T26 t182 x26_1).f0), .int .i64 ((rd_T26 t182 x26_1).f1.f0), .int .i64 0, .int .i64 0, .slice none 0 0, .slice none 0 0, .slice none 0 0]) ?_ 2 _ rfl; (with_reducible repeat (first | refine bN ?_ _ | refine bD ?_ | refine bA ?_ _)); refine blk_put (cs := #[.int .i64 ((rd_T26 t182 x26_1).f0), .int .i64 0, .int .i64 0, .int .i64 0, .slice none 0 0, .slice none 0 0, .slice none 0 0]) ?_ 1 _ rfl; (with_reducible repeat (first | refine bN ?_ _ | refine bD ?_ | refine bA ?_ _)); refine blk_put (cs := #[.int .i64 0, .int .i64 0, .int .i64 0, .int .i64 0, .slice none 0 0, .slice none 0 0, .slice none 0 0]) ?_ 0 _ rfl; (with_reducible repeat (first | refine bN ?_ _ | refine bD ?_ | refine bA ?_ _)); exact BK187.out) hb); have n10_ := Aside0.mk (below_step (by repeat (first | (with_reducible first | exact HB.out | apply wA | apply wN | apply wD | refine wS ?_ GE187.out) | exact HB.out)) hb); clear HO_8; clear HO_24; clear HL186_4; clear HL186_5; clear HL186_6; clear HR186_4; clear HR186_5; clear HR186_6; clear BK187; clear HB; have HO_8 := n0_; have HO_24 := n1_; have HL186_4 := n2_; have HL186_5 := n3_; have HL186_6 := n4_; have HO190 := n5_; have HR186_4 := n6_; have HR186_5 := n7_; have HR186_6 := n8_; have BK187 := n9_; have HB := n10_; clear n0_ n1_ n2_ n3_ n4_ n5_ n6_ n7_ n8_ n9_ n10_; (try clear hb); (try clear hb2); (try clear hk); (try clear hi); (try clear ho0); obtain ⟨Ao16, co16, eo16⟩ := Kd.R_slice HO190.out; subst eo16) | ((with_reducible refine gate_builtin (b := .append) (xs := #[.tmp 40, .tmp 41]) rfl ?_); at_builtin; refine Kd.R_append_rows k51 (w0 := w) w.heap.size rfl (.tmp 40) (.tmp 41) 28 51 (.agg #[(.int .i64 0), (.int .i64 0)]) 16 rfl Tryd.underlying28 info51 rfl (by decide) (by omega) u8 x8_1 t188 _ _ _ (fun k_ => some k_ ≠ (.slice Ao16 t188.length co16 : Value).ownBlock) (fun _ => False) rfl rfl ?aO ?aR (fun _ _ h => h) (fun _ h => h.elim) ?aF ?aB ?aS ?aL ?_; (case aR => repeat (first | exact (Kd.R_reads' HO190.out).2.2 | (with_reducible refine Kd.C_alloc ?_ _) | (with_reducible refine Kd.C_drewN ?_ _) | (with_reducible refine Kd.C_drew ?_))); (case aB => exact (by repeat (first | (with_reducible first | exact HB.out | apply wA | apply wN | apply wD | refine wS ?_ GE187.out) | exact HB.out))); (case aF => exact (fun k_ hk => Kd.fresh' (Kd.R_lt (by (with_reducible repeat (first | apply rA | apply rN | apply rD)); exact HO190.out)) k_ hk)); (case aO => exact (by (with_reducible repeat (first | apply rA | apply rN | apply rD)); exact Kd.R_mono HO_8.out (fun _ hk => hk.2))); (case aS => exact (below_size (by repeat (first | (with_reducible first | exact HB.out | apply wA | apply wN | apply wD | refine wS ?_ GE187.out) | exact HB.out)))); (case aL => have := LMc11.out; first | omega | exact Nat.le_of_lt this); intro v195 w15 ho hb hg hat; rw [← Ny194.out] at ho; have n0_ := Aside0.mk (Kd.S_over' (by (with_reducible repeat (first | apply Kd.S_alloc | apply Kd.S_drewN | apply Kd.S_drew)); exact HO_24.out) (Kd.R_typed (by (with_reducible repeat (first | apply rA | apply rN | apply rD)); exact HO_8.out)) (by decide) hg); have n1_ := Aside0.mk (Kd.R_over' (by (with_reducible repeat (first | apply rA | apply rN | apply rD)); exact HL186_4.out) (Kd.R_typed (by (with_reducible repeat (first | apply rA | apply rN | apply rD)); exact HO_8.out)) (by decide) hg); have n2_ := Aside0.mk (Kd.R_over' (by (with_reducible repeat (first | apply rA | apply rN | apply rD)); exact HL186_5.out) (Kd.R_typed (by (with_reducible repeat (first | apply rA | apply rN | apply rD)); exact HO_8.out)) (by decide) hg); have n3_ := Aside0.mk (Kd.R_over' (by (with_reducible repeat (first | apply rA | apply rN | apply rD)); exact HL186_6.out) (Kd.R_typed (by (with_reducible repeat (first | apply rA | apply rN | apply rD)); exact HO_8.out)) (by decide) hg); have n4_ := Aside0.mk (blk_grown (g := gb187) (o := .cells #[.int .i64 ((rd_T26 t182 x26_1).f0), .int .i64 ((rd_T26 t182 x26_1).f1.f0), .int .i64 ((rd_T26 t182 x26_1).f1.f1), .int .i64 ((rd_T26 t182 x26_1).f1.f2), .slice A186_4 ((rd_T26 t182 x26_1).f2.f0).length c186_4, .slice A186_5 ((rd_T26 t182 x26_1).f2.f1).length c186_5, .slice A186_6 ((rd_T26 t182 x26_1).f2.f2).length c186_6] 26 (0, 0)) (by (with_reducible repeat (first | refine bN ?_ _ | refine bD ?_ | refine bA ?_ _)); exact BK187.out) hg (Kd.R_ne HO_8.out BK187.out (by decide))); have n5_ := Aside0.mk (Kd.R_after (ok := (fun _ => True)) (by (with_reducible repeat (first | apply rA | apply rN | apply rD)); exact HO190.out) hg hat); have n6_ := Aside0.mk (hb); have n7_ := Aside0.mk (ho); clear HO_24; clear HL186_4; clear HL186_5; clear HL186_6; clear BK187; clear HO190; clear HB; clear HO_8; have HO_24 := n0_; have HL186_4 := n1_; have HL186_5 := n2_; have HL186_6 := n3_; have BK187 := n4_; have HO190 := n5_; have HB := n6_; have HO196 := n7_; clear n0_ n1_ n2_ n3_ n4_ n5_ n6_ n7_; clear ho hb hg hat; have hcz17_0 : w15.cell? ⟨gb187, 0, none⟩ = some (.int .i64 ((rd_T26 t182 x26_1).f0)) := (blk_cell BK187.out 0).trans rfl; have hcz17_1 : w15.cell? ⟨gb187, 1, none⟩ = some (.int .i64 ((rd_T26 t182 x26_1).f1.f0)) := (blk_cell BK187.out 1).trans rfl; have hcz17_2 : w15.cell? ⟨gb187, 2, none⟩ = some (.int .i64 ((rd_T26 t182 x26_1).f1.f1)) := (blk_cell BK187.out 2).trans rfl; have hcz17_3 : w15.cell? ⟨gb187, 3, none⟩ = some (.int .i64 ((rd_T26 t182 x26_1).f1.f2)) := (blk_cell BK187.out 3).trans rfl; have hcz17_4 : w15.cell? ⟨gb187, 4, none⟩ = some (.slice A186_4 ((rd_T26 t182 x26_1).f2.f0).length c186_4) := (blk_cell BK187.out 4).trans rfl; have hcz17_5 : w15.cell? ⟨gb187, 5, none⟩ = some (.slice A186_5 ((rd_T26 t182 x26_1).f2.f1).length c186_5) := (blk_cell BK187.out 5).trans rfl; have hcz17_6 : w15.cell? ⟨gb187, 6, none⟩ = some (.slice A186_6 ((rd_T26 t182 x26_1).f2.f2).length c186_6) := (blk_cell BK187.out 6).trans rfl; have hfz17_0 := blk_frozen BK187.out 0; have hfz17_1 := blk_frozen BK187.out 1; have hfz17_2 := blk_frozen BK187.out 2; have hfz17_3 := blk_frozen BK187.out 3; have hfz17_4 := blk_frozen BK187.out 4; have hfz17_5 := blk_frozen BK187.out 5; have hfz17_6 := blk_frozen BK187.out 6))
        go_roundg k1
        case measure => have := HK1.out; omega
        case rel => exact ⟨(y194), (wrap64 (x9_1 + ((rd_T26 t182 x26_1).f0))), (t191), (t192), (wrap64 (x26_1 + 1)), (by first | rfl | (simp; done) | (simp [*]; done)), (by first | rfl | (simp; done) | (simp [*]; done)), (by first | rfl | (simp; done) | (simp [*]; done)), (by first | rfl | (simp; done) | (simp [*]; done)), H', ⟨by have := HK1.out; omega⟩, ⟨by (with_reducible repeat (first | apply rA | apply rN | apply rD)); exact Kd.R_mono HO196.out (fun _ hk => trivial)⟩, ⟨by (with_reducible repeat (first | apply Kd.S_alloc | apply Kd.S_drewN | apply Kd.S_drew)); exact Kd.S_mono HO_24.out (fun _ hk => trivial)⟩, ⟨by repeat (first | (with_reducible first | exact HB.out | apply wA | apply wN | apply wD | refine wS ?_ GE187.out) | exact HB.out)⟩⟩
       ·rw [if_neg c11] at H
        exact absurd H (by simp)
      ·rw [if_neg c9] at H
       exact absurd H (by simp)
     ·rw [if_neg c8] at H
      exact absurd H (by simp)
    ·rw [if_neg c7] at H
     have c7b0 : decide (x26_1 < (t182.length : Int)) = false := decide_eq_false c7
     clear c7
     by_cases c18 : x11_1 < (a0.size : Int)
     ·rw [if_pos c18] at H
      have c18b0 : decide (x11_1 < (a0.size : Int)) = true := decide_eq_true c18
      clear c18
      by_cases c19 : x8_1.length < 8796093022208
      ·rw [if_pos c19] at H
       have LMc19 := Aside0.mk c19
       clear c19
       obtain ⟨y197, hy197⟩ : ∃ y_ : List (S51), y_ = (x8_1 ++ [(⟨x11_1, (a0.size : Int)⟩ : S51)]) := ⟨_, rfl⟩
       replace H : (some (y197, 0)) = some (r1, r2) := by first | (rw [hy197]; with_reducible exact H) | (have H2_ := (Option.bind_some _ _).symm.trans H; rw [hy197]; with_reducible exact H2_) | (have H2_ := (Option.bind_some _ _).symm.trans H; with_reducible exact H2_) | with_reducible exact H | (rw [hy197]; exact H) | exact H
       have Ny197 := Aside0.mk hy197
       clear hy197
       simp only [Option.some.injEq, Prod.mk.injEq] at H
       obtain ⟨rfl, rfl⟩ := H
       go_wp2_with (first | ((with_reducible refine gate_builtin (b := .append) (xs := #[.tmp 52, .tmp 57]) rfl ?_); at_builtin; refine Kd.R_append k51 (w0 := w) w.heap.size rfl (.tmp 52) (.tmp 57) 28 51 (.agg #[(.int .i64 0), (.int .i64 0)]) 16 rfl Tryd.underlying28 info51 rfl (by decide) (by omega) u8 x8_1 (⟨x11_1, (a0.size : Int)⟩ : S51) [.int .i64 x11_1, .int .i64 (a0.size : Int)] (fun _ => True) (fun _ => False) rfl rfl ?aP (fun _ hk => hk.elim) ?aF ?aO ?aB ?aS ?aL ?_; (case aP => exact k51_mkM _ _ _ (⟨x11_1, (a0.size : Int)⟩ : S51)); (case aB => exact (by repeat (first | (with_reducible first | exact HB.out | apply wA | apply wN | apply wD) | exact HB.out))); (case aF => exact (fun _ _ => trivial)); (case aO => exact (by (with_reducible repeat (first | apply rA | apply rN | apply rD)); exact HO_8.out)); (case aS => exact (below_size (by repeat (first | (with_reducible first | exact HB.out | apply wA | apply wN | apply wD) | exact HB.out)))); (case aL => have := LMc19.out; first | omega | exact Nat.le_of_lt this); intro v198 w20 ho hb hg hat; rw [← Ny197.out] at ho; have n0_ := Aside0.mk (Kd.S_over' (by (with_reducible repeat (first | apply Kd.S_alloc | apply Kd.S_drewN | apply Kd.S_drew)); exact HO_24.out) (Kd.R_typed (by (with_reducible repeat (first | apply rA | apply rN | apply rD)); exact HO_8.out)) (by decide) hg); have n1_ := Aside0.mk (hb); have n2_ := Aside0.mk (ho); clear HO_24; clear HB; clear HO_8; have HO_24 := n0_; have HB := n1_; have HO199 := n2_; clear n0_ n1_ n2_; clear ho hb hg hat))
       go_ret2
       exact ⟨_, by first | rfl | (simp [errW_none, errW_some] <;> rfl) | (simp [*, errW_none, errW_some] <;> rfl), by (with_reducible repeat (first | apply rA | apply rN | apply rD)); exact HO199.out, by repeat (first | (with_reducible first | exact HB.out | apply wA | apply wN | apply wD) | exact HB.out)⟩
      ·rw [if_neg c19] at H
       exact absurd H (by simp)
     ·rw [if_neg c18] at H
      have c18b0 : decide (x11_1 < (a0.size : Int)) = false := decide_eq_false c18
      clear c18
      simp only [Option.some.injEq, Prod.mk.injEq] at H
      obtain ⟨rfl, rfl⟩ := H
      go_wp2
      go_ret2
      exact ⟨_, by first | rfl | (simp [errW_none, errW_some] <;> rfl) | (simp [*, errW_none, errW_some] <;> rfl), by (with_reducible repeat (first | apply rA | apply rN | apply rD)); exact HO_8.out, by repeat (first | (with_reducible first | exact HB.out | apply wA | apply wN | apply wD) | exact HB.out)⟩
 ·rw [if_neg c4] at H
  have c4b0 : (t183 == 0) = false := beq_eq_false_iff_ne.mpr c4
  have c4b1 : (t183 != 0) = true := bne_iff_ne.mpr c4
  simp only [Option.some.injEq, Prod.mk.injEq] at H
  obtain ⟨rfl, rfl⟩ := H
  go_enter Tryd.func21, Tryd.ntmps21
  go_wp2_with (first | ((with_reducible refine gate_callee (f := 15) rfl ?_); refine goesL_ (some 18) rfl rfl Tryd.func15 (by kernel_rfl) rfl #[.string a0, .int .i64 a1] rfl (by (try simp only [List.map_toArray, List.map_cons, List.map_nil]); first | done | rfl | (simp only [List.length_drop, List.length_take]; rfl)) ?_; (with_reducible refine (scan_Summaries.calls k a0 a1 t182 t183 _ ?side1 A3.out).mono ?_); (case side1 => exact GlbLaid.below HG.out (by repeat (first | (with_reducible first | exact HB.out | apply wA | apply wN | apply wD) | exact HB.out))); rintro e w21 ⟨v184, rfl, ho0, hb⟩; refine ⟨_, rfl, ?_⟩; have n0_ := Aside0.mk (Kd.S_lower ho0 (below_size (by repeat (first | (with_reducible first | exact HB.out | apply wA | apply wN | apply wD) | exact HB.out)))); have n1_ := Aside0.mk (below_step (by repeat (first | (with_reducible first | exact HB.out | apply wA | apply wN | apply wD) | exact HB.out)) hb); clear HB; have HO185 := n0_; have HB := n1_; clear n0_ n1_; (try clear hb); (try clear hb2); (try clear hk); (try clear hi); (try clear ho0)))
  go_ret2
  exact ⟨_, by first | rfl | (simp [errW_none, errW_some] <;> rfl) | (simp [*, errW_none, errW_some] <;> rfl), by first | exact Kd.R_nil _ _ _ _ _ | exact Kd.N_nil _ _ _ _ _ | exact Kd.V_nil _ _ _ _ _ | exact Kd.Q_nil _ _ _ _ _ | exact Kd.S_nil _ _ _ _ _, by repeat (first | (with_reducible first | exact HB.out | apply wA | apply wN | apply wD) | exact HB.out)⟩

/-! ### ndjqlaw20_awake: function 9 -/
def ndjqlaw20_awake.f (k : Nat)  : Option (Bool) := (scan_Chunks.f k 5 2).bind fun bt200 => ((scan_Records.f k (⟨#[49, 10, 50, 50, 10, 51]⟩ : ByteArray) 2).bind fun bt204 => (if bt200.2 = 0 then (if bt204.2 = 0 then ((ndjqkeep_Spans.f k bt200.1 (([(⟨0, 2⟩ : S51), (⟨2, 4⟩ : S51), (⟨4, 5⟩ : S51)] : List (S51)))).bind fun t211 => (if t211 = true then (some ((bt204.1.length : Int) == 3)) else (some false))) else (some false)) else (some false)))
theorem ndjqlaw20_awake.mono : ∀ k, LeO (ndjqlaw20_awake.f k ) (ndjqlaw20_awake.f (k + 1) ) := by
  intro  k
  unfold ndjqlaw20_awake.f
  repeat' first
      | (with_reducible exact ndjqkeep_Spans.mono _ _ _)
      | (with_reducible exact scan_Chunks.mono _ _ _)
      | (with_reducible exact scan_Records.mono _ _ _)
      | (with_reducible exact LeO.refl _)
      | (with_reducible exact LeO.none _)
      | (with_reducible refine LeO.ite ?_ ?_)
      | (with_reducible refine LeO.bind ?_ (fun _ => ?_))
      | exact ndjqkeep_Spans.mono _ _ _
      | exact scan_Chunks.mono _ _ _
      | exact scan_Records.mono _ _ _
      | exact LeO.none _
      | refine LeO.ite ?_ ?_
      | refine LeO.bind ?_ (fun _ => ?_)
set_option maxHeartbeats 8000000 in
set_option maxRecDepth 100000 in
theorem ndjqlaw20_awake.calls (k : Nat)  (r : Bool) (w : World) (hG : GlbLaid w) (h : ndjqlaw20_awake.f k  = some r) :
    Calls Tryd.prog 9 #[] w fun e w' => e = .returned (.bool r) ∧ Below w.heap.size w w' := by
  have hu51 := Tryd.underlying51
  have HG := Aside0.mk hG
  clear hG
  have HB := Aside0.mk (Below.refl w.heap.size w)
  have H : ((scan_Chunks.f k 5 2).bind fun bt200 => ((scan_Records.f k (⟨#[49, 10, 50, 50, 10, 51]⟩ : ByteArray) 2).bind fun bt204 => (if bt200.2 = 0 then (if bt204.2 = 0 then ((ndjqkeep_Spans.f k bt200.1 (([(⟨0, 2⟩ : S51), (⟨2, 4⟩ : S51), (⟨4, 5⟩ : S51)] : List (S51)))).bind fun t211 => (if t211 = true then (some ((bt204.1.length : Int) == 3)) else (some false))) else (some false)) else (some false)))) = some r := h
  clear h
  replace H := Option.bind_eq_some_iff.mp H
  obtain ⟨⟨t200, t201⟩, A10, H⟩ := H
  replace H : ((scan_Records.f k (⟨#[49, 10, 50, 50, 10, 51]⟩ : ByteArray) 2).bind fun bt204 => (if t201 = 0 then (if bt204.2 = 0 then ((ndjqkeep_Spans.f k t200 (([(⟨0, 2⟩ : S51), (⟨2, 4⟩ : S51), (⟨4, 5⟩ : S51)] : List (S51)))).bind fun t211 => (if t211 = true then (some ((bt204.1.length : Int) == 3)) else (some false))) else (some false)) else (some false))) = some r := H
  have A1 := Aside0.mk A10
  clear A10
  replace H := Option.bind_eq_some_iff.mp H
  obtain ⟨⟨t204, t205⟩, A20, H⟩ := H
  replace H : (if t201 = 0 then (if t205 = 0 then ((ndjqkeep_Spans.f k t200 (([(⟨0, 2⟩ : S51), (⟨2, 4⟩ : S51), (⟨4, 5⟩ : S51)] : List (S51)))).bind fun t211 => (if t211 = true then (some ((t204.length : Int) == 3)) else (some false))) else (some false)) else (some false)) = some r := H
  have A2 := Aside0.mk A20
  clear A20
  have HF3 := Aside0.mk H
  clear H
  go_enter Tryd.func9, Tryd.ntmps9
  go_wp2_with (first | ((with_reducible refine gate_callee (f := 13) rfl ?_); refine goesL_ (some 6) rfl rfl Tryd.func13 (by kernel_rfl) rfl #[.int .i64 5, .int .i64 2] rfl (by (try simp only [List.map_toArray, List.map_cons, List.map_nil]); first | done | rfl | (simp only [List.length_drop, List.length_take]; rfl)) ?_; (with_reducible refine (scan_Chunks.calls k 5 2 t200 t201 _ A1.out).mono ?_); rintro e w4 ⟨v202, rfl, ho0, hb⟩; refine ⟨_, rfl, ?_⟩; have n0_ := Aside0.mk (Kd.R_lower ho0 (below_size (by repeat (first | (with_reducible first | exact HB.out | apply below_alloc | apply pw_below_drewN | apply below_drew1) | exact HB.out)))); have n1_ := Aside0.mk (below_step (by repeat (first | (with_reducible first | exact HB.out | apply below_alloc | apply pw_below_drewN | apply below_drew1) | exact HB.out)) hb); clear HB; have HO203 := n0_; have HB := n1_; clear n0_ n1_; (try clear hb); (try clear hb2); (try clear hk); (try clear hi); (try clear ho0)))
  have H := HF3.out
  clear HF3
  by_cases c5 : t201 = 0
  · rw [if_pos c5] at H
    have c5b0 : (t201 == 0) = true := beq_iff_eq.mpr c5
    have c5b1 : (t201 != 0) = false := bne_eq_false_iff_eq.mpr c5
    clear c5
    by_cases c6 : t205 = 0
    · rw [if_pos c6] at H
      have c6b0 : (t205 == 0) = true := beq_iff_eq.mpr c6
      have c6b1 : (t205 != 0) = false := bne_eq_false_iff_eq.mpr c6
      clear c6
      obtain ⟨y208, hy208⟩ : ∃ y_ : List (S51), y_ = (([(⟨0, 2⟩ : S51), (⟨2, 4⟩ : S51), (⟨4, 5⟩ : S51)] : List (S51))) := ⟨_, rfl⟩
      replace H : ((ndjqkeep_Spans.f k t200 y208).bind fun t211 => (if t211 = true then (some ((t204.length : Int) == 3)) else (some false))) = some r := by first | (rw [hy208]; with_reducible exact H) | (have H2_ := (Option.bind_some _ _).symm.trans H; rw [hy208]; with_reducible exact H2_) | (have H2_ := (Option.bind_some _ _).symm.trans H; with_reducible exact H2_) | with_reducible exact H | (rw [hy208]; exact H) | exact H
      have Ny208 := Aside0.mk hy208
      clear hy208
      replace H := Option.bind_eq_some_iff.mp H
      obtain ⟨t211, A70, H⟩ := H
      replace H : (if t211 = true then (some ((t204.length : Int) == 3)) else (some false)) = some r := H
      have A7 := Aside0.mk A70
      clear A70
      have HF8 := Aside0.mk H
      clear H
      go_wp2_with (first | (go_at_call 21; (with_reducible refine (scan_Records.calls k (⟨#[49, 10, 50, 50, 10, 51]⟩ : ByteArray) 2 t204 t205 _ ?side1 A2.out).mono ?_); (case side1 => exact GlbLaid.below HG.out (by repeat (first | (with_reducible first | exact HB.out | apply below_alloc | apply pw_below_drewN | apply below_drew1) | exact HB.out))); rintro e w9 ⟨v206, rfl, ho0, hb⟩; have n0_ := Aside0.mk (Kd.R_elder' (by (with_reducible repeat (first | apply Kd.R_alloc | apply Kd.R_drewN | apply Kd.R_drew)); exact HO203.out) (Kd.R_base ho0) hb); have n1_ := Aside0.mk (Kd.R_lower (Kd.R_new' ho0 (Kd.R_lt (by (with_reducible repeat (first | apply Kd.R_alloc | apply Kd.R_drewN | apply Kd.R_drew)); exact HO203.out))) (below_size (by repeat (first | (with_reducible first | exact HB.out | apply below_alloc | apply pw_below_drewN | apply below_drew1) | exact HB.out)))); have n2_ := Aside0.mk (below_step (by repeat (first | (with_reducible first | exact HB.out | apply below_alloc | apply pw_below_drewN | apply below_drew1) | exact HB.out)) hb); clear HO203; clear HB; have HO203 := n0_; have HO207 := n1_; have HB := n2_; clear n0_ n1_ n2_; (try clear hb); (try clear hb2); (try clear hk); (try clear hi); (try clear ho0)) | ((with_reducible refine gate_dst (N := 24) rfl ?_); (try (refine gate_guard (by rfl) ?_; dsimp only)); refine Kd.R_lit k51 _ 51 ?hg (N := 24) ?hd (xs := ([(⟨0, 2⟩ : S51), (⟨2, 4⟩ : S51), (⟨4, 5⟩ : S51)] : List (S51))) (inner := [.int .i64 0, .int .i64 2, .int .i64 2, .int .i64 4, .int .i64 4, .int .i64 5]) (ok := fun _ => True) (okp := fun _ => True) ?hr ?hp (fun _ hk => hk) trivial (Below.refl _ _) (Nat.le_refl _) (by simp) ?_; (case hd => rfl); (case hg => rfl); (case hr => first | (go_simp; done) | (go_simp; rfl)); (case hp => exact (Reps.c2 (show Kd.M k51 _ _ _ (⟨0, 2⟩ : S51) [.int .i64 0, .int .i64 2] from (k51_mkM _ _ _ (⟨0, 2⟩ : S51) )) (Reps.c2 (show Kd.M k51 _ _ _ (⟨2, 4⟩ : S51) [.int .i64 2, .int .i64 4] from (k51_mkM _ _ _ (⟨2, 4⟩ : S51) )) (Reps.c2 (show Kd.M k51 _ _ _ (⟨4, 5⟩ : S51) [.int .i64 4, .int .i64 5] from (k51_mkM _ _ _ (⟨4, 5⟩ : S51) )) (Reps.none _ _))))); intro v209 w10 ho11 hb hg_ hnew_; clear hg_ hnew_; (first | rw [← Ny208.out] at ho11 | (simp only [Int.reduceToNat] at ho11; rw [← Ny208.out] at ho11)); have n0_ := Aside0.mk (Kd.R_elder' (by (with_reducible repeat (first | apply Kd.R_alloc | apply Kd.R_drewN | apply Kd.R_drew)); exact HO203.out) (Kd.R_base ho11) hb); have n1_ := Aside0.mk (Kd.R_elder' (by (with_reducible repeat (first | apply Kd.R_alloc | apply Kd.R_drewN | apply Kd.R_drew)); exact HO207.out) (Kd.R_base ho11) hb); have n2_ := Aside0.mk (Kd.R_lower (Kd.R_new' (Kd.R_new' ho11 (Kd.R_lt (by (with_reducible repeat (first | apply Kd.R_alloc | apply Kd.R_drewN | apply Kd.R_drew)); exact HO203.out))) (Kd.R_lt (by (with_reducible repeat (first | apply Kd.R_alloc | apply Kd.R_drewN | apply Kd.R_drew)); exact HO207.out))) (below_size (by repeat (first | (with_reducible first | exact HB.out | apply below_alloc | apply pw_below_drewN | apply below_drew1) | exact HB.out)))); have n3_ := Aside0.mk (below_step (by repeat (first | (with_reducible first | exact HB.out | apply below_alloc | apply pw_below_drewN | apply below_drew1) | exact HB.out)) hb); clear HO203; clear HO207; clear HB; have HO203 := n0_; have HO207 := n1_; have HO210 := n2_; have HB := n3_; clear n0_ n1_ n2_ n3_; clear hb ho11))
      have H := HF8.out
      clear HF8
      by_cases c12 : t211 = true
      · subst c12
        have H1 : (some ((t204.length : Int) == 3)) = some r := by rw [if_pos rfl] at H; exact H
        clear H
        have H := H1
        clear H1
        obtain rfl := Option.some.inj H
        obtain ⟨Ao13, co13, eo13⟩ := Kd.R_slice HO203.out
        subst eo13
        obtain ⟨Ao14, co14, eo14⟩ := Kd.R_slice HO210.out
        subst eo14
        go_wp2_with (first | (go_at_call 12; (with_reducible refine (ndjqkeep_Spans.calls k _ _ t200 _ _ y208 true _ ?side1 ?side2 ?side3 ?side4 A7.out).mono ?_); (case side1 => repeat (first | exact (Kd.R_reads' HO203.out).2.2 | (with_reducible refine Kd.C_alloc ?_ _) | (with_reducible refine Kd.C_drewN ?_ _) | (with_reducible refine Kd.C_drew ?_))); (case side2 => exact (Kd.R_reads' HO203.out).2.1); (case side3 => repeat (first | exact (Kd.R_reads' HO210.out).2.2 | (with_reducible refine Kd.C_alloc ?_ _) | (with_reducible refine Kd.C_drewN ?_ _) | (with_reducible refine Kd.C_drew ?_))); (case side4 => exact (Kd.R_reads' HO210.out).2.1); rintro e w' ⟨rfl, ⟨nd, rfl⟩⟩; obtain ⟨Ao15, co15, eo15⟩ := Kd.R_slice HO207.out; subst eo15))
        go_ret
        exact ⟨by first | rfl | (simp [errW_none, errW_some] <;> rfl) | (simp [*, errW_none, errW_some] <;> rfl), by repeat (first | (with_reducible first | exact HB.out | apply below_alloc | apply pw_below_drewN | apply below_drew1) | exact HB.out)⟩
      · replace c12 := Bool.eq_false_iff.mpr c12
        subst c12
        have H1 : (some false) = some r := by rw [if_neg (show ¬ (false = true) by decide)] at H; exact H
        clear H
        have H := H1
        clear H1
        obtain rfl := Option.some.inj H
        obtain ⟨Ao16, co16, eo16⟩ := Kd.R_slice HO203.out
        subst eo16
        obtain ⟨Ao17, co17, eo17⟩ := Kd.R_slice HO210.out
        subst eo17
        go_wp2_with (first | (go_at_call 12; (with_reducible refine (ndjqkeep_Spans.calls k _ _ t200 _ _ y208 false _ ?side1 ?side2 ?side3 ?side4 A7.out).mono ?_); (case side1 => repeat (first | exact (Kd.R_reads' HO203.out).2.2 | (with_reducible refine Kd.C_alloc ?_ _) | (with_reducible refine Kd.C_drewN ?_ _) | (with_reducible refine Kd.C_drew ?_))); (case side2 => exact (Kd.R_reads' HO203.out).2.1); (case side3 => repeat (first | exact (Kd.R_reads' HO210.out).2.2 | (with_reducible refine Kd.C_alloc ?_ _) | (with_reducible refine Kd.C_drewN ?_ _) | (with_reducible refine Kd.C_drew ?_))); (case side4 => exact (Kd.R_reads' HO210.out).2.1); rintro e w' ⟨rfl, ⟨nd, rfl⟩⟩))
        go_ret
        exact ⟨by first | rfl | (simp [errW_none, errW_some] <;> rfl) | (simp [*, errW_none, errW_some] <;> rfl), by repeat (first | (with_reducible first | exact HB.out | apply below_alloc | apply pw_below_drewN | apply below_drew1) | exact HB.out)⟩
    · rw [if_neg c6] at H
      have c6b0 : (t205 == 0) = false := beq_eq_false_iff_ne.mpr c6
      have c6b1 : (t205 != 0) = true := bne_iff_ne.mpr c6
      obtain rfl := Option.some.inj H
      go_wp2_with (first | (go_at_call 21; (with_reducible refine (scan_Records.calls k (⟨#[49, 10, 50, 50, 10, 51]⟩ : ByteArray) 2 t204 t205 _ ?side1 A2.out).mono ?_); (case side1 => exact GlbLaid.below HG.out (by repeat (first | (with_reducible first | exact HB.out | apply below_alloc | apply pw_below_drewN | apply below_drew1) | exact HB.out))); rintro e w18 ⟨v206, rfl, ho0, hb⟩; have n0_ := Aside0.mk (Kd.R_elder' (by (with_reducible repeat (first | apply Kd.R_alloc | apply Kd.R_drewN | apply Kd.R_drew)); exact HO203.out) (Kd.R_base ho0) hb); have n1_ := Aside0.mk (Kd.R_lower (Kd.R_new' ho0 (Kd.R_lt (by (with_reducible repeat (first | apply Kd.R_alloc | apply Kd.R_drewN | apply Kd.R_drew)); exact HO203.out))) (below_size (by repeat (first | (with_reducible first | exact HB.out | apply below_alloc | apply pw_below_drewN | apply below_drew1) | exact HB.out)))); have n2_ := Aside0.mk (below_step (by repeat (first | (with_reducible first | exact HB.out | apply below_alloc | apply pw_below_drewN | apply below_drew1) | exact HB.out)) hb); clear HO203; clear HB; have HO203 := n0_; have HO207 := n1_; have HB := n2_; clear n0_ n1_ n2_; (try clear hb); (try clear hb2); (try clear hk); (try clear hi); (try clear ho0)))
      go_ret
      exact ⟨by first | rfl | (simp [errW_none, errW_some] <;> rfl) | (simp [*, errW_none, errW_some] <;> rfl), by repeat (first | (with_reducible first | exact HB.out | apply below_alloc | apply pw_below_drewN | apply below_drew1) | exact HB.out)⟩
  · rw [if_neg c5] at H
    have c5b0 : (t201 == 0) = false := beq_eq_false_iff_ne.mpr c5
    have c5b1 : (t201 != 0) = true := bne_iff_ne.mpr c5
    obtain rfl := Option.some.inj H
    go_wp2_with (first | (go_at_call 21; (with_reducible refine (scan_Records.calls k (⟨#[49, 10, 50, 50, 10, 51]⟩ : ByteArray) 2 t204 t205 _ ?side1 A2.out).mono ?_); (case side1 => exact GlbLaid.below HG.out (by repeat (first | (with_reducible first | exact HB.out | apply below_alloc | apply pw_below_drewN | apply below_drew1) | exact HB.out))); rintro e w19 ⟨v206, rfl, ho0, hb⟩; have n0_ := Aside0.mk (Kd.R_elder' (by (with_reducible repeat (first | apply Kd.R_alloc | apply Kd.R_drewN | apply Kd.R_drew)); exact HO203.out) (Kd.R_base ho0) hb); have n1_ := Aside0.mk (Kd.R_lower (Kd.R_new' ho0 (Kd.R_lt (by (with_reducible repeat (first | apply Kd.R_alloc | apply Kd.R_drewN | apply Kd.R_drew)); exact HO203.out))) (below_size (by repeat (first | (with_reducible first | exact HB.out | apply below_alloc | apply pw_below_drewN | apply below_drew1) | exact HB.out)))); have n2_ := Aside0.mk (below_step (by repeat (first | (with_reducible first | exact HB.out | apply below_alloc | apply pw_below_drewN | apply below_drew1) | exact HB.out)) hb); clear HO203; clear HB; have HO203 := n0_; have HO207 := n1_; have HB := n2_; clear n0_ n1_ n2_; (try clear hb); (try clear hb2); (try clear hk); (try clear hi); (try clear ho0)))
    go_ret
    exact ⟨by first | rfl | (simp [errW_none, errW_some] <;> rfl) | (simp [*, errW_none, errW_some] <;> rfl), by repeat (first | (with_reducible first | exact HB.out | apply below_alloc | apply pw_below_drewN | apply below_drew1) | exact HB.out)⟩

/-! ### ndjqkeep_Ints: function 20 -/
def ndjqkeep_Ints.l0 : Nat → List Int → List Int → Int → Option (Bool)
  | 0, _, _, _ => none
  | k + 1, x0, x1, x5 => if x5 < (x0.length : Int) then (if 0 ≤ x5 then (if x5 < (x1.length : Int) then (if (rd x0 x5) = (rd x1 x5) then (ndjqkeep_Ints.l0 k x0 x1 (wrap64 (x5 + 1))) else (some false)) else (none)) else (none)) else (some true)
def ndjqkeep_Ints.f (k : Nat) (l0 : List Int) (l1 : List Int) : Option (Bool) := if (l0.length : Int) = (l1.length : Int) then (ndjqkeep_Ints.l0 k l0 l1 0) else (some false)
theorem ndjqkeep_Ints.mono_l : ∀ k, (∀ y0 y1 y2, LeO (ndjqkeep_Ints.l0 k y0 y1 y2) (ndjqkeep_Ints.l0 (k + 1) y0 y1 y2))
  | 0 => fun _ _ _ r h => by simp [ndjqkeep_Ints.l0] at h
  | k + 1 => by
    have ih0 := ndjqkeep_Ints.mono_l k
    · intro y0 y1 y2
      unfold ndjqkeep_Ints.l0
      repeat' first
      | (with_reducible exact ih0 _ _ _)
      | (with_reducible exact LeO.refl _)
      | (with_reducible exact LeO.none _)
      | (with_reducible refine LeO.ite ?_ ?_)
      | (with_reducible refine LeO.bind ?_ (fun _ => ?_))
      | exact ih0 _ _ _
      | exact LeO.none _
      | refine LeO.ite ?_ ?_
      | refine LeO.bind ?_ (fun _ => ?_)
theorem ndjqkeep_Ints.mono : ∀ a0 a1 k, LeO (ndjqkeep_Ints.f k a0 a1) (ndjqkeep_Ints.f (k + 1) a0 a1) := by
  intro a0 a1 k
  have ih0 := ndjqkeep_Ints.mono_l k
  unfold ndjqkeep_Ints.f
  repeat' first
      | (with_reducible exact ih0 _ _ _)
      | (with_reducible exact LeO.refl _)
      | (with_reducible exact LeO.none _)
      | (with_reducible refine LeO.ite ?_ ?_)
      | (with_reducible refine LeO.bind ?_ (fun _ => ?_))
      | exact ih0 _ _ _
      | exact LeO.none _
      | refine LeO.ite ?_ ?_
      | refine LeO.bind ?_ (fun _ => ?_)
set_option maxHeartbeats 8000000 in
set_option maxRecDepth 100000 in
theorem ndjqkeep_Ints.calls (k : Nat) (A0 : Option Addr) (c0 : Nat) (l0 : List Int) (A1 : Option Addr) (c1 : Nat) (l1 : List Int) (r : Bool) (w : World) (hr0 : Kd.C (Kd.int .i64) w A0 l0.length l0) (hc0 : l0.length ≤ c0) (hr1 : Kd.C (Kd.int .i64) w A1 l1.length l1) (hc1 : l1.length ≤ c1) (h : ndjqkeep_Ints.f k l0 l1 = some r) :
    Calls Tryd.prog 20 #[.slice A0 l0.length c0, .slice A1 l1.length c1] w fun e w' => e = .returned (.bool r) ∧ Drawn0 w w' := by
  have HR0 := Aside0.mk hr0
  have HC0 := Aside0.mk hc0
  clear hr0 hc0
  have HR1 := Aside0.mk hr1
  have HC1 := Aside0.mk hc1
  clear hr1 hc1
  have H : (if (l0.length : Int) = (l1.length : Int) then (ndjqkeep_Ints.l0 k l0 l1 0) else (some false)) = some r := h
  clear h
  by_cases c3 : (l0.length : Int) = (l1.length : Int)
  · rw [if_pos c3] at H
    have c3b0 : ((l0.length : Int) == (l1.length : Int)) = true := beq_iff_eq.mpr c3
    have c3b1 : ((l0.length : Int) != (l1.length : Int)) = false := bne_eq_false_iff_eq.mpr c3
    have c3b2 : (l0.length == l1.length) = true := by first | simpa using c3 | (simp at c3 ⊢; omega)
    clear c3
    have H' := Aside0.mk H
    clear H
    go_enter Tryd.func20, Tryd.ntmps20
    go_wp2
    repeat (go_quiet (fail); try go_wp2)
    go_loopg [5] k (fun kq v5 w' => ∃ (x5_1 : Int), v5 = .int .i64 x5_1 ∧ Aside0 (ndjqkeep_Ints.l0 kq l0 l1 x5_1 = some r) ∧ Aside0 (kq ≤ k) ∧ Drawn0 w w')
    case atStart => exact ⟨(0), (by first | rfl | (simp; done) | (simp [*]; done)), H', ⟨Nat.le_refl _⟩, by repeat (first | exact Drawn0.refl _ | apply Drawn0.step)⟩
    case round =>
      clear H'
      (try clear c1); (try clear c2); (try clear p2); (try clear c3); (try clear c3b0); (try clear c3b1); (try clear c3b2)
      obtain ⟨x5_1, rfl, HA, HK1, ⟨m1, rfl⟩⟩ := hrel
      cases gk with
      | zero => exact absurd HA.out (by simp [ndjqkeep_Ints.l0])
      | succ k1 =>
        have H := HA.out
        clear HA
        simp only [ndjqkeep_Ints.l0] at H
        by_cases c4 : x5_1 < (l0.length : Int)
        · rw [if_pos c4] at H
          have c4b0 : decide (x5_1 < (l0.length : Int)) = true := decide_eq_true c4
          clear c4
          by_cases c5 : 0 ≤ x5_1
          · rw [if_pos c5] at H
            have c5b0 : decide (0 ≤ x5_1) = true := decide_eq_true c5
            clear c5
            by_cases c6 : x5_1 < (l1.length : Int)
            · rw [if_pos c6] at H
              have c6b0 : decide (x5_1 < (l1.length : Int)) = true := decide_eq_true c6
              clear c6
              by_cases c7 : (rd l0 x5_1) = (rd l1 x5_1)
              · rw [if_pos c7] at H
                have c7b0 : ((rd l0 x5_1) == (rd l1 x5_1)) = true := beq_iff_eq.mpr c7
                have c7b1 : ((rd l0 x5_1) != (rd l1 x5_1)) = false := bne_eq_false_iff_eq.mpr c7
                clear c7
                have H' := Aside0.mk H
                clear H
                have p212 : 0 ≤ (x5_1 : Int) := of_decide_eq_true (by first | (with_reducible assumption) | assumption)
                have q212 : x5_1 < (l0.length : Int) := of_decide_eq_true (by first | (with_reducible assumption) | assumption)
                obtain ⟨ad212, e212, hx212_0⟩ := Kd.at_int HR0.out x5_1 p212 q212
                cases e212
                replace p212 := eq_true p212
                replace q212 := eq_true q212
                have p213 : 0 ≤ (x5_1 : Int) := of_decide_eq_true (by first | (with_reducible assumption) | assumption)
                have q213 : x5_1 < (l1.length : Int) := of_decide_eq_true (by first | (with_reducible assumption) | assumption)
                obtain ⟨ad213, e213, hx213_0⟩ := Kd.at_int HR1.out x5_1 p213 q213
                cases e213
                replace p213 := eq_true p213
                replace q213 := eq_true q213
                go_wp2
                repeat (go_quiet (fail); try go_wp2)
                go_roundg k1
                case measure => have := HK1.out; omega
                case rel => exact ⟨(wrap64 (x5_1 + 1)), (by first | rfl | (simp; done) | (simp [*]; done)), H', ⟨by have := HK1.out; omega⟩, by repeat (first | exact Drawn0.refl _ | apply Drawn0.step)⟩
              · rw [if_neg c7] at H
                have c7b0 : ((rd l0 x5_1) == (rd l1 x5_1)) = false := beq_eq_false_iff_ne.mpr c7
                have c7b1 : ((rd l0 x5_1) != (rd l1 x5_1)) = true := bne_iff_ne.mpr c7
                obtain rfl := Option.some.inj H
                have p212 : 0 ≤ (x5_1 : Int) := of_decide_eq_true (by first | (with_reducible assumption) | assumption)
                have q212 : x5_1 < (l0.length : Int) := of_decide_eq_true (by first | (with_reducible assumption) | assumption)
                obtain ⟨ad212, e212, hx212_0⟩ := Kd.at_int HR0.out x5_1 p212 q212
                cases e212
                replace p212 := eq_true p212
                replace q212 := eq_true q212
                have p213 : 0 ≤ (x5_1 : Int) := of_decide_eq_true (by first | (with_reducible assumption) | assumption)
                have q213 : x5_1 < (l1.length : Int) := of_decide_eq_true (by first | (with_reducible assumption) | assumption)
                obtain ⟨ad213, e213, hx213_0⟩ := Kd.at_int HR1.out x5_1 p213 q213
                cases e213
                replace p213 := eq_true p213
                replace q213 := eq_true q213
                go_wp2
                repeat (go_quiet (fail); try go_wp2)
                go_ret
                exact ⟨by first | rfl | (simp; done) | (simp [*]; done), by repeat (first | exact Drawn0.refl _ | apply Drawn0.step)⟩
            · rw [if_neg c6] at H
              exact absurd H (by simp)
          · rw [if_neg c5] at H
            exact absurd H (by simp)
        · rw [if_neg c4] at H
          have c4b0 : decide (x5_1 < (l0.length : Int)) = false := decide_eq_false c4
          clear c4
          obtain rfl := Option.some.inj H
          go_wp2
          repeat (go_quiet (fail); try go_wp2)
          go_ret
          exact ⟨by first | rfl | (simp; done) | (simp [*]; done), by repeat (first | exact Drawn0.refl _ | apply Drawn0.step)⟩
  · rw [if_neg c3] at H
    have c3b0 : ((l0.length : Int) == (l1.length : Int)) = false := beq_eq_false_iff_ne.mpr c3
    have c3b1 : ((l0.length : Int) != (l1.length : Int)) = true := bne_iff_ne.mpr c3
    have c3b2 : (l0.length == l1.length) = false := by first | simpa using c3 | (simp at c3 ⊢; omega)
    obtain rfl := Option.some.inj H
    go_enter Tryd.func20, Tryd.ntmps20
    go_wp2
    repeat (go_quiet (fail); try go_wp2)
    go_ret
    exact ⟨by first | rfl | (simp; done) | (simp [*]; done), by repeat (first | exact Drawn0.refl _ | apply Drawn0.step)⟩

/-! ### ndjqkeep_Summaries: function 17 -/
mutual
def ndjqkeep_Summaries.j0 : Nat → Bool → Int → Int → Int → Int → List Int → List Int → List Int → Int → Int → Int → Int → List Int → List Int → List Int → Option (Bool)
 | 0, _, _, _, _, _, _, _, _, _, _, _, _, _, _, _ => none
 | k + 1, x17, x215000, x215001, x215002, x215003, x215004, x215005, x215006, x216000, x216001, x216002, x216003, x216004, x216005, x216006 => if x17 = true then (some false) else (ndjqkeep_Summaries.l0 k 0 x215000 x215001 x215002 x215003 x215004 x215005 x215006 x216000 x216001 x216002 x216003 x216004 x216005 x216006)
def ndjqkeep_Summaries.l0 : Nat → Int → Int → Int → Int → Int → List Int → List Int → List Int → Int → Int → Int → Int → List Int → List Int → List Int → Option (Bool)
 | 0, _, _, _, _, _, _, _, _, _, _, _, _, _, _, _ => none
 | k + 1, x5, x215000, x215001, x215002, x215003, x215004, x215005, x215006, x216000, x216001, x216002, x216003, x216004, x216005, x216006 => if x5 < 3 then (if x5 = 0 then ((ndjqkeep_Ints.f k x215004 x216004).bind fun t216 => (if t216 = true then (ndjqkeep_Summaries.l0 k 1 x215000 x215001 x215002 x215003 x215004 x215005 x215006 x216000 x216001 x216002 x216003 x216004 x216005 x216006) else (some false))) else (if x5 = 1 then ((ndjqkeep_Ints.f k x215005 x216005).bind fun t217 => (if t217 = true then (ndjqkeep_Summaries.l0 k 2 x215000 x215001 x215002 x215003 x215004 x215005 x215006 x216000 x216001 x216002 x216003 x216004 x216005 x216006) else (some false))) else (if x5 = 2 then ((ndjqkeep_Ints.f k x215006 x216006).bind fun t218 => (if t218 = true then (ndjqkeep_Summaries.l0 k 3 x215000 x215001 x215002 x215003 x215004 x215005 x215006 x216000 x216001 x216002 x216003 x216004 x216005 x216006) else (some false))) else (none)))) else (some true)
end
def ndjqkeep_Summaries.f (k : Nat) (a0_0 : Int) (a0_1 : Int) (a0_2 : Int) (a0_3 : Int) (l0_4 : List Int) (l0_5 : List Int) (l0_6 : List Int) (a1_0 : Int) (a1_1 : Int) (a1_2 : Int) (a1_3 : Int) (l1_4 : List Int) (l1_5 : List Int) (l1_6 : List Int) : Option (Bool) := if a0_0 = a1_0 then (ndjqkeep_Summaries.j0 k (!(a0_1 == a1_1) || (!(a0_2 == a1_2) || (!(a0_3 == a1_3)))) a0_0 a0_1 a0_2 a0_3 l0_4 l0_5 l0_6 a1_0 a1_1 a1_2 a1_3 l1_4 l1_5 l1_6) else (ndjqkeep_Summaries.j0 k true a0_0 a0_1 a0_2 a0_3 l0_4 l0_5 l0_6 a1_0 a1_1 a1_2 a1_3 l1_4 l1_5 l1_6)
theorem ndjqkeep_Summaries.mono_l : ∀ k, (∀ y0 y1 y2 y3 y4 y5 y6 y7 y8 y9 y10 y11 y12 y13 y14, LeO (ndjqkeep_Summaries.j0 k y0 y1 y2 y3 y4 y5 y6 y7 y8 y9 y10 y11 y12 y13 y14) (ndjqkeep_Summaries.j0 (k + 1) y0 y1 y2 y3 y4 y5 y6 y7 y8 y9 y10 y11 y12 y13 y14)) ∧ (∀ y0 y1 y2 y3 y4 y5 y6 y7 y8 y9 y10 y11 y12 y13 y14, LeO (ndjqkeep_Summaries.l0 k y0 y1 y2 y3 y4 y5 y6 y7 y8 y9 y10 y11 y12 y13 y14) (ndjqkeep_Summaries.l0 (k + 1) y0 y1 y2 y3 y4 y5 y6 y7 y8 y9 y10 y11 y12 y13 y14))
 | 0 => ⟨fun _ _ _ _ _ _ _ _ _ _ _ _ _ _ _ r h => by simp [ndjqkeep_Summaries.j0] at h, fun _ _ _ _ _ _ _ _ _ _ _ _ _ _ _ r h => by simp [ndjqkeep_Summaries.l0] at h⟩
 | k + 1 => by
  obtain ⟨ih0, ih1⟩ := ndjqkeep_Summaries.mono_l k
  refine ⟨?_, ?_⟩
  ·intro y0 y1 y2 y3 y4 y5 y6 y7 y8 y9 y10 y11 y12 y13 y14
   unfold ndjqkeep_Summaries.j0
   repeat' first
   | (with_reducible exact ih0 _ _ _ _ _ _ _ _ _ _ _ _ _ _ _)
   | (with_reducible exact ih1 _ _ _ _ _ _ _ _ _ _ _ _ _ _ _)
   | (with_reducible exact ndjqkeep_Ints.mono _ _ _)
   | (with_reducible exact LeO.refl _)
   | (with_reducible exact LeO.none _)
   | (with_reducible refine LeO.ite ?_ ?_)
   | (with_reducible refine LeO.bind ?_ (fun _ => ?_))
   | exact ih0 _ _ _ _ _ _ _ _ _ _ _ _ _ _ _
   | exact ih1 _ _ _ _ _ _ _ _ _ _ _ _ _ _ _
   | exact ndjqkeep_Ints.mono _ _ _
   | exact LeO.none _
   | refine LeO.ite ?_ ?_
   | refine LeO.bind ?_ (fun _ => ?_)
  ·intro y0 y1 y2 y3 y4 y5 y6 y7 y8 y9 y10 y11 y12 y13 y14
   unfold ndjqkeep_Summaries.l0
   repeat' first
   | (with_reducible exact ih0 _ _ _ _ _ _ _ _ _ _ _ _ _ _ _)
   | (with_reducible exact ih1 _ _ _ _ _ _ _ _ _ _ _ _ _ _ _)
   | (with_reducible exact ndjqkeep_Ints.mono _ _ _)
   | (with_reducible exact LeO.refl _)
   | (with_reducible exact LeO.none _)
   | (with_reducible refine LeO.ite ?_ ?_)
   | (with_reducible refine LeO.bind ?_ (fun _ => ?_))
   | exact ih0 _ _ _ _ _ _ _ _ _ _ _ _ _ _ _
   | exact ih1 _ _ _ _ _ _ _ _ _ _ _ _ _ _ _
   | exact ndjqkeep_Ints.mono _ _ _
   | exact LeO.none _
   | refine LeO.ite ?_ ?_
   | refine LeO.bind ?_ (fun _ => ?_)
theorem ndjqkeep_Summaries.mono : ∀ a0 a1 a2 a3 a4 a5 a6 a7 a8 a9 a10 a11 a12 a13 k, LeO (ndjqkeep_Summaries.f k a0 a1 a2 a3 a4 a5 a6 a7 a8 a9 a10 a11 a12 a13) (ndjqkeep_Summaries.f (k + 1) a0 a1 a2 a3 a4 a5 a6 a7 a8 a9 a10 a11 a12 a13) := by
 intro a0 a1 a2 a3 a4 a5 a6 a7 a8 a9 a10 a11 a12 a13 k
 obtain ⟨ih0, ih1⟩ := ndjqkeep_Summaries.mono_l k
 unfold ndjqkeep_Summaries.f
 repeat' first
   | (with_reducible exact ih0 _ _ _ _ _ _ _ _ _ _ _ _ _ _ _)
   | (with_reducible exact ih1 _ _ _ _ _ _ _ _ _ _ _ _ _ _ _)
   | (with_reducible exact ndjqkeep_Ints.mono _ _ _)
   | (with_reducible exact LeO.refl _)
   | (with_reducible exact LeO.none _)
   | (with_reducible refine LeO.ite ?_ ?_)
   | (with_reducible refine LeO.bind ?_ (fun _ => ?_))
   | exact ih0 _ _ _ _ _ _ _ _ _ _ _ _ _ _ _
   | exact ih1 _ _ _ _ _ _ _ _ _ _ _ _ _ _ _
   | exact ndjqkeep_Ints.mono _ _ _
   | exact LeO.none _
   | refine LeO.ite ?_ ?_
   | refine LeO.bind ?_ (fun _ => ?_)
set_option maxHeartbeats 8000000 in
set_option maxRecDepth 100000 in
theorem ndjqkeep_Summaries.calls (k : Nat) (a0_0 : Int) (a0_1 : Int) (a0_2 : Int) (a0_3 : Int) (A0_4 : Option Addr) (c0_4 : Nat) (l0_4 : List Int) (A0_5 : Option Addr) (c0_5 : Nat) (l0_5 : List Int) (A0_6 : Option Addr) (c0_6 : Nat) (l0_6 : List Int) (a1_0 : Int) (a1_1 : Int) (a1_2 : Int) (a1_3 : Int) (A1_4 : Option Addr) (c1_4 : Nat) (l1_4 : List Int) (A1_5 : Option Addr) (c1_5 : Nat) (l1_5 : List Int) (A1_6 : Option Addr) (c1_6 : Nat) (l1_6 : List Int) (r : Bool) (w : World) (hr0_4 : Kd.C (Kd.int .i64) w A0_4 l0_4.length l0_4) (hc0_4 : l0_4.length ≤ c0_4) (hr0_5 : Kd.C (Kd.int .i64) w A0_5 l0_5.length l0_5) (hc0_5 : l0_5.length ≤ c0_5) (hr0_6 : Kd.C (Kd.int .i64) w A0_6 l0_6.length l0_6) (hc0_6 : l0_6.length ≤ c0_6) (hr1_4 : Kd.C (Kd.int .i64) w A1_4 l1_4.length l1_4) (hc1_4 : l1_4.length ≤ c1_4) (hr1_5 : Kd.C (Kd.int .i64) w A1_5 l1_5.length l1_5) (hc1_5 : l1_5.length ≤ c1_5) (hr1_6 : Kd.C (Kd.int .i64) w A1_6 l1_6.length l1_6) (hc1_6 : l1_6.length ≤ c1_6) (h : ndjqkeep_Summaries.f k a0_0 a0_1 a0_2 a0_3 l0_4 l0_5 l0_6 a1_0 a1_1 a1_2 a1_3 l1_4 l1_5 l1_6 = some r) :
  Calls Tryd.prog 17 #[.agg #[.int .i64 a0_0, .int .i64 a0_1, .int .i64 a0_2, .int .i64 a0_3, .slice A0_4 l0_4.length c0_4, .slice A0_5 l0_5.length c0_5, .slice A0_6 l0_6.length c0_6], .agg #[.int .i64 a1_0, .int .i64 a1_1, .int .i64 a1_2, .int .i64 a1_3, .slice A1_4 l1_4.length c1_4, .slice A1_5 l1_5.length c1_5, .slice A1_6 l1_6.length c1_6]] w fun e w' => e = .returned (.bool r) ∧ Below w.heap.size w w' := by
 have hu26 := Tryd.underlying26
 have hu22 := Tryd.underlying22
 have HR0_4 := Aside0.mk hr0_4
 have HC0_4 := Aside0.mk hc0_4
 clear hr0_4 hc0_4
 have HR0_5 := Aside0.mk hr0_5
 have HC0_5 := Aside0.mk hc0_5
 clear hr0_5 hc0_5
 have HR0_6 := Aside0.mk hr0_6
 have HC0_6 := Aside0.mk hc0_6
 clear hr0_6 hc0_6
 have HR1_4 := Aside0.mk hr1_4
 have HC1_4 := Aside0.mk hc1_4
 clear hr1_4 hc1_4
 have HR1_5 := Aside0.mk hr1_5
 have HC1_5 := Aside0.mk hc1_5
 clear hr1_5 hc1_5
 have HR1_6 := Aside0.mk hr1_6
 have HC1_6 := Aside0.mk hc1_6
 clear hr1_6 hc1_6
 have HB := Aside0.mk (Below.refl w.heap.size w)
 have H : (if a0_0 = a1_0 then (ndjqkeep_Summaries.j0 k (!(a0_1 == a1_1) || (!(a0_2 == a1_2) || (!(a0_3 == a1_3)))) a0_0 a0_1 a0_2 a0_3 l0_4 l0_5 l0_6 a1_0 a1_1 a1_2 a1_3 l1_4 l1_5 l1_6) else (ndjqkeep_Summaries.j0 k true a0_0 a0_1 a0_2 a0_3 l0_4 l0_5 l0_6 a1_0 a1_1 a1_2 a1_3 l1_4 l1_5 l1_6)) = some r := h
 clear h
 have HC3 := Aside0.mk H
 clear H
 go_enter Tryd.func17, Tryd.ntmps17
 go_upto_region 1 with (first | ((with_reducible refine gate_dst (N := 2) rfl ?_); refine box_event ?hg (N := 2) ?hd (cs := #[.int .i64 a0_0, .int .i64 a0_1, .int .i64 a0_2, .int .i64 a0_3, .slice A0_4 l0_4.length c0_4, .slice A0_5 l0_5.length c0_5, .slice A0_6 l0_6.length c0_6]) (t := 26) ?hr ?_; (case hd => rfl); (case hg => rfl); (case hr => first | (go_simp; done) | (go_simp; rfl)); intro gb214 hg w4 hbox hb; have n0_ := Aside0.mk (below_step (by repeat (first | (with_reducible first | exact HB.out | apply wA | apply wN | apply wD) | exact HB.out)) hb); have n1_ := Aside0.mk (hbox); have n2_ := Aside0.mk ((by rw [hg]; exact (below_size (by repeat (first | (with_reducible first | exact HB.out | apply wA | apply wN | apply wD) | exact HB.out))) : w.heap.size ≤ gb214)); have n3_ := n2_; clear HB; have HB := n0_; have BK214 := n1_; have GW214 := n2_; have GE214 := n3_; clear n0_ n1_ n2_ n3_; clear hb hbox hg) | ((with_reducible refine gate_dst (N := 3) rfl ?_); refine box_event ?hg (N := 3) ?hd (cs := #[.int .i64 a1_0, .int .i64 a1_1, .int .i64 a1_2, .int .i64 a1_3, .slice A1_4 l1_4.length c1_4, .slice A1_5 l1_5.length c1_5, .slice A1_6 l1_6.length c1_6]) (t := 26) ?hr ?_; (case hd => rfl); (case hg => rfl); (case hr => first | (go_simp; done) | (go_simp; rfl)); intro gb215 hg w5 hbox hb; have n0_ := Aside0.mk (blk_below (g := gb214) (o := .cells #[.int .i64 a0_0, .int .i64 a0_1, .int .i64 a0_2, .int .i64 a0_3, .slice A0_4 l0_4.length c0_4, .slice A0_5 l0_5.length c0_5, .slice A0_6 l0_6.length c0_6] 26 (0, 0)) (by (with_reducible repeat (first | refine bN ?_ _ | refine bD ?_ | refine bA ?_ _)); exact BK214.out) hb); have n1_ := Aside0.mk (below_step (by repeat (first | (with_reducible first | exact HB.out | apply wA | apply wN | apply wD | refine wS ?_ GE214.out) | exact HB.out)) hb); have n2_ := Aside0.mk (hbox); have n3_ := Aside0.mk ((by rw [hg]; exact (below_size (by repeat (first | (with_reducible first | exact HB.out | apply wA | apply wN | apply wD | refine wS ?_ GE214.out) | exact HB.out))) : w.heap.size ≤ gb215)); have n4_ := n3_; have n5_ := Aside0.mk ((by rw [hg]; exact Nat.ne_of_lt (blk_lt (g := gb214) (o := .cells #[.int .i64 a0_0, .int .i64 a0_1, .int .i64 a0_2, .int .i64 a0_3, .slice A0_4 l0_4.length c0_4, .slice A0_5 l0_5.length c0_5, .slice A0_6 l0_6.length c0_6] 26 (0, 0)) (by (with_reducible repeat (first | refine bN ?_ _ | refine bD ?_ | refine bA ?_ _)); exact BK214.out)) : gb214 ≠ gb215)); have n6_ := Aside0.mk ((by rw [hg]; exact Nat.ne_of_gt (blk_lt (g := gb214) (o := .cells #[.int .i64 a0_0, .int .i64 a0_1, .int .i64 a0_2, .int .i64 a0_3, .slice A0_4 l0_4.length c0_4, .slice A0_5 l0_5.length c0_5, .slice A0_6 l0_6.length c0_6] 26 (0, 0)) (by (with_reducible repeat (first | refine bN ?_ _ | refine bD ?_ | refine bA ?_ _)); exact BK214.out)) : gb215 ≠ gb214)); clear BK214; clear HB; have BK214 := n0_; have HB := n1_; have BK215 := n2_; have GW215 := n3_; have GE215 := n4_; have NB214_215 := n5_; have NB215_214 := n6_; clear n0_ n1_ n2_ n3_ n4_ n5_ n6_; clear hb hbox hg))
 repeat (go_quiet (first | ((with_reducible refine gate_dst (N := 2) rfl ?_); refine box_event ?hg (N := 2) ?hd (cs := #[.int .i64 a0_0, .int .i64 a0_1, .int .i64 a0_2, .int .i64 a0_3, .slice A0_4 l0_4.length c0_4, .slice A0_5 l0_5.length c0_5, .slice A0_6 l0_6.length c0_6]) (t := 26) ?hr ?_; (case hd => rfl); (case hg => rfl); (case hr => first | (go_simp; done) | (go_simp; rfl)); intro gb214 hg w4 hbox hb; have n0_ := Aside0.mk (below_step (by repeat (first | (with_reducible first | exact HB.out | apply wA | apply wN | apply wD) | exact HB.out)) hb); have n1_ := Aside0.mk (hbox); have n2_ := Aside0.mk ((by rw [hg]; exact (below_size (by repeat (first | (with_reducible first | exact HB.out | apply wA | apply wN | apply wD) | exact HB.out))) : w.heap.size ≤ gb214)); have n3_ := n2_; clear HB; have HB := n0_; have BK214 := n1_; have GW214 := n2_; have GE214 := n3_; clear n0_ n1_ n2_ n3_; clear hb hbox hg) | ((with_reducible refine gate_dst (N := 3) rfl ?_); refine box_event ?hg (N := 3) ?hd (cs := #[.int .i64 a1_0, .int .i64 a1_1, .int .i64 a1_2, .int .i64 a1_3, .slice A1_4 l1_4.length c1_4, .slice A1_5 l1_5.length c1_5, .slice A1_6 l1_6.length c1_6]) (t := 26) ?hr ?_; (case hd => rfl); (case hg => rfl); (case hr => first | (go_simp; done) | (go_simp; rfl)); intro gb215 hg w5 hbox hb; have n0_ := Aside0.mk (blk_below (g := gb214) (o := .cells #[.int .i64 a0_0, .int .i64 a0_1, .int .i64 a0_2, .int .i64 a0_3, .slice A0_4 l0_4.length c0_4, .slice A0_5 l0_5.length c0_5, .slice A0_6 l0_6.length c0_6] 26 (0, 0)) (by (with_reducible repeat (first | refine bN ?_ _ | refine bD ?_ | refine bA ?_ _)); exact BK214.out) hb); have n1_ := Aside0.mk (below_step (by repeat (first | (with_reducible first | exact HB.out | apply wA | apply wN | apply wD | refine wS ?_ GE214.out) | exact HB.out)) hb); have n2_ := Aside0.mk (hbox); have n3_ := Aside0.mk ((by rw [hg]; exact (below_size (by repeat (first | (with_reducible first | exact HB.out | apply wA | apply wN | apply wD | refine wS ?_ GE214.out) | exact HB.out))) : w.heap.size ≤ gb215)); have n4_ := n3_; have n5_ := Aside0.mk ((by rw [hg]; exact Nat.ne_of_lt (blk_lt (g := gb214) (o := .cells #[.int .i64 a0_0, .int .i64 a0_1, .int .i64 a0_2, .int .i64 a0_3, .slice A0_4 l0_4.length c0_4, .slice A0_5 l0_5.length c0_5, .slice A0_6 l0_6.length c0_6] 26 (0, 0)) (by (with_reducible repeat (first | refine bN ?_ _ | refine bD ?_ | refine bA ?_ _)); exact BK214.out)) : gb214 ≠ gb215)); have n6_ := Aside0.mk ((by rw [hg]; exact Nat.ne_of_gt (blk_lt (g := gb214) (o := .cells #[.int .i64 a0_0, .int .i64 a0_1, .int .i64 a0_2, .int .i64 a0_3, .slice A0_4 l0_4.length c0_4, .slice A0_5 l0_5.length c0_5, .slice A0_6 l0_6.length c0_6] 26 (0, 0)) (by (with_reducible repeat (first | refine bN ?_ _ | refine bD ?_ | refine bA ?_ _)); exact BK214.out)) : gb215 ≠ gb214)); clear BK214; clear HB; have BK214 := n0_; have HB := n1_; have BK215 := n2_; have GW215 := n3_; have GE215 := n4_; have NB214_215 := n5_; have NB215_214 := n6_; clear n0_ n1_ n2_ n3_ n4_ n5_ n6_; clear hb hbox hg)); go_upto_region 1 with (first | ((with_reducible refine gate_dst (N := 2) rfl ?_); refine box_event ?hg (N := 2) ?hd (cs := #[.int .i64 a0_0, .int .i64 a0_1, .int .i64 a0_2, .int .i64 a0_3, .slice A0_4 l0_4.length c0_4, .slice A0_5 l0_5.length c0_5, .slice A0_6 l0_6.length c0_6]) (t := 26) ?hr ?_; (case hd => rfl); (case hg => rfl); (case hr => first | (go_simp; done) | (go_simp; rfl)); intro gb214 hg w4 hbox hb; have n0_ := Aside0.mk (below_step (by repeat (first | (with_reducible first | exact HB.out | apply wA | apply wN | apply wD) | exact HB.out)) hb); have n1_ := Aside0.mk (hbox); have n2_ := Aside0.mk ((by rw [hg]; exact (below_size (by repeat (first | (with_reducible first | exact HB.out | apply wA | apply wN | apply wD) | exact HB.out))) : w.heap.size ≤ gb214)); have n3_ := n2_; clear HB; have HB := n0_; have BK214 := n1_; have GW214 := n2_; have GE214 := n3_; clear n0_ n1_ n2_ n3_; clear hb hbox hg) | ((with_reducible refine gate_dst (N := 3) rfl ?_); refine box_event ?hg (N := 3) ?hd (cs := #[.int .i64 a1_0, .int .i64 a1_1, .int .i64 a1_2, .int .i64 a1_3, .slice A1_4 l1_4.length c1_4, .slice A1_5 l1_5.length c1_5, .slice A1_6 l1_6.length c1_6]) (t := 26) ?hr ?_; (case hd => rfl); (case hg => rfl); (case hr => first | (go_simp; done) | (go_simp; rfl)); intro gb215 hg w5 hbox hb; have n0_ := Aside0.mk (blk_below (g := gb214) (o := .cells #[.int .i64 a0_0, .int .i64 a0_1, .int .i64 a0_2, .int .i64 a0_3, .slice A0_4 l0_4.length c0_4, .slice A0_5 l0_5.length c0_5, .slice A0_6 l0_6.length c0_6] 26 (0, 0)) (by (with_reducible repeat (first | refine bN ?_ _ | refine bD ?_ | refine bA ?_ _)); exact BK214.out) hb); have n1_ := Aside0.mk (below_step (by repeat (first | (with_reducible first | exact HB.out | apply wA | apply wN | apply wD | refine wS ?_ GE214.out) | exact HB.out)) hb); have n2_ := Aside0.mk (hbox); have n3_ := Aside0.mk ((by rw [hg]; exact (below_size (by repeat (first | (with_reducible first | exact HB.out | apply wA | apply wN | apply wD | refine wS ?_ GE214.out) | exact HB.out))) : w.heap.size ≤ gb215)); have n4_ := n3_; have n5_ := Aside0.mk ((by rw [hg]; exact Nat.ne_of_lt (blk_lt (g := gb214) (o := .cells #[.int .i64 a0_0, .int .i64 a0_1, .int .i64 a0_2, .int .i64 a0_3, .slice A0_4 l0_4.length c0_4, .slice A0_5 l0_5.length c0_5, .slice A0_6 l0_6.length c0_6] 26 (0, 0)) (by (with_reducible repeat (first | refine bN ?_ _ | refine bD ?_ | refine bA ?_ _)); exact BK214.out)) : gb214 ≠ gb215)); have n6_ := Aside0.mk ((by rw [hg]; exact Nat.ne_of_gt (blk_lt (g := gb214) (o := .cells #[.int .i64 a0_0, .int .i64 a0_1, .int .i64 a0_2, .int .i64 a0_3, .slice A0_4 l0_4.length c0_4, .slice A0_5 l0_5.length c0_5, .slice A0_6 l0_6.length c0_6] 26 (0, 0)) (by (with_reducible repeat (first | refine bN ?_ _ | refine bD ?_ | refine bA ?_ _)); exact BK214.out)) : gb215 ≠ gb214)); clear BK214; clear HB; have BK214 := n0_; have HB := n1_; have BK215 := n2_; have GW215 := n3_; have GE215 := n4_; have NB214_215 := n5_; have NB215_214 := n6_; clear n0_ n1_ n2_ n3_ n4_ n5_ n6_; clear hb hbox hg)))
 (try simp only [Act.put, List.setIfInBounds_toArray, List.set_cons_zero, List.set_cons_succ])
 go_cut [17] (fun v17 wc => ∃ (kq : Nat) (x17_2 : Bool), v17 = .bool x17_2 ∧ Aside0 (ndjqkeep_Summaries.j0 kq x17_2 a0_0 a0_1 a0_2 a0_3 l0_4 l0_5 l0_6 a1_0 a1_1 a1_2 a1_3 l1_4 l1_5 l1_6 = some r) ∧ Aside0 (kq ≤ k) ∧ Aside0 (wc.heap[gb214]? = some (.cells #[.int .i64 a0_0, .int .i64 a0_1, .int .i64 a0_2, .int .i64 a0_3, (.slice A0_4 l0_4.length c0_4), (.slice A0_5 l0_5.length c0_5), (.slice A0_6 l0_6.length c0_6)] 26 (0, 0))) ∧ Aside0 (wc.heap[gb215]? = some (.cells #[.int .i64 a1_0, .int .i64 a1_1, .int .i64 a1_2, .int .i64 a1_3, (.slice A1_4 l1_4.length c1_4), (.slice A1_5 l1_5.length c1_5), (.slice A1_6 l1_6.length c1_6)] 26 (0, 0))) ∧ Aside0 (Below w.heap.size w wc))
 case first =>
  have H := HC3.out
  clear HC3
  by_cases c6 : a0_0 = a1_0
  ·rw [if_pos c6] at H
   have c6b0 : (a0_0 == a1_0) = true := beq_iff_eq.mpr c6
   have c6b1 : (a0_0 != a1_0) = false := bne_eq_false_iff_eq.mpr c6
   clear c6
   (first | rw [c6b0] | (simp only [i64_w, i32_w]; rw [c6b0]) | skip)
   have H' := Aside0.mk H
   clear H; have hnb7 := NB214_215.out; have hnc7 := NB215_214.out; have hcz8_0 : w5.cell? ⟨gb214, 0, none⟩ = some (.int .i64 a0_0) := (blk_cell BK214.out 0).trans rfl; have hcz8_1 : w5.cell? ⟨gb214, 1, none⟩ = some (.int .i64 a0_1) := (blk_cell BK214.out 1).trans rfl; have hcz8_2 : w5.cell? ⟨gb214, 2, none⟩ = some (.int .i64 a0_2) := (blk_cell BK214.out 2).trans rfl; have hcz8_3 : w5.cell? ⟨gb214, 3, none⟩ = some (.int .i64 a0_3) := (blk_cell BK214.out 3).trans rfl; have hcz8_4 : w5.cell? ⟨gb214, 4, none⟩ = some (.slice A0_4 l0_4.length c0_4) := (blk_cell BK214.out 4).trans rfl; have hcz8_5 : w5.cell? ⟨gb214, 5, none⟩ = some (.slice A0_5 l0_5.length c0_5) := (blk_cell BK214.out 5).trans rfl; have hcz8_6 : w5.cell? ⟨gb214, 6, none⟩ = some (.slice A0_6 l0_6.length c0_6) := (blk_cell BK214.out 6).trans rfl; have hfz8_0 := blk_frozen BK214.out 0; have hfz8_1 := blk_frozen BK214.out 1; have hfz8_2 := blk_frozen BK214.out 2; have hfz8_3 := blk_frozen BK214.out 3; have hfz8_4 := blk_frozen BK214.out 4; have hfz8_5 := blk_frozen BK214.out 5; have hfz8_6 := blk_frozen BK214.out 6; have hcz9_0 : w5.cell? ⟨gb215, 0, none⟩ = some (.int .i64 a1_0) := (blk_cell BK215.out 0).trans rfl; have hcz9_1 : w5.cell? ⟨gb215, 1, none⟩ = some (.int .i64 a1_1) := (blk_cell BK215.out 1).trans rfl; have hcz9_2 : w5.cell? ⟨gb215, 2, none⟩ = some (.int .i64 a1_2) := (blk_cell BK215.out 2).trans rfl; have hcz9_3 : w5.cell? ⟨gb215, 3, none⟩ = some (.int .i64 a1_3) := (blk_cell BK215.out 3).trans rfl; have hcz9_4 : w5.cell? ⟨gb215, 4, none⟩ = some (.slice A1_4 l1_4.length c1_4) := (blk_cell BK215.out 4).trans rfl; have hcz9_5 : w5.cell? ⟨gb215, 5, none⟩ = some (.slice A1_5 l1_5.length c1_5) := (blk_cell BK215.out 5).trans rfl; have hcz9_6 : w5.cell? ⟨gb215, 6, none⟩ = some (.slice A1_6 l1_6.length c1_6) := (blk_cell BK215.out 6).trans rfl; have hfz9_0 := blk_frozen BK215.out 0; have hfz9_1 := blk_frozen BK215.out 1; have hfz9_2 := blk_frozen BK215.out 2; have hfz9_3 := blk_frozen BK215.out 3; have hfz9_4 := blk_frozen BK215.out 4; have hfz9_5 := blk_frozen BK215.out 5; have hfz9_6 := blk_frozen BK215.out 6
   go_wp2
   repeat (go_quiet (fail); try go_wp2)
   go_meet
   case rel => exact ⟨_, ((!(a0_1 == a1_1) || (!(a0_2 == a1_2) || (!(a0_3 == a1_3))))), (by first | rfl | (simp; done) | (simp [*]; done)), H', ⟨by first | omega | exact Nat.le_refl _⟩, ⟨by (with_reducible repeat (first | refine bN ?_ _ | refine bD ?_ | refine bA ?_ _)); exact BK214.out⟩, ⟨by (with_reducible repeat (first | refine bN ?_ _ | refine bD ?_ | refine bA ?_ _)); exact BK215.out⟩, ⟨by repeat (first | (with_reducible first | exact HB.out | apply wA | apply wN | apply wD | refine wS ?_ GE214.out | refine wS ?_ GE215.out) | exact HB.out)⟩⟩
  ·rw [if_neg c6] at H
   have c6b0 : (a0_0 == a1_0) = false := beq_eq_false_iff_ne.mpr c6
   have c6b1 : (a0_0 != a1_0) = true := bne_iff_ne.mpr c6
   (first | rw [c6b0] | (simp only [i64_w, i32_w]; rw [c6b0]) | skip)
   have H' := Aside0.mk H
   clear H; have hnb10 := NB214_215.out; have hnc10 := NB215_214.out; have hcz11_0 : w5.cell? ⟨gb214, 0, none⟩ = some (.int .i64 a0_0) := (blk_cell BK214.out 0).trans rfl; have hcz11_1 : w5.cell? ⟨gb214, 1, none⟩ = some (.int .i64 a0_1) := (blk_cell BK214.out 1).trans rfl; have hcz11_2 : w5.cell? ⟨gb214, 2, none⟩ = some (.int .i64 a0_2) := (blk_cell BK214.out 2).trans rfl; have hcz11_3 : w5.cell? ⟨gb214, 3, none⟩ = some (.int .i64 a0_3) := (blk_cell BK214.out 3).trans rfl; have hcz11_4 : w5.cell? ⟨gb214, 4, none⟩ = some (.slice A0_4 l0_4.length c0_4) := (blk_cell BK214.out 4).trans rfl; have hcz11_5 : w5.cell? ⟨gb214, 5, none⟩ = some (.slice A0_5 l0_5.length c0_5) := (blk_cell BK214.out 5).trans rfl; have hcz11_6 : w5.cell? ⟨gb214, 6, none⟩ = some (.slice A0_6 l0_6.length c0_6) := (blk_cell BK214.out 6).trans rfl; have hfz11_0 := blk_frozen BK214.out 0; have hfz11_1 := blk_frozen BK214.out 1; have hfz11_2 := blk_frozen BK214.out 2; have hfz11_3 := blk_frozen BK214.out 3; have hfz11_4 := blk_frozen BK214.out 4; have hfz11_5 := blk_frozen BK214.out 5; have hfz11_6 := blk_frozen BK214.out 6; have hcz12_0 : w5.cell? ⟨gb215, 0, none⟩ = some (.int .i64 a1_0) := (blk_cell BK215.out 0).trans rfl; have hcz12_1 : w5.cell? ⟨gb215, 1, none⟩ = some (.int .i64 a1_1) := (blk_cell BK215.out 1).trans rfl; have hcz12_2 : w5.cell? ⟨gb215, 2, none⟩ = some (.int .i64 a1_2) := (blk_cell BK215.out 2).trans rfl; have hcz12_3 : w5.cell? ⟨gb215, 3, none⟩ = some (.int .i64 a1_3) := (blk_cell BK215.out 3).trans rfl; have hcz12_4 : w5.cell? ⟨gb215, 4, none⟩ = some (.slice A1_4 l1_4.length c1_4) := (blk_cell BK215.out 4).trans rfl; have hcz12_5 : w5.cell? ⟨gb215, 5, none⟩ = some (.slice A1_5 l1_5.length c1_5) := (blk_cell BK215.out 5).trans rfl; have hcz12_6 : w5.cell? ⟨gb215, 6, none⟩ = some (.slice A1_6 l1_6.length c1_6) := (blk_cell BK215.out 6).trans rfl; have hfz12_0 := blk_frozen BK215.out 0; have hfz12_1 := blk_frozen BK215.out 1; have hfz12_2 := blk_frozen BK215.out 2; have hfz12_3 := blk_frozen BK215.out 3; have hfz12_4 := blk_frozen BK215.out 4; have hfz12_5 := blk_frozen BK215.out 5; have hfz12_6 := blk_frozen BK215.out 6
   go_wp2
   repeat (go_quiet (fail); try go_wp2)
   go_meet
   case rel => exact ⟨_, (true), (by first | rfl | (simp; done) | (simp [*]; done)), H', ⟨by first | omega | exact Nat.le_refl _⟩, ⟨by (with_reducible repeat (first | refine bN ?_ _ | refine bD ?_ | refine bA ?_ _)); exact BK214.out⟩, ⟨by (with_reducible repeat (first | refine bN ?_ _ | refine bD ?_ | refine bA ?_ _)); exact BK215.out⟩, ⟨by repeat (first | (with_reducible first | exact HB.out | apply wA | apply wN | apply wD | refine wS ?_ GE214.out | refine wS ?_ GE215.out) | exact HB.out)⟩⟩
 case rest =>
  clear HC3
  (try clear c1); (try clear p2); (try clear c6); (try clear c6b0); (try clear c6b1); (try clear c7); (try clear c10); (try clear hcz11_0); (try clear hcz11_1); (try clear hcz11_2); (try clear hcz11_3); (try clear hcz11_4); (try clear hcz11_5); (try clear hcz11_6); (try clear hcz12_0); (try clear hcz12_1); (try clear hcz12_2); (try clear hcz12_3); (try clear hcz12_4); (try clear hcz12_5); (try clear hcz12_6); (try clear hcz8_0); (try clear hcz8_1); (try clear hcz8_2); (try clear hcz8_3); (try clear hcz8_4); (try clear hcz8_5); (try clear hcz8_6); (try clear hcz9_0); (try clear hcz9_1); (try clear hcz9_2); (try clear hcz9_3); (try clear hcz9_4); (try clear hcz9_5); (try clear hcz9_6); (try clear hfz11_0); (try clear hfz11_1); (try clear hfz11_2); (try clear hfz11_3); (try clear hfz11_4); (try clear hfz11_5); (try clear hfz11_6); (try clear hfz12_0); (try clear hfz12_1); (try clear hfz12_2); (try clear hfz12_3); (try clear hfz12_4); (try clear hfz12_5); (try clear hfz12_6); (try clear hfz8_0); (try clear hfz8_1); (try clear hfz8_2); (try clear hfz8_3); (try clear hfz8_4); (try clear hfz8_5); (try clear hfz8_6); (try clear hfz9_0); (try clear hfz9_1); (try clear hfz9_2); (try clear hfz9_3); (try clear hfz9_4); (try clear hfz9_5); (try clear hfz9_6)
  obtain ⟨kq, x17_2, rfl, HA, HJ2, BK214, BK215, HB⟩ := hcut
  cases kq with
  | zero => exact absurd HA.out (by simp [ndjqkeep_Summaries.j0])
  | succ kj2 =>
   have H := HA.out
   clear HA
   simp only [ndjqkeep_Summaries.j0] at H
   by_cases c13 : x17_2 = true
   ·subst c13
    have H1 : (some false) = some r := by rw [if_pos rfl] at H; exact H
    clear H; have H := H1; clear H1
    obtain rfl := Option.some.inj H
    go_wp2
    repeat (go_quiet (fail); try go_wp2)
    go_ret
    exact ⟨by first | rfl | (simp [errW_none, errW_some] <;> rfl) | (simp [*, errW_none, errW_some] <;> rfl), by repeat (first | (with_reducible first | exact HB.out | apply wA | apply wN | apply wD | refine wS ?_ GE214.out | refine wS ?_ GE215.out) | exact HB.out)⟩
   ·replace c13 := Bool.eq_false_iff.mpr c13
    subst c13
    have H1 : (ndjqkeep_Summaries.l0 kj2 0 a0_0 a0_1 a0_2 a0_3 l0_4 l0_5 l0_6 a1_0 a1_1 a1_2 a1_3 l1_4 l1_5 l1_6) = some r := by rw [if_neg (show ¬ (false = true) by decide)] at H; exact H
    clear H; have H := H1; clear H1
    have H' := Aside0.mk H
    clear H
    go_wp2
    repeat (go_quiet (fail); try go_wp2)
    go_loopg [5] kj2 (fun kq v5 w' => ∃ (x5_2 : Int), v5 = .int .i64 x5_2 ∧ Aside0 (ndjqkeep_Summaries.l0 kq x5_2 a0_0 a0_1 a0_2 a0_3 l0_4 l0_5 l0_6 a1_0 a1_1 a1_2 a1_3 l1_4 l1_5 l1_6 = some r) ∧ Aside0 (kq ≤ kj2) ∧ Aside0 (w'.heap[gb214]? = some (.cells #[.int .i64 a0_0, .int .i64 a0_1, .int .i64 a0_2, .int .i64 a0_3, (.slice A0_4 l0_4.length c0_4), (.slice A0_5 l0_5.length c0_5), (.slice A0_6 l0_6.length c0_6)] 26 (0, 0))) ∧ Aside0 (w'.heap[gb215]? = some (.cells #[.int .i64 a1_0, .int .i64 a1_1, .int .i64 a1_2, .int .i64 a1_3, (.slice A1_4 l1_4.length c1_4), (.slice A1_5 l1_5.length c1_5), (.slice A1_6 l1_6.length c1_6)] 26 (0, 0))) ∧ Aside0 (Below w.heap.size w w'))
    case atStart => exact ⟨(0), (by first | rfl | (simp; done) | (simp [*]; done)), H', ⟨Nat.le_refl _⟩, ⟨by (with_reducible repeat (first | refine bN ?_ _ | refine bD ?_ | refine bA ?_ _)); exact BK214.out⟩, ⟨by (with_reducible repeat (first | refine bN ?_ _ | refine bD ?_ | refine bA ?_ _)); exact BK215.out⟩, ⟨by repeat (first | (with_reducible first | exact HB.out | apply wA | apply wN | apply wD | refine wS ?_ GE214.out | refine wS ?_ GE215.out) | exact HB.out)⟩⟩
    case round =>
     clear H'
     (try clear c13)
     obtain ⟨x5_2, rfl, HA, HK2, BK214, BK215, HB⟩ := hrel
     cases gk with
     | zero => exact absurd HA.out (by simp [ndjqkeep_Summaries.l0])
     | succ k2 =>
      have H := HA.out
      clear HA
      simp only [ndjqkeep_Summaries.l0] at H
      by_cases c14 : x5_2 < 3
      ·rw [if_pos c14] at H
       have c14b0 : decide (x5_2 < 3) = true := decide_eq_true c14
       clear c14
       by_cases c15 : x5_2 = 0
       ·subst c15
        have H1 : ((ndjqkeep_Ints.f k2 l0_4 l1_4).bind fun t216 => (if t216 = true then (ndjqkeep_Summaries.l0 k2 1 a0_0 a0_1 a0_2 a0_3 l0_4 l0_5 l0_6 a1_0 a1_1 a1_2 a1_3 l1_4 l1_5 l1_6) else (some false))) = some r := by rw [if_pos rfl] at H; exact H
        clear H; have H := H1; clear H1
        replace H := Option.bind_eq_some_iff.mp H
        obtain ⟨t216, A160, H⟩ := H
        replace H : (if t216 = true then (ndjqkeep_Summaries.l0 k2 1 a0_0 a0_1 a0_2 a0_3 l0_4 l0_5 l0_6 a1_0 a1_1 a1_2 a1_3 l1_4 l1_5 l1_6) else (some false)) = some r := H
        have A16 := Aside0.mk A160
        clear A160
        by_cases c17 : t216 = true
        ·subst c17
         have H1 : (ndjqkeep_Summaries.l0 k2 1 a0_0 a0_1 a0_2 a0_3 l0_4 l0_5 l0_6 a1_0 a1_1 a1_2 a1_3 l1_4 l1_5 l1_6) = some r := by rw [if_pos rfl] at H; exact H
         clear H; have H := H1; clear H1
         have H' := Aside0.mk H
         clear H; have hnb18 := NB214_215.out; have hnc18 := NB215_214.out; have hcz19_0 : wr.cell? ⟨gb214, 0, none⟩ = some (.int .i64 a0_0) := (blk_cell BK214.out 0).trans rfl; have hcz19_1 : wr.cell? ⟨gb214, 1, none⟩ = some (.int .i64 a0_1) := (blk_cell BK214.out 1).trans rfl; have hcz19_2 : wr.cell? ⟨gb214, 2, none⟩ = some (.int .i64 a0_2) := (blk_cell BK214.out 2).trans rfl; have hcz19_3 : wr.cell? ⟨gb214, 3, none⟩ = some (.int .i64 a0_3) := (blk_cell BK214.out 3).trans rfl; have hcz19_4 : wr.cell? ⟨gb214, 4, none⟩ = some (.slice A0_4 l0_4.length c0_4) := (blk_cell BK214.out 4).trans rfl; have hcz19_5 : wr.cell? ⟨gb214, 5, none⟩ = some (.slice A0_5 l0_5.length c0_5) := (blk_cell BK214.out 5).trans rfl; have hcz19_6 : wr.cell? ⟨gb214, 6, none⟩ = some (.slice A0_6 l0_6.length c0_6) := (blk_cell BK214.out 6).trans rfl; have hfz19_0 := blk_frozen BK214.out 0; have hfz19_1 := blk_frozen BK214.out 1; have hfz19_2 := blk_frozen BK214.out 2; have hfz19_3 := blk_frozen BK214.out 3; have hfz19_4 := blk_frozen BK214.out 4; have hfz19_5 := blk_frozen BK214.out 5; have hfz19_6 := blk_frozen BK214.out 6; have hcz20_0 : wr.cell? ⟨gb215, 0, none⟩ = some (.int .i64 a1_0) := (blk_cell BK215.out 0).trans rfl; have hcz20_1 : wr.cell? ⟨gb215, 1, none⟩ = some (.int .i64 a1_1) := (blk_cell BK215.out 1).trans rfl; have hcz20_2 : wr.cell? ⟨gb215, 2, none⟩ = some (.int .i64 a1_2) := (blk_cell BK215.out 2).trans rfl; have hcz20_3 : wr.cell? ⟨gb215, 3, none⟩ = some (.int .i64 a1_3) := (blk_cell BK215.out 3).trans rfl; have hcz20_4 : wr.cell? ⟨gb215, 4, none⟩ = some (.slice A1_4 l1_4.length c1_4) := (blk_cell BK215.out 4).trans rfl; have hcz20_5 : wr.cell? ⟨gb215, 5, none⟩ = some (.slice A1_5 l1_5.length c1_5) := (blk_cell BK215.out 5).trans rfl; have hcz20_6 : wr.cell? ⟨gb215, 6, none⟩ = some (.slice A1_6 l1_6.length c1_6) := (blk_cell BK215.out 6).trans rfl; have hfz20_0 := blk_frozen BK215.out 0; have hfz20_1 := blk_frozen BK215.out 1; have hfz20_2 := blk_frozen BK215.out 2; have hfz20_3 := blk_frozen BK215.out 3; have hfz20_4 := blk_frozen BK215.out 4; have hfz20_5 := blk_frozen BK215.out 5; have hfz20_6 := blk_frozen BK215.out 6
         go_wp2_with (first | (go_at_call 20; (with_reducible refine (ndjqkeep_Ints.calls k2 _ _ l0_4 _ _ l1_4 true _ ?side1 ?side2 ?side3 ?side4 A16.out).mono ?_); (case side1 => repeat (first | exact (Kd.C_below HR0_4.out HB.out) | (with_reducible refine Kd.C_alloc ?_ _) | (with_reducible refine Kd.C_drewN ?_ _) | (with_reducible refine Kd.C_drew ?_))); (case side2 => exact HC0_4.out); (case side3 => repeat (first | exact (Kd.C_below HR1_4.out HB.out) | (with_reducible refine Kd.C_alloc ?_ _) | (with_reducible refine Kd.C_drewN ?_ _) | (with_reducible refine Kd.C_drew ?_))); (case side4 => exact HC1_4.out); rintro e w' ⟨rfl, ⟨nd, rfl⟩⟩; (try first | exact ⟨rfl, _, World.drewN_drewN _ _ _⟩ | exact ⟨rfl, _, Eq.trans (World.drewN_drewN _ _ _) (congrArg (World.drewN _) (Nat.add_assoc _ _ _))⟩)))
         repeat (go_quiet (first | (go_at_call 20; (with_reducible refine (ndjqkeep_Ints.calls k2 _ _ l0_4 _ _ l1_4 true _ ?side1 ?side2 ?side3 ?side4 A16.out).mono ?_); (case side1 => repeat (first | exact (Kd.C_below HR0_4.out HB.out) | (with_reducible refine Kd.C_alloc ?_ _) | (with_reducible refine Kd.C_drewN ?_ _) | (with_reducible refine Kd.C_drew ?_))); (case side2 => exact HC0_4.out); (case side3 => repeat (first | exact (Kd.C_below HR1_4.out HB.out) | (with_reducible refine Kd.C_alloc ?_ _) | (with_reducible refine Kd.C_drewN ?_ _) | (with_reducible refine Kd.C_drew ?_))); (case side4 => exact HC1_4.out); rintro e w' ⟨rfl, ⟨nd, rfl⟩⟩; (try first | exact ⟨rfl, _, World.drewN_drewN _ _ _⟩ | exact ⟨rfl, _, Eq.trans (World.drewN_drewN _ _ _) (congrArg (World.drewN _) (Nat.add_assoc _ _ _))⟩))); try go_wp2_with (first | (go_at_call 20; (with_reducible refine (ndjqkeep_Ints.calls k2 _ _ l0_4 _ _ l1_4 true _ ?side1 ?side2 ?side3 ?side4 A16.out).mono ?_); (case side1 => repeat (first | exact (Kd.C_below HR0_4.out HB.out) | (with_reducible refine Kd.C_alloc ?_ _) | (with_reducible refine Kd.C_drewN ?_ _) | (with_reducible refine Kd.C_drew ?_))); (case side2 => exact HC0_4.out); (case side3 => repeat (first | exact (Kd.C_below HR1_4.out HB.out) | (with_reducible refine Kd.C_alloc ?_ _) | (with_reducible refine Kd.C_drewN ?_ _) | (with_reducible refine Kd.C_drew ?_))); (case side4 => exact HC1_4.out); rintro e w' ⟨rfl, ⟨nd, rfl⟩⟩; (try first | exact ⟨rfl, _, World.drewN_drewN _ _ _⟩ | exact ⟨rfl, _, Eq.trans (World.drewN_drewN _ _ _) (congrArg (World.drewN _) (Nat.add_assoc _ _ _))⟩))))
         go_roundg k2
         case measure => have := HJ2.out; have := HK2.out; omega
         case rel => exact ⟨(1), (by first | rfl | (simp; done) | (simp [*]; done)), H', ⟨by have := HJ2.out; have := HK2.out; omega⟩, ⟨by (with_reducible repeat (first | refine bN ?_ _ | refine bD ?_ | refine bA ?_ _)); exact BK214.out⟩, ⟨by (with_reducible repeat (first | refine bN ?_ _ | refine bD ?_ | refine bA ?_ _)); exact BK215.out⟩, ⟨by repeat (first | (with_reducible first | exact HB.out | apply wA | apply wN | apply wD | refine wS ?_ GE214.out | refine wS ?_ GE215.out) | exact HB.out)⟩⟩
        ·replace c17 := Bool.eq_false_iff.mpr c17
         subst c17
         have H1 : (some false) = some r := by rw [if_neg (show ¬ (false = true) by decide)] at H; exact H
         clear H; have H := H1; clear H1
         obtain rfl := Option.some.inj H
         have hnb21 := NB214_215.out; have hnc21 := NB215_214.out; have hcz22_0 : wr.cell? ⟨gb214, 0, none⟩ = some (.int .i64 a0_0) := (blk_cell BK214.out 0).trans rfl; have hcz22_1 : wr.cell? ⟨gb214, 1, none⟩ = some (.int .i64 a0_1) := (blk_cell BK214.out 1).trans rfl; have hcz22_2 : wr.cell? ⟨gb214, 2, none⟩ = some (.int .i64 a0_2) := (blk_cell BK214.out 2).trans rfl; have hcz22_3 : wr.cell? ⟨gb214, 3, none⟩ = some (.int .i64 a0_3) := (blk_cell BK214.out 3).trans rfl; have hcz22_4 : wr.cell? ⟨gb214, 4, none⟩ = some (.slice A0_4 l0_4.length c0_4) := (blk_cell BK214.out 4).trans rfl; have hcz22_5 : wr.cell? ⟨gb214, 5, none⟩ = some (.slice A0_5 l0_5.length c0_5) := (blk_cell BK214.out 5).trans rfl; have hcz22_6 : wr.cell? ⟨gb214, 6, none⟩ = some (.slice A0_6 l0_6.length c0_6) := (blk_cell BK214.out 6).trans rfl; have hfz22_0 := blk_frozen BK214.out 0; have hfz22_1 := blk_frozen BK214.out 1; have hfz22_2 := blk_frozen BK214.out 2; have hfz22_3 := blk_frozen BK214.out 3; have hfz22_4 := blk_frozen BK214.out 4; have hfz22_5 := blk_frozen BK214.out 5; have hfz22_6 := blk_frozen BK214.out 6; have hcz23_0 : wr.cell? ⟨gb215, 0, none⟩ = some (.int .i64 a1_0) := (blk_cell BK215.out 0).trans rfl; have hcz23_1 : wr.cell? ⟨gb215, 1, none⟩ = some (.int .i64 a1_1) := (blk_cell BK215.out 1).trans rfl; have hcz23_2 : wr.cell? ⟨gb215, 2, none⟩ = some (.int .i64 a1_2) := (blk_cell BK215.out 2).trans rfl; have hcz23_3 : wr.cell? ⟨gb215, 3, none⟩ = some (.int .i64 a1_3) := (blk_cell BK215.out 3).trans rfl; have hcz23_4 : wr.cell? ⟨gb215, 4, none⟩ = some (.slice A1_4 l1_4.length c1_4) := (blk_cell BK215.out 4).trans rfl; have hcz23_5 : wr.cell? ⟨gb215, 5, none⟩ = some (.slice A1_5 l1_5.length c1_5) := (blk_cell BK215.out 5).trans rfl; have hcz23_6 : wr.cell? ⟨gb215, 6, none⟩ = some (.slice A1_6 l1_6.length c1_6) := (blk_cell BK215.out 6).trans rfl; have hfz23_0 := blk_frozen BK215.out 0; have hfz23_1 := blk_frozen BK215.out 1; have hfz23_2 := blk_frozen BK215.out 2; have hfz23_3 := blk_frozen BK215.out 3; have hfz23_4 := blk_frozen BK215.out 4; have hfz23_5 := blk_frozen BK215.out 5; have hfz23_6 := blk_frozen BK215.out 6
         go_wp2_with (first | (go_at_call 20; (with_reducible refine (ndjqkeep_Ints.calls k2 _ _ l0_4 _ _ l1_4 false _ ?side1 ?side2 ?side3 ?side4 A16.out).mono ?_); (case side1 => repeat (first | exact (Kd.C_below HR0_4.out HB.out) | (with_reducible refine Kd.C_alloc ?_ _) | (with_reducible refine Kd.C_drewN ?_ _) | (with_reducible refine Kd.C_drew ?_))); (case side2 => exact HC0_4.out); (case side3 => repeat (first | exact (Kd.C_below HR1_4.out HB.out) | (with_reducible refine Kd.C_alloc ?_ _) | (with_reducible refine Kd.C_drewN ?_ _) | (with_reducible refine Kd.C_drew ?_))); (case side4 => exact HC1_4.out); rintro e w' ⟨rfl, ⟨nd, rfl⟩⟩; (try first | exact ⟨rfl, _, World.drewN_drewN _ _ _⟩ | exact ⟨rfl, _, Eq.trans (World.drewN_drewN _ _ _) (congrArg (World.drewN _) (Nat.add_assoc _ _ _))⟩)))
         repeat (go_quiet (first | (go_at_call 20; (with_reducible refine (ndjqkeep_Ints.calls k2 _ _ l0_4 _ _ l1_4 false _ ?side1 ?side2 ?side3 ?side4 A16.out).mono ?_); (case side1 => repeat (first | exact (Kd.C_below HR0_4.out HB.out) | (with_reducible refine Kd.C_alloc ?_ _) | (with_reducible refine Kd.C_drewN ?_ _) | (with_reducible refine Kd.C_drew ?_))); (case side2 => exact HC0_4.out); (case side3 => repeat (first | exact (Kd.C_below HR1_4.out HB.out) | (with_reducible refine Kd.C_alloc ?_ _) | (with_reducible refine Kd.C_drewN ?_ _) | (with_reducible refine Kd.C_drew ?_))); (case side4 => exact HC1_4.out); rintro e w' ⟨rfl, ⟨nd, rfl⟩⟩; (try first | exact ⟨rfl, _, World.drewN_drewN _ _ _⟩ | exact ⟨rfl, _, Eq.trans (World.drewN_drewN _ _ _) (congrArg (World.drewN _) (Nat.add_assoc _ _ _))⟩))); try go_wp2_with (first | (go_at_call 20; (with_reducible refine (ndjqkeep_Ints.calls k2 _ _ l0_4 _ _ l1_4 false _ ?side1 ?side2 ?side3 ?side4 A16.out).mono ?_); (case side1 => repeat (first | exact (Kd.C_below HR0_4.out HB.out) | (with_reducible refine Kd.C_alloc ?_ _) | (with_reducible refine Kd.C_drewN ?_ _) | (with_reducible refine Kd.C_drew ?_))); (case side2 => exact HC0_4.out); (case side3 => repeat (first | exact (Kd.C_below HR1_4.out HB.out) | (with_reducible refine Kd.C_alloc ?_ _) | (with_reducible refine Kd.C_drewN ?_ _) | (with_reducible refine Kd.C_drew ?_))); (case side4 => exact HC1_4.out); rintro e w' ⟨rfl, ⟨nd, rfl⟩⟩; (try first | exact ⟨rfl, _, World.drewN_drewN _ _ _⟩ | exact ⟨rfl, _, Eq.trans (World.drewN_drewN _ _ _) (congrArg (World.drewN _) (Nat.add_assoc _ _ _))⟩))))
         go_ret
         exact ⟨by first | rfl | (simp [errW_none, errW_some] <;> rfl) | (simp [*, errW_none, errW_some] <;> rfl), by repeat (first | (with_reducible first | exact HB.out | apply wA | apply wN | apply wD | refine wS ?_ GE214.out | refine wS ?_ GE215.out) | exact HB.out)⟩
       ·rw [if_neg c15] at H
        by_cases c24 : x5_2 = 1
        ·subst c24
         have H1 : ((ndjqkeep_Ints.f k2 l0_5 l1_5).bind fun t217 => (if t217 = true then (ndjqkeep_Summaries.l0 k2 2 a0_0 a0_1 a0_2 a0_3 l0_4 l0_5 l0_6 a1_0 a1_1 a1_2 a1_3 l1_4 l1_5 l1_6) else (some false))) = some r := by rw [if_pos rfl] at H; exact H
         clear H; have H := H1; clear H1
         replace H := Option.bind_eq_some_iff.mp H
         obtain ⟨t217, A250, H⟩ := H
         replace H : (if t217 = true then (ndjqkeep_Summaries.l0 k2 2 a0_0 a0_1 a0_2 a0_3 l0_4 l0_5 l0_6 a1_0 a1_1 a1_2 a1_3 l1_4 l1_5 l1_6) else (some false)) = some r := H
         have A25 := Aside0.mk A250
         clear A250
         by_cases c26 : t217 = true
         ·subst c26
          have H1 : (ndjqkeep_Summaries.l0 k2 2 a0_0 a0_1 a0_2 a0_3 l0_4 l0_5 l0_6 a1_0 a1_1 a1_2 a1_3 l1_4 l1_5 l1_6) = some r := by rw [if_pos rfl] at H; exact H
          clear H; have H := H1; clear H1
          have H' := Aside0.mk H
          clear H; have hnb27 := NB214_215.out; have hnc27 := NB215_214.out; have hcz28_0 : wr.cell? ⟨gb214, 0, none⟩ = some (.int .i64 a0_0) := (blk_cell BK214.out 0).trans rfl; have hcz28_1 : wr.cell? ⟨gb214, 1, none⟩ = some (.int .i64 a0_1) := (blk_cell BK214.out 1).trans rfl; have hcz28_2 : wr.cell? ⟨gb214, 2, none⟩ = some (.int .i64 a0_2) := (blk_cell BK214.out 2).trans rfl; have hcz28_3 : wr.cell? ⟨gb214, 3, none⟩ = some (.int .i64 a0_3) := (blk_cell BK214.out 3).trans rfl; have hcz28_4 : wr.cell? ⟨gb214, 4, none⟩ = some (.slice A0_4 l0_4.length c0_4) := (blk_cell BK214.out 4).trans rfl; have hcz28_5 : wr.cell? ⟨gb214, 5, none⟩ = some (.slice A0_5 l0_5.length c0_5) := (blk_cell BK214.out 5).trans rfl; have hcz28_6 : wr.cell? ⟨gb214, 6, none⟩ = some (.slice A0_6 l0_6.length c0_6) := (blk_cell BK214.out 6).trans rfl; have hfz28_0 := blk_frozen BK214.out 0; have hfz28_1 := blk_frozen BK214.out 1; have hfz28_2 := blk_frozen BK214.out 2; have hfz28_3 := blk_frozen BK214.out 3; have hfz28_4 := blk_frozen BK214.out 4; have hfz28_5 := blk_frozen BK214.out 5; have hfz28_6 := blk_frozen BK214.out 6; have hcz29_0 : wr.cell? ⟨gb215, 0, none⟩ = some (.int .i64 a1_0) := (blk_cell BK215.out 0).trans rfl; have hcz29_1 : wr.cell? ⟨gb215, 1, none⟩ = some (.int .i64 a1_1) := (blk_cell BK215.out 1).trans rfl; have hcz29_2 : wr.cell? ⟨gb215, 2, none⟩ = some (.int .i64 a1_2) := (blk_cell BK215.out 2).trans rfl; have hcz29_3 : wr.cell? ⟨gb215, 3, none⟩ = some (.int .i64 a1_3) := (blk_cell BK215.out 3).trans rfl; have hcz29_4 : wr.cell? ⟨gb215, 4, none⟩ = some (.slice A1_4 l1_4.length c1_4) := (blk_cell BK215.out 4).trans rfl; have hcz29_5 : wr.cell? ⟨gb215, 5, none⟩ = some (.slice A1_5 l1_5.length c1_5) := (blk_cell BK215.out 5).trans rfl; have hcz29_6 : wr.cell? ⟨gb215, 6, none⟩ = some (.slice A1_6 l1_6.length c1_6) := (blk_cell BK215.out 6).trans rfl; have hfz29_0 := blk_frozen BK215.out 0; have hfz29_1 := blk_frozen BK215.out 1; have hfz29_2 := blk_frozen BK215.out 2; have hfz29_3 := blk_frozen BK215.out 3; have hfz29_4 := blk_frozen BK215.out 4; have hfz29_5 := blk_frozen BK215.out 5; have hfz29_6 := blk_frozen BK215.out 6
          go_wp2_with (first | (go_at_call 20; (with_reducible refine (ndjqkeep_Ints.calls k2 _ _ l0_5 _ _ l1_5 true _ ?side1 ?side2 ?side3 ?side4 A25.out).mono ?_); (case side1 => repeat (first | exact (Kd.C_below HR0_5.out HB.out) | (with_reducible refine Kd.C_alloc ?_ _) | (with_reducible refine Kd.C_drewN ?_ _) | (with_reducible refine Kd.C_drew ?_))); (case side2 => exact HC0_5.out); (case side3 => repeat (first | exact (Kd.C_below HR1_5.out HB.out) | (with_reducible refine Kd.C_alloc ?_ _) | (with_reducible refine Kd.C_drewN ?_ _) | (with_reducible refine Kd.C_drew ?_))); (case side4 => exact HC1_5.out); rintro e w' ⟨rfl, ⟨nd, rfl⟩⟩; (try first | exact ⟨rfl, _, World.drewN_drewN _ _ _⟩ | exact ⟨rfl, _, Eq.trans (World.drewN_drewN _ _ _) (congrArg (World.drewN _) (Nat.add_assoc _ _ _))⟩)))
          repeat (go_quiet (first | (go_at_call 20; (with_reducible refine (ndjqkeep_Ints.calls k2 _ _ l0_5 _ _ l1_5 true _ ?side1 ?side2 ?side3 ?side4 A25.out).mono ?_); (case side1 => repeat (first | exact (Kd.C_below HR0_5.out HB.out) | (with_reducible refine Kd.C_alloc ?_ _) | (with_reducible refine Kd.C_drewN ?_ _) | (with_reducible refine Kd.C_drew ?_))); (case side2 => exact HC0_5.out); (case side3 => repeat (first | exact (Kd.C_below HR1_5.out HB.out) | (with_reducible refine Kd.C_alloc ?_ _) | (with_reducible refine Kd.C_drewN ?_ _) | (with_reducible refine Kd.C_drew ?_))); (case side4 => exact HC1_5.out); rintro e w' ⟨rfl, ⟨nd, rfl⟩⟩; (try first | exact ⟨rfl, _, World.drewN_drewN _ _ _⟩ | exact ⟨rfl, _, Eq.trans (World.drewN_drewN _ _ _) (congrArg (World.drewN _) (Nat.add_assoc _ _ _))⟩))); try go_wp2_with (first | (go_at_call 20; (with_reducible refine (ndjqkeep_Ints.calls k2 _ _ l0_5 _ _ l1_5 true _ ?side1 ?side2 ?side3 ?side4 A25.out).mono ?_); (case side1 => repeat (first | exact (Kd.C_below HR0_5.out HB.out) | (with_reducible refine Kd.C_alloc ?_ _) | (with_reducible refine Kd.C_drewN ?_ _) | (with_reducible refine Kd.C_drew ?_))); (case side2 => exact HC0_5.out); (case side3 => repeat (first | exact (Kd.C_below HR1_5.out HB.out) | (with_reducible refine Kd.C_alloc ?_ _) | (with_reducible refine Kd.C_drewN ?_ _) | (with_reducible refine Kd.C_drew ?_))); (case side4 => exact HC1_5.out); rintro e w' ⟨rfl, ⟨nd, rfl⟩⟩; (try first | exact ⟨rfl, _, World.drewN_drewN _ _ _⟩ | exact ⟨rfl, _, Eq.trans (World.drewN_drewN _ _ _) (congrArg (World.drewN _) (Nat.add_assoc _ _ _))⟩))))
          go_roundg k2
          case measure => have := HJ2.out; have := HK2.out; omega
          case rel => exact ⟨(2), (by first | rfl | (simp; done) | (simp [*]; done)), H', ⟨by have := HJ2.out; have := HK2.out; omega⟩, ⟨by (with_reducible repeat (first | refine bN ?_ _ | refine bD ?_ | refine bA ?_ _)); exact BK214.out⟩, ⟨by (with_reducible repeat (first | refine bN ?_ _ | refine bD ?_ | refine bA ?_ _)); exact BK215.out⟩, ⟨by repeat (first | (with_reducible first | exact HB.out | apply wA | apply wN | apply wD | refine wS ?_ GE214.out | refine wS ?_ GE215.out) | exact HB.out)⟩⟩
         ·replace c26 := Bool.eq_false_iff.mpr c26
          subst c26
          have H1 : (some false) = some r := by rw [if_neg (show ¬ (false = true) by decide)] at H; exact H
          clear H; have H := H1; clear H1
          obtain rfl := Option.some.inj H
          have hnb30 := NB214_215.out; have hnc30 := NB215_214.out; have hcz31_0 : wr.cell? ⟨gb214, 0, none⟩ = some (.int .i64 a0_0) := (blk_cell BK214.out 0).trans rfl; have hcz31_1 : wr.cell? ⟨gb214, 1, none⟩ = some (.int .i64 a0_1) := (blk_cell BK214.out 1).trans rfl; have hcz31_2 : wr.cell? ⟨gb214, 2, none⟩ = some (.int .i64 a0_2) := (blk_cell BK214.out 2).trans rfl; have hcz31_3 : wr.cell? ⟨gb214, 3, none⟩ = some (.int .i64 a0_3) := (blk_cell BK214.out 3).trans rfl; have hcz31_4 : wr.cell? ⟨gb214, 4, none⟩ = some (.slice A0_4 l0_4.length c0_4) := (blk_cell BK214.out 4).trans rfl; have hcz31_5 : wr.cell? ⟨gb214, 5, none⟩ = some (.slice A0_5 l0_5.length c0_5) := (blk_cell BK214.out 5).trans rfl; have hcz31_6 : wr.cell? ⟨gb214, 6, none⟩ = some (.slice A0_6 l0_6.length c0_6) := (blk_cell BK214.out 6).trans rfl; have hfz31_0 := blk_frozen BK214.out 0; have hfz31_1 := blk_frozen BK214.out 1; have hfz31_2 := blk_frozen BK214.out 2; have hfz31_3 := blk_frozen BK214.out 3; have hfz31_4 := blk_frozen BK214.out 4; have hfz31_5 := blk_frozen BK214.out 5; have hfz31_6 := blk_frozen BK214.out 6; have hcz32_0 : wr.cell? ⟨gb215, 0, none⟩ = some (.int .i64 a1_0) := (blk_cell BK215.out 0).trans rfl; have hcz32_1 : wr.cell? ⟨gb215, 1, none⟩ = some (.int .i64 a1_1) := (blk_cell BK215.out 1).trans rfl; have hcz32_2 : wr.cell? ⟨gb215, 2, none⟩ = some (.int .i64 a1_2) := (blk_cell BK215.out 2).trans rfl; have hcz32_3 : wr.cell? ⟨gb215, 3, none⟩ = some (.int .i64 a1_3) := (blk_cell BK215.out 3).trans rfl; have hcz32_4 : wr.cell? ⟨gb215, 4, none⟩ = some (.slice A1_4 l1_4.length c1_4) := (blk_cell BK215.out 4).trans rfl; have hcz32_5 : wr.cell? ⟨gb215, 5, none⟩ = some (.slice A1_5 l1_5.length c1_5) := (blk_cell BK215.out 5).trans rfl; have hcz32_6 : wr.cell? ⟨gb215, 6, none⟩ = some (.slice A1_6 l1_6.length c1_6) := (blk_cell BK215.out 6).trans rfl; have hfz32_0 := blk_frozen BK215.out 0; have hfz32_1 := blk_frozen BK215.out 1; have hfz32_2 := blk_frozen BK215.out 2; have hfz32_3 := blk_frozen BK215.out 3; have hfz32_4 := blk_frozen BK215.out 4; have hfz32_5 := blk_frozen BK215.out 5; have hfz32_6 := blk_frozen BK215.out 6
          go_wp2_with (first | (go_at_call 20; (with_reducible refine (ndjqkeep_Ints.calls k2 _ _ l0_5 _ _ l1_5 false _ ?side1 ?side2 ?side3 ?side4 A25.out).mono ?_); (case side1 => repeat (first | exact (Kd.C_below HR0_5.out HB.out) | (with_reducible refine Kd.C_alloc ?_ _) | (with_reducible refine Kd.C_drewN ?_ _) | (with_reducible refine Kd.C_drew ?_))); (case side2 => exact HC0_5.out); (case side3 => repeat (first | exact (Kd.C_below HR1_5.out HB.out) | (with_reducible refine Kd.C_alloc ?_ _) | (with_reducible refine Kd.C_drewN ?_ _) | (with_reducible refine Kd.C_drew ?_))); (case side4 => exact HC1_5.out); rintro e w' ⟨rfl, ⟨nd, rfl⟩⟩; (try first | exact ⟨rfl, _, World.drewN_drewN _ _ _⟩ | exact ⟨rfl, _, Eq.trans (World.drewN_drewN _ _ _) (congrArg (World.drewN _) (Nat.add_assoc _ _ _))⟩)))
          repeat (go_quiet (first | (go_at_call 20; (with_reducible refine (ndjqkeep_Ints.calls k2 _ _ l0_5 _ _ l1_5 false _ ?side1 ?side2 ?side3 ?side4 A25.out).mono ?_); (case side1 => repeat (first | exact (Kd.C_below HR0_5.out HB.out) | (with_reducible refine Kd.C_alloc ?_ _) | (with_reducible refine Kd.C_drewN ?_ _) | (with_reducible refine Kd.C_drew ?_))); (case side2 => exact HC0_5.out); (case side3 => repeat (first | exact (Kd.C_below HR1_5.out HB.out) | (with_reducible refine Kd.C_alloc ?_ _) | (with_reducible refine Kd.C_drewN ?_ _) | (with_reducible refine Kd.C_drew ?_))); (case side4 => exact HC1_5.out); rintro e w' ⟨rfl, ⟨nd, rfl⟩⟩; (try first | exact ⟨rfl, _, World.drewN_drewN _ _ _⟩ | exact ⟨rfl, _, Eq.trans (World.drewN_drewN _ _ _) (congrArg (World.drewN _) (Nat.add_assoc _ _ _))⟩))); try go_wp2_with (first | (go_at_call 20; (with_reducible refine (ndjqkeep_Ints.calls k2 _ _ l0_5 _ _ l1_5 false _ ?side1 ?side2 ?side3 ?side4 A25.out).mono ?_); (case side1 => repeat (first | exact (Kd.C_below HR0_5.out HB.out) | (with_reducible refine Kd.C_alloc ?_ _) | (with_reducible refine Kd.C_drewN ?_ _) | (with_reducible refine Kd.C_drew ?_))); (case side2 => exact HC0_5.out); (case side3 => repeat (first | exact (Kd.C_below HR1_5.out HB.out) | (with_reducible refine Kd.C_alloc ?_ _) | (with_reducible refine Kd.C_drewN ?_ _) | (with_reducible refine Kd.C_drew ?_))); (case side4 => exact HC1_5.out); rintro e w' ⟨rfl, ⟨nd, rfl⟩⟩; (try first | exact ⟨rfl, _, World.drewN_drewN _ _ _⟩ | exact ⟨rfl, _, Eq.trans (World.drewN_drewN _ _ _) (congrArg (World.drewN _) (Nat.add_assoc _ _ _))⟩))))
          go_ret
          exact ⟨by first | rfl | (simp [errW_none, errW_some] <;> rfl) | (simp [*, errW_none, errW_some] <;> rfl), by repeat (first | (with_reducible first | exact HB.out | apply wA | apply wN | apply wD | refine wS ?_ GE214.out | refine wS ?_ GE215.out) | exact HB.out)⟩
        ·rw [if_neg c24] at H
         by_cases c33 : x5_2 = 2
         ·subst c33
          have H1 : ((ndjqkeep_Ints.f k2 l0_6 l1_6).bind fun t218 => (if t218 = true then (ndjqkeep_Summaries.l0 k2 3 a0_0 a0_1 a0_2 a0_3 l0_4 l0_5 l0_6 a1_0 a1_1 a1_2 a1_3 l1_4 l1_5 l1_6) else (some false))) = some r := by rw [if_pos rfl] at H; exact H
          clear H; have H := H1; clear H1
          replace H := Option.bind_eq_some_iff.mp H
          obtain ⟨t218, A340, H⟩ := H
          replace H : (if t218 = true then (ndjqkeep_Summaries.l0 k2 3 a0_0 a0_1 a0_2 a0_3 l0_4 l0_5 l0_6 a1_0 a1_1 a1_2 a1_3 l1_4 l1_5 l1_6) else (some false)) = some r := H
          have A34 := Aside0.mk A340
          clear A340
          by_cases c35 : t218 = true
          ·subst c35
           have H1 : (ndjqkeep_Summaries.l0 k2 3 a0_0 a0_1 a0_2 a0_3 l0_4 l0_5 l0_6 a1_0 a1_1 a1_2 a1_3 l1_4 l1_5 l1_6) = some r := by rw [if_pos rfl] at H; exact H
           clear H; have H := H1; clear H1
           have H' := Aside0.mk H
           clear H; have hnb36 := NB214_215.out; have hnc36 := NB215_214.out; have hcz37_0 : wr.cell? ⟨gb214, 0, none⟩ = some (.int .i64 a0_0) := (blk_cell BK214.out 0).trans rfl; have hcz37_1 : wr.cell? ⟨gb214, 1, none⟩ = some (.int .i64 a0_1) := (blk_cell BK214.out 1).trans rfl; have hcz37_2 : wr.cell? ⟨gb214, 2, none⟩ = some (.int .i64 a0_2) := (blk_cell BK214.out 2).trans rfl; have hcz37_3 : wr.cell? ⟨gb214, 3, none⟩ = some (.int .i64 a0_3) := (blk_cell BK214.out 3).trans rfl; have hcz37_4 : wr.cell? ⟨gb214, 4, none⟩ = some (.slice A0_4 l0_4.length c0_4) := (blk_cell BK214.out 4).trans rfl; have hcz37_5 : wr.cell? ⟨gb214, 5, none⟩ = some (.slice A0_5 l0_5.length c0_5) := (blk_cell BK214.out 5).trans rfl; have hcz37_6 : wr.cell? ⟨gb214, 6, none⟩ = some (.slice A0_6 l0_6.length c0_6) := (blk_cell BK214.out 6).trans rfl; have hfz37_0 := blk_frozen BK214.out 0; have hfz37_1 := blk_frozen BK214.out 1; have hfz37_2 := blk_frozen BK214.out 2; have hfz37_3 := blk_frozen BK214.out 3; have hfz37_4 := blk_frozen BK214.out 4; have hfz37_5 := blk_frozen BK214.out 5; have hfz37_6 := blk_frozen BK214.out 6; have hcz38_0 : wr.cell? ⟨gb215, 0, none⟩ = some (.int .i64 a1_0) := (blk_cell BK215.out 0).trans rfl; have hcz38_1 : wr.cell? ⟨gb215, 1, none⟩ = some (.int .i64 a1_1) := (blk_cell BK215.out 1).trans rfl; have hcz38_2 : wr.cell? ⟨gb215, 2, none⟩ = some (.int .i64 a1_2) := (blk_cell BK215.out 2).trans rfl; have hcz38_3 : wr.cell? ⟨gb215, 3, none⟩ = some (.int .i64 a1_3) := (blk_cell BK215.out 3).trans rfl; have hcz38_4 : wr.cell? ⟨gb215, 4, none⟩ = some (.slice A1_4 l1_4.length c1_4) := (blk_cell BK215.out 4).trans rfl; have hcz38_5 : wr.cell? ⟨gb215, 5, none⟩ = some (.slice A1_5 l1_5.length c1_5) := (blk_cell BK215.out 5).trans rfl; have hcz38_6 : wr.cell? ⟨gb215, 6, none⟩ = some (.slice A1_6 l1_6.length c1_6) := (blk_cell BK215.out 6).trans rfl; have hfz38_0 := blk_frozen BK215.out 0; have hfz38_1 := blk_frozen BK215.out 1; have hfz38_2 := blk_frozen BK215.out 2; have hfz38_3 := blk_frozen BK215.out 3; have hfz38_4 := blk_frozen BK215.out 4; have hfz38_5 := blk_frozen BK215.out 5; have hfz38_6 := blk_frozen BK215.out 6
           go_wp2_with (first | (go_at_call 20; (with_reducible refine (ndjqkeep_Ints.calls k2 _ _ l0_6 _ _ l1_6 true _ ?side1 ?side2 ?side3 ?side4 A34.out).mono ?_); (case side1 => repeat (first | exact (Kd.C_below HR0_6.out HB.out) | (with_reducible refine Kd.C_alloc ?_ _) | (with_reducible refine Kd.C_drewN ?_ _) | (with_reducible refine Kd.C_drew ?_))); (case side2 => exact HC0_6.out); (case side3 => repeat (first | exact (Kd.C_below HR1_6.out HB.out) | (with_reducible refine Kd.C_alloc ?_ _) | (with_reducible refine Kd.C_drewN ?_ _) | (with_reducible refine Kd.C_drew ?_))); (case side4 => exact HC1_6.out); rintro e w' ⟨rfl, ⟨nd, rfl⟩⟩; (try first | exact ⟨rfl, _, World.drewN_drewN _ _ _⟩ | exact ⟨rfl, _, Eq.trans (World.drewN_drewN _ _ _) (congrArg (World.drewN _) (Nat.add_assoc _ _ _))⟩)))
           repeat (go_quiet (first | (go_at_call 20; (with_reducible refine (ndjqkeep_Ints.calls k2 _ _ l0_6 _ _ l1_6 true _ ?side1 ?side2 ?side3 ?side4 A34.out).mono ?_); (case side1 => repeat (first | exact (Kd.C_below HR0_6.out HB.out) | (with_reducible refine Kd.C_alloc ?_ _) | (with_reducible refine Kd.C_drewN ?_ _) | (with_reducible refine Kd.C_drew ?_))); (case side2 => exact HC0_6.out); (case side3 => repeat (first | exact (Kd.C_below HR1_6.out HB.out) | (with_reducible refine Kd.C_alloc ?_ _) | (with_reducible refine Kd.C_drewN ?_ _) | (with_reducible refine Kd.C_drew ?_))); (case side4 => exact HC1_6.out); rintro e w' ⟨rfl, ⟨nd, rfl⟩⟩; (try first | exact ⟨rfl, _, World.drewN_drewN _ _ _⟩ | exact ⟨rfl, _, Eq.trans (World.drewN_drewN _ _ _) (congrArg (World.drewN _) (Nat.add_assoc _ _ _))⟩))); try go_wp2_with (first | (go_at_call 20; (with_reducible refine (ndjqkeep_Ints.calls k2 _ _ l0_6 _ _ l1_6 true _ ?side1 ?side2 ?side3 ?side4 A34.out).mono ?_); (case side1 => repeat (first | exact (Kd.C_below HR0_6.out HB.out) | (with_reducible refine Kd.C_alloc ?_ _) | (with_reducible refine Kd.C_drewN ?_ _) | (with_reducible refine Kd.C_drew ?_))); (case side2 => exact HC0_6.out); (case side3 => repeat (first | exact (Kd.C_below HR1_6.out HB.out) | (with_reducible refine Kd.C_alloc ?_ _) | (with_reducible refine Kd.C_drewN ?_ _) | (with_reducible refine Kd.C_drew ?_))); (case side4 => exact HC1_6.out); rintro e w' ⟨rfl, ⟨nd, rfl⟩⟩; (try first | exact ⟨rfl, _, World.drewN_drewN _ _ _⟩ | exact ⟨rfl, _, Eq.trans (World.drewN_drewN _ _ _) (congrArg (World.drewN _) (Nat.add_assoc _ _ _))⟩))))
           go_roundg k2
           case measure => have := HJ2.out; have := HK2.out; omega
           case rel => exact ⟨(3), (by first | rfl | (simp; done) | (simp [*]; done)), H', ⟨by have := HJ2.out; have := HK2.out; omega⟩, ⟨by (with_reducible repeat (first | refine bN ?_ _ | refine bD ?_ | refine bA ?_ _)); exact BK214.out⟩, ⟨by (with_reducible repeat (first | refine bN ?_ _ | refine bD ?_ | refine bA ?_ _)); exact BK215.out⟩, ⟨by repeat (first | (with_reducible first | exact HB.out | apply wA | apply wN | apply wD | refine wS ?_ GE214.out | refine wS ?_ GE215.out) | exact HB.out)⟩⟩
          ·replace c35 := Bool.eq_false_iff.mpr c35
           subst c35
           have H1 : (some false) = some r := by rw [if_neg (show ¬ (false = true) by decide)] at H; exact H
           clear H; have H := H1; clear H1
           obtain rfl := Option.some.inj H
           have hnb39 := NB214_215.out; have hnc39 := NB215_214.out; have hcz40_0 : wr.cell? ⟨gb214, 0, none⟩ = some (.int .i64 a0_0) := (blk_cell BK214.out 0).trans rfl; have hcz40_1 : wr.cell? ⟨gb214, 1, none⟩ = some (.int .i64 a0_1) := (blk_cell BK214.out 1).trans rfl; have hcz40_2 : wr.cell? ⟨gb214, 2, none⟩ = some (.int .i64 a0_2) := (blk_cell BK214.out 2).trans rfl; have hcz40_3 : wr.cell? ⟨gb214, 3, none⟩ = some (.int .i64 a0_3) := (blk_cell BK214.out 3).trans rfl; have hcz40_4 : wr.cell? ⟨gb214, 4, none⟩ = some (.slice A0_4 l0_4.length c0_4) := (blk_cell BK214.out 4).trans rfl; have hcz40_5 : wr.cell? ⟨gb214, 5, none⟩ = some (.slice A0_5 l0_5.length c0_5) := (blk_cell BK214.out 5).trans rfl; have hcz40_6 : wr.cell? ⟨gb214, 6, none⟩ = some (.slice A0_6 l0_6.length c0_6) := (blk_cell BK214.out 6).trans rfl; have hfz40_0 := blk_frozen BK214.out 0; have hfz40_1 := blk_frozen BK214.out 1; have hfz40_2 := blk_frozen BK214.out 2; have hfz40_3 := blk_frozen BK214.out 3; have hfz40_4 := blk_frozen BK214.out 4; have hfz40_5 := blk_frozen BK214.out 5; have hfz40_6 := blk_frozen BK214.out 6; have hcz41_0 : wr.cell? ⟨gb215, 0, none⟩ = some (.int .i64 a1_0) := (blk_cell BK215.out 0).trans rfl; have hcz41_1 : wr.cell? ⟨gb215, 1, none⟩ = some (.int .i64 a1_1) := (blk_cell BK215.out 1).trans rfl; have hcz41_2 : wr.cell? ⟨gb215, 2, none⟩ = some (.int .i64 a1_2) := (blk_cell BK215.out 2).trans rfl; have hcz41_3 : wr.cell? ⟨gb215, 3, none⟩ = some (.int .i64 a1_3) := (blk_cell BK215.out 3).trans rfl; have hcz41_4 : wr.cell? ⟨gb215, 4, none⟩ = some (.slice A1_4 l1_4.length c1_4) := (blk_cell BK215.out 4).trans rfl; have hcz41_5 : wr.cell? ⟨gb215, 5, none⟩ = some (.slice A1_5 l1_5.length c1_5) := (blk_cell BK215.out 5).trans rfl; have hcz41_6 : wr.cell? ⟨gb215, 6, none⟩ = some (.slice A1_6 l1_6.length c1_6) := (blk_cell BK215.out 6).trans rfl; have hfz41_0 := blk_frozen BK215.out 0; have hfz41_1 := blk_frozen BK215.out 1; have hfz41_2 := blk_frozen BK215.out 2; have hfz41_3 := blk_frozen BK215.out 3; have hfz41_4 := blk_frozen BK215.out 4; have hfz41_5 := blk_frozen BK215.out 5; have hfz41_6 := blk_frozen BK215.out 6
           go_wp2_with (first | (go_at_call 20; (with_reducible refine (ndjqkeep_Ints.calls k2 _ _ l0_6 _ _ l1_6 false _ ?side1 ?side2 ?side3 ?side4 A34.out).mono ?_); (case side1 => repeat (first | exact (Kd.C_below HR0_6.out HB.out) | (with_reducible refine Kd.C_alloc ?_ _) | (with_reducible refine Kd.C_drewN ?_ _) | (with_reducible refine Kd.C_drew ?_))); (case side2 => exact HC0_6.out); (case side3 => repeat (first | exact (Kd.C_below HR1_6.out HB.out) | (with_reducible refine Kd.C_alloc ?_ _) | (with_reducible refine Kd.C_drewN ?_ _) | (with_reducible refine Kd.C_drew ?_))); (case side4 => exact HC1_6.out); rintro e w' ⟨rfl, ⟨nd, rfl⟩⟩; (try first | exact ⟨rfl, _, World.drewN_drewN _ _ _⟩ | exact ⟨rfl, _, Eq.trans (World.drewN_drewN _ _ _) (congrArg (World.drewN _) (Nat.add_assoc _ _ _))⟩)))
           repeat (go_quiet (first | (go_at_call 20; (with_reducible refine (ndjqkeep_Ints.calls k2 _ _ l0_6 _ _ l1_6 false _ ?side1 ?side2 ?side3 ?side4 A34.out).mono ?_); (case side1 => repeat (first | exact (Kd.C_below HR0_6.out HB.out) | (with_reducible refine Kd.C_alloc ?_ _) | (with_reducible refine Kd.C_drewN ?_ _) | (with_reducible refine Kd.C_drew ?_))); (case side2 => exact HC0_6.out); (case side3 => repeat (first | exact (Kd.C_below HR1_6.out HB.out) | (with_reducible refine Kd.C_alloc ?_ _) | (with_reducible refine Kd.C_drewN ?_ _) | (with_reducible refine Kd.C_drew ?_))); (case side4 => exact HC1_6.out); rintro e w' ⟨rfl, ⟨nd, rfl⟩⟩; (try first | exact ⟨rfl, _, World.drewN_drewN _ _ _⟩ | exact ⟨rfl, _, Eq.trans (World.drewN_drewN _ _ _) (congrArg (World.drewN _) (Nat.add_assoc _ _ _))⟩))); try go_wp2_with (first | (go_at_call 20; (with_reducible refine (ndjqkeep_Ints.calls k2 _ _ l0_6 _ _ l1_6 false _ ?side1 ?side2 ?side3 ?side4 A34.out).mono ?_); (case side1 => repeat (first | exact (Kd.C_below HR0_6.out HB.out) | (with_reducible refine Kd.C_alloc ?_ _) | (with_reducible refine Kd.C_drewN ?_ _) | (with_reducible refine Kd.C_drew ?_))); (case side2 => exact HC0_6.out); (case side3 => repeat (first | exact (Kd.C_below HR1_6.out HB.out) | (with_reducible refine Kd.C_alloc ?_ _) | (with_reducible refine Kd.C_drewN ?_ _) | (with_reducible refine Kd.C_drew ?_))); (case side4 => exact HC1_6.out); rintro e w' ⟨rfl, ⟨nd, rfl⟩⟩; (try first | exact ⟨rfl, _, World.drewN_drewN _ _ _⟩ | exact ⟨rfl, _, Eq.trans (World.drewN_drewN _ _ _) (congrArg (World.drewN _) (Nat.add_assoc _ _ _))⟩))))
           go_ret
           exact ⟨by first | rfl | (simp [errW_none, errW_some] <;> rfl) | (simp [*, errW_none, errW_some] <;> rfl), by repeat (first | (with_reducible first | exact HB.out | apply wA | apply wN | apply wD | refine wS ?_ GE214.out | refine wS ?_ GE215.out) | exact HB.out)⟩
         ·rw [if_neg c33] at H
          exact absurd H (by simp)
      ·rw [if_neg c14] at H
       have c14b0 : decide (x5_2 < 3) = false := decide_eq_false c14
       clear c14
       obtain rfl := Option.some.inj H
       go_wp2
       repeat (go_quiet (fail); try go_wp2)
       go_ret
       exact ⟨by first | rfl | (simp [errW_none, errW_some] <;> rfl) | (simp [*, errW_none, errW_some] <;> rfl), by repeat (first | (with_reducible first | exact HB.out | apply wA | apply wN | apply wD | refine wS ?_ GE214.out | refine wS ?_ GE215.out) | exact HB.out)⟩

end Go.Proofs.YtkhnifehcnlpjaaDoor.QC
