-- by a program of this session (print2.py): the machine's side of one law; Lean checks it.
import Derived.Test.YtkhnifehcnlpjaaDoorQCx0
import Derived.Test.YtkhnifehcnlpjaaDoorQCx5
import Derived.Test.YtkhnifehcnlpjaaDoorQCx6
namespace Go.Proofs.YtkhnifehcnlpjaaDoor.QC
open Go.RowKit Go.Proofs.YtkhnifehcnlpjaaDoorW.PrintWords Go.Proofs.YtkhnifehcnlpjaaDoorW.PrintLast Go.Proofs.YtkhnifehcnlpjaaDoorW.PrintMore
attribute [local go_sem] max2_int min2_int max_two min_two max_three min_three max_four min_four   -- for this text's walks alone
set_option linter.unusedVariables false
set_option linter.unusedSimpArgs false

/-! ### automaton_Summarize: function 24 -/
mutual
def automaton_Summarize.l0 : Nat → ByteArray → Int → Int → Int → Int → Int → List Int → List Int → List Int → Option (Int × Int × Int × Int × List Int × List Int × List Int × Int)
 | 0, _, _, _, _, _, _, _, _, _ => none
 | k + 1, x0, x17, x143000, x143001, x143002, x143003, x143004, x143005, x143006 => if x17 < 3 then (automaton_Summarize.l1 k x0 x17 x17 (x0.size : Int) 0 x143000 x143001 x143002 x143003 x143004 x143005 x143006) else (some (x143000, x143001, x143002, x143003, x143004, x143005, x143006, 0))
def automaton_Summarize.l1 : Nat → ByteArray → Int → Int → Int → Int → Int → Int → Int → Int → List Int → List Int → List Int → Option (Int × Int × Int × Int × List Int × List Int × List Int × Int)
 | 0, _, _, _, _, _, _, _, _, _, _, _, _ => none
 | k + 1, x0, x5, x17, x21, x22, x143000, x143001, x143002, x143003, x143004, x143005, x143006 => if x22 < x21 then (if x5 = 0 then (if 0 ≤ x22 then (if x22 < (x0.size : Int) then ((automaton_Step.f x143001 (bt x0 x22)).bind fun bt143 => (if bt143.2 = true then (if x143004.length < 17592186044416 then (automaton_Summarize.l1 k x0 0 x17 x21 (wrap64 (x22 + 1)) x143000 bt143.1 x143002 x143003 (x143004 ++ [x22]) x143005 x143006) else (none)) else (automaton_Summarize.l1 k x0 0 x17 x21 (wrap64 (x22 + 1)) x143000 bt143.1 x143002 x143003 x143004 x143005 x143006))) else (none)) else (none)) else (if x5 = 1 then (if 0 ≤ x22 then (if x22 < (x0.size : Int) then ((automaton_Step.f x143002 (bt x0 x22)).bind fun bt148 => (if bt148.2 = true then (if x143005.length < 17592186044416 then (automaton_Summarize.l1 k x0 1 x17 x21 (wrap64 (x22 + 1)) x143000 x143001 bt148.1 x143003 x143004 (x143005 ++ [x22]) x143006) else (none)) else (automaton_Summarize.l1 k x0 1 x17 x21 (wrap64 (x22 + 1)) x143000 x143001 bt148.1 x143003 x143004 x143005 x143006))) else (none)) else (none)) else (if x5 = 2 then (if 0 ≤ x22 then (if x22 < (x0.size : Int) then ((automaton_Step.f x143003 (bt x0 x22)).bind fun bt153 => (if bt153.2 = true then (if x143006.length < 17592186044416 then (automaton_Summarize.l1 k x0 2 x17 x21 (wrap64 (x22 + 1)) x143000 x143001 x143002 bt153.1 x143004 x143005 (x143006 ++ [x22])) else (none)) else (automaton_Summarize.l1 k x0 2 x17 x21 (wrap64 (x22 + 1)) x143000 x143001 x143002 bt153.1 x143004 x143005 x143006))) else (none)) else (none)) else (none)))) else (automaton_Summarize.l0 k x0 (wrap64 (x17 + 1)) x143000 x143001 x143002 x143003 x143004 x143005 x143006)
end
def automaton_Summarize.f (k : Nat) (a0 : ByteArray) : Option (Int × Int × Int × Int × List Int × List Int × List Int × Int) := if (a0.size : Int) > 1048576 then (some (0, 0, 0, 0, ([] : List Int), ([] : List Int), ([] : List Int), 2)) else ((automaton_Empty.f).bind fun bt129 => (automaton_Summarize.l0 k a0 0 (a0.size : Int) bt129.2.1 bt129.2.2.1 bt129.2.2.2.1 bt129.2.2.2.2.1 bt129.2.2.2.2.2.1 bt129.2.2.2.2.2.2))
theorem automaton_Summarize.mono_l : ∀ k, (∀ y0 y1 y2 y3 y4 y5 y6 y7 y8, LeO (automaton_Summarize.l0 k y0 y1 y2 y3 y4 y5 y6 y7 y8) (automaton_Summarize.l0 (k + 1) y0 y1 y2 y3 y4 y5 y6 y7 y8)) ∧ (∀ y0 y1 y2 y3 y4 y5 y6 y7 y8 y9 y10 y11, LeO (automaton_Summarize.l1 k y0 y1 y2 y3 y4 y5 y6 y7 y8 y9 y10 y11) (automaton_Summarize.l1 (k + 1) y0 y1 y2 y3 y4 y5 y6 y7 y8 y9 y10 y11))
 | 0 => ⟨fun _ _ _ _ _ _ _ _ _ r h => by simp [automaton_Summarize.l0] at h, fun _ _ _ _ _ _ _ _ _ _ _ _ r h => by simp [automaton_Summarize.l1] at h⟩
 | k + 1 => by
  obtain ⟨ih0, ih1⟩ := automaton_Summarize.mono_l k
  refine ⟨?_, ?_⟩
  ·intro y0 y1 y2 y3 y4 y5 y6 y7 y8
   unfold automaton_Summarize.l0
   repeat' first
   | (with_reducible exact ih0 _ _ _ _ _ _ _ _ _)
   | (with_reducible exact ih1 _ _ _ _ _ _ _ _ _ _ _ _)
   | (with_reducible exact LeO.refl _)
   | (with_reducible exact LeO.none _)
   | (with_reducible refine LeO.ite ?_ ?_)
   | (with_reducible refine LeO.bind ?_ (fun _ => ?_))
   | exact ih0 _ _ _ _ _ _ _ _ _
   | exact ih1 _ _ _ _ _ _ _ _ _ _ _ _
   | exact LeO.none _
   | refine LeO.ite ?_ ?_
   | refine LeO.bind ?_ (fun _ => ?_)
  ·intro y0 y1 y2 y3 y4 y5 y6 y7 y8 y9 y10 y11
   unfold automaton_Summarize.l1
   repeat' first
   | (with_reducible exact ih0 _ _ _ _ _ _ _ _ _)
   | (with_reducible exact ih1 _ _ _ _ _ _ _ _ _ _ _ _)
   | (with_reducible exact LeO.refl _)
   | (with_reducible exact LeO.none _)
   | (with_reducible refine LeO.ite ?_ ?_)
   | (with_reducible refine LeO.bind ?_ (fun _ => ?_))
   | exact ih0 _ _ _ _ _ _ _ _ _
   | exact ih1 _ _ _ _ _ _ _ _ _ _ _ _
   | exact LeO.none _
   | refine LeO.ite ?_ ?_
   | refine LeO.bind ?_ (fun _ => ?_)
theorem automaton_Summarize.mono : ∀ a0 k, LeO (automaton_Summarize.f k a0) (automaton_Summarize.f (k + 1) a0) := by
 intro a0 k
 obtain ⟨ih0, ih1⟩ := automaton_Summarize.mono_l k
 unfold automaton_Summarize.f
 repeat' first
   | (with_reducible exact ih0 _ _ _ _ _ _ _ _ _)
   | (with_reducible exact ih1 _ _ _ _ _ _ _ _ _ _ _ _)
   | (with_reducible exact LeO.refl _)
   | (with_reducible exact LeO.none _)
   | (with_reducible refine LeO.ite ?_ ?_)
   | (with_reducible refine LeO.bind ?_ (fun _ => ?_))
   | exact ih0 _ _ _ _ _ _ _ _ _
   | exact ih1 _ _ _ _ _ _ _ _ _ _ _ _
   | exact LeO.none _
   | refine LeO.ite ?_ ?_
   | refine LeO.bind ?_ (fun _ => ?_)
def automaton_Summarize.T11 : Bool × List (List Nat × List Nat) := (true, [([], []), ([], []), ([1, 0], [0, 1]), ([2], [2]), ([], []), ([], []), ([4, 5], [4, 5]), ([3, 6], [3, 6]), ([7], [7]), ([8], [8]), ([8], [8]), ([9, 7, 0, 1, 2, 3, 4, 5, 6, 7, 8, 9], [9]), ([10, 11, 0, 1, 2, 3, 4, 5, 6, 7, 8, 9, 10, 11], [10])])
def automaton_Summarize.B11 : List Nat := [0, 0, 3, 7, 0, 0, 48, 127, 255, 511, 511, 1023, 4095]
theorem automaton_Summarize.tab11 : rtab .any (opsOf Tryd.f24 11) = automaton_Summarize.T11 := by kernel_rfl
theorem automaton_Summarize.bits11 : waitsOk automaton_Summarize.T11.2 automaton_Summarize.B11 = true := by kernel_rfl
set_option maxHeartbeats 8000000 in
set_option maxRecDepth 100000 in
theorem automaton_Summarize.calls (k : Nat) (a0 : ByteArray) (r1 : Int) (r2 : Int) (r3 : Int) (r4 : Int) (r5 : List Int) (r6 : List Int) (r7 : List Int) (r8 : Int) (w : World) (hG : GlbLaid w) (h : automaton_Summarize.f k a0 = some (r1, r2, r3, r4, r5, r6, r7, r8)) :
  Calls Tryd.prog 24 #[.string a0] w fun e w' => ∃ v4_ v5_ v6_ : Value, e = .returned (.tuple #[.agg #[.int .i64 r1, .int .i64 r2, .int .i64 r3, .int .i64 r4, v4_, v5_, v6_], .int .i64 r8]) ∧ Kd.R (Kd.int .i64) 3 w' w.heap.size (fun k_ => some k_ ≠ (v5_ : Value).ownBlock ∧ some k_ ≠ (v6_ : Value).ownBlock) v4_ r5 ∧ Kd.R (Kd.int .i64) 3 w' w.heap.size (fun k_ => some k_ ≠ (v4_ : Value).ownBlock ∧ some k_ ≠ (v6_ : Value).ownBlock) v5_ r6 ∧ Kd.R (Kd.int .i64) 3 w' w.heap.size (fun k_ => some k_ ≠ (v4_ : Value).ownBlock ∧ some k_ ≠ (v5_ : Value).ownBlock) v6_ r7 ∧ Below w.heap.size w w' := by
 have hu26 := Tryd.underlying26
 have HG := Aside0.mk hG
 clear hG
 have HB := Aside0.mk (Below.refl w.heap.size w)
 have H : (if (a0.size : Int) > 1048576 then (some (0, 0, 0, 0, ([] : List Int), ([] : List Int), ([] : List Int), 2)) else ((automaton_Empty.f).bind fun bt129 => (automaton_Summarize.l0 k a0 0 (a0.size : Int) bt129.2.1 bt129.2.2.1 bt129.2.2.2.1 bt129.2.2.2.2.1 bt129.2.2.2.2.2.1 bt129.2.2.2.2.2.2))) = some (r1, r2, r3, r4, r5, r6, r7, r8) := h
 clear h
 by_cases c2 : (a0.size : Int) > 1048576
 ·rw [if_pos c2] at H
  have c2b0 : decide (1048576 < (a0.size : Int)) = true := decide_eq_true c2
  have c2b1 : decide (1048576 < a0.size) = true := decide_eq_true (by omega)
  clear c2
  simp only [Option.some.injEq, Prod.mk.injEq] at H
  obtain ⟨rfl, rfl, rfl, rfl, rfl, rfl, rfl, rfl⟩ := H
  go_enter Tryd.func24, Tryd.ntmps24
  go_wp2_with (first | ((with_reducible refine gate_dst (N := 2) rfl ?_); refine box_event ?hg (N := 2) ?hd (cs := #[.int .i64 0, .int .i64 0, .int .i64 0, .int .i64 0, .slice none 0 0, .slice none 0 0, .slice none 0 0]) (t := 26) ?hr ?_; (case hd => rfl); (case hg => rfl); (case hr => first | (go_simp; done) | (go_simp; rfl)); intro gb128 hg w3 hbox hb; have n0_ := Aside0.mk (below_step (by repeat (first | (with_reducible first | exact HB.out | apply wA | apply wN | apply wD) | exact HB.out)) hb); have n1_ := Aside0.mk (hbox); have n2_ := Aside0.mk ((by rw [hg]; exact (below_size (by repeat (first | (with_reducible first | exact HB.out | apply wA | apply wN | apply wD) | exact HB.out))) : w.heap.size ≤ gb128)); have n3_ := n2_; clear HB; have HB := n0_; have BK128 := n1_; have GW128 := n2_; have GE128 := n3_; clear n0_ n1_ n2_ n3_; clear hb hbox hg; have hcz4_0 : w3.cell? ⟨gb128, 0, none⟩ = some (.int .i64 0) := (blk_cell BK128.out 0).trans rfl; have hcz4_1 : w3.cell? ⟨gb128, 1, none⟩ = some (.int .i64 0) := (blk_cell BK128.out 1).trans rfl; have hcz4_2 : w3.cell? ⟨gb128, 2, none⟩ = some (.int .i64 0) := (blk_cell BK128.out 2).trans rfl; have hcz4_3 : w3.cell? ⟨gb128, 3, none⟩ = some (.int .i64 0) := (blk_cell BK128.out 3).trans rfl; have hcz4_4 : w3.cell? ⟨gb128, 4, none⟩ = some (.slice none 0 0) := (blk_cell BK128.out 4).trans rfl; have hcz4_5 : w3.cell? ⟨gb128, 5, none⟩ = some (.slice none 0 0) := (blk_cell BK128.out 5).trans rfl; have hcz4_6 : w3.cell? ⟨gb128, 6, none⟩ = some (.slice none 0 0) := (blk_cell BK128.out 6).trans rfl; have hfz4_0 := blk_frozen BK128.out 0; have hfz4_1 := blk_frozen BK128.out 1; have hfz4_2 := blk_frozen BK128.out 2; have hfz4_3 := blk_frozen BK128.out 3; have hfz4_4 := blk_frozen BK128.out 4; have hfz4_5 := blk_frozen BK128.out 5; have hfz4_6 := blk_frozen BK128.out 6))
  refine bodyPost_ret (results_ct rfl _ _ gb128 26 #[.int .i64 0, .int .i64 0, .int .i64 0, .int .i64 0, .slice none 0 0, .slice none 0 0, .slice none 0 0] (0, 0) _ rfl (by (with_reducible repeat (first | refine bN ?_ _ | refine bD ?_ | refine bA ?_ _)); refine blk_put (cs := #[.int .i64 0, .int .i64 0, .int .i64 0, .int .i64 0, .slice none 0 0, .slice none 0 0, .slice none 0 0]) ?_ 6 _ rfl; (with_reducible repeat (first | refine bN ?_ _ | refine bD ?_ | refine bA ?_ _)); refine blk_put (cs := #[.int .i64 0, .int .i64 0, .int .i64 0, .int .i64 0, .slice none 0 0, .slice none 0 0, .slice none 0 0]) ?_ 5 _ rfl; (with_reducible repeat (first | refine bN ?_ _ | refine bD ?_ | refine bA ?_ _)); refine blk_put (cs := #[.int .i64 0, .int .i64 0, .int .i64 0, .int .i64 0, .slice none 0 0, .slice none 0 0, .slice none 0 0]) ?_ 4 _ rfl; (with_reducible repeat (first | refine bN ?_ _ | refine bD ?_ | refine bA ?_ _)); refine blk_put (cs := #[.int .i64 0, .int .i64 0, .int .i64 0, .int .i64 0, .slice none 0 0, .slice none 0 0, .slice none 0 0]) ?_ 3 _ rfl; (with_reducible repeat (first | refine bN ?_ _ | refine bD ?_ | refine bA ?_ _)); refine blk_put (cs := #[.int .i64 0, .int .i64 0, .int .i64 0, .int .i64 0, .slice none 0 0, .slice none 0 0, .slice none 0 0]) ?_ 2 _ rfl; (with_reducible repeat (first | refine bN ?_ _ | refine bD ?_ | refine bA ?_ _)); refine blk_put (cs := #[.int .i64 0, .int .i64 0, .int .i64 0, .int .i64 0, .slice none 0 0, .slice none 0 0, .slice none 0 0]) ?_ 1 _ rfl; (with_reducible repeat (first | refine bN ?_ _ | refine bD ?_ | refine bA ?_ _)); refine blk_put (cs := #[.int .i64 0, .int .i64 0, .int .i64 0, .int .i64 0, .slice none 0 0, .slice none 0 0, .slice none 0 0]) ?_ 0 _ rfl; (with_reducible repeat (first | refine bN ?_ _ | refine bD ?_ | refine bA ?_ _)); exact BK128.out) Tryd.underlying26 rfl (by kernel_rfl)) rfl ?_
  exact ⟨_, _, _, by first | rfl | (simp [errW_none, errW_some] <;> rfl) | (simp [*, errW_none, errW_some] <;> rfl), by first | exact Kd.R_nil _ _ _ _ _ | exact Kd.N_nil _ _ _ _ _ | exact Kd.V_nil _ _ _ _ _ | exact Kd.Q_nil _ _ _ _ _ | exact Kd.S_nil _ _ _ _ _, by first | exact Kd.R_nil _ _ _ _ _ | exact Kd.N_nil _ _ _ _ _ | exact Kd.V_nil _ _ _ _ _ | exact Kd.Q_nil _ _ _ _ _ | exact Kd.S_nil _ _ _ _ _, by first | exact Kd.R_nil _ _ _ _ _ | exact Kd.N_nil _ _ _ _ _ | exact Kd.V_nil _ _ _ _ _ | exact Kd.Q_nil _ _ _ _ _ | exact Kd.S_nil _ _ _ _ _, by repeat (first | (with_reducible first | exact HB.out | apply wA | apply wN | apply wD | refine wS ?_ GE128.out) | exact HB.out)⟩
 ·rw [if_neg c2] at H
  have c2b0 : decide (1048576 < (a0.size : Int)) = false := decide_eq_false c2
  have c2b1 : decide (1048576 < a0.size) = false := decide_eq_false (by omega)
  clear c2
  replace H := Option.bind_eq_some_iff.mp H
  obtain ⟨⟨t129, t130, t131, t132, t133, t136, t139⟩, A50, H⟩ := H
  replace H : (automaton_Summarize.l0 k a0 0 (a0.size : Int) t130 t131 t132 t133 t136 t139) = some (r1, r2, r3, r4, r5, r6, r7, r8) := H
  have A5 := Aside0.mk A50
  clear A50
  have H' := Aside0.mk H
  clear H
  go_enter Tryd.func24, Tryd.ntmps24
  go_wp2_with (first | ((with_reducible refine gate_dst (N := 2) rfl ?_); refine box_event ?hg (N := 2) ?hd (cs := #[.int .i64 0, .int .i64 0, .int .i64 0, .int .i64 0, .slice none 0 0, .slice none 0 0, .slice none 0 0]) (t := 26) ?hr ?_; (case hd => rfl); (case hg => rfl); (case hr => first | (go_simp; done) | (go_simp; rfl)); intro gb128 hg w6 hbox hb; have n0_ := Aside0.mk (below_step (by repeat (first | (with_reducible first | exact HB.out | apply wA | apply wN | apply wD) | exact HB.out)) hb); have n1_ := Aside0.mk (hbox); have n2_ := Aside0.mk ((by rw [hg]; exact (below_size (by repeat (first | (with_reducible first | exact HB.out | apply wA | apply wN | apply wD) | exact HB.out))) : w.heap.size ≤ gb128)); have n3_ := n2_; clear HB; have HB := n0_; have BK128 := n1_; have GW128 := n2_; have GE128 := n3_; clear n0_ n1_ n2_ n3_; clear hb hbox hg) | ((with_reducible refine gate_callee (f := 35) rfl ?_); refine goesL_ (some 13) rfl rfl Tryd.func35 (by kernel_rfl) rfl #[] rfl (by (try simp only [List.map_toArray, List.map_cons, List.map_nil]); first | done | rfl | (simp only [List.length_drop, List.length_take]; rfl)) ?_; (with_reducible refine (automaton_Empty.calls  t129 t130 t131 t132 t133 t136 t139 _ A5.out).mono ?_); rintro e w7 ⟨v134, v137, v140, rfl, ho0, ho1, ho2, hb⟩; refine ⟨_, rfl, ?_⟩; have n0_ := Aside0.mk (Kd.R_lower ho0 (below_size (by repeat (first | (with_reducible first | exact HB.out | apply wA | apply wN | apply wD | refine wS ?_ GE128.out) | exact HB.out)))); have n1_ := Aside0.mk (Kd.R_lower ho1 (below_size (by repeat (first | (with_reducible first | exact HB.out | apply wA | apply wN | apply wD | refine wS ?_ GE128.out) | exact HB.out)))); have n2_ := Aside0.mk (Kd.R_lower ho2 (below_size (by repeat (first | (with_reducible first | exact HB.out | apply wA | apply wN | apply wD | refine wS ?_ GE128.out) | exact HB.out)))); have n3_ := Aside0.mk (blk_below (g := gb128) (o := .cells #[.int .i64 0, .int .i64 0, .int .i64 0, .int .i64 0, .slice none 0 0, .slice none 0 0, .slice none 0 0] 26 (0, 0)) (by (with_reducible repeat (first | refine bN ?_ _ | refine bD ?_ | refine bA ?_ _)); exact BK128.out) hb); have n4_ := Aside0.mk (below_step (by repeat (first | (with_reducible first | exact HB.out | apply wA | apply wN | apply wD | refine wS ?_ GE128.out) | exact HB.out)) hb); clear BK128; clear HB; have HO135 := n0_; have HO138 := n1_; have HO141 := n2_; have BK128 := n3_; have HB := n4_; clear n0_ n1_ n2_ n3_ n4_; (try clear hb); (try clear hb2); (try clear hk); (try clear hi); (try clear ho0); (try clear ho1); (try clear ho2)) | ((with_reducible refine gate_dst (N := 4) rfl ?_); refine box_event ?hg (N := 4) ?hd (cs := #[.int .i64 0, .int .i64 0, .int .i64 0, .int .i64 0, .slice none 0 0, .slice none 0 0, .slice none 0 0]) (t := 26) ?hr ?_; (case hd => rfl); (case hg => rfl); (case hr => first | (go_simp; done) | (go_simp; rfl)); intro gb142 hg w8 hbox hb; have n0_ := Aside0.mk (Kd.R_below (by (with_reducible repeat (first | apply rA | apply rN | apply rD)); exact HO135.out) hb); have n1_ := Aside0.mk (Kd.R_below (by (with_reducible repeat (first | apply rA | apply rN | apply rD)); exact HO138.out) hb); have n2_ := Aside0.mk (Kd.R_below (by (with_reducible repeat (first | apply rA | apply rN | apply rD)); exact HO141.out) hb); have n3_ := Aside0.mk (blk_below (g := gb128) (o := .cells #[.int .i64 0, .int .i64 0, .int .i64 0, .int .i64 0, .slice none 0 0, .slice none 0 0, .slice none 0 0] 26 (0, 0)) (by (with_reducible repeat (first | refine bN ?_ _ | refine bD ?_ | refine bA ?_ _)); exact BK128.out) hb); have n4_ := Aside0.mk (below_step (by repeat (first | (with_reducible first | exact HB.out | apply wA | apply wN | apply wD | refine wS ?_ GE128.out) | exact HB.out)) hb); have n5_ := Aside0.mk (hbox); have n6_ := Aside0.mk ((by rw [hg]; exact (below_size (by repeat (first | (with_reducible first | exact HB.out | apply wA | apply wN | apply wD | refine wS ?_ GE128.out) | exact HB.out))) : w.heap.size ≤ gb142)); have n7_ := n6_; have n8_ := Aside0.mk ((by rw [hg]; exact Nat.ne_of_lt (blk_lt (g := gb128) (o := .cells #[.int .i64 0, .int .i64 0, .int .i64 0, .int .i64 0, .slice none 0 0, .slice none 0 0, .slice none 0 0] 26 (0, 0)) (by (with_reducible repeat (first | refine bN ?_ _ | refine bD ?_ | refine bA ?_ _)); exact BK128.out)) : gb128 ≠ gb142)); have n9_ := Aside0.mk ((by rw [hg]; exact Nat.ne_of_gt (blk_lt (g := gb128) (o := .cells #[.int .i64 0, .int .i64 0, .int .i64 0, .int .i64 0, .slice none 0 0, .slice none 0 0, .slice none 0 0] 26 (0, 0)) (by (with_reducible repeat (first | refine bN ?_ _ | refine bD ?_ | refine bA ?_ _)); exact BK128.out)) : gb142 ≠ gb128)); clear HO135; clear HO138; clear HO141; clear BK128; clear HB; have HO135 := n0_; have HO138 := n1_; have HO141 := n2_; have BK128 := n3_; have HB := n4_; have BK142 := n5_; have GW142 := n6_; have GE142 := n7_; have NB128_142 := n8_; have NB142_128 := n9_; clear n0_ n1_ n2_ n3_ n4_ n5_ n6_ n7_ n8_ n9_; clear hb hbox hg; have hnb9 := NB142_128.out; have hnc9 := NB128_142.out; have hcz10_0 : w8.cell? ⟨gb142, 0, none⟩ = some (.int .i64 0) := (blk_cell BK142.out 0).trans rfl; have hcz10_1 : w8.cell? ⟨gb142, 1, none⟩ = some (.int .i64 0) := (blk_cell BK142.out 1).trans rfl; have hcz10_2 : w8.cell? ⟨gb142, 2, none⟩ = some (.int .i64 0) := (blk_cell BK142.out 2).trans rfl; have hcz10_3 : w8.cell? ⟨gb142, 3, none⟩ = some (.int .i64 0) := (blk_cell BK142.out 3).trans rfl; have hcz10_4 : w8.cell? ⟨gb142, 4, none⟩ = some (.slice none 0 0) := (blk_cell BK142.out 4).trans rfl; have hcz10_5 : w8.cell? ⟨gb142, 5, none⟩ = some (.slice none 0 0) := (blk_cell BK142.out 5).trans rfl; have hcz10_6 : w8.cell? ⟨gb142, 6, none⟩ = some (.slice none 0 0) := (blk_cell BK142.out 6).trans rfl; have hfz10_0 := blk_frozen BK142.out 0; have hfz10_1 := blk_frozen BK142.out 1; have hfz10_2 := blk_frozen BK142.out 2; have hfz10_3 := blk_frozen BK142.out 3; have hfz10_4 := blk_frozen BK142.out 4; have hfz10_5 := blk_frozen BK142.out 5; have hfz10_6 := blk_frozen BK142.out 6; obtain ⟨Ao11, co11, eo11⟩ := Kd.R_slice HO135.out; subst eo11; obtain ⟨Ao12, co12, eo12⟩ := Kd.R_slice HO138.out; subst eo12; obtain ⟨Ao13, co13, eo13⟩ := Kd.R_slice HO141.out; subst eo13))
  go_loopg [17] k (fun kq v17 w' => ∃ (x17_1 : Int) (x143001_1 : Int) (x143002_1 : Int) (x143003_1 : Int) (x143004_1 : List Int) (x143005_1 : List Int) (x143006_1 : List Int) (u143004 : Value) (u143005 : Value) (u143006 : Value), v17 = .int .i64 x17_1 ∧ Aside0 (automaton_Summarize.l0 kq a0 x17_1 (a0.size : Int) x143001_1 x143002_1 x143003_1 x143004_1 x143005_1 x143006_1 = some (r1, r2, r3, r4, r5, r6, r7, r8)) ∧ Aside0 (kq ≤ k) ∧ Aside0 (Kd.R (Kd.int .i64) 3 w' w.heap.size (fun k_ => some k_ ≠ (u143005 : Value).ownBlock ∧ some k_ ≠ (u143006 : Value).ownBlock) u143004 x143004_1) ∧ Aside0 (Kd.R (Kd.int .i64) 3 w' w.heap.size (fun k_ => some k_ ≠ (u143004 : Value).ownBlock ∧ some k_ ≠ (u143006 : Value).ownBlock) u143005 x143005_1) ∧ Aside0 (Kd.R (Kd.int .i64) 3 w' w.heap.size (fun k_ => some k_ ≠ (u143004 : Value).ownBlock ∧ some k_ ≠ (u143005 : Value).ownBlock) u143006 x143006_1) ∧ Aside0 (w'.heap[gb128]? = some (.cells #[.int .i64 0, .int .i64 0, .int .i64 0, .int .i64 0, (.slice none 0 0), (.slice none 0 0), (.slice none 0 0)] 26 (0, 0))) ∧ Aside0 (w'.heap[gb142]? = some (.cells #[.int .i64 (a0.size : Int), .int .i64 x143001_1, .int .i64 x143002_1, .int .i64 x143003_1, u143004, u143005, u143006] 26 (0, 0))) ∧ Aside0 (Below w.heap.size w w'))
  case atStart => exact ⟨(0), (t130), (t131), (t132), (t133), (t136), (t139), (.slice Ao11 t133.length co11), (.slice Ao12 t136.length co12), (.slice Ao13 t139.length co13), (by first | rfl | (simp; done) | (simp [*]; done)), H', ⟨Nat.le_refl _⟩, ⟨by (with_reducible repeat (first | apply rA | apply rN | apply rD)); exact Kd.R_mono (Kd.R_far (p := ⟨gb142, 0, none⟩) (R_fars7 gb142 (Kd.R_types HO135.out BK142.out (by decide)) (fun _ hk => hk.2) (.int .i64 t129) (.int .i64 t130) (.int .i64 t131) (.int .i64 t132) (.slice Ao11 t133.length co11) (.slice Ao12 t136.length co12) (.slice Ao13 t139.length co13)) (fun _ hk => hk.2) (.int .i64 (a0.size : Int))) (fun _ hk => hk.1)⟩, ⟨by (with_reducible repeat (first | apply rA | apply rN | apply rD)); exact Kd.R_mono (Kd.R_far (p := ⟨gb142, 0, none⟩) (R_fars7 gb142 (Kd.R_types HO138.out BK142.out (by decide)) (fun _ hk => hk.2) (.int .i64 t129) (.int .i64 t130) (.int .i64 t131) (.int .i64 t132) (.slice Ao11 t133.length co11) (.slice Ao12 t136.length co12) (.slice Ao13 t139.length co13)) (fun _ hk => hk.2) (.int .i64 (a0.size : Int))) (fun _ hk => hk.1)⟩, ⟨by (with_reducible repeat (first | apply rA | apply rN | apply rD)); exact Kd.R_mono (Kd.R_far (p := ⟨gb142, 0, none⟩) (R_fars7 gb142 (Kd.R_types HO141.out BK142.out (by decide)) (fun _ hk => hk.2) (.int .i64 t129) (.int .i64 t130) (.int .i64 t131) (.int .i64 t132) (.slice Ao11 t133.length co11) (.slice Ao12 t136.length co12) (.slice Ao13 t139.length co13)) (fun _ hk => hk.2) (.int .i64 (a0.size : Int))) (fun _ hk => hk.1)⟩, ⟨by (with_reducible repeat (first | refine bN ?_ _ | refine bD ?_ | refine bA ?_ _ | refine blk_far ?_ NB128_142.out _)); exact BK128.out⟩, ⟨by (with_reducible repeat (first | refine bN ?_ _ | refine bD ?_ | refine bA ?_ _)); refine blk_put (cs := #[.int .i64 t129, .int .i64 t130, .int .i64 t131, .int .i64 t132, .slice Ao11 t133.length co11, .slice Ao12 t136.length co12, .slice Ao13 t139.length co13]) ?_ 0 _ rfl; (with_reducible repeat (first | refine bN ?_ _ | refine bD ?_ | refine bA ?_ _)); refine blk_put (cs := #[.int .i64 t129, .int .i64 t130, .int .i64 t131, .int .i64 t132, .slice Ao11 t133.length co11, .slice Ao12 t136.length co12, .slice none 0 0]) ?_ 6 _ rfl; (with_reducible repeat (first | refine bN ?_ _ | refine bD ?_ | refine bA ?_ _)); refine blk_put (cs := #[.int .i64 t129, .int .i64 t130, .int .i64 t131, .int .i64 t132, .slice Ao11 t133.length co11, .slice none 0 0, .slice none 0 0]) ?_ 5 _ rfl; (with_reducible repeat (first | refine bN ?_ _ | refine bD ?_ | refine bA ?_ _)); refine blk_put (cs := #[.int .i64 t129, .int .i64 t130, .int .i64 t131, .int .i64 t132, .slice none 0 0, .slice none 0 0, .slice none 0 0]) ?_ 4 _ rfl; (with_reducible repeat (first | refine bN ?_ _ | refine bD ?_ | refine bA ?_ _)); refine blk_put (cs := #[.int .i64 t129, .int .i64 t130, .int .i64 t131, .int .i64 0, .slice none 0 0, .slice none 0 0, .slice none 0 0]) ?_ 3 _ rfl; (with_reducible repeat (first | refine bN ?_ _ | refine bD ?_ | refine bA ?_ _)); refine blk_put (cs := #[.int .i64 t129, .int .i64 t130, .int .i64 0, .int .i64 0, .slice none 0 0, .slice none 0 0, .slice none 0 0]) ?_ 2 _ rfl; (with_reducible repeat (first | refine bN ?_ _ | refine bD ?_ | refine bA ?_ _)); refine blk_put (cs := #[.int .i64 t129, .int .i64 0, .int .i64 0, .int .i64 0, .slice none 0 0, .slice none 0 0, .slice none 0 0]) ?_ 1 _ rfl; (with_reducible repeat (first | refine bN ?_ _ | refine bD ?_ | refine bA ?_ _)); refine blk_put (cs := #[.int .i64 0, .int .i64 0, .int .i64 0, .int .i64 0, .slice none 0 0, .slice none 0 0, .slice none 0 0]) ?_ 0 _ rfl; (with_reducible repeat (first | refine bN ?_ _ | refine bD ?_ | refine bA ?_ _)); exact BK142.out⟩, ⟨by repeat (first | (with_reducible first | exact HB.out | apply wA | apply wN | apply wD | refine wS ?_ GE128.out | refine wS ?_ GE142.out) | exact HB.out)⟩⟩
  case round =>
   clear H'
   (try clear c2); (try clear c2b0); (try clear c2b1); (try clear p2); (try clear c3); (try clear c9); (try clear hcz10_0); (try clear hcz10_1); (try clear hcz10_2); (try clear hcz10_3); (try clear hcz10_4); (try clear hcz10_5); (try clear hcz10_6); (try clear hcz4_0); (try clear hcz4_1); (try clear hcz4_2); (try clear hcz4_3); (try clear hcz4_4); (try clear hcz4_5); (try clear hcz4_6); (try clear hfz10_0); (try clear hfz10_1); (try clear hfz10_2); (try clear hfz10_3); (try clear hfz10_4); (try clear hfz10_5); (try clear hfz10_6); (try clear hfz4_0); (try clear hfz4_1); (try clear hfz4_2); (try clear hfz4_3); (try clear hfz4_4); (try clear hfz4_5); (try clear hfz4_6)
   obtain ⟨x17_1, x143001_1, x143002_1, x143003_1, x143004_1, x143005_1, x143006_1, u143004, u143005, u143006, rfl, HA, HK1, HO_143004, HO_143005, HO_143006, BK128, BK142, HB⟩ := hrel
   cases gk with
   | zero => exact absurd HA.out (by simp [automaton_Summarize.l0])
   | succ k1 =>
    have H := HA.out
    clear HA
    simp only [automaton_Summarize.l0] at H
    by_cases c14 : x17_1 < 3
    ·rw [if_pos c14] at H
     have c14b0 : decide (x17_1 < 3) = true := decide_eq_true c14
     clear c14
     have H' := Aside0.mk H
     clear H
     go_wp2
     go_loopg [22] k1 (fun kq v22 w' => ∃ (x22_2 : Int) (x143001_2 : Int) (x143002_2 : Int) (x143003_2 : Int) (x143004_2 : List Int) (x143005_2 : List Int) (x143006_2 : List Int) (u143004 : Value) (u143005 : Value) (u143006 : Value), v22 = .int .i64 x22_2 ∧ Aside0 (automaton_Summarize.l1 kq a0 x17_1 x17_1 (a0.size : Int) x22_2 (a0.size : Int) x143001_2 x143002_2 x143003_2 x143004_2 x143005_2 x143006_2 = some (r1, r2, r3, r4, r5, r6, r7, r8)) ∧ Aside0 (kq ≤ k1) ∧ Aside0 (Kd.R (Kd.int .i64) 3 w' w.heap.size (fun k_ => some k_ ≠ (u143005 : Value).ownBlock ∧ some k_ ≠ (u143006 : Value).ownBlock) u143004 x143004_2) ∧ Aside0 (Kd.R (Kd.int .i64) 3 w' w.heap.size (fun k_ => some k_ ≠ (u143004 : Value).ownBlock ∧ some k_ ≠ (u143006 : Value).ownBlock) u143005 x143005_2) ∧ Aside0 (Kd.R (Kd.int .i64) 3 w' w.heap.size (fun k_ => some k_ ≠ (u143004 : Value).ownBlock ∧ some k_ ≠ (u143005 : Value).ownBlock) u143006 x143006_2) ∧ Aside0 (w'.heap[gb128]? = some (.cells #[.int .i64 0, .int .i64 0, .int .i64 0, .int .i64 0, (.slice none 0 0), (.slice none 0 0), (.slice none 0 0)] 26 (0, 0))) ∧ Aside0 (w'.heap[gb142]? = some (.cells #[.int .i64 (a0.size : Int), .int .i64 x143001_2, .int .i64 x143002_2, .int .i64 x143003_2, u143004, u143005, u143006] 26 (0, 0))) ∧ Aside0 (Below w.heap.size w w'))
     case atStart => exact ⟨(0), (x143001_1), (x143002_1), (x143003_1), (x143004_1), (x143005_1), (x143006_1), (u143004), (u143005), (u143006), (by first | rfl | (simp; done) | (simp [*]; done)), H', ⟨Nat.le_refl _⟩, ⟨by (with_reducible repeat (first | apply rA | apply rN | apply rD)); exact HO_143004.out⟩, ⟨by (with_reducible repeat (first | apply rA | apply rN | apply rD)); exact HO_143005.out⟩, ⟨by (with_reducible repeat (first | apply rA | apply rN | apply rD)); exact HO_143006.out⟩, ⟨by (with_reducible repeat (first | refine bN ?_ _ | refine bD ?_ | refine bA ?_ _)); exact BK128.out⟩, ⟨by (with_reducible repeat (first | refine bN ?_ _ | refine bD ?_ | refine bA ?_ _)); exact BK142.out⟩, ⟨by repeat (first | (with_reducible first | exact HB.out | apply wA | apply wN | apply wD | refine wS ?_ GE128.out | refine wS ?_ GE142.out) | exact HB.out)⟩⟩
     case round =>
      clear H'
      (try clear c1); (try clear c14); (try clear c14b0)
      obtain ⟨x22_2, x143001_2, x143002_2, x143003_2, x143004_2, x143005_2, x143006_2, u143004, u143005, u143006, rfl, HA, HK2, HO_143004, HO_143005, HO_143006, BK128, BK142, HB⟩ := hrel
      cases gk with
      | zero => exact absurd HA.out (by simp [automaton_Summarize.l1])
      | succ k2 =>
       have H := HA.out
       clear HA
       simp only [automaton_Summarize.l1] at H
       by_cases c15 : x22_2 < (a0.size : Int)
       ·rw [if_pos c15] at H
        have c15b0 : decide (x22_2 < (a0.size : Int)) = true := decide_eq_true c15
        clear c15
        by_cases c16 : x17_1 = 0
        ·subst c16
         have H1 : (if 0 ≤ x22_2 then (if x22_2 < (a0.size : Int) then ((automaton_Step.f x143001_2 (bt a0 x22_2)).bind fun bt143 => (if bt143.2 = true then (if x143004_2.length < 17592186044416 then (automaton_Summarize.l1 k2 a0 0 0 (a0.size : Int) (wrap64 (x22_2 + 1)) (a0.size : Int) bt143.1 x143002_2 x143003_2 (x143004_2 ++ [x22_2]) x143005_2 x143006_2) else (none)) else (automaton_Summarize.l1 k2 a0 0 0 (a0.size : Int) (wrap64 (x22_2 + 1)) (a0.size : Int) bt143.1 x143002_2 x143003_2 x143004_2 x143005_2 x143006_2))) else (none)) else (none)) = some (r1, r2, r3, r4, r5, r6, r7, r8) := by rw [if_pos rfl] at H; exact H
         clear H; have H := H1; clear H1
         by_cases c17 : 0 ≤ x22_2
         ·rw [if_pos c17] at H
          have c17b0 : decide (0 ≤ x22_2) = true := decide_eq_true c17
          clear c17
          by_cases c18 : x22_2 < (a0.size : Int)
          ·rw [if_pos c18] at H
           have c18b0 : decide (x22_2 < (a0.size : Int)) = true := decide_eq_true c18
           clear c18
           replace H := Option.bind_eq_some_iff.mp H
           obtain ⟨⟨t143, t144⟩, A200, H⟩ := H
           replace H : (if t144 = true then (if x143004_2.length < 17592186044416 then (automaton_Summarize.l1 k2 a0 0 0 (a0.size : Int) (wrap64 (x22_2 + 1)) (a0.size : Int) t143 x143002_2 x143003_2 (x143004_2 ++ [x22_2]) x143005_2 x143006_2) else (none)) else (automaton_Summarize.l1 k2 a0 0 0 (a0.size : Int) (wrap64 (x22_2 + 1)) (a0.size : Int) t143 x143002_2 x143003_2 x143004_2 x143005_2 x143006_2)) = some (r1, r2, r3, r4, r5, r6, r7, r8) := H
           have A20 := Aside0.mk A200
           clear A200
           by_cases c21 : t144 = true
           ·subst c21
            have H1 : (if x143004_2.length < 17592186044416 then (automaton_Summarize.l1 k2 a0 0 0 (a0.size : Int) (wrap64 (x22_2 + 1)) (a0.size : Int) t143 x143002_2 x143003_2 (x143004_2 ++ [x22_2]) x143005_2 x143006_2) else (none)) = some (r1, r2, r3, r4, r5, r6, r7, r8) := by rw [if_pos rfl] at H; exact H
            clear H; have H := H1; clear H1
            by_cases c22 : x143004_2.length < 17592186044416
            ·rw [if_pos c22] at H
             have LMc22 := Aside0.mk c22
             clear c22
             obtain ⟨y145, hy145⟩ : ∃ y_ : List Int, y_ = (x143004_2 ++ [x22_2]) := ⟨_, rfl⟩
             replace H : (automaton_Summarize.l1 k2 a0 0 0 (a0.size : Int) (wrap64 (x22_2 + 1)) (a0.size : Int) t143 x143002_2 x143003_2 y145 x143005_2 x143006_2) = some (r1, r2, r3, r4, r5, r6, r7, r8) := by first | (rw [hy145]; with_reducible exact H) | (have H2_ := (Option.bind_some _ _).symm.trans H; rw [hy145]; with_reducible exact H2_) | (have H2_ := (Option.bind_some _ _).symm.trans H; with_reducible exact H2_) | with_reducible exact H | (rw [hy145]; exact H) | exact H
             have Ny145 := Aside0.mk hy145
             clear hy145
             have H' := Aside0.mk H
             clear H
             try go_wp2
             have n0_ := Aside0.mk (Kd.R_drew HO_143004.out)
             have n1_ := Aside0.mk (Kd.R_drew HO_143005.out)
             have n2_ := Aside0.mk (Kd.R_drew HO_143006.out)
             have n3_ := Aside0.mk (blk_drew BK128.out)
             have n4_ := Aside0.mk (blk_drew BK142.out)
             have n5_ := Aside0.mk (below_drew1 HB.out)
             clear HO_143004
             clear HO_143005
             clear HO_143006
             clear BK128
             clear BK142
             clear HB
             have HO_143004 := n0_
             have HO_143005 := n1_
             have HO_143006 := n2_
             have BK128 := n3_
             have BK142 := n4_
             have HB := n5_
             clear n0_ n1_ n2_ n3_ n4_ n5_
             have p19 : 0 ≤ (x22_2 : Int) := of_decide_eq_true (by first | (with_reducible assumption) | assumption)
             have q19 : x22_2 < (a0.size : Int) := of_decide_eq_true (by first | (with_reducible assumption) | assumption)
             have hx19 := bt_at a0 x22_2
             replace p19 := eq_true p19; replace q19 := eq_true q19
             refine start_ (n := 13) (S := fun w' => w'.cell? ⟨gb142, 0, none⟩ = some (.int .i64 (a0.size : Int)) ∧ w'.cell? ⟨gb142, 1, none⟩ = some (.int .i64 x143001_2) ∧ w'.cell? ⟨gb142, 2, none⟩ = some (.int .i64 x143002_2) ∧ w'.cell? ⟨gb142, 3, none⟩ = some (.int .i64 x143003_2) ∧ w'.cell? ⟨gb142, 4, none⟩ = some (u143004) ∧ w'.cell? ⟨gb142, 5, none⟩ = some (u143005) ∧ w'.cell? ⟨gb142, 6, none⟩ = some (u143006)) (ds := []) #[false, false, false, false, false, false, false, false, false, false, false, false, false] (by kernel_rfl) rfl rfl ⟨(blk_cell BK142.out 0).trans rfl, (blk_cell BK142.out 1).trans rfl, (blk_cell BK142.out 2).trans rfl, (blk_cell BK142.out 3).trans rfl, (blk_cell BK142.out 4).trans rfl, (blk_cell BK142.out 5).trans rfl, (blk_cell BK142.out 6).trans rfl⟩ (fun hHeld => ?_); refine with_tabW automaton_Summarize.tab11 automaton_Summarize.bits11 (fun HT_ HW_ => ?_)
             generalize wr.drew = w23 at HO_143004 HO_143005 HO_143006 BK128 BK142 HB hHeld ⊢
             refine pure_ (i := 0) (N := some 26) (v := ?_) (a' := ?_) #[true, false, false, false, false, false, false, false, false, false, false, false, false] rfl rfl (any_of HT_.out (by kernel_rfl)) (fun _ _ _ h => h) (Or.inl ⟨by rfl, ?_⟩) ?_ ?_
             rotate_left
             ·intro w'
              go_simp
              with_reducible rfl
             rotate_left
             ·simp only [Act.put, List.setIfInBounds_toArray, List.set_cons_zero, List.set_cons_succ, i64_w, i32_w]
              rfl
             refine pure_ (i := 1) (N := some 27) (v := ?_) (a' := ?_) #[true, true, false, false, false, false, false, false, false, false, false, false, false] rfl rfl (any_of HT_.out (by kernel_rfl)) (fun _ _ _ h => h) (Or.inl ⟨by rfl, ?_⟩) ?_ ?_
             rotate_left
             ·intro w'
              go_simp
              with_reducible rfl
             rotate_left
             ·simp only [Act.put, List.setIfInBounds_toArray, List.set_cons_zero, List.set_cons_succ, i64_w, i32_w]
              rfl
             refine pure_ (i := 2) (N := some 28) (v := ?_) (a' := ?_) #[true, true, true, false, false, false, false, false, false, false, false, false, false] rfl rfl (any_of HT_.out (by kernel_rfl)) (fun _ _ _ h => h) (Or.inl ⟨by rfl, ?_⟩) ?_ ?_
             rotate_left
             ·intro w'
              go_simp
              with_reducible rfl
             rotate_left
             ·simp only [Act.put, List.setIfInBounds_toArray, List.set_cons_zero, List.set_cons_succ, i64_w, i32_w]
              rfl
             refine pure_ (i := 4) (N := some 30) (v := ?_) (a' := ?_) #[true, true, true, false, true, false, false, false, false, false, false, false, false] rfl rfl (any_of HT_.out (by kernel_rfl)) (fun _ _ _ h => h) (Or.inl ⟨by rfl, ?_⟩) ?_ ?_
             rotate_left
             ·intro w'
              go_simp
              with_reducible rfl
             rotate_left
             ·simp only [Act.put, List.setIfInBounds_toArray, List.set_cons_zero, List.set_cons_succ, i64_w, i32_w]
              rfl
             refine pure_ (i := 5) (N := some 31) (v := ?_) (a' := ?_) #[true, true, true, false, true, true, false, false, false, false, false, false, false] rfl rfl (any_of HT_.out (by kernel_rfl)) (fun _ _ _ h => h) (Or.inl ⟨by rfl, ?_⟩) ?_ ?_
             rotate_left
             ·intro w'
              go_simp
              with_reducible rfl
             rotate_left
             ·simp only [Act.put, List.setIfInBounds_toArray, List.set_cons_zero, List.set_cons_succ, i64_w, i32_w]
              rfl
             refine take_ (i := 3) (N := some 29) (v := ?_) (a' := ?_) #[true, true, true, true, true, true, false, false, false, false, false, false, false] rfl rfl (take_ofW HT_.out HW_.out (by kernel_rfl)) (fun _ _ _ h => h) (Or.inl ⟨by rfl, ?_⟩) hHeld ?_ ?_
             rotate_left
             ·rintro w' ⟨s0, s1, s2, s3, s4, s5, s6⟩
              go_simp
              with_reducible rfl
             rotate_left
             ·simp only [Act.put, List.setIfInBounds_toArray, List.set_cons_zero, List.set_cons_succ, i64_w, i32_w]
              rfl
             refine take_ (i := 6) (N := some 32) (v := ?_) (a' := ?_) #[true, true, true, true, true, true, true, false, false, false, false, false, false] rfl rfl (take_ofW HT_.out HW_.out (by kernel_rfl)) (fun _ _ _ h => h) (Or.inl ⟨by rfl, ?_⟩) hHeld ?_ ?_
             rotate_left
             ·rintro w' ⟨s0, s1, s2, s3, s4, s5, s6⟩
              go_simp
              with_reducible rfl
             rotate_left
             ·simp only [Act.put, List.setIfInBounds_toArray, List.set_cons_zero, List.set_cons_succ, i64_w, i32_w]
              rfl
             refine one_ (i := 7) (N := some 33) #[true, true, true, true, true, true, true, true, false, false, false, false, false] rfl rfl (one_of HT_.out (by kernel_rfl)) (by decide) (fun K hK => ?_)
             refine goes_ Tryd.func36 (by kernel_rfl) rfl #[.int .i64 x143001_2, .int .u8 (bt a0 x22_2)] (by rfl) rfl rfl (by (try simp only [List.map_toArray, List.map_cons, List.map_nil]); first | done | rfl | (simp only [List.length_drop, List.length_take]; rfl)) ?_
             with_reducible refine (automaton_Step.calls x143001_2 (bt a0 x22_2) t143 true _ ?side1 A20.out).mono ?_
             (case side1 => exact GlbLaid.below HG.out (by repeat (first | (with_reducible first | exact HB.out | apply wA | apply wN | apply wD | refine wS ?_ GE128.out | refine wS ?_ GE142.out) | exact HB.out)))
             rintro e w24 ⟨rfl, hb⟩
             refine ⟨_, rfl, ?_⟩
             have n0_ := Aside0.mk (Kd.R_below (by (with_reducible repeat (first | apply rA | apply rN | apply rD)); exact HO_143004.out) hb)
             have n1_ := Aside0.mk (Kd.R_below (by (with_reducible repeat (first | apply rA | apply rN | apply rD)); exact HO_143005.out) hb)
             have n2_ := Aside0.mk (Kd.R_below (by (with_reducible repeat (first | apply rA | apply rN | apply rD)); exact HO_143006.out) hb)
             have n3_ := Aside0.mk (blk_below (g := gb128) (o := .cells #[.int .i64 0, .int .i64 0, .int .i64 0, .int .i64 0, .slice none 0 0, .slice none 0 0, .slice none 0 0] 26 (0, 0)) (by (with_reducible repeat (first | refine bN ?_ _ | refine bD ?_ | refine bA ?_ _)); exact BK128.out) hb)
             have n4_ := Aside0.mk (blk_below (g := gb142) (o := .cells #[.int .i64 (a0.size : Int), .int .i64 x143001_2, .int .i64 x143002_2, .int .i64 x143003_2, u143004, u143005, u143006] 26 (0, 0)) (by (with_reducible repeat (first | refine bN ?_ _ | refine bD ?_ | refine bA ?_ _)); exact BK142.out) hb)
             have n5_ := Aside0.mk (below_step (by repeat (first | (with_reducible first | exact HB.out | apply wA | apply wN | apply wD | refine wS ?_ GE128.out | refine wS ?_ GE142.out) | exact HB.out)) hb)
             clear HO_143004
             clear HO_143005
             clear HO_143006
             clear BK128
             clear BK142
             clear HB
             have HO_143004 := n0_
             have HO_143005 := n1_
             have HO_143006 := n2_
             have BK128 := n3_
             have BK142 := n4_
             have HB := n5_
             clear n0_ n1_ n2_ n3_ n4_ n5_
             (try clear hb); (try clear hb2); (try clear hk); (try clear hi)
             refine hK.out _ _ ⟨(blk_cell BK142.out 0).trans rfl, (blk_cell BK142.out 1).trans rfl, (blk_cell BK142.out 2).trans rfl, (blk_cell BK142.out 3).trans rfl, (blk_cell BK142.out 4).trans rfl, (blk_cell BK142.out 5).trans rfl, (blk_cell BK142.out 6).trans rfl⟩ (fun hHeld => ?_)
             clear hK K
             refine norm_ (a' := ?_) ?_ ?_
             rotate_left
             ·show Act.put _ (some 33) _ = _
              simp only [Act.put, List.setIfInBounds_toArray, List.set_cons_zero, List.set_cons_succ, i64_w, i32_w]
              rfl
             refine pure_ (i := 8) (N := some 25) (v := ?_) (a' := ?_) #[true, true, true, true, true, true, true, true, true, false, false, false, false] rfl rfl (any_of HT_.out (by kernel_rfl)) (fun _ _ _ h => h) (Or.inl ⟨by rfl, ?_⟩) ?_ ?_
             rotate_left
             ·intro w'
              go_simp
              with_reducible rfl
             rotate_left
             ·simp only [Act.put, List.setIfInBounds_toArray, List.set_cons_zero, List.set_cons_succ, i64_w, i32_w]
              rfl
             refine pure_ (i := 9) (N := some 34) (v := ?_) (a' := ?_) #[true, true, true, true, true, true, true, true, true, true, false, false, false] rfl rfl (any_of HT_.out (by kernel_rfl)) (fun _ _ _ h => h) (Or.inl ⟨by rfl, ?_⟩) ?_ ?_
             rotate_left
             ·intro w'
              go_simp
              with_reducible rfl
             rotate_left
             ·simp only [Act.put, List.setIfInBounds_toArray, List.set_cons_zero, List.set_cons_succ, i64_w, i32_w]
              rfl
             refine pure_ (i := 10) (N := some 35) (v := ?_) (a' := ?_) #[true, true, true, true, true, true, true, true, true, true, true, false, false] rfl rfl (any_of HT_.out (by kernel_rfl)) (fun _ _ _ h => h) (Or.inl ⟨by rfl, ?_⟩) ?_ ?_
             rotate_left
             ·intro w'
              go_simp
              with_reducible rfl
             rotate_left
             ·simp only [Act.put, List.setIfInBounds_toArray, List.set_cons_zero, List.set_cons_succ, i64_w, i32_w]
              rfl
             refine pure_ (i := 11) (N := some 7) (v := ?_) (a' := ?_) #[true, true, true, true, true, true, true, true, true, true, true, true, false] rfl rfl (any_of HT_.out (by kernel_rfl)) (fun _ _ _ h => h) (Or.inl ⟨by rfl, ?_⟩) ?_ ?_
             rotate_left
             ·intro w'
              go_simp
              with_reducible rfl
             rotate_left
             ·simp only [Act.put, List.setIfInBounds_toArray, List.set_cons_zero, List.set_cons_succ, i64_w, i32_w]
              rfl
             refine pure_ (i := 12) (N := some 8) (v := ?_) (a' := ?_) #[true, true, true, true, true, true, true, true, true, true, true, true, true] rfl rfl (any_of HT_.out (by kernel_rfl)) (fun _ _ _ h => h) (Or.inl ⟨by rfl, ?_⟩) ?_ ?_
             rotate_left
             ·intro w'
              go_simp
              with_reducible rfl
             rotate_left
             ·simp only [Act.put, List.setIfInBounds_toArray, List.set_cons_zero, List.set_cons_succ, i64_w, i32_w]
              rfl
             refine done_ (done_of HT_.out (by kernel_rfl)) ?_
             have hnb25 := NB142_128.out; have hnc25 := NB128_142.out; have hcz26_0 : w24.cell? ⟨gb142, 0, none⟩ = some (.int .i64 (a0.size : Int)) := (blk_cell BK142.out 0).trans rfl; have hcz26_1 : w24.cell? ⟨gb142, 1, none⟩ = some (.int .i64 x143001_2) := (blk_cell BK142.out 1).trans rfl; have hcz26_2 : w24.cell? ⟨gb142, 2, none⟩ = some (.int .i64 x143002_2) := (blk_cell BK142.out 2).trans rfl; have hcz26_3 : w24.cell? ⟨gb142, 3, none⟩ = some (.int .i64 x143003_2) := (blk_cell BK142.out 3).trans rfl; have hcz26_4 : w24.cell? ⟨gb142, 4, none⟩ = some (u143004) := (blk_cell BK142.out 4).trans rfl; have hcz26_5 : w24.cell? ⟨gb142, 5, none⟩ = some (u143005) := (blk_cell BK142.out 5).trans rfl; have hcz26_6 : w24.cell? ⟨gb142, 6, none⟩ = some (u143006) := (blk_cell BK142.out 6).trans rfl; have hfz26_0 := blk_frozen BK142.out 0; have hfz26_1 := blk_frozen BK142.out 1; have hfz26_2 := blk_frozen BK142.out 2; have hfz26_3 := blk_frozen BK142.out 3; have hfz26_4 := blk_frozen BK142.out 4; have hfz26_5 := blk_frozen BK142.out 5; have hfz26_6 := blk_frozen BK142.out 6
             try go_wp2_with (first | ((with_reducible refine gate_builtin (b := .append) (xs := #[.tmp 41, .tmp 43]) rfl ?_); at_builtin; refine Kd.R_append (Kd.int .i64) (w0 := w) w.heap.size rfl (.tmp 41) (.tmp 43) 23 3 (.int .i64 0) 8 rfl Tryd.underlying23 info3 rfl (by decide) (by omega) u143004 x143004_2 x22_2 [.int .i64 x22_2] (fun k_ => some k_ ≠ (u143005 : Value).ownBlock ∧ some k_ ≠ (u143006 : Value).ownBlock) (fun _ => False) rfl rfl ?aP (fun _ hk => hk.elim) ?aF ?aO ?aB ?aS ?aL ?_; (case aP => exact rfl); (case aB => exact (by repeat (first | (with_reducible first | exact HB.out | apply wA | apply wN | apply wD | refine wS ?_ GE128.out | refine wS ?_ GE142.out) | exact HB.out))); (case aF => exact (fun k_ hk => ⟨Kd.fresh' (Kd.R_lt (by (with_reducible repeat (first | apply rA | apply rN | apply rD)); exact HO_143005.out)) k_ hk, Kd.fresh' (Kd.R_lt (by (with_reducible repeat (first | apply rA | apply rN | apply rD)); exact HO_143006.out)) k_ hk⟩)); (case aO => exact (by (with_reducible repeat (first | apply rA | apply rN | apply rD)); exact HO_143004.out)); (case aS => exact (below_size (by repeat (first | (with_reducible first | exact HB.out | apply wA | apply wN | apply wD | refine wS ?_ GE128.out | refine wS ?_ GE142.out) | exact HB.out)))); (case aL => have := LMc22.out; first | omega | exact Nat.le_of_lt this); intro v146 w27 ho hb hg hat; rw [← Ny145.out] at ho; have n0_ := Aside0.mk (Kd.R_after (ok := (fun k_ => some k_ ≠ (u143006 : Value).ownBlock)) (by (with_reducible repeat (first | apply rA | apply rN | apply rD)); exact Kd.R_mono HO_143005.out (fun _ hk => ⟨hk.2, hk.1⟩)) hg hat); have n1_ := Aside0.mk (Kd.R_after (ok := (fun k_ => some k_ ≠ (u143005 : Value).ownBlock)) (by (with_reducible repeat (first | apply rA | apply rN | apply rD)); exact Kd.R_mono HO_143006.out (fun _ hk => ⟨hk.2, hk.1⟩)) hg hat); have n2_ := Aside0.mk (blk_grown (g := gb128) (o := .cells #[.int .i64 0, .int .i64 0, .int .i64 0, .int .i64 0, .slice none 0 0, .slice none 0 0, .slice none 0 0] 26 (0, 0)) (by (with_reducible repeat (first | refine bN ?_ _ | refine bD ?_ | refine bA ?_ _)); exact BK128.out) hg (Kd.R_ne HO_143004.out BK128.out (by decide))); have n3_ := Aside0.mk (blk_grown (g := gb142) (o := .cells #[.int .i64 (a0.size : Int), .int .i64 x143001_2, .int .i64 x143002_2, .int .i64 x143003_2, u143004, u143005, u143006] 26 (0, 0)) (by (with_reducible repeat (first | refine bN ?_ _ | refine bD ?_ | refine bA ?_ _)); exact BK142.out) hg (Kd.R_ne HO_143004.out BK142.out (by decide))); have n4_ := Aside0.mk (hb); have n5_ := Aside0.mk (ho); clear HO_143005; clear HO_143006; clear BK128; clear BK142; clear HB; clear HO_143004; have HO_143005 := n0_; have HO_143006 := n1_; have BK128 := n2_; have BK142 := n3_; have HB := n4_; have HO147 := n5_; clear n0_ n1_ n2_ n3_ n4_ n5_; clear ho hb hg hat; obtain ⟨Ao28, co28, eo28⟩ := Kd.R_slice HO147.out; subst eo28; have hcz29_0 : w27.cell? ⟨gb142, 0, none⟩ = some (.int .i64 (a0.size : Int)) := (blk_cell BK142.out 0).trans rfl; have hcz29_1 : w27.cell? ⟨gb142, 1, none⟩ = some (.int .i64 x143001_2) := (blk_cell BK142.out 1).trans rfl; have hcz29_2 : w27.cell? ⟨gb142, 2, none⟩ = some (.int .i64 x143002_2) := (blk_cell BK142.out 2).trans rfl; have hcz29_3 : w27.cell? ⟨gb142, 3, none⟩ = some (.int .i64 x143003_2) := (blk_cell BK142.out 3).trans rfl; have hcz29_4 : w27.cell? ⟨gb142, 4, none⟩ = some (u143004) := (blk_cell BK142.out 4).trans rfl; have hcz29_5 : w27.cell? ⟨gb142, 5, none⟩ = some (u143005) := (blk_cell BK142.out 5).trans rfl; have hcz29_6 : w27.cell? ⟨gb142, 6, none⟩ = some (u143006) := (blk_cell BK142.out 6).trans rfl; have hfz29_0 := blk_frozen BK142.out 0; have hfz29_1 := blk_frozen BK142.out 1; have hfz29_2 := blk_frozen BK142.out 2; have hfz29_3 := blk_frozen BK142.out 3; have hfz29_4 := blk_frozen BK142.out 4; have hfz29_5 := blk_frozen BK142.out 5; have hfz29_6 := blk_frozen BK142.out 6))
             go_roundg k2
             case measure => have := HK1.out; have := HK2.out; omega
             case rel => exact ⟨(wrap64 (x22_2 + 1)), (t143), (x143002_2), (x143003_2), (y145), (x143005_2), (x143006_2), (.slice Ao28 y145.length co28), (u143005), (u143006), (by first | rfl | (simp; done) | (simp [*]; done)), H', ⟨by have := HK1.out; have := HK2.out; omega⟩, ⟨by (with_reducible repeat (first | apply rA | apply rN | apply rD)); exact Kd.R_mono (Kd.R_far (p := ⟨gb142, 1, none⟩) (Kd.R_far (p := ⟨gb142, 4, none⟩) (Kd.R_types HO147.out BK142.out (by decide)) (fun _ hk => hk.2) (.slice Ao28 y145.length co28)) (fun _ hk => hk.2) (.int .i64 t143)) (fun _ hk => hk.1)⟩, ⟨by (with_reducible repeat (first | apply rA | apply rN | apply rD)); exact Kd.R_mono (Kd.R_far (p := ⟨gb142, 1, none⟩) (Kd.R_far (p := ⟨gb142, 4, none⟩) (Kd.R_types HO_143005.out BK142.out (by decide)) (fun _ hk => hk.2) (.slice Ao28 y145.length co28)) (fun _ hk => hk.2) (.int .i64 t143)) (fun _ hk => ⟨hk.1.2, hk.1.1⟩)⟩, ⟨by (with_reducible repeat (first | apply rA | apply rN | apply rD)); exact Kd.R_mono (Kd.R_far (p := ⟨gb142, 1, none⟩) (Kd.R_far (p := ⟨gb142, 4, none⟩) (Kd.R_types HO_143006.out BK142.out (by decide)) (fun _ hk => hk.2) (.slice Ao28 y145.length co28)) (fun _ hk => hk.2) (.int .i64 t143)) (fun _ hk => ⟨hk.1.2, hk.1.1⟩)⟩, ⟨by (with_reducible repeat (first | refine bN ?_ _ | refine bD ?_ | refine bA ?_ _ | refine blk_far ?_ NB128_142.out _)); exact BK128.out⟩, ⟨by (with_reducible repeat (first | refine bN ?_ _ | refine bD ?_ | refine bA ?_ _)); refine blk_put (cs := #[.int .i64 (a0.size : Int), .int .i64 x143001_2, .int .i64 x143002_2, .int .i64 x143003_2, .slice Ao28 y145.length co28, u143005, u143006]) ?_ 1 _ rfl; (with_reducible repeat (first | refine bN ?_ _ | refine bD ?_ | refine bA ?_ _)); refine blk_put (cs := #[.int .i64 (a0.size : Int), .int .i64 x143001_2, .int .i64 x143002_2, .int .i64 x143003_2, u143004, u143005, u143006]) ?_ 4 _ rfl; (with_reducible repeat (first | refine bN ?_ _ | refine bD ?_ | refine bA ?_ _)); exact BK142.out⟩, ⟨by repeat (first | (with_reducible first | exact HB.out | apply wA | apply wN | apply wD | refine wS ?_ GE128.out | refine wS ?_ GE142.out) | exact HB.out)⟩⟩
            ·rw [if_neg c22] at H
             exact absurd H (by simp)
           ·replace c21 := Bool.eq_false_iff.mpr c21
            subst c21
            have H1 : (automaton_Summarize.l1 k2 a0 0 0 (a0.size : Int) (wrap64 (x22_2 + 1)) (a0.size : Int) t143 x143002_2 x143003_2 x143004_2 x143005_2 x143006_2) = some (r1, r2, r3, r4, r5, r6, r7, r8) := by rw [if_neg (show ¬ (false = true) by decide)] at H; exact H
            clear H; have H := H1; clear H1
            have H' := Aside0.mk H
            clear H
            try go_wp2
            have n0_ := Aside0.mk (Kd.R_drew HO_143004.out)
            have n1_ := Aside0.mk (Kd.R_drew HO_143005.out)
            have n2_ := Aside0.mk (Kd.R_drew HO_143006.out)
            have n3_ := Aside0.mk (blk_drew BK128.out)
            have n4_ := Aside0.mk (blk_drew BK142.out)
            have n5_ := Aside0.mk (below_drew1 HB.out)
            clear HO_143004
            clear HO_143005
            clear HO_143006
            clear BK128
            clear BK142
            clear HB
            have HO_143004 := n0_
            have HO_143005 := n1_
            have HO_143006 := n2_
            have BK128 := n3_
            have BK142 := n4_
            have HB := n5_
            clear n0_ n1_ n2_ n3_ n4_ n5_
            have p19 : 0 ≤ (x22_2 : Int) := of_decide_eq_true (by first | (with_reducible assumption) | assumption)
            have q19 : x22_2 < (a0.size : Int) := of_decide_eq_true (by first | (with_reducible assumption) | assumption)
            have hx19 := bt_at a0 x22_2
            replace p19 := eq_true p19; replace q19 := eq_true q19
            refine start_ (n := 13) (S := fun w' => w'.cell? ⟨gb142, 0, none⟩ = some (.int .i64 (a0.size : Int)) ∧ w'.cell? ⟨gb142, 1, none⟩ = some (.int .i64 x143001_2) ∧ w'.cell? ⟨gb142, 2, none⟩ = some (.int .i64 x143002_2) ∧ w'.cell? ⟨gb142, 3, none⟩ = some (.int .i64 x143003_2) ∧ w'.cell? ⟨gb142, 4, none⟩ = some (u143004) ∧ w'.cell? ⟨gb142, 5, none⟩ = some (u143005) ∧ w'.cell? ⟨gb142, 6, none⟩ = some (u143006)) (ds := []) #[false, false, false, false, false, false, false, false, false, false, false, false, false] (by kernel_rfl) rfl rfl ⟨(blk_cell BK142.out 0).trans rfl, (blk_cell BK142.out 1).trans rfl, (blk_cell BK142.out 2).trans rfl, (blk_cell BK142.out 3).trans rfl, (blk_cell BK142.out 4).trans rfl, (blk_cell BK142.out 5).trans rfl, (blk_cell BK142.out 6).trans rfl⟩ (fun hHeld => ?_); refine with_tabW automaton_Summarize.tab11 automaton_Summarize.bits11 (fun HT_ HW_ => ?_)
            generalize wr.drew = w30 at HO_143004 HO_143005 HO_143006 BK128 BK142 HB hHeld ⊢
            refine pure_ (i := 0) (N := some 26) (v := ?_) (a' := ?_) #[true, false, false, false, false, false, false, false, false, false, false, false, false] rfl rfl (any_of HT_.out (by kernel_rfl)) (fun _ _ _ h => h) (Or.inl ⟨by rfl, ?_⟩) ?_ ?_
            rotate_left
            ·intro w'
             go_simp
             with_reducible rfl
            rotate_left
            ·simp only [Act.put, List.setIfInBounds_toArray, List.set_cons_zero, List.set_cons_succ, i64_w, i32_w]
             rfl
            refine pure_ (i := 1) (N := some 27) (v := ?_) (a' := ?_) #[true, true, false, false, false, false, false, false, false, false, false, false, false] rfl rfl (any_of HT_.out (by kernel_rfl)) (fun _ _ _ h => h) (Or.inl ⟨by rfl, ?_⟩) ?_ ?_
            rotate_left
            ·intro w'
             go_simp
             with_reducible rfl
            rotate_left
            ·simp only [Act.put, List.setIfInBounds_toArray, List.set_cons_zero, List.set_cons_succ, i64_w, i32_w]
             rfl
            refine pure_ (i := 2) (N := some 28) (v := ?_) (a' := ?_) #[true, true, true, false, false, false, false, false, false, false, false, false, false] rfl rfl (any_of HT_.out (by kernel_rfl)) (fun _ _ _ h => h) (Or.inl ⟨by rfl, ?_⟩) ?_ ?_
            rotate_left
            ·intro w'
             go_simp
             with_reducible rfl
            rotate_left
            ·simp only [Act.put, List.setIfInBounds_toArray, List.set_cons_zero, List.set_cons_succ, i64_w, i32_w]
             rfl
            refine pure_ (i := 4) (N := some 30) (v := ?_) (a' := ?_) #[true, true, true, false, true, false, false, false, false, false, false, false, false] rfl rfl (any_of HT_.out (by kernel_rfl)) (fun _ _ _ h => h) (Or.inl ⟨by rfl, ?_⟩) ?_ ?_
            rotate_left
            ·intro w'
             go_simp
             with_reducible rfl
            rotate_left
            ·simp only [Act.put, List.setIfInBounds_toArray, List.set_cons_zero, List.set_cons_succ, i64_w, i32_w]
             rfl
            refine pure_ (i := 5) (N := some 31) (v := ?_) (a' := ?_) #[true, true, true, false, true, true, false, false, false, false, false, false, false] rfl rfl (any_of HT_.out (by kernel_rfl)) (fun _ _ _ h => h) (Or.inl ⟨by rfl, ?_⟩) ?_ ?_
            rotate_left
            ·intro w'
             go_simp
             with_reducible rfl
            rotate_left
            ·simp only [Act.put, List.setIfInBounds_toArray, List.set_cons_zero, List.set_cons_succ, i64_w, i32_w]
             rfl
            refine take_ (i := 3) (N := some 29) (v := ?_) (a' := ?_) #[true, true, true, true, true, true, false, false, false, false, false, false, false] rfl rfl (take_ofW HT_.out HW_.out (by kernel_rfl)) (fun _ _ _ h => h) (Or.inl ⟨by rfl, ?_⟩) hHeld ?_ ?_
            rotate_left
            ·rintro w' ⟨s0, s1, s2, s3, s4, s5, s6⟩
             go_simp
             with_reducible rfl
            rotate_left
            ·simp only [Act.put, List.setIfInBounds_toArray, List.set_cons_zero, List.set_cons_succ, i64_w, i32_w]
             rfl
            refine take_ (i := 6) (N := some 32) (v := ?_) (a' := ?_) #[true, true, true, true, true, true, true, false, false, false, false, false, false] rfl rfl (take_ofW HT_.out HW_.out (by kernel_rfl)) (fun _ _ _ h => h) (Or.inl ⟨by rfl, ?_⟩) hHeld ?_ ?_
            rotate_left
            ·rintro w' ⟨s0, s1, s2, s3, s4, s5, s6⟩
             go_simp
             with_reducible rfl
            rotate_left
            ·simp only [Act.put, List.setIfInBounds_toArray, List.set_cons_zero, List.set_cons_succ, i64_w, i32_w]
             rfl
            refine one_ (i := 7) (N := some 33) #[true, true, true, true, true, true, true, true, false, false, false, false, false] rfl rfl (one_of HT_.out (by kernel_rfl)) (by decide) (fun K hK => ?_)
            refine goes_ Tryd.func36 (by kernel_rfl) rfl #[.int .i64 x143001_2, .int .u8 (bt a0 x22_2)] (by rfl) rfl rfl (by (try simp only [List.map_toArray, List.map_cons, List.map_nil]); first | done | rfl | (simp only [List.length_drop, List.length_take]; rfl)) ?_
            with_reducible refine (automaton_Step.calls x143001_2 (bt a0 x22_2) t143 false _ ?side1 A20.out).mono ?_
            (case side1 => exact GlbLaid.below HG.out (by repeat (first | (with_reducible first | exact HB.out | apply wA | apply wN | apply wD | refine wS ?_ GE128.out | refine wS ?_ GE142.out) | exact HB.out)))
            rintro e w31 ⟨rfl, hb⟩
            refine ⟨_, rfl, ?_⟩
            have n0_ := Aside0.mk (Kd.R_below (by (with_reducible repeat (first | apply rA | apply rN | apply rD)); exact HO_143004.out) hb)
            have n1_ := Aside0.mk (Kd.R_below (by (with_reducible repeat (first | apply rA | apply rN | apply rD)); exact HO_143005.out) hb)
            have n2_ := Aside0.mk (Kd.R_below (by (with_reducible repeat (first | apply rA | apply rN | apply rD)); exact HO_143006.out) hb)
            have n3_ := Aside0.mk (blk_below (g := gb128) (o := .cells #[.int .i64 0, .int .i64 0, .int .i64 0, .int .i64 0, .slice none 0 0, .slice none 0 0, .slice none 0 0] 26 (0, 0)) (by (with_reducible repeat (first | refine bN ?_ _ | refine bD ?_ | refine bA ?_ _)); exact BK128.out) hb)
            have n4_ := Aside0.mk (blk_below (g := gb142) (o := .cells #[.int .i64 (a0.size : Int), .int .i64 x143001_2, .int .i64 x143002_2, .int .i64 x143003_2, u143004, u143005, u143006] 26 (0, 0)) (by (with_reducible repeat (first | refine bN ?_ _ | refine bD ?_ | refine bA ?_ _)); exact BK142.out) hb)
            have n5_ := Aside0.mk (below_step (by repeat (first | (with_reducible first | exact HB.out | apply wA | apply wN | apply wD | refine wS ?_ GE128.out | refine wS ?_ GE142.out) | exact HB.out)) hb)
            clear HO_143004
            clear HO_143005
            clear HO_143006
            clear BK128
            clear BK142
            clear HB
            have HO_143004 := n0_
            have HO_143005 := n1_
            have HO_143006 := n2_
            have BK128 := n3_
            have BK142 := n4_
            have HB := n5_
            clear n0_ n1_ n2_ n3_ n4_ n5_
            (try clear hb); (try clear hb2); (try clear hk); (try clear hi)
            refine hK.out _ _ ⟨(blk_cell BK142.out 0).trans rfl, (blk_cell BK142.out 1).trans rfl, (blk_cell BK142.out 2).trans rfl, (blk_cell BK142.out 3).trans rfl, (blk_cell BK142.out 4).trans rfl, (blk_cell BK142.out 5).trans rfl, (blk_cell BK142.out 6).trans rfl⟩ (fun hHeld => ?_)
            clear hK K
            refine norm_ (a' := ?_) ?_ ?_
            rotate_left
            ·show Act.put _ (some 33) _ = _
             simp only [Act.put, List.setIfInBounds_toArray, List.set_cons_zero, List.set_cons_succ, i64_w, i32_w]
             rfl
            refine pure_ (i := 8) (N := some 25) (v := ?_) (a' := ?_) #[true, true, true, true, true, true, true, true, true, false, false, false, false] rfl rfl (any_of HT_.out (by kernel_rfl)) (fun _ _ _ h => h) (Or.inl ⟨by rfl, ?_⟩) ?_ ?_
            rotate_left
            ·intro w'
             go_simp
             with_reducible rfl
            rotate_left
            ·simp only [Act.put, List.setIfInBounds_toArray, List.set_cons_zero, List.set_cons_succ, i64_w, i32_w]
             rfl
            refine pure_ (i := 9) (N := some 34) (v := ?_) (a' := ?_) #[true, true, true, true, true, true, true, true, true, true, false, false, false] rfl rfl (any_of HT_.out (by kernel_rfl)) (fun _ _ _ h => h) (Or.inl ⟨by rfl, ?_⟩) ?_ ?_
            rotate_left
            ·intro w'
             go_simp
             with_reducible rfl
            rotate_left
            ·simp only [Act.put, List.setIfInBounds_toArray, List.set_cons_zero, List.set_cons_succ, i64_w, i32_w]
             rfl
            refine pure_ (i := 10) (N := some 35) (v := ?_) (a' := ?_) #[true, true, true, true, true, true, true, true, true, true, true, false, false] rfl rfl (any_of HT_.out (by kernel_rfl)) (fun _ _ _ h => h) (Or.inl ⟨by rfl, ?_⟩) ?_ ?_
            rotate_left
            ·intro w'
             go_simp
             with_reducible rfl
            rotate_left
            ·simp only [Act.put, List.setIfInBounds_toArray, List.set_cons_zero, List.set_cons_succ, i64_w, i32_w]
             rfl
            refine pure_ (i := 11) (N := some 7) (v := ?_) (a' := ?_) #[true, true, true, true, true, true, true, true, true, true, true, true, false] rfl rfl (any_of HT_.out (by kernel_rfl)) (fun _ _ _ h => h) (Or.inl ⟨by rfl, ?_⟩) ?_ ?_
            rotate_left
            ·intro w'
             go_simp
             with_reducible rfl
            rotate_left
            ·simp only [Act.put, List.setIfInBounds_toArray, List.set_cons_zero, List.set_cons_succ, i64_w, i32_w]
             rfl
            refine pure_ (i := 12) (N := some 8) (v := ?_) (a' := ?_) #[true, true, true, true, true, true, true, true, true, true, true, true, true] rfl rfl (any_of HT_.out (by kernel_rfl)) (fun _ _ _ h => h) (Or.inl ⟨by rfl, ?_⟩) ?_ ?_
            rotate_left
            ·intro w'
             go_simp
             with_reducible rfl
            rotate_left
            ·simp only [Act.put, List.setIfInBounds_toArray, List.set_cons_zero, List.set_cons_succ, i64_w, i32_w]
             rfl
            refine done_ (done_of HT_.out (by kernel_rfl)) ?_
            have hnb32 := NB142_128.out; have hnc32 := NB128_142.out; have hcz33_0 : w31.cell? ⟨gb142, 0, none⟩ = some (.int .i64 (a0.size : Int)) := (blk_cell BK142.out 0).trans rfl; have hcz33_1 : w31.cell? ⟨gb142, 1, none⟩ = some (.int .i64 x143001_2) := (blk_cell BK142.out 1).trans rfl; have hcz33_2 : w31.cell? ⟨gb142, 2, none⟩ = some (.int .i64 x143002_2) := (blk_cell BK142.out 2).trans rfl; have hcz33_3 : w31.cell? ⟨gb142, 3, none⟩ = some (.int .i64 x143003_2) := (blk_cell BK142.out 3).trans rfl; have hcz33_4 : w31.cell? ⟨gb142, 4, none⟩ = some (u143004) := (blk_cell BK142.out 4).trans rfl; have hcz33_5 : w31.cell? ⟨gb142, 5, none⟩ = some (u143005) := (blk_cell BK142.out 5).trans rfl; have hcz33_6 : w31.cell? ⟨gb142, 6, none⟩ = some (u143006) := (blk_cell BK142.out 6).trans rfl; have hfz33_0 := blk_frozen BK142.out 0; have hfz33_1 := blk_frozen BK142.out 1; have hfz33_2 := blk_frozen BK142.out 2; have hfz33_3 := blk_frozen BK142.out 3; have hfz33_4 := blk_frozen BK142.out 4; have hfz33_5 := blk_frozen BK142.out 5; have hfz33_6 := blk_frozen BK142.out 6
            try go_wp2
            go_roundg k2
            case measure => have := HK1.out; have := HK2.out; omega
            case rel => exact ⟨(wrap64 (x22_2 + 1)), (t143), (x143002_2), (x143003_2), (x143004_2), (x143005_2), (x143006_2), (u143004), (u143005), (u143006), (by first | rfl | (simp; done) | (simp [*]; done)), H', ⟨by have := HK1.out; have := HK2.out; omega⟩, ⟨by (with_reducible repeat (first | apply rA | apply rN | apply rD)); exact Kd.R_mono (Kd.R_far (p := ⟨gb142, 1, none⟩) (Kd.R_types HO_143004.out BK142.out (by decide)) (fun _ hk => hk.2) (.int .i64 t143)) (fun _ hk => hk.1)⟩, ⟨by (with_reducible repeat (first | apply rA | apply rN | apply rD)); exact Kd.R_mono (Kd.R_far (p := ⟨gb142, 1, none⟩) (Kd.R_types HO_143005.out BK142.out (by decide)) (fun _ hk => hk.2) (.int .i64 t143)) (fun _ hk => hk.1)⟩, ⟨by (with_reducible repeat (first | apply rA | apply rN | apply rD)); exact Kd.R_mono (Kd.R_far (p := ⟨gb142, 1, none⟩) (Kd.R_types HO_143006.out BK142.out (by decide)) (fun _ hk => hk.2) (.int .i64 t143)) (fun _ hk => hk.1)⟩, ⟨by (with_reducible repeat (first | refine bN ?_ _ | refine bD ?_ | refine bA ?_ _ | refine blk_far ?_ NB128_142.out _)); exact BK128.out⟩, ⟨by (with_reducible repeat (first | refine bN ?_ _ | refine bD ?_ | refine bA ?_ _)); refine blk_put (cs := #[.int .i64 (a0.size : Int), .int .i64 x143001_2, .int .i64 x143002_2, .int .i64 x143003_2, u143004, u143005, u143006]) ?_ 1 _ rfl; (with_reducible repeat (first | refine bN ?_ _ | refine bD ?_ | refine bA ?_ _)); exact BK142.out⟩, ⟨by repeat (first | (with_reducible first | exact HB.out | apply wA | apply wN | apply wD | refine wS ?_ GE128.out | refine wS ?_ GE142.out) | exact HB.out)⟩⟩
          ·rw [if_neg c18] at H
           exact absurd H (by simp)
         ·rw [if_neg c17] at H
          exact absurd H (by simp)
        ·rw [if_neg c16] at H
         by_cases c34 : x17_1 = 1
         ·subst c34
          have H1 : (if 0 ≤ x22_2 then (if x22_2 < (a0.size : Int) then ((automaton_Step.f x143002_2 (bt a0 x22_2)).bind fun bt148 => (if bt148.2 = true then (if x143005_2.length < 17592186044416 then (automaton_Summarize.l1 k2 a0 1 1 (a0.size : Int) (wrap64 (x22_2 + 1)) (a0.size : Int) x143001_2 bt148.1 x143003_2 x143004_2 (x143005_2 ++ [x22_2]) x143006_2) else (none)) else (automaton_Summarize.l1 k2 a0 1 1 (a0.size : Int) (wrap64 (x22_2 + 1)) (a0.size : Int) x143001_2 bt148.1 x143003_2 x143004_2 x143005_2 x143006_2))) else (none)) else (none)) = some (r1, r2, r3, r4, r5, r6, r7, r8) := by rw [if_pos rfl] at H; exact H
          clear H; have H := H1; clear H1
          by_cases c35 : 0 ≤ x22_2
          ·rw [if_pos c35] at H
           have c35b0 : decide (0 ≤ x22_2) = true := decide_eq_true c35
           clear c35
           by_cases c36 : x22_2 < (a0.size : Int)
           ·rw [if_pos c36] at H
            have c36b0 : decide (x22_2 < (a0.size : Int)) = true := decide_eq_true c36
            clear c36
            replace H := Option.bind_eq_some_iff.mp H
            obtain ⟨⟨t148, t149⟩, A380, H⟩ := H
            replace H : (if t149 = true then (if x143005_2.length < 17592186044416 then (automaton_Summarize.l1 k2 a0 1 1 (a0.size : Int) (wrap64 (x22_2 + 1)) (a0.size : Int) x143001_2 t148 x143003_2 x143004_2 (x143005_2 ++ [x22_2]) x143006_2) else (none)) else (automaton_Summarize.l1 k2 a0 1 1 (a0.size : Int) (wrap64 (x22_2 + 1)) (a0.size : Int) x143001_2 t148 x143003_2 x143004_2 x143005_2 x143006_2)) = some (r1, r2, r3, r4, r5, r6, r7, r8) := H
            have A38 := Aside0.mk A380
            clear A380
            by_cases c39 : t149 = true
            ·subst c39
             have H1 : (if x143005_2.length < 17592186044416 then (automaton_Summarize.l1 k2 a0 1 1 (a0.size : Int) (wrap64 (x22_2 + 1)) (a0.size : Int) x143001_2 t148 x143003_2 x143004_2 (x143005_2 ++ [x22_2]) x143006_2) else (none)) = some (r1, r2, r3, r4, r5, r6, r7, r8) := by rw [if_pos rfl] at H; exact H
             clear H; have H := H1; clear H1
             by_cases c40 : x143005_2.length < 17592186044416
             ·rw [if_pos c40] at H
              have LMc40 := Aside0.mk c40
              clear c40
              obtain ⟨y150, hy150⟩ : ∃ y_ : List Int, y_ = (x143005_2 ++ [x22_2]) := ⟨_, rfl⟩
              replace H : (automaton_Summarize.l1 k2 a0 1 1 (a0.size : Int) (wrap64 (x22_2 + 1)) (a0.size : Int) x143001_2 t148 x143003_2 x143004_2 y150 x143006_2) = some (r1, r2, r3, r4, r5, r6, r7, r8) := by first | (rw [hy150]; with_reducible exact H) | (have H2_ := (Option.bind_some _ _).symm.trans H; rw [hy150]; with_reducible exact H2_) | (have H2_ := (Option.bind_some _ _).symm.trans H; with_reducible exact H2_) | with_reducible exact H | (rw [hy150]; exact H) | exact H
              have Ny150 := Aside0.mk hy150
              clear hy150
              have H' := Aside0.mk H
              clear H
              try go_wp2
              have n0_ := Aside0.mk (Kd.R_drew HO_143004.out)
              have n1_ := Aside0.mk (Kd.R_drew HO_143005.out)
              have n2_ := Aside0.mk (Kd.R_drew HO_143006.out)
              have n3_ := Aside0.mk (blk_drew BK128.out)
              have n4_ := Aside0.mk (blk_drew BK142.out)
              have n5_ := Aside0.mk (below_drew1 HB.out)
              clear HO_143004
              clear HO_143005
              clear HO_143006
              clear BK128
              clear BK142
              clear HB
              have HO_143004 := n0_
              have HO_143005 := n1_
              have HO_143006 := n2_
              have BK128 := n3_
              have BK142 := n4_
              have HB := n5_
              clear n0_ n1_ n2_ n3_ n4_ n5_
              have p37 : 0 ≤ (x22_2 : Int) := of_decide_eq_true (by first | (with_reducible assumption) | assumption)
              have q37 : x22_2 < (a0.size : Int) := of_decide_eq_true (by first | (with_reducible assumption) | assumption)
              have hx37 := bt_at a0 x22_2
              replace p37 := eq_true p37; replace q37 := eq_true q37
              refine start_ (n := 13) (S := fun w' => w'.cell? ⟨gb142, 0, none⟩ = some (.int .i64 (a0.size : Int)) ∧ w'.cell? ⟨gb142, 1, none⟩ = some (.int .i64 x143001_2) ∧ w'.cell? ⟨gb142, 2, none⟩ = some (.int .i64 x143002_2) ∧ w'.cell? ⟨gb142, 3, none⟩ = some (.int .i64 x143003_2) ∧ w'.cell? ⟨gb142, 4, none⟩ = some (u143004) ∧ w'.cell? ⟨gb142, 5, none⟩ = some (u143005) ∧ w'.cell? ⟨gb142, 6, none⟩ = some (u143006)) (ds := []) #[false, false, false, false, false, false, false, false, false, false, false, false, false] (by kernel_rfl) rfl rfl ⟨(blk_cell BK142.out 0).trans rfl, (blk_cell BK142.out 1).trans rfl, (blk_cell BK142.out 2).trans rfl, (blk_cell BK142.out 3).trans rfl, (blk_cell BK142.out 4).trans rfl, (blk_cell BK142.out 5).trans rfl, (blk_cell BK142.out 6).trans rfl⟩ (fun hHeld => ?_); refine with_tabW automaton_Summarize.tab11 automaton_Summarize.bits11 (fun HT_ HW_ => ?_)
              generalize wr.drew = w41 at HO_143004 HO_143005 HO_143006 BK128 BK142 HB hHeld ⊢
              refine pure_ (i := 0) (N := some 26) (v := ?_) (a' := ?_) #[true, false, false, false, false, false, false, false, false, false, false, false, false] rfl rfl (any_of HT_.out (by kernel_rfl)) (fun _ _ _ h => h) (Or.inl ⟨by rfl, ?_⟩) ?_ ?_
              rotate_left
              ·intro w'
               go_simp
               with_reducible rfl
              rotate_left
              ·simp only [Act.put, List.setIfInBounds_toArray, List.set_cons_zero, List.set_cons_succ, i64_w, i32_w]
               rfl
              refine pure_ (i := 1) (N := some 27) (v := ?_) (a' := ?_) #[true, true, false, false, false, false, false, false, false, false, false, false, false] rfl rfl (any_of HT_.out (by kernel_rfl)) (fun _ _ _ h => h) (Or.inl ⟨by rfl, ?_⟩) ?_ ?_
              rotate_left
              ·intro w'
               go_simp
               with_reducible rfl
              rotate_left
              ·simp only [Act.put, List.setIfInBounds_toArray, List.set_cons_zero, List.set_cons_succ, i64_w, i32_w]
               rfl
              refine pure_ (i := 2) (N := some 28) (v := ?_) (a' := ?_) #[true, true, true, false, false, false, false, false, false, false, false, false, false] rfl rfl (any_of HT_.out (by kernel_rfl)) (fun _ _ _ h => h) (Or.inl ⟨by rfl, ?_⟩) ?_ ?_
              rotate_left
              ·intro w'
               go_simp
               with_reducible rfl
              rotate_left
              ·simp only [Act.put, List.setIfInBounds_toArray, List.set_cons_zero, List.set_cons_succ, i64_w, i32_w]
               rfl
              refine pure_ (i := 4) (N := some 30) (v := ?_) (a' := ?_) #[true, true, true, false, true, false, false, false, false, false, false, false, false] rfl rfl (any_of HT_.out (by kernel_rfl)) (fun _ _ _ h => h) (Or.inl ⟨by rfl, ?_⟩) ?_ ?_
              rotate_left
              ·intro w'
               go_simp
               with_reducible rfl
              rotate_left
              ·simp only [Act.put, List.setIfInBounds_toArray, List.set_cons_zero, List.set_cons_succ, i64_w, i32_w]
               rfl
              refine pure_ (i := 5) (N := some 31) (v := ?_) (a' := ?_) #[true, true, true, false, true, true, false, false, false, false, false, false, false] rfl rfl (any_of HT_.out (by kernel_rfl)) (fun _ _ _ h => h) (Or.inl ⟨by rfl, ?_⟩) ?_ ?_
              rotate_left
              ·intro w'
               go_simp
               with_reducible rfl
              rotate_left
              ·simp only [Act.put, List.setIfInBounds_toArray, List.set_cons_zero, List.set_cons_succ, i64_w, i32_w]
               rfl
              refine take_ (i := 3) (N := some 29) (v := ?_) (a' := ?_) #[true, true, true, true, true, true, false, false, false, false, false, false, false] rfl rfl (take_ofW HT_.out HW_.out (by kernel_rfl)) (fun _ _ _ h => h) (Or.inl ⟨by rfl, ?_⟩) hHeld ?_ ?_
              rotate_left
              ·rintro w' ⟨s0, s1, s2, s3, s4, s5, s6⟩
               go_simp
               with_reducible rfl
              rotate_left
              ·simp only [Act.put, List.setIfInBounds_toArray, List.set_cons_zero, List.set_cons_succ, i64_w, i32_w]
               rfl
              refine take_ (i := 6) (N := some 32) (v := ?_) (a' := ?_) #[true, true, true, true, true, true, true, false, false, false, false, false, false] rfl rfl (take_ofW HT_.out HW_.out (by kernel_rfl)) (fun _ _ _ h => h) (Or.inl ⟨by rfl, ?_⟩) hHeld ?_ ?_
              rotate_left
              ·rintro w' ⟨s0, s1, s2, s3, s4, s5, s6⟩
               go_simp
               with_reducible rfl
              rotate_left
              ·simp only [Act.put, List.setIfInBounds_toArray, List.set_cons_zero, List.set_cons_succ, i64_w, i32_w]
               rfl
              refine one_ (i := 7) (N := some 33) #[true, true, true, true, true, true, true, true, false, false, false, false, false] rfl rfl (one_of HT_.out (by kernel_rfl)) (by decide) (fun K hK => ?_)
              refine goes_ Tryd.func36 (by kernel_rfl) rfl #[.int .i64 x143002_2, .int .u8 (bt a0 x22_2)] (by rfl) rfl rfl (by (try simp only [List.map_toArray, List.map_cons, List.map_nil]); first | done | rfl | (simp only [List.length_drop, List.length_take]; rfl)) ?_
              with_reducible refine (automaton_Step.calls x143002_2 (bt a0 x22_2) t148 true _ ?side1 A38.out).mono ?_
              (case side1 => exact GlbLaid.below HG.out (by repeat (first | (with_reducible first | exact HB.out | apply wA | apply wN | apply wD | refine wS ?_ GE128.out | refine wS ?_ GE142.out) | exact HB.out)))
              rintro e w42 ⟨rfl, hb⟩
              refine ⟨_, rfl, ?_⟩
              have n0_ := Aside0.mk (Kd.R_below (by (with_reducible repeat (first | apply rA | apply rN | apply rD)); exact HO_143004.out) hb)
              have n1_ := Aside0.mk (Kd.R_below (by (with_reducible repeat (first | apply rA | apply rN | apply rD)); exact HO_143005.out) hb)
              have n2_ := Aside0.mk (Kd.R_below (by (with_reducible repeat (first | apply rA | apply rN | apply rD)); exact HO_143006.out) hb)
              have n3_ := Aside0.mk (blk_below (g := gb128) (o := .cells #[.int .i64 0, .int .i64 0, .int .i64 0, .int .i64 0, .slice none 0 0, .slice none 0 0, .slice none 0 0] 26 (0, 0)) (by (with_reducible repeat (first | refine bN ?_ _ | refine bD ?_ | refine bA ?_ _)); exact BK128.out) hb)
              have n4_ := Aside0.mk (blk_below (g := gb142) (o := .cells #[.int .i64 (a0.size : Int), .int .i64 x143001_2, .int .i64 x143002_2, .int .i64 x143003_2, u143004, u143005, u143006] 26 (0, 0)) (by (with_reducible repeat (first | refine bN ?_ _ | refine bD ?_ | refine bA ?_ _)); exact BK142.out) hb)
              have n5_ := Aside0.mk (below_step (by repeat (first | (with_reducible first | exact HB.out | apply wA | apply wN | apply wD | refine wS ?_ GE128.out | refine wS ?_ GE142.out) | exact HB.out)) hb)
              clear HO_143004
              clear HO_143005
              clear HO_143006
              clear BK128
              clear BK142
              clear HB
              have HO_143004 := n0_
              have HO_143005 := n1_
              have HO_143006 := n2_
              have BK128 := n3_
              have BK142 := n4_
              have HB := n5_
              clear n0_ n1_ n2_ n3_ n4_ n5_
              (try clear hb); (try clear hb2); (try clear hk); (try clear hi)
              refine hK.out _ _ ⟨(blk_cell BK142.out 0).trans rfl, (blk_cell BK142.out 1).trans rfl, (blk_cell BK142.out 2).trans rfl, (blk_cell BK142.out 3).trans rfl, (blk_cell BK142.out 4).trans rfl, (blk_cell BK142.out 5).trans rfl, (blk_cell BK142.out 6).trans rfl⟩ (fun hHeld => ?_)
              clear hK K
              refine norm_ (a' := ?_) ?_ ?_
              rotate_left
              ·show Act.put _ (some 33) _ = _
               simp only [Act.put, List.setIfInBounds_toArray, List.set_cons_zero, List.set_cons_succ, i64_w, i32_w]
               rfl
              refine pure_ (i := 8) (N := some 25) (v := ?_) (a' := ?_) #[true, true, true, true, true, true, true, true, true, false, false, false, false] rfl rfl (any_of HT_.out (by kernel_rfl)) (fun _ _ _ h => h) (Or.inl ⟨by rfl, ?_⟩) ?_ ?_
              rotate_left
              ·intro w'
               go_simp
               with_reducible rfl
              rotate_left
              ·simp only [Act.put, List.setIfInBounds_toArray, List.set_cons_zero, List.set_cons_succ, i64_w, i32_w]
               rfl
              refine pure_ (i := 9) (N := some 34) (v := ?_) (a' := ?_) #[true, true, true, true, true, true, true, true, true, true, false, false, false] rfl rfl (any_of HT_.out (by kernel_rfl)) (fun _ _ _ h => h) (Or.inl ⟨by rfl, ?_⟩) ?_ ?_
              rotate_left
              ·intro w'
               go_simp
               with_reducible rfl
              rotate_left
              ·simp only [Act.put, List.setIfInBounds_toArray, List.set_cons_zero, List.set_cons_succ, i64_w, i32_w]
               rfl
              refine pure_ (i := 10) (N := some 35) (v := ?_) (a' := ?_) #[true, true, true, true, true, true, true, true, true, true, true, false, false] rfl rfl (any_of HT_.out (by kernel_rfl)) (fun _ _ _ h => h) (Or.inl ⟨by rfl, ?_⟩) ?_ ?_
              rotate_left
              ·intro w'
               go_simp
               with_reducible rfl
              rotate_left
              ·simp only [Act.put, List.setIfInBounds_toArray, List.set_cons_zero, List.set_cons_succ, i64_w, i32_w]
               rfl
              refine pure_ (i := 11) (N := some 7) (v := ?_) (a' := ?_) #[true, true, true, true, true, true, true, true, true, true, true, true, false] rfl rfl (any_of HT_.out (by kernel_rfl)) (fun _ _ _ h => h) (Or.inl ⟨by rfl, ?_⟩) ?_ ?_
              rotate_left
              ·intro w'
               go_simp
               with_reducible rfl
              rotate_left
              ·simp only [Act.put, List.setIfInBounds_toArray, List.set_cons_zero, List.set_cons_succ, i64_w, i32_w]
               rfl
              refine pure_ (i := 12) (N := some 8) (v := ?_) (a' := ?_) #[true, true, true, true, true, true, true, true, true, true, true, true, true] rfl rfl (any_of HT_.out (by kernel_rfl)) (fun _ _ _ h => h) (Or.inl ⟨by rfl, ?_⟩) ?_ ?_
              rotate_left
              ·intro w'
               go_simp
               with_reducible rfl
              rotate_left
              ·simp only [Act.put, List.setIfInBounds_toArray, List.set_cons_zero, List.set_cons_succ, i64_w, i32_w]
               rfl
              refine done_ (done_of HT_.out (by kernel_rfl)) ?_
              have hnb43 := NB142_128.out; have hnc43 := NB128_142.out; have hcz44_0 : w42.cell? ⟨gb142, 0, none⟩ = some (.int .i64 (a0.size : Int)) := (blk_cell BK142.out 0).trans rfl; have hcz44_1 : w42.cell? ⟨gb142, 1, none⟩ = some (.int .i64 x143001_2) := (blk_cell BK142.out 1).trans rfl; have hcz44_2 : w42.cell? ⟨gb142, 2, none⟩ = some (.int .i64 x143002_2) := (blk_cell BK142.out 2).trans rfl; have hcz44_3 : w42.cell? ⟨gb142, 3, none⟩ = some (.int .i64 x143003_2) := (blk_cell BK142.out 3).trans rfl; have hcz44_4 : w42.cell? ⟨gb142, 4, none⟩ = some (u143004) := (blk_cell BK142.out 4).trans rfl; have hcz44_5 : w42.cell? ⟨gb142, 5, none⟩ = some (u143005) := (blk_cell BK142.out 5).trans rfl; have hcz44_6 : w42.cell? ⟨gb142, 6, none⟩ = some (u143006) := (blk_cell BK142.out 6).trans rfl; have hfz44_0 := blk_frozen BK142.out 0; have hfz44_1 := blk_frozen BK142.out 1; have hfz44_2 := blk_frozen BK142.out 2; have hfz44_3 := blk_frozen BK142.out 3; have hfz44_4 := blk_frozen BK142.out 4; have hfz44_5 := blk_frozen BK142.out 5; have hfz44_6 := blk_frozen BK142.out 6
              try go_wp2_with (first | ((with_reducible refine gate_builtin (b := .append) (xs := #[.tmp 41, .tmp 43]) rfl ?_); at_builtin; refine Kd.R_append (Kd.int .i64) (w0 := w) w.heap.size rfl (.tmp 41) (.tmp 43) 23 3 (.int .i64 0) 8 rfl Tryd.underlying23 info3 rfl (by decide) (by omega) u143005 x143005_2 x22_2 [.int .i64 x22_2] (fun k_ => some k_ ≠ (u143004 : Value).ownBlock ∧ some k_ ≠ (u143006 : Value).ownBlock) (fun _ => False) rfl rfl ?aP (fun _ hk => hk.elim) ?aF ?aO ?aB ?aS ?aL ?_; (case aP => exact rfl); (case aB => exact (by repeat (first | (with_reducible first | exact HB.out | apply wA | apply wN | apply wD | refine wS ?_ GE128.out | refine wS ?_ GE142.out) | exact HB.out))); (case aF => exact (fun k_ hk => ⟨Kd.fresh' (Kd.R_lt (by (with_reducible repeat (first | apply rA | apply rN | apply rD)); exact HO_143004.out)) k_ hk, Kd.fresh' (Kd.R_lt (by (with_reducible repeat (first | apply rA | apply rN | apply rD)); exact HO_143006.out)) k_ hk⟩)); (case aO => exact (by (with_reducible repeat (first | apply rA | apply rN | apply rD)); exact HO_143005.out)); (case aS => exact (below_size (by repeat (first | (with_reducible first | exact HB.out | apply wA | apply wN | apply wD | refine wS ?_ GE128.out | refine wS ?_ GE142.out) | exact HB.out)))); (case aL => have := LMc40.out; first | omega | exact Nat.le_of_lt this); intro v151 w45 ho hb hg hat; rw [← Ny150.out] at ho; have n0_ := Aside0.mk (Kd.R_after (ok := (fun k_ => some k_ ≠ (u143006 : Value).ownBlock)) (by (with_reducible repeat (first | apply rA | apply rN | apply rD)); exact Kd.R_mono HO_143004.out (fun _ hk => ⟨hk.2, hk.1⟩)) hg hat); have n1_ := Aside0.mk (Kd.R_after (ok := (fun k_ => some k_ ≠ (u143004 : Value).ownBlock)) (by (with_reducible repeat (first | apply rA | apply rN | apply rD)); exact HO_143006.out) hg hat); have n2_ := Aside0.mk (blk_grown (g := gb128) (o := .cells #[.int .i64 0, .int .i64 0, .int .i64 0, .int .i64 0, .slice none 0 0, .slice none 0 0, .slice none 0 0] 26 (0, 0)) (by (with_reducible repeat (first | refine bN ?_ _ | refine bD ?_ | refine bA ?_ _)); exact BK128.out) hg (Kd.R_ne HO_143005.out BK128.out (by decide))); have n3_ := Aside0.mk (blk_grown (g := gb142) (o := .cells #[.int .i64 (a0.size : Int), .int .i64 x143001_2, .int .i64 x143002_2, .int .i64 x143003_2, u143004, u143005, u143006] 26 (0, 0)) (by (with_reducible repeat (first | refine bN ?_ _ | refine bD ?_ | refine bA ?_ _)); exact BK142.out) hg (Kd.R_ne HO_143005.out BK142.out (by decide))); have n4_ := Aside0.mk (hb); have n5_ := Aside0.mk (ho); clear HO_143004; clear HO_143006; clear BK128; clear BK142; clear HB; clear HO_143005; have HO_143004 := n0_; have HO_143006 := n1_; have BK128 := n2_; have BK142 := n3_; have HB := n4_; have HO152 := n5_; clear n0_ n1_ n2_ n3_ n4_ n5_; clear ho hb hg hat; obtain ⟨Ao46, co46, eo46⟩ := Kd.R_slice HO152.out; subst eo46; have hcz47_0 : w45.cell? ⟨gb142, 0, none⟩ = some (.int .i64 (a0.size : Int)) := (blk_cell BK142.out 0).trans rfl; have hcz47_1 : w45.cell? ⟨gb142, 1, none⟩ = some (.int .i64 x143001_2) := (blk_cell BK142.out 1).trans rfl; have hcz47_2 : w45.cell? ⟨gb142, 2, none⟩ = some (.int .i64 x143002_2) := (blk_cell BK142.out 2).trans rfl; have hcz47_3 : w45.cell? ⟨gb142, 3, none⟩ = some (.int .i64 x143003_2) := (blk_cell BK142.out 3).trans rfl; have hcz47_4 : w45.cell? ⟨gb142, 4, none⟩ = some (u143004) := (blk_cell BK142.out 4).trans rfl; have hcz47_5 : w45.cell? ⟨gb142, 5, none⟩ = some (u143005) := (blk_cell BK142.out 5).trans rfl; have hcz47_6 : w45.cell? ⟨gb142, 6, none⟩ = some (u143006) := (blk_cell BK142.out 6).trans rfl; have hfz47_0 := blk_frozen BK142.out 0; have hfz47_1 := blk_frozen BK142.out 1; have hfz47_2 := blk_frozen BK142.out 2; have hfz47_3 := blk_frozen BK142.out 3; have hfz47_4 := blk_frozen BK142.out 4; have hfz47_5 := blk_frozen BK142.out 5; have hfz47_6 := blk_frozen BK142.out 6))
              go_roundg k2
              case measure => have := HK1.out; have := HK2.out; omega
              case rel => exact ⟨(wrap64 (x22_2 + 1)), (x143001_2), (t148), (x143003_2), (x143004_2), (y150), (x143006_2), (u143004), (.slice Ao46 y150.length co46), (u143006), (by first | rfl | (simp; done) | (simp [*]; done)), H', ⟨by have := HK1.out; have := HK2.out; omega⟩, ⟨by (with_reducible repeat (first | apply rA | apply rN | apply rD)); exact Kd.R_mono (Kd.R_far (p := ⟨gb142, 2, none⟩) (Kd.R_far (p := ⟨gb142, 5, none⟩) (Kd.R_types HO_143004.out BK142.out (by decide)) (fun _ hk => hk.2) (.slice Ao46 y150.length co46)) (fun _ hk => hk.2) (.int .i64 t148)) (fun _ hk => ⟨hk.1.2, hk.1.1⟩)⟩, ⟨by (with_reducible repeat (first | apply rA | apply rN | apply rD)); exact Kd.R_mono (Kd.R_far (p := ⟨gb142, 2, none⟩) (Kd.R_far (p := ⟨gb142, 5, none⟩) (Kd.R_types HO152.out BK142.out (by decide)) (fun _ hk => hk.2) (.slice Ao46 y150.length co46)) (fun _ hk => hk.2) (.int .i64 t148)) (fun _ hk => hk.1)⟩, ⟨by (with_reducible repeat (first | apply rA | apply rN | apply rD)); exact Kd.R_mono (Kd.R_far (p := ⟨gb142, 2, none⟩) (Kd.R_far (p := ⟨gb142, 5, none⟩) (Kd.R_types HO_143006.out BK142.out (by decide)) (fun _ hk => hk.2) (.slice Ao46 y150.length co46)) (fun _ hk => hk.2) (.int .i64 t148)) (fun _ hk => hk.1)⟩, ⟨by (with_reducible repeat (first | refine bN ?_ _ | refine bD ?_ | refine bA ?_ _ | refine blk_far ?_ NB128_142.out _)); exact BK128.out⟩, ⟨by (with_reducible repeat (first | refine bN ?_ _ | refine bD ?_ | refine bA ?_ _)); refine blk_put (cs := #[.int .i64 (a0.size : Int), .int .i64 x143001_2, .int .i64 x143002_2, .int .i64 x143003_2, u143004, .slice Ao46 y150.length co46, u143006]) ?_ 2 _ rfl; (with_reducible repeat (first | refine bN ?_ _ | refine bD ?_ | refine bA ?_ _)); refine blk_put (cs := #[.int .i64 (a0.size : Int), .int .i64 x143001_2, .int .i64 x143002_2, .int .i64 x143003_2, u143004, u143005, u143006]) ?_ 5 _ rfl; (with_reducible repeat (first | refine bN ?_ _ | refine bD ?_ | refine bA ?_ _)); exact BK142.out⟩, ⟨by repeat (first | (with_reducible first | exact HB.out | apply wA | apply wN | apply wD | refine wS ?_ GE128.out | refine wS ?_ GE142.out) | exact HB.out)⟩⟩
             ·rw [if_neg c40] at H
              exact absurd H (by simp)
            ·replace c39 := Bool.eq_false_iff.mpr c39
             subst c39
             have H1 : (automaton_Summarize.l1 k2 a0 1 1 (a0.size : Int) (wrap64 (x22_2 + 1)) (a0.size : Int) x143001_2 t148 x143003_2 x143004_2 x143005_2 x143006_2) = some (r1, r2, r3, r4, r5, r6, r7, r8) := by rw [if_neg (show ¬ (false = true) by decide)] at H; exact H
             clear H; have H := H1; clear H1
             have H' := Aside0.mk H
             clear H
             try go_wp2
             have n0_ := Aside0.mk (Kd.R_drew HO_143004.out)
             have n1_ := Aside0.mk (Kd.R_drew HO_143005.out)
             have n2_ := Aside0.mk (Kd.R_drew HO_143006.out)
             have n3_ := Aside0.mk (blk_drew BK128.out)
             have n4_ := Aside0.mk (blk_drew BK142.out)
             have n5_ := Aside0.mk (below_drew1 HB.out)
             clear HO_143004
             clear HO_143005
             clear HO_143006
             clear BK128
             clear BK142
             clear HB
             have HO_143004 := n0_
             have HO_143005 := n1_
             have HO_143006 := n2_
             have BK128 := n3_
             have BK142 := n4_
             have HB := n5_
             clear n0_ n1_ n2_ n3_ n4_ n5_
             have p37 : 0 ≤ (x22_2 : Int) := of_decide_eq_true (by first | (with_reducible assumption) | assumption)
             have q37 : x22_2 < (a0.size : Int) := of_decide_eq_true (by first | (with_reducible assumption) | assumption)
             have hx37 := bt_at a0 x22_2
             replace p37 := eq_true p37; replace q37 := eq_true q37
             refine start_ (n := 13) (S := fun w' => w'.cell? ⟨gb142, 0, none⟩ = some (.int .i64 (a0.size : Int)) ∧ w'.cell? ⟨gb142, 1, none⟩ = some (.int .i64 x143001_2) ∧ w'.cell? ⟨gb142, 2, none⟩ = some (.int .i64 x143002_2) ∧ w'.cell? ⟨gb142, 3, none⟩ = some (.int .i64 x143003_2) ∧ w'.cell? ⟨gb142, 4, none⟩ = some (u143004) ∧ w'.cell? ⟨gb142, 5, none⟩ = some (u143005) ∧ w'.cell? ⟨gb142, 6, none⟩ = some (u143006)) (ds := []) #[false, false, false, false, false, false, false, false, false, false, false, false, false] (by kernel_rfl) rfl rfl ⟨(blk_cell BK142.out 0).trans rfl, (blk_cell BK142.out 1).trans rfl, (blk_cell BK142.out 2).trans rfl, (blk_cell BK142.out 3).trans rfl, (blk_cell BK142.out 4).trans rfl, (blk_cell BK142.out 5).trans rfl, (blk_cell BK142.out 6).trans rfl⟩ (fun hHeld => ?_); refine with_tabW automaton_Summarize.tab11 automaton_Summarize.bits11 (fun HT_ HW_ => ?_)
             generalize wr.drew = w48 at HO_143004 HO_143005 HO_143006 BK128 BK142 HB hHeld ⊢
             refine pure_ (i := 0) (N := some 26) (v := ?_) (a' := ?_) #[true, false, false, false, false, false, false, false, false, false, false, false, false] rfl rfl (any_of HT_.out (by kernel_rfl)) (fun _ _ _ h => h) (Or.inl ⟨by rfl, ?_⟩) ?_ ?_
             rotate_left
             ·intro w'
              go_simp
              with_reducible rfl
             rotate_left
             ·simp only [Act.put, List.setIfInBounds_toArray, List.set_cons_zero, List.set_cons_succ, i64_w, i32_w]
              rfl
             refine pure_ (i := 1) (N := some 27) (v := ?_) (a' := ?_) #[true, true, false, false, false, false, false, false, false, false, false, false, false] rfl rfl (any_of HT_.out (by kernel_rfl)) (fun _ _ _ h => h) (Or.inl ⟨by rfl, ?_⟩) ?_ ?_
             rotate_left
             ·intro w'
              go_simp
              with_reducible rfl
             rotate_left
             ·simp only [Act.put, List.setIfInBounds_toArray, List.set_cons_zero, List.set_cons_succ, i64_w, i32_w]
              rfl
             refine pure_ (i := 2) (N := some 28) (v := ?_) (a' := ?_) #[true, true, true, false, false, false, false, false, false, false, false, false, false] rfl rfl (any_of HT_.out (by kernel_rfl)) (fun _ _ _ h => h) (Or.inl ⟨by rfl, ?_⟩) ?_ ?_
             rotate_left
             ·intro w'
              go_simp
              with_reducible rfl
             rotate_left
             ·simp only [Act.put, List.setIfInBounds_toArray, List.set_cons_zero, List.set_cons_succ, i64_w, i32_w]
              rfl
             refine pure_ (i := 4) (N := some 30) (v := ?_) (a' := ?_) #[true, true, true, false, true, false, false, false, false, false, false, false, false] rfl rfl (any_of HT_.out (by kernel_rfl)) (fun _ _ _ h => h) (Or.inl ⟨by rfl, ?_⟩) ?_ ?_
             rotate_left
             ·intro w'
              go_simp
              with_reducible rfl
             rotate_left
             ·simp only [Act.put, List.setIfInBounds_toArray, List.set_cons_zero, List.set_cons_succ, i64_w, i32_w]
              rfl
             refine pure_ (i := 5) (N := some 31) (v := ?_) (a' := ?_) #[true, true, true, false, true, true, false, false, false, false, false, false, false] rfl rfl (any_of HT_.out (by kernel_rfl)) (fun _ _ _ h => h) (Or.inl ⟨by rfl, ?_⟩) ?_ ?_
             rotate_left
             ·intro w'
              go_simp
              with_reducible rfl
             rotate_left
             ·simp only [Act.put, List.setIfInBounds_toArray, List.set_cons_zero, List.set_cons_succ, i64_w, i32_w]
              rfl
             refine take_ (i := 3) (N := some 29) (v := ?_) (a' := ?_) #[true, true, true, true, true, true, false, false, false, false, false, false, false] rfl rfl (take_ofW HT_.out HW_.out (by kernel_rfl)) (fun _ _ _ h => h) (Or.inl ⟨by rfl, ?_⟩) hHeld ?_ ?_
             rotate_left
             ·rintro w' ⟨s0, s1, s2, s3, s4, s5, s6⟩
              go_simp
              with_reducible rfl
             rotate_left
             ·simp only [Act.put, List.setIfInBounds_toArray, List.set_cons_zero, List.set_cons_succ, i64_w, i32_w]
              rfl
             refine take_ (i := 6) (N := some 32) (v := ?_) (a' := ?_) #[true, true, true, true, true, true, true, false, false, false, false, false, false] rfl rfl (take_ofW HT_.out HW_.out (by kernel_rfl)) (fun _ _ _ h => h) (Or.inl ⟨by rfl, ?_⟩) hHeld ?_ ?_
             rotate_left
             ·rintro w' ⟨s0, s1, s2, s3, s4, s5, s6⟩
              go_simp
              with_reducible rfl
             rotate_left
             ·simp only [Act.put, List.setIfInBounds_toArray, List.set_cons_zero, List.set_cons_succ, i64_w, i32_w]
              rfl
             refine one_ (i := 7) (N := some 33) #[true, true, true, true, true, true, true, true, false, false, false, false, false] rfl rfl (one_of HT_.out (by kernel_rfl)) (by decide) (fun K hK => ?_)
             refine goes_ Tryd.func36 (by kernel_rfl) rfl #[.int .i64 x143002_2, .int .u8 (bt a0 x22_2)] (by rfl) rfl rfl (by (try simp only [List.map_toArray, List.map_cons, List.map_nil]); first | done | rfl | (simp only [List.length_drop, List.length_take]; rfl)) ?_
             with_reducible refine (automaton_Step.calls x143002_2 (bt a0 x22_2) t148 false _ ?side1 A38.out).mono ?_
             (case side1 => exact GlbLaid.below HG.out (by repeat (first | (with_reducible first | exact HB.out | apply wA | apply wN | apply wD | refine wS ?_ GE128.out | refine wS ?_ GE142.out) | exact HB.out)))
             rintro e w49 ⟨rfl, hb⟩
             refine ⟨_, rfl, ?_⟩
             have n0_ := Aside0.mk (Kd.R_below (by (with_reducible repeat (first | apply rA | apply rN | apply rD)); exact HO_143004.out) hb)
             have n1_ := Aside0.mk (Kd.R_below (by (with_reducible repeat (first | apply rA | apply rN | apply rD)); exact HO_143005.out) hb)
             have n2_ := Aside0.mk (Kd.R_below (by (with_reducible repeat (first | apply rA | apply rN | apply rD)); exact HO_143006.out) hb)
             have n3_ := Aside0.mk (blk_below (g := gb128) (o := .cells #[.int .i64 0, .int .i64 0, .int .i64 0, .int .i64 0, .slice none 0 0, .slice none 0 0, .slice none 0 0] 26 (0, 0)) (by (with_reducible repeat (first | refine bN ?_ _ | refine bD ?_ | refine bA ?_ _)); exact BK128.out) hb)
             have n4_ := Aside0.mk (blk_below (g := gb142) (o := .cells #[.int .i64 (a0.size : Int), .int .i64 x143001_2, .int .i64 x143002_2, .int .i64 x143003_2, u143004, u143005, u143006] 26 (0, 0)) (by (with_reducible repeat (first | refine bN ?_ _ | refine bD ?_ | refine bA ?_ _)); exact BK142.out) hb)
             have n5_ := Aside0.mk (below_step (by repeat (first | (with_reducible first | exact HB.out | apply wA | apply wN | apply wD | refine wS ?_ GE128.out | refine wS ?_ GE142.out) | exact HB.out)) hb)
             clear HO_143004
             clear HO_143005
             clear HO_143006
             clear BK128
             clear BK142
             clear HB
             have HO_143004 := n0_
             have HO_143005 := n1_
             have HO_143006 := n2_
             have BK128 := n3_
             have BK142 := n4_
             have HB := n5_
             clear n0_ n1_ n2_ n3_ n4_ n5_
             (try clear hb); (try clear hb2); (try clear hk); (try clear hi)
             refine hK.out _ _ ⟨(blk_cell BK142.out 0).trans rfl, (blk_cell BK142.out 1).trans rfl, (blk_cell BK142.out 2).trans rfl, (blk_cell BK142.out 3).trans rfl, (blk_cell BK142.out 4).trans rfl, (blk_cell BK142.out 5).trans rfl, (blk_cell BK142.out 6).trans rfl⟩ (fun hHeld => ?_)
             clear hK K
             refine norm_ (a' := ?_) ?_ ?_
             rotate_left
             ·show Act.put _ (some 33) _ = _
              simp only [Act.put, List.setIfInBounds_toArray, List.set_cons_zero, List.set_cons_succ, i64_w, i32_w]
              rfl
             refine pure_ (i := 8) (N := some 25) (v := ?_) (a' := ?_) #[true, true, true, true, true, true, true, true, true, false, false, false, false] rfl rfl (any_of HT_.out (by kernel_rfl)) (fun _ _ _ h => h) (Or.inl ⟨by rfl, ?_⟩) ?_ ?_
             rotate_left
             ·intro w'
              go_simp
              with_reducible rfl
             rotate_left
             ·simp only [Act.put, List.setIfInBounds_toArray, List.set_cons_zero, List.set_cons_succ, i64_w, i32_w]
              rfl
             refine pure_ (i := 9) (N := some 34) (v := ?_) (a' := ?_) #[true, true, true, true, true, true, true, true, true, true, false, false, false] rfl rfl (any_of HT_.out (by kernel_rfl)) (fun _ _ _ h => h) (Or.inl ⟨by rfl, ?_⟩) ?_ ?_
             rotate_left
             ·intro w'
              go_simp
              with_reducible rfl
             rotate_left
             ·simp only [Act.put, List.setIfInBounds_toArray, List.set_cons_zero, List.set_cons_succ, i64_w, i32_w]
              rfl
             refine pure_ (i := 10) (N := some 35) (v := ?_) (a' := ?_) #[true, true, true, true, true, true, true, true, true, true, true, false, false] rfl rfl (any_of HT_.out (by kernel_rfl)) (fun _ _ _ h => h) (Or.inl ⟨by rfl, ?_⟩) ?_ ?_
             rotate_left
             ·intro w'
              go_simp
              with_reducible rfl
             rotate_left
             ·simp only [Act.put, List.setIfInBounds_toArray, List.set_cons_zero, List.set_cons_succ, i64_w, i32_w]
              rfl
             refine pure_ (i := 11) (N := some 7) (v := ?_) (a' := ?_) #[true, true, true, true, true, true, true, true, true, true, true, true, false] rfl rfl (any_of HT_.out (by kernel_rfl)) (fun _ _ _ h => h) (Or.inl ⟨by rfl, ?_⟩) ?_ ?_
             rotate_left
             ·intro w'
              go_simp
              with_reducible rfl
             rotate_left
             ·simp only [Act.put, List.setIfInBounds_toArray, List.set_cons_zero, List.set_cons_succ, i64_w, i32_w]
              rfl
             refine pure_ (i := 12) (N := some 8) (v := ?_) (a' := ?_) #[true, true, true, true, true, true, true, true, true, true, true, true, true] rfl rfl (any_of HT_.out (by kernel_rfl)) (fun _ _ _ h => h) (Or.inl ⟨by rfl, ?_⟩) ?_ ?_
             rotate_left
             ·intro w'
              go_simp
              with_reducible rfl
             rotate_left
             ·simp only [Act.put, List.setIfInBounds_toArray, List.set_cons_zero, List.set_cons_succ, i64_w, i32_w]
              rfl
             refine done_ (done_of HT_.out (by kernel_rfl)) ?_
             have hnb50 := NB142_128.out; have hnc50 := NB128_142.out; have hcz51_0 : w49.cell? ⟨gb142, 0, none⟩ = some (.int .i64 (a0.size : Int)) := (blk_cell BK142.out 0).trans rfl; have hcz51_1 : w49.cell? ⟨gb142, 1, none⟩ = some (.int .i64 x143001_2) := (blk_cell BK142.out 1).trans rfl; have hcz51_2 : w49.cell? ⟨gb142, 2, none⟩ = some (.int .i64 x143002_2) := (blk_cell BK142.out 2).trans rfl; have hcz51_3 : w49.cell? ⟨gb142, 3, none⟩ = some (.int .i64 x143003_2) := (blk_cell BK142.out 3).trans rfl; have hcz51_4 : w49.cell? ⟨gb142, 4, none⟩ = some (u143004) := (blk_cell BK142.out 4).trans rfl; have hcz51_5 : w49.cell? ⟨gb142, 5, none⟩ = some (u143005) := (blk_cell BK142.out 5).trans rfl; have hcz51_6 : w49.cell? ⟨gb142, 6, none⟩ = some (u143006) := (blk_cell BK142.out 6).trans rfl; have hfz51_0 := blk_frozen BK142.out 0; have hfz51_1 := blk_frozen BK142.out 1; have hfz51_2 := blk_frozen BK142.out 2; have hfz51_3 := blk_frozen BK142.out 3; have hfz51_4 := blk_frozen BK142.out 4; have hfz51_5 := blk_frozen BK142.out 5; have hfz51_6 := blk_frozen BK142.out 6
             try go_wp2
             go_roundg k2
             case measure => have := HK1.out; have := HK2.out; omega
             case rel => exact ⟨(wrap64 (x22_2 + 1)), (x143001_2), (t148), (x143003_2), (x143004_2), (x143005_2), (x143006_2), (u143004), (u143005), (u143006), (by first | rfl | (simp; done) | (simp [*]; done)), H', ⟨by have := HK1.out; have := HK2.out; omega⟩, ⟨by (with_reducible repeat (first | apply rA | apply rN | apply rD)); exact Kd.R_mono (Kd.R_far (p := ⟨gb142, 2, none⟩) (Kd.R_types HO_143004.out BK142.out (by decide)) (fun _ hk => hk.2) (.int .i64 t148)) (fun _ hk => hk.1)⟩, ⟨by (with_reducible repeat (first | apply rA | apply rN | apply rD)); exact Kd.R_mono (Kd.R_far (p := ⟨gb142, 2, none⟩) (Kd.R_types HO_143005.out BK142.out (by decide)) (fun _ hk => hk.2) (.int .i64 t148)) (fun _ hk => hk.1)⟩, ⟨by (with_reducible repeat (first | apply rA | apply rN | apply rD)); exact Kd.R_mono (Kd.R_far (p := ⟨gb142, 2, none⟩) (Kd.R_types HO_143006.out BK142.out (by decide)) (fun _ hk => hk.2) (.int .i64 t148)) (fun _ hk => hk.1)⟩, ⟨by (with_reducible repeat (first | refine bN ?_ _ | refine bD ?_ | refine bA ?_ _ | refine blk_far ?_ NB128_142.out _)); exact BK128.out⟩, ⟨by (with_reducible repeat (first | refine bN ?_ _ | refine bD ?_ | refine bA ?_ _)); refine blk_put (cs := #[.int .i64 (a0.size : Int), .int .i64 x143001_2, .int .i64 x143002_2, .int .i64 x143003_2, u143004, u143005, u143006]) ?_ 2 _ rfl; (with_reducible repeat (first | refine bN ?_ _ | refine bD ?_ | refine bA ?_ _)); exact BK142.out⟩, ⟨by repeat (first | (with_reducible first | exact HB.out | apply wA | apply wN | apply wD | refine wS ?_ GE128.out | refine wS ?_ GE142.out) | exact HB.out)⟩⟩
           ·rw [if_neg c36] at H
            exact absurd H (by simp)
          ·rw [if_neg c35] at H
           exact absurd H (by simp)
         ·rw [if_neg c34] at H
          by_cases c52 : x17_1 = 2
          ·subst c52
           have H1 : (if 0 ≤ x22_2 then (if x22_2 < (a0.size : Int) then ((automaton_Step.f x143003_2 (bt a0 x22_2)).bind fun bt153 => (if bt153.2 = true then (if x143006_2.length < 17592186044416 then (automaton_Summarize.l1 k2 a0 2 2 (a0.size : Int) (wrap64 (x22_2 + 1)) (a0.size : Int) x143001_2 x143002_2 bt153.1 x143004_2 x143005_2 (x143006_2 ++ [x22_2])) else (none)) else (automaton_Summarize.l1 k2 a0 2 2 (a0.size : Int) (wrap64 (x22_2 + 1)) (a0.size : Int) x143001_2 x143002_2 bt153.1 x143004_2 x143005_2 x143006_2))) else (none)) else (none)) = some (r1, r2, r3, r4, r5, r6, r7, r8) := by rw [if_pos rfl] at H; exact H
           clear H; have H := H1; clear H1
           by_cases c53 : 0 ≤ x22_2
           ·rw [if_pos c53] at H
            have c53b0 : decide (0 ≤ x22_2) = true := decide_eq_true c53
            clear c53
            by_cases c54 : x22_2 < (a0.size : Int)
            ·rw [if_pos c54] at H
             have c54b0 : decide (x22_2 < (a0.size : Int)) = true := decide_eq_true c54
             clear c54
             replace H := Option.bind_eq_some_iff.mp H
             obtain ⟨⟨t153, t154⟩, A560, H⟩ := H
             replace H : (if t154 = true then (if x143006_2.length < 17592186044416 then (automaton_Summarize.l1 k2 a0 2 2 (a0.size : Int) (wrap64 (x22_2 + 1)) (a0.size : Int) x143001_2 x143002_2 t153 x143004_2 x143005_2 (x143006_2 ++ [x22_2])) else (none)) else (automaton_Summarize.l1 k2 a0 2 2 (a0.size : Int) (wrap64 (x22_2 + 1)) (a0.size : Int) x143001_2 x143002_2 t153 x143004_2 x143005_2 x143006_2)) = some (r1, r2, r3, r4, r5, r6, r7, r8) := H
             have A56 := Aside0.mk A560
             clear A560
             by_cases c57 : t154 = true
             ·subst c57
              have H1 : (if x143006_2.length < 17592186044416 then (automaton_Summarize.l1 k2 a0 2 2 (a0.size : Int) (wrap64 (x22_2 + 1)) (a0.size : Int) x143001_2 x143002_2 t153 x143004_2 x143005_2 (x143006_2 ++ [x22_2])) else (none)) = some (r1, r2, r3, r4, r5, r6, r7, r8) := by rw [if_pos rfl] at H; exact H
              clear H; have H := H1; clear H1
              by_cases c58 : x143006_2.length < 17592186044416
              ·rw [if_pos c58] at H
               have LMc58 := Aside0.mk c58
               clear c58
               obtain ⟨y155, hy155⟩ : ∃ y_ : List Int, y_ = (x143006_2 ++ [x22_2]) := ⟨_, rfl⟩
               replace H : (automaton_Summarize.l1 k2 a0 2 2 (a0.size : Int) (wrap64 (x22_2 + 1)) (a0.size : Int) x143001_2 x143002_2 t153 x143004_2 x143005_2 y155) = some (r1, r2, r3, r4, r5, r6, r7, r8) := by first | (rw [hy155]; with_reducible exact H) | (have H2_ := (Option.bind_some _ _).symm.trans H; rw [hy155]; with_reducible exact H2_) | (have H2_ := (Option.bind_some _ _).symm.trans H; with_reducible exact H2_) | with_reducible exact H | (rw [hy155]; exact H) | exact H
               have Ny155 := Aside0.mk hy155
               clear hy155
               have H' := Aside0.mk H
               clear H
               try go_wp2
               have n0_ := Aside0.mk (Kd.R_drew HO_143004.out)
               have n1_ := Aside0.mk (Kd.R_drew HO_143005.out)
               have n2_ := Aside0.mk (Kd.R_drew HO_143006.out)
               have n3_ := Aside0.mk (blk_drew BK128.out)
               have n4_ := Aside0.mk (blk_drew BK142.out)
               have n5_ := Aside0.mk (below_drew1 HB.out)
               clear HO_143004
               clear HO_143005
               clear HO_143006
               clear BK128
               clear BK142
               clear HB
               have HO_143004 := n0_
               have HO_143005 := n1_
               have HO_143006 := n2_
               have BK128 := n3_
               have BK142 := n4_
               have HB := n5_
               clear n0_ n1_ n2_ n3_ n4_ n5_
               have p55 : 0 ≤ (x22_2 : Int) := of_decide_eq_true (by first | (with_reducible assumption) | assumption)
               have q55 : x22_2 < (a0.size : Int) := of_decide_eq_true (by first | (with_reducible assumption) | assumption)
               have hx55 := bt_at a0 x22_2
               replace p55 := eq_true p55; replace q55 := eq_true q55
               refine start_ (n := 13) (S := fun w' => w'.cell? ⟨gb142, 0, none⟩ = some (.int .i64 (a0.size : Int)) ∧ w'.cell? ⟨gb142, 1, none⟩ = some (.int .i64 x143001_2) ∧ w'.cell? ⟨gb142, 2, none⟩ = some (.int .i64 x143002_2) ∧ w'.cell? ⟨gb142, 3, none⟩ = some (.int .i64 x143003_2) ∧ w'.cell? ⟨gb142, 4, none⟩ = some (u143004) ∧ w'.cell? ⟨gb142, 5, none⟩ = some (u143005) ∧ w'.cell? ⟨gb142, 6, none⟩ = some (u143006)) (ds := []) #[false, false, false, false, false, false, false, false, false, false, false, false, false] (by kernel_rfl) rfl rfl ⟨(blk_cell BK142.out 0).trans rfl, (blk_cell BK142.out 1).trans rfl, (blk_cell BK142.out 2).trans rfl, (blk_cell BK142.out 3).trans rfl, (blk_cell BK142.out 4).trans rfl, (blk_cell BK142.out 5).trans rfl, (blk_cell BK142.out 6).trans rfl⟩ (fun hHeld => ?_); refine with_tabW automaton_Summarize.tab11 automaton_Summarize.bits11 (fun HT_ HW_ => ?_)
               generalize wr.drew = w59 at HO_143004 HO_143005 HO_143006 BK128 BK142 HB hHeld ⊢
               refine pure_ (i := 0) (N := some 26) (v := ?_) (a' := ?_) #[true, false, false, false, false, false, false, false, false, false, false, false, false] rfl rfl (any_of HT_.out (by kernel_rfl)) (fun _ _ _ h => h) (Or.inl ⟨by rfl, ?_⟩) ?_ ?_
               rotate_left
               ·intro w'
                go_simp
                with_reducible rfl
               rotate_left
               ·simp only [Act.put, List.setIfInBounds_toArray, List.set_cons_zero, List.set_cons_succ, i64_w, i32_w]
                rfl
               refine pure_ (i := 1) (N := some 27) (v := ?_) (a' := ?_) #[true, true, false, false, false, false, false, false, false, false, false, false, false] rfl rfl (any_of HT_.out (by kernel_rfl)) (fun _ _ _ h => h) (Or.inl ⟨by rfl, ?_⟩) ?_ ?_
               rotate_left
               ·intro w'
                go_simp
                with_reducible rfl
               rotate_left
               ·simp only [Act.put, List.setIfInBounds_toArray, List.set_cons_zero, List.set_cons_succ, i64_w, i32_w]
                rfl
               refine pure_ (i := 2) (N := some 28) (v := ?_) (a' := ?_) #[true, true, true, false, false, false, false, false, false, false, false, false, false] rfl rfl (any_of HT_.out (by kernel_rfl)) (fun _ _ _ h => h) (Or.inl ⟨by rfl, ?_⟩) ?_ ?_
               rotate_left
               ·intro w'
                go_simp
                with_reducible rfl
               rotate_left
               ·simp only [Act.put, List.setIfInBounds_toArray, List.set_cons_zero, List.set_cons_succ, i64_w, i32_w]
                rfl
               refine pure_ (i := 4) (N := some 30) (v := ?_) (a' := ?_) #[true, true, true, false, true, false, false, false, false, false, false, false, false] rfl rfl (any_of HT_.out (by kernel_rfl)) (fun _ _ _ h => h) (Or.inl ⟨by rfl, ?_⟩) ?_ ?_
               rotate_left
               ·intro w'
                go_simp
                with_reducible rfl
               rotate_left
               ·simp only [Act.put, List.setIfInBounds_toArray, List.set_cons_zero, List.set_cons_succ, i64_w, i32_w]
                rfl
               refine pure_ (i := 5) (N := some 31) (v := ?_) (a' := ?_) #[true, true, true, false, true, true, false, false, false, false, false, false, false] rfl rfl (any_of HT_.out (by kernel_rfl)) (fun _ _ _ h => h) (Or.inl ⟨by rfl, ?_⟩) ?_ ?_
               rotate_left
               ·intro w'
                go_simp
                with_reducible rfl
               rotate_left
               ·simp only [Act.put, List.setIfInBounds_toArray, List.set_cons_zero, List.set_cons_succ, i64_w, i32_w]
                rfl
               refine take_ (i := 3) (N := some 29) (v := ?_) (a' := ?_) #[true, true, true, true, true, true, false, false, false, false, false, false, false] rfl rfl (take_ofW HT_.out HW_.out (by kernel_rfl)) (fun _ _ _ h => h) (Or.inl ⟨by rfl, ?_⟩) hHeld ?_ ?_
               rotate_left
               ·rintro w' ⟨s0, s1, s2, s3, s4, s5, s6⟩
                go_simp
                with_reducible rfl
               rotate_left
               ·simp only [Act.put, List.setIfInBounds_toArray, List.set_cons_zero, List.set_cons_succ, i64_w, i32_w]
                rfl
               refine take_ (i := 6) (N := some 32) (v := ?_) (a' := ?_) #[true, true, true, true, true, true, true, false, false, false, false, false, false] rfl rfl (take_ofW HT_.out HW_.out (by kernel_rfl)) (fun _ _ _ h => h) (Or.inl ⟨by rfl, ?_⟩) hHeld ?_ ?_
               rotate_left
               ·rintro w' ⟨s0, s1, s2, s3, s4, s5, s6⟩
                go_simp
                with_reducible rfl
               rotate_left
               ·simp only [Act.put, List.setIfInBounds_toArray, List.set_cons_zero, List.set_cons_succ, i64_w, i32_w]
                rfl
               refine one_ (i := 7) (N := some 33) #[true, true, true, true, true, true, true, true, false, false, false, false, false] rfl rfl (one_of HT_.out (by kernel_rfl)) (by decide) (fun K hK => ?_)
               refine goes_ Tryd.func36 (by kernel_rfl) rfl #[.int .i64 x143003_2, .int .u8 (bt a0 x22_2)] (by rfl) rfl rfl (by (try simp only [List.map_toArray, List.map_cons, List.map_nil]); first | done | rfl | (simp only [List.length_drop, List.length_take]; rfl)) ?_
               with_reducible refine (automaton_Step.calls x143003_2 (bt a0 x22_2) t153 true _ ?side1 A56.out).mono ?_
               (case side1 => exact GlbLaid.below HG.out (by repeat (first | (with_reducible first | exact HB.out | apply wA | apply wN | apply wD | refine wS ?_ GE128.out | refine wS ?_ GE142.out) | exact HB.out)))
               rintro e w60 ⟨rfl, hb⟩
               refine ⟨_, rfl, ?_⟩
               have n0_ := Aside0.mk (Kd.R_below (by (with_reducible repeat (first | apply rA | apply rN | apply rD)); exact HO_143004.out) hb)
               have n1_ := Aside0.mk (Kd.R_below (by (with_reducible repeat (first | apply rA | apply rN | apply rD)); exact HO_143005.out) hb)
               have n2_ := Aside0.mk (Kd.R_below (by (with_reducible repeat (first | apply rA | apply rN | apply rD)); exact HO_143006.out) hb)
               have n3_ := Aside0.mk (blk_below (g := gb128) (o := .cells #[.int .i64 0, .int .i64 0, .int .i64 0, .int .i64 0, .slice none 0 0, .slice none 0 0, .slice none 0 0] 26 (0, 0)) (by (with_reducible repeat (first | refine bN ?_ _ | refine bD ?_ | refine bA ?_ _)); exact BK128.out) hb)
               have n4_ := Aside0.mk (blk_below (g := gb142) (o := .cells #[.int .i64 (a0.size : Int), .int .i64 x143001_2, .int .i64 x143002_2, .int .i64 x143003_2, u143004, u143005, u143006] 26 (0, 0)) (by (with_reducible repeat (first | refine bN ?_ _ | refine bD ?_ | refine bA ?_ _)); exact BK142.out) hb)
               have n5_ := Aside0.mk (below_step (by repeat (first | (with_reducible first | exact HB.out | apply wA | apply wN | apply wD | refine wS ?_ GE128.out | refine wS ?_ GE142.out) | exact HB.out)) hb)
               clear HO_143004
               clear HO_143005
               clear HO_143006
               clear BK128
               clear BK142
               clear HB
               have HO_143004 := n0_
               have HO_143005 := n1_
               have HO_143006 := n2_
               have BK128 := n3_
               have BK142 := n4_
               have HB := n5_
               clear n0_ n1_ n2_ n3_ n4_ n5_
               (try clear hb); (try clear hb2); (try clear hk); (try clear hi)
               refine hK.out _ _ ⟨(blk_cell BK142.out 0).trans rfl, (blk_cell BK142.out 1).trans rfl, (blk_cell BK142.out 2).trans rfl, (blk_cell BK142.out 3).trans rfl, (blk_cell BK142.out 4).trans rfl, (blk_cell BK142.out 5).trans rfl, (blk_cell BK142.out 6).trans rfl⟩ (fun hHeld => ?_)
               clear hK K
               refine norm_ (a' := ?_) ?_ ?_
               rotate_left
               ·show Act.put _ (some 33) _ = _
                simp only [Act.put, List.setIfInBounds_toArray, List.set_cons_zero, List.set_cons_succ, i64_w, i32_w]
                rfl
               refine pure_ (i := 8) (N := some 25) (v := ?_) (a' := ?_) #[true, true, true, true, true, true, true, true, true, false, false, false, false] rfl rfl (any_of HT_.out (by kernel_rfl)) (fun _ _ _ h => h) (Or.inl ⟨by rfl, ?_⟩) ?_ ?_
               rotate_left
               ·intro w'
                go_simp
                with_reducible rfl
               rotate_left
               ·simp only [Act.put, List.setIfInBounds_toArray, List.set_cons_zero, List.set_cons_succ, i64_w, i32_w]
                rfl
               refine pure_ (i := 9) (N := some 34) (v := ?_) (a' := ?_) #[true, true, true, true, true, true, true, true, true, true, false, false, false] rfl rfl (any_of HT_.out (by kernel_rfl)) (fun _ _ _ h => h) (Or.inl ⟨by rfl, ?_⟩) ?_ ?_
               rotate_left
               ·intro w'
                go_simp
                with_reducible rfl
               rotate_left
               ·simp only [Act.put, List.setIfInBounds_toArray, List.set_cons_zero, List.set_cons_succ, i64_w, i32_w]
                rfl
               refine pure_ (i := 10) (N := some 35) (v := ?_) (a' := ?_) #[true, true, true, true, true, true, true, true, true, true, true, false, false] rfl rfl (any_of HT_.out (by kernel_rfl)) (fun _ _ _ h => h) (Or.inl ⟨by rfl, ?_⟩) ?_ ?_
               rotate_left
               ·intro w'
                go_simp
                with_reducible rfl
               rotate_left
               ·simp only [Act.put, List.setIfInBounds_toArray, List.set_cons_zero, List.set_cons_succ, i64_w, i32_w]
                rfl
               refine pure_ (i := 11) (N := some 7) (v := ?_) (a' := ?_) #[true, true, true, true, true, true, true, true, true, true, true, true, false] rfl rfl (any_of HT_.out (by kernel_rfl)) (fun _ _ _ h => h) (Or.inl ⟨by rfl, ?_⟩) ?_ ?_
               rotate_left
               ·intro w'
                go_simp
                with_reducible rfl
               rotate_left
               ·simp only [Act.put, List.setIfInBounds_toArray, List.set_cons_zero, List.set_cons_succ, i64_w, i32_w]
                rfl
               refine pure_ (i := 12) (N := some 8) (v := ?_) (a' := ?_) #[true, true, true, true, true, true, true, true, true, true, true, true, true] rfl rfl (any_of HT_.out (by kernel_rfl)) (fun _ _ _ h => h) (Or.inl ⟨by rfl, ?_⟩) ?_ ?_
               rotate_left
               ·intro w'
                go_simp
                with_reducible rfl
               rotate_left
               ·simp only [Act.put, List.setIfInBounds_toArray, List.set_cons_zero, List.set_cons_succ, i64_w, i32_w]
                rfl
               refine done_ (done_of HT_.out (by kernel_rfl)) ?_
               have hnb61 := NB142_128.out; have hnc61 := NB128_142.out; have hcz62_0 : w60.cell? ⟨gb142, 0, none⟩ = some (.int .i64 (a0.size : Int)) := (blk_cell BK142.out 0).trans rfl; have hcz62_1 : w60.cell? ⟨gb142, 1, none⟩ = some (.int .i64 x143001_2) := (blk_cell BK142.out 1).trans rfl; have hcz62_2 : w60.cell? ⟨gb142, 2, none⟩ = some (.int .i64 x143002_2) := (blk_cell BK142.out 2).trans rfl; have hcz62_3 : w60.cell? ⟨gb142, 3, none⟩ = some (.int .i64 x143003_2) := (blk_cell BK142.out 3).trans rfl; have hcz62_4 : w60.cell? ⟨gb142, 4, none⟩ = some (u143004) := (blk_cell BK142.out 4).trans rfl; have hcz62_5 : w60.cell? ⟨gb142, 5, none⟩ = some (u143005) := (blk_cell BK142.out 5).trans rfl; have hcz62_6 : w60.cell? ⟨gb142, 6, none⟩ = some (u143006) := (blk_cell BK142.out 6).trans rfl; have hfz62_0 := blk_frozen BK142.out 0; have hfz62_1 := blk_frozen BK142.out 1; have hfz62_2 := blk_frozen BK142.out 2; have hfz62_3 := blk_frozen BK142.out 3; have hfz62_4 := blk_frozen BK142.out 4; have hfz62_5 := blk_frozen BK142.out 5; have hfz62_6 := blk_frozen BK142.out 6
               try go_wp2_with (first | ((with_reducible refine gate_builtin (b := .append) (xs := #[.tmp 41, .tmp 43]) rfl ?_); at_builtin; refine Kd.R_append (Kd.int .i64) (w0 := w) w.heap.size rfl (.tmp 41) (.tmp 43) 23 3 (.int .i64 0) 8 rfl Tryd.underlying23 info3 rfl (by decide) (by omega) u143006 x143006_2 x22_2 [.int .i64 x22_2] (fun k_ => some k_ ≠ (u143004 : Value).ownBlock ∧ some k_ ≠ (u143005 : Value).ownBlock) (fun _ => False) rfl rfl ?aP (fun _ hk => hk.elim) ?aF ?aO ?aB ?aS ?aL ?_; (case aP => exact rfl); (case aB => exact (by repeat (first | (with_reducible first | exact HB.out | apply wA | apply wN | apply wD | refine wS ?_ GE128.out | refine wS ?_ GE142.out) | exact HB.out))); (case aF => exact (fun k_ hk => ⟨Kd.fresh' (Kd.R_lt (by (with_reducible repeat (first | apply rA | apply rN | apply rD)); exact HO_143004.out)) k_ hk, Kd.fresh' (Kd.R_lt (by (with_reducible repeat (first | apply rA | apply rN | apply rD)); exact HO_143005.out)) k_ hk⟩)); (case aO => exact (by (with_reducible repeat (first | apply rA | apply rN | apply rD)); exact HO_143006.out)); (case aS => exact (below_size (by repeat (first | (with_reducible first | exact HB.out | apply wA | apply wN | apply wD | refine wS ?_ GE128.out | refine wS ?_ GE142.out) | exact HB.out)))); (case aL => have := LMc58.out; first | omega | exact Nat.le_of_lt this); intro v156 w63 ho hb hg hat; rw [← Ny155.out] at ho; have n0_ := Aside0.mk (Kd.R_after (ok := (fun k_ => some k_ ≠ (u143005 : Value).ownBlock)) (by (with_reducible repeat (first | apply rA | apply rN | apply rD)); exact HO_143004.out) hg hat); have n1_ := Aside0.mk (Kd.R_after (ok := (fun k_ => some k_ ≠ (u143004 : Value).ownBlock)) (by (with_reducible repeat (first | apply rA | apply rN | apply rD)); exact HO_143005.out) hg hat); have n2_ := Aside0.mk (blk_grown (g := gb128) (o := .cells #[.int .i64 0, .int .i64 0, .int .i64 0, .int .i64 0, .slice none 0 0, .slice none 0 0, .slice none 0 0] 26 (0, 0)) (by (with_reducible repeat (first | refine bN ?_ _ | refine bD ?_ | refine bA ?_ _)); exact BK128.out) hg (Kd.R_ne HO_143006.out BK128.out (by decide))); have n3_ := Aside0.mk (blk_grown (g := gb142) (o := .cells #[.int .i64 (a0.size : Int), .int .i64 x143001_2, .int .i64 x143002_2, .int .i64 x143003_2, u143004, u143005, u143006] 26 (0, 0)) (by (with_reducible repeat (first | refine bN ?_ _ | refine bD ?_ | refine bA ?_ _)); exact BK142.out) hg (Kd.R_ne HO_143006.out BK142.out (by decide))); have n4_ := Aside0.mk (hb); have n5_ := Aside0.mk (ho); clear HO_143004; clear HO_143005; clear BK128; clear BK142; clear HB; clear HO_143006; have HO_143004 := n0_; have HO_143005 := n1_; have BK128 := n2_; have BK142 := n3_; have HB := n4_; have HO157 := n5_; clear n0_ n1_ n2_ n3_ n4_ n5_; clear ho hb hg hat; obtain ⟨Ao64, co64, eo64⟩ := Kd.R_slice HO157.out; subst eo64; have hcz65_0 : w63.cell? ⟨gb142, 0, none⟩ = some (.int .i64 (a0.size : Int)) := (blk_cell BK142.out 0).trans rfl; have hcz65_1 : w63.cell? ⟨gb142, 1, none⟩ = some (.int .i64 x143001_2) := (blk_cell BK142.out 1).trans rfl; have hcz65_2 : w63.cell? ⟨gb142, 2, none⟩ = some (.int .i64 x143002_2) := (blk_cell BK142.out 2).trans rfl; have hcz65_3 : w63.cell? ⟨gb142, 3, none⟩ = some (.int .i64 x143003_2) := (blk_cell BK142.out 3).trans rfl; have hcz65_4 : w63.cell? ⟨gb142, 4, none⟩ = some (u143004) := (blk_cell BK142.out 4).trans rfl; have hcz65_5 : w63.cell? ⟨gb142, 5, none⟩ = some (u143005) := (blk_cell BK142.out 5).trans rfl; have hcz65_6 : w63.cell? ⟨gb142, 6, none⟩ = some (u143006) := (blk_cell BK142.out 6).trans rfl; have hfz65_0 := blk_frozen BK142.out 0; have hfz65_1 := blk_frozen BK142.out 1; have hfz65_2 := blk_frozen BK142.out 2; have hfz65_3 := blk_frozen BK142.out 3; have hfz65_4 := blk_frozen BK142.out 4; have hfz65_5 := blk_frozen BK142.out 5; have hfz65_6 := blk_frozen BK142.out 6))
               go_roundg k2
               case measure => have := HK1.out; have := HK2.out; omega
               case rel => exact ⟨(wrap64 (x22_2 + 1)), (x143001_2), (x143002_2), (t153), (x143004_2), (x143005_2), (y155), (u143004), (u143005), (.slice Ao64 y155.length co64), (by first | rfl | (simp; done) | (simp [*]; done)), H', ⟨by have := HK1.out; have := HK2.out; omega⟩, ⟨by (with_reducible repeat (first | apply rA | apply rN | apply rD)); exact Kd.R_mono (Kd.R_far (p := ⟨gb142, 3, none⟩) (Kd.R_far (p := ⟨gb142, 6, none⟩) (Kd.R_types HO_143004.out BK142.out (by decide)) (fun _ hk => hk.2) (.slice Ao64 y155.length co64)) (fun _ hk => hk.2) (.int .i64 t153)) (fun _ hk => hk.1)⟩, ⟨by (with_reducible repeat (first | apply rA | apply rN | apply rD)); exact Kd.R_mono (Kd.R_far (p := ⟨gb142, 3, none⟩) (Kd.R_far (p := ⟨gb142, 6, none⟩) (Kd.R_types HO_143005.out BK142.out (by decide)) (fun _ hk => hk.2) (.slice Ao64 y155.length co64)) (fun _ hk => hk.2) (.int .i64 t153)) (fun _ hk => hk.1)⟩, ⟨by (with_reducible repeat (first | apply rA | apply rN | apply rD)); exact Kd.R_mono (Kd.R_far (p := ⟨gb142, 3, none⟩) (Kd.R_far (p := ⟨gb142, 6, none⟩) (Kd.R_types HO157.out BK142.out (by decide)) (fun _ hk => hk.2) (.slice Ao64 y155.length co64)) (fun _ hk => hk.2) (.int .i64 t153)) (fun _ hk => hk.1)⟩, ⟨by (with_reducible repeat (first | refine bN ?_ _ | refine bD ?_ | refine bA ?_ _ | refine blk_far ?_ NB128_142.out _)); exact BK128.out⟩, ⟨by (with_reducible repeat (first | refine bN ?_ _ | refine bD ?_ | refine bA ?_ _)); refine blk_put (cs := #[.int .i64 (a0.size : Int), .int .i64 x143001_2, .int .i64 x143002_2, .int .i64 x143003_2, u143004, u143005, .slice Ao64 y155.length co64]) ?_ 3 _ rfl; (with_reducible repeat (first | refine bN ?_ _ | refine bD ?_ | refine bA ?_ _)); refine blk_put (cs := #[.int .i64 (a0.size : Int), .int .i64 x143001_2, .int .i64 x143002_2, .int .i64 x143003_2, u143004, u143005, u143006]) ?_ 6 _ rfl; (with_reducible repeat (first | refine bN ?_ _ | refine bD ?_ | refine bA ?_ _)); exact BK142.out⟩, ⟨by repeat (first | (with_reducible first | exact HB.out | apply wA | apply wN | apply wD | refine wS ?_ GE128.out | refine wS ?_ GE142.out) | exact HB.out)⟩⟩
              ·rw [if_neg c58] at H
               exact absurd H (by simp)
             ·replace c57 := Bool.eq_false_iff.mpr c57
              subst c57
              have H1 : (automaton_Summarize.l1 k2 a0 2 2 (a0.size : Int) (wrap64 (x22_2 + 1)) (a0.size : Int) x143001_2 x143002_2 t153 x143004_2 x143005_2 x143006_2) = some (r1, r2, r3, r4, r5, r6, r7, r8) := by rw [if_neg (show ¬ (false = true) by decide)] at H; exact H
              clear H; have H := H1; clear H1
              have H' := Aside0.mk H
              clear H
              try go_wp2
              have n0_ := Aside0.mk (Kd.R_drew HO_143004.out)
              have n1_ := Aside0.mk (Kd.R_drew HO_143005.out)
              have n2_ := Aside0.mk (Kd.R_drew HO_143006.out)
              have n3_ := Aside0.mk (blk_drew BK128.out)
              have n4_ := Aside0.mk (blk_drew BK142.out)
              have n5_ := Aside0.mk (below_drew1 HB.out)
              clear HO_143004
              clear HO_143005
              clear HO_143006
              clear BK128
              clear BK142
              clear HB
              have HO_143004 := n0_
              have HO_143005 := n1_
              have HO_143006 := n2_
              have BK128 := n3_
              have BK142 := n4_
              have HB := n5_
              clear n0_ n1_ n2_ n3_ n4_ n5_
              have p55 : 0 ≤ (x22_2 : Int) := of_decide_eq_true (by first | (with_reducible assumption) | assumption)
              have q55 : x22_2 < (a0.size : Int) := of_decide_eq_true (by first | (with_reducible assumption) | assumption)
              have hx55 := bt_at a0 x22_2
              replace p55 := eq_true p55; replace q55 := eq_true q55
              refine start_ (n := 13) (S := fun w' => w'.cell? ⟨gb142, 0, none⟩ = some (.int .i64 (a0.size : Int)) ∧ w'.cell? ⟨gb142, 1, none⟩ = some (.int .i64 x143001_2) ∧ w'.cell? ⟨gb142, 2, none⟩ = some (.int .i64 x143002_2) ∧ w'.cell? ⟨gb142, 3, none⟩ = some (.int .i64 x143003_2) ∧ w'.cell? ⟨gb142, 4, none⟩ = some (u143004) ∧ w'.cell? ⟨gb142, 5, none⟩ = some (u143005) ∧ w'.cell? ⟨gb142, 6, none⟩ = some (u143006)) (ds := []) #[false, false, false, false, false, false, false, false, false, false, false, false, false] (by kernel_rfl) rfl rfl ⟨(blk_cell BK142.out 0).trans rfl, (blk_cell BK142.out 1).trans rfl, (blk_cell BK142.out 2).trans rfl, (blk_cell BK142.out 3).trans rfl, (blk_cell BK142.out 4).trans rfl, (blk_cell BK142.out 5).trans rfl, (blk_cell BK142.out 6).trans rfl⟩ (fun hHeld => ?_); refine with_tabW automaton_Summarize.tab11 automaton_Summarize.bits11 (fun HT_ HW_ => ?_)
              generalize wr.drew = w66 at HO_143004 HO_143005 HO_143006 BK128 BK142 HB hHeld ⊢
              refine pure_ (i := 0) (N := some 26) (v := ?_) (a' := ?_) #[true, false, false, false, false, false, false, false, false, false, false, false, false] rfl rfl (any_of HT_.out (by kernel_rfl)) (fun _ _ _ h => h) (Or.inl ⟨by rfl, ?_⟩) ?_ ?_
              rotate_left
              ·intro w'
               go_simp
               with_reducible rfl
              rotate_left
              ·simp only [Act.put, List.setIfInBounds_toArray, List.set_cons_zero, List.set_cons_succ, i64_w, i32_w]
               rfl
              refine pure_ (i := 1) (N := some 27) (v := ?_) (a' := ?_) #[true, true, false, false, false, false, false, false, false, false, false, false, false] rfl rfl (any_of HT_.out (by kernel_rfl)) (fun _ _ _ h => h) (Or.inl ⟨by rfl, ?_⟩) ?_ ?_
              rotate_left
              ·intro w'
               go_simp
               with_reducible rfl
              rotate_left
              ·simp only [Act.put, List.setIfInBounds_toArray, List.set_cons_zero, List.set_cons_succ, i64_w, i32_w]
               rfl
              refine pure_ (i := 2) (N := some 28) (v := ?_) (a' := ?_) #[true, true, true, false, false, false, false, false, false, false, false, false, false] rfl rfl (any_of HT_.out (by kernel_rfl)) (fun _ _ _ h => h) (Or.inl ⟨by rfl, ?_⟩) ?_ ?_
              rotate_left
              ·intro w'
               go_simp
               with_reducible rfl
              rotate_left
              ·simp only [Act.put, List.setIfInBounds_toArray, List.set_cons_zero, List.set_cons_succ, i64_w, i32_w]
               rfl
              refine pure_ (i := 4) (N := some 30) (v := ?_) (a' := ?_) #[true, true, true, false, true, false, false, false, false, false, false, false, false] rfl rfl (any_of HT_.out (by kernel_rfl)) (fun _ _ _ h => h) (Or.inl ⟨by rfl, ?_⟩) ?_ ?_
              rotate_left
              ·intro w'
               go_simp
               with_reducible rfl
              rotate_left
              ·simp only [Act.put, List.setIfInBounds_toArray, List.set_cons_zero, List.set_cons_succ, i64_w, i32_w]
               rfl
              refine pure_ (i := 5) (N := some 31) (v := ?_) (a' := ?_) #[true, true, true, false, true, true, false, false, false, false, false, false, false] rfl rfl (any_of HT_.out (by kernel_rfl)) (fun _ _ _ h => h) (Or.inl ⟨by rfl, ?_⟩) ?_ ?_
              rotate_left
              ·intro w'
               go_simp
               with_reducible rfl
              rotate_left
              ·simp only [Act.put, List.setIfInBounds_toArray, List.set_cons_zero, List.set_cons_succ, i64_w, i32_w]
               rfl
              refine take_ (i := 3) (N := some 29) (v := ?_) (a' := ?_) #[true, true, true, true, true, true, false, false, false, false, false, false, false] rfl rfl (take_ofW HT_.out HW_.out (by kernel_rfl)) (fun _ _ _ h => h) (Or.inl ⟨by rfl, ?_⟩) hHeld ?_ ?_
              rotate_left
              ·rintro w' ⟨s0, s1, s2, s3, s4, s5, s6⟩
               go_simp
               with_reducible rfl
              rotate_left
              ·simp only [Act.put, List.setIfInBounds_toArray, List.set_cons_zero, List.set_cons_succ, i64_w, i32_w]
               rfl
              refine take_ (i := 6) (N := some 32) (v := ?_) (a' := ?_) #[true, true, true, true, true, true, true, false, false, false, false, false, false] rfl rfl (take_ofW HT_.out HW_.out (by kernel_rfl)) (fun _ _ _ h => h) (Or.inl ⟨by rfl, ?_⟩) hHeld ?_ ?_
              rotate_left
              ·rintro w' ⟨s0, s1, s2, s3, s4, s5, s6⟩
               go_simp
               with_reducible rfl
              rotate_left
              ·simp only [Act.put, List.setIfInBounds_toArray, List.set_cons_zero, List.set_cons_succ, i64_w, i32_w]
               rfl
              refine one_ (i := 7) (N := some 33) #[true, true, true, true, true, true, true, true, false, false, false, false, false] rfl rfl (one_of HT_.out (by kernel_rfl)) (by decide) (fun K hK => ?_)
              refine goes_ Tryd.func36 (by kernel_rfl) rfl #[.int .i64 x143003_2, .int .u8 (bt a0 x22_2)] (by rfl) rfl rfl (by (try simp only [List.map_toArray, List.map_cons, List.map_nil]); first | done | rfl | (simp only [List.length_drop, List.length_take]; rfl)) ?_
              with_reducible refine (automaton_Step.calls x143003_2 (bt a0 x22_2) t153 false _ ?side1 A56.out).mono ?_
              (case side1 => exact GlbLaid.below HG.out (by repeat (first | (with_reducible first | exact HB.out | apply wA | apply wN | apply wD | refine wS ?_ GE128.out | refine wS ?_ GE142.out) | exact HB.out)))
              rintro e w67 ⟨rfl, hb⟩
              refine ⟨_, rfl, ?_⟩
              have n0_ := Aside0.mk (Kd.R_below (by (with_reducible repeat (first | apply rA | apply rN | apply rD)); exact HO_143004.out) hb)
              have n1_ := Aside0.mk (Kd.R_below (by (with_reducible repeat (first | apply rA | apply rN | apply rD)); exact HO_143005.out) hb)
              have n2_ := Aside0.mk (Kd.R_below (by (with_reducible repeat (first | apply rA | apply rN | apply rD)); exact HO_143006.out) hb)
              have n3_ := Aside0.mk (blk_below (g := gb128) (o := .cells #[.int .i64 0, .int .i64 0, .int .i64 0, .int .i64 0, .slice none 0 0, .slice none 0 0, .slice none 0 0] 26 (0, 0)) (by (with_reducible repeat (first | refine bN ?_ _ | refine bD ?_ | refine bA ?_ _)); exact BK128.out) hb)
              have n4_ := Aside0.mk (blk_below (g := gb142) (o := .cells #[.int .i64 (a0.size : Int), .int .i64 x143001_2, .int .i64 x143002_2, .int .i64 x143003_2, u143004, u143005, u143006] 26 (0, 0)) (by (with_reducible repeat (first | refine bN ?_ _ | refine bD ?_ | refine bA ?_ _)); exact BK142.out) hb)
              have n5_ := Aside0.mk (below_step (by repeat (first | (with_reducible first | exact HB.out | apply wA | apply wN | apply wD | refine wS ?_ GE128.out | refine wS ?_ GE142.out) | exact HB.out)) hb)
              clear HO_143004
              clear HO_143005
              clear HO_143006
              clear BK128
              clear BK142
              clear HB
              have HO_143004 := n0_
              have HO_143005 := n1_
              have HO_143006 := n2_
              have BK128 := n3_
              have BK142 := n4_
              have HB := n5_
              clear n0_ n1_ n2_ n3_ n4_ n5_
              (try clear hb); (try clear hb2); (try clear hk); (try clear hi)
              refine hK.out _ _ ⟨(blk_cell BK142.out 0).trans rfl, (blk_cell BK142.out 1).trans rfl, (blk_cell BK142.out 2).trans rfl, (blk_cell BK142.out 3).trans rfl, (blk_cell BK142.out 4).trans rfl, (blk_cell BK142.out 5).trans rfl, (blk_cell BK142.out 6).trans rfl⟩ (fun hHeld => ?_)
              clear hK K
              refine norm_ (a' := ?_) ?_ ?_
              rotate_left
              ·show Act.put _ (some 33) _ = _
               simp only [Act.put, List.setIfInBounds_toArray, List.set_cons_zero, List.set_cons_succ, i64_w, i32_w]
               rfl
              refine pure_ (i := 8) (N := some 25) (v := ?_) (a' := ?_) #[true, true, true, true, true, true, true, true, true, false, false, false, false] rfl rfl (any_of HT_.out (by kernel_rfl)) (fun _ _ _ h => h) (Or.inl ⟨by rfl, ?_⟩) ?_ ?_
              rotate_left
              ·intro w'
               go_simp
               with_reducible rfl
              rotate_left
              ·simp only [Act.put, List.setIfInBounds_toArray, List.set_cons_zero, List.set_cons_succ, i64_w, i32_w]
               rfl
              refine pure_ (i := 9) (N := some 34) (v := ?_) (a' := ?_) #[true, true, true, true, true, true, true, true, true, true, false, false, false] rfl rfl (any_of HT_.out (by kernel_rfl)) (fun _ _ _ h => h) (Or.inl ⟨by rfl, ?_⟩) ?_ ?_
              rotate_left
              ·intro w'
               go_simp
               with_reducible rfl
              rotate_left
              ·simp only [Act.put, List.setIfInBounds_toArray, List.set_cons_zero, List.set_cons_succ, i64_w, i32_w]
               rfl
              refine pure_ (i := 10) (N := some 35) (v := ?_) (a' := ?_) #[true, true, true, true, true, true, true, true, true, true, true, false, false] rfl rfl (any_of HT_.out (by kernel_rfl)) (fun _ _ _ h => h) (Or.inl ⟨by rfl, ?_⟩) ?_ ?_
              rotate_left
              ·intro w'
               go_simp
               with_reducible rfl
              rotate_left
              ·simp only [Act.put, List.setIfInBounds_toArray, List.set_cons_zero, List.set_cons_succ, i64_w, i32_w]
               rfl
              refine pure_ (i := 11) (N := some 7) (v := ?_) (a' := ?_) #[true, true, true, true, true, true, true, true, true, true, true, true, false] rfl rfl (any_of HT_.out (by kernel_rfl)) (fun _ _ _ h => h) (Or.inl ⟨by rfl, ?_⟩) ?_ ?_
              rotate_left
              ·intro w'
               go_simp
               with_reducible rfl
              rotate_left
              ·simp only [Act.put, List.setIfInBounds_toArray, List.set_cons_zero, List.set_cons_succ, i64_w, i32_w]
               rfl
              refine pure_ (i := 12) (N := some 8) (v := ?_) (a' := ?_) #[true, true, true, true, true, true, true, true, true, true, true, true, true] rfl rfl (any_of HT_.out (by kernel_rfl)) (fun _ _ _ h => h) (Or.inl ⟨by rfl, ?_⟩) ?_ ?_
              rotate_left
              ·intro w'
               go_simp
               with_reducible rfl
              rotate_left
              ·simp only [Act.put, List.setIfInBounds_toArray, List.set_cons_zero, List.set_cons_succ, i64_w, i32_w]
               rfl
              refine done_ (done_of HT_.out (by kernel_rfl)) ?_
              have hnb68 := NB142_128.out; have hnc68 := NB128_142.out; have hcz69_0 : w67.cell? ⟨gb142, 0, none⟩ = some (.int .i64 (a0.size : Int)) := (blk_cell BK142.out 0).trans rfl; have hcz69_1 : w67.cell? ⟨gb142, 1, none⟩ = some (.int .i64 x143001_2) := (blk_cell BK142.out 1).trans rfl; have hcz69_2 : w67.cell? ⟨gb142, 2, none⟩ = some (.int .i64 x143002_2) := (blk_cell BK142.out 2).trans rfl; have hcz69_3 : w67.cell? ⟨gb142, 3, none⟩ = some (.int .i64 x143003_2) := (blk_cell BK142.out 3).trans rfl; have hcz69_4 : w67.cell? ⟨gb142, 4, none⟩ = some (u143004) := (blk_cell BK142.out 4).trans rfl; have hcz69_5 : w67.cell? ⟨gb142, 5, none⟩ = some (u143005) := (blk_cell BK142.out 5).trans rfl; have hcz69_6 : w67.cell? ⟨gb142, 6, none⟩ = some (u143006) := (blk_cell BK142.out 6).trans rfl; have hfz69_0 := blk_frozen BK142.out 0; have hfz69_1 := blk_frozen BK142.out 1; have hfz69_2 := blk_frozen BK142.out 2; have hfz69_3 := blk_frozen BK142.out 3; have hfz69_4 := blk_frozen BK142.out 4; have hfz69_5 := blk_frozen BK142.out 5; have hfz69_6 := blk_frozen BK142.out 6
              try go_wp2
              go_roundg k2
              case measure => have := HK1.out; have := HK2.out; omega
              case rel => exact ⟨(wrap64 (x22_2 + 1)), (x143001_2), (x143002_2), (t153), (x143004_2), (x143005_2), (x143006_2), (u143004), (u143005), (u143006), (by first | rfl | (simp; done) | (simp [*]; done)), H', ⟨by have := HK1.out; have := HK2.out; omega⟩, ⟨by (with_reducible repeat (first | apply rA | apply rN | apply rD)); exact Kd.R_mono (Kd.R_far (p := ⟨gb142, 3, none⟩) (Kd.R_types HO_143004.out BK142.out (by decide)) (fun _ hk => hk.2) (.int .i64 t153)) (fun _ hk => hk.1)⟩, ⟨by (with_reducible repeat (first | apply rA | apply rN | apply rD)); exact Kd.R_mono (Kd.R_far (p := ⟨gb142, 3, none⟩) (Kd.R_types HO_143005.out BK142.out (by decide)) (fun _ hk => hk.2) (.int .i64 t153)) (fun _ hk => hk.1)⟩, ⟨by (with_reducible repeat (first | apply rA | apply rN | apply rD)); exact Kd.R_mono (Kd.R_far (p := ⟨gb142, 3, none⟩) (Kd.R_types HO_143006.out BK142.out (by decide)) (fun _ hk => hk.2) (.int .i64 t153)) (fun _ hk => hk.1)⟩, ⟨by (with_reducible repeat (first | refine bN ?_ _ | refine bD ?_ | refine bA ?_ _ | refine blk_far ?_ NB128_142.out _)); exact BK128.out⟩, ⟨by (with_reducible repeat (first | refine bN ?_ _ | refine bD ?_ | refine bA ?_ _)); refine blk_put (cs := #[.int .i64 (a0.size : Int), .int .i64 x143001_2, .int .i64 x143002_2, .int .i64 x143003_2, u143004, u143005, u143006]) ?_ 3 _ rfl; (with_reducible repeat (first | refine bN ?_ _ | refine bD ?_ | refine bA ?_ _)); exact BK142.out⟩, ⟨by repeat (first | (with_reducible first | exact HB.out | apply wA | apply wN | apply wD | refine wS ?_ GE128.out | refine wS ?_ GE142.out) | exact HB.out)⟩⟩
            ·rw [if_neg c54] at H
             exact absurd H (by simp)
           ·rw [if_neg c53] at H
            exact absurd H (by simp)
          ·rw [if_neg c52] at H
           exact absurd H (by simp)
       ·rw [if_neg c15] at H
        have c15b0 : decide (x22_2 < (a0.size : Int)) = false := decide_eq_false c15
        clear c15
        have H' := Aside0.mk H
        clear H
        go_wp2
        go_roundg k2
        case measure => have := HK1.out; have := HK2.out; omega
        case rel => exact ⟨(wrap64 (x17_1 + 1)), (x143001_2), (x143002_2), (x143003_2), (x143004_2), (x143005_2), (x143006_2), (u143004), (u143005), (u143006), (by first | rfl | (simp; done) | (simp [*]; done)), H', ⟨by have := HK1.out; have := HK2.out; omega⟩, ⟨by (with_reducible repeat (first | apply rA | apply rN | apply rD)); exact HO_143004.out⟩, ⟨by (with_reducible repeat (first | apply rA | apply rN | apply rD)); exact HO_143005.out⟩, ⟨by (with_reducible repeat (first | apply rA | apply rN | apply rD)); exact HO_143006.out⟩, ⟨by (with_reducible repeat (first | refine bN ?_ _ | refine bD ?_ | refine bA ?_ _)); exact BK128.out⟩, ⟨by (with_reducible repeat (first | refine bN ?_ _ | refine bD ?_ | refine bA ?_ _)); exact BK142.out⟩, ⟨by repeat (first | (with_reducible first | exact HB.out | apply wA | apply wN | apply wD | refine wS ?_ GE128.out | refine wS ?_ GE142.out) | exact HB.out)⟩⟩
    ·rw [if_neg c14] at H
     have c14b0 : decide (x17_1 < 3) = false := decide_eq_false c14
     clear c14
     simp only [Option.some.injEq, Prod.mk.injEq] at H
     obtain ⟨rfl, rfl, rfl, rfl, rfl, rfl, rfl, rfl⟩ := H
     have hnb70 := NB142_128.out; have hnc70 := NB128_142.out; have hcz71_0 : wr.cell? ⟨gb142, 0, none⟩ = some (.int .i64 (a0.size : Int)) := (blk_cell BK142.out 0).trans rfl; have hcz71_1 : wr.cell? ⟨gb142, 1, none⟩ = some (.int .i64 x143001_1) := (blk_cell BK142.out 1).trans rfl; have hcz71_2 : wr.cell? ⟨gb142, 2, none⟩ = some (.int .i64 x143002_1) := (blk_cell BK142.out 2).trans rfl; have hcz71_3 : wr.cell? ⟨gb142, 3, none⟩ = some (.int .i64 x143003_1) := (blk_cell BK142.out 3).trans rfl; have hcz71_4 : wr.cell? ⟨gb142, 4, none⟩ = some (u143004) := (blk_cell BK142.out 4).trans rfl; have hcz71_5 : wr.cell? ⟨gb142, 5, none⟩ = some (u143005) := (blk_cell BK142.out 5).trans rfl; have hcz71_6 : wr.cell? ⟨gb142, 6, none⟩ = some (u143006) := (blk_cell BK142.out 6).trans rfl; have hfz71_0 := blk_frozen BK142.out 0; have hfz71_1 := blk_frozen BK142.out 1; have hfz71_2 := blk_frozen BK142.out 2; have hfz71_3 := blk_frozen BK142.out 3; have hfz71_4 := blk_frozen BK142.out 4; have hfz71_5 := blk_frozen BK142.out 5; have hfz71_6 := blk_frozen BK142.out 6; have hcz72_0 : wr.cell? ⟨gb128, 0, none⟩ = some (.int .i64 0) := (blk_cell BK128.out 0).trans rfl; have hcz72_1 : wr.cell? ⟨gb128, 1, none⟩ = some (.int .i64 0) := (blk_cell BK128.out 1).trans rfl; have hcz72_2 : wr.cell? ⟨gb128, 2, none⟩ = some (.int .i64 0) := (blk_cell BK128.out 2).trans rfl; have hcz72_3 : wr.cell? ⟨gb128, 3, none⟩ = some (.int .i64 0) := (blk_cell BK128.out 3).trans rfl; have hcz72_4 : wr.cell? ⟨gb128, 4, none⟩ = some (.slice none 0 0) := (blk_cell BK128.out 4).trans rfl; have hcz72_5 : wr.cell? ⟨gb128, 5, none⟩ = some (.slice none 0 0) := (blk_cell BK128.out 5).trans rfl; have hcz72_6 : wr.cell? ⟨gb128, 6, none⟩ = some (.slice none 0 0) := (blk_cell BK128.out 6).trans rfl; have hfz72_0 := blk_frozen BK128.out 0; have hfz72_1 := blk_frozen BK128.out 1; have hfz72_2 := blk_frozen BK128.out 2; have hfz72_3 := blk_frozen BK128.out 3; have hfz72_4 := blk_frozen BK128.out 4; have hfz72_5 := blk_frozen BK128.out 5; have hfz72_6 := blk_frozen BK128.out 6
     obtain ⟨Ao73, co73, eo73⟩ := Kd.R_slice HO_143004.out
     subst eo73
     obtain ⟨Ao74, co74, eo74⟩ := Kd.R_slice HO_143005.out
     subst eo74
     obtain ⟨Ao75, co75, eo75⟩ := Kd.R_slice HO_143006.out
     subst eo75
     go_wp2
     refine bodyPost_ret (results_ct rfl _ _ gb128 26 #[.int .i64 (a0.size : Int), .int .i64 x143001_1, .int .i64 x143002_1, .int .i64 x143003_1, .slice Ao73 x143004_1.length co73, .slice Ao74 x143005_1.length co74, .slice Ao75 x143006_1.length co75] (0, 0) _ rfl (by (with_reducible repeat (first | refine bN ?_ _ | refine bD ?_ | refine bA ?_ _)); refine blk_put (cs := #[.int .i64 (a0.size : Int), .int .i64 x143001_1, .int .i64 x143002_1, .int .i64 x143003_1, .slice Ao73 x143004_1.length co73, .slice Ao74 x143005_1.length co74, .slice none 0 0]) ?_ 6 _ rfl; (with_reducible repeat (first | refine bN ?_ _ | refine bD ?_ | refine bA ?_ _)); refine blk_put (cs := #[.int .i64 (a0.size : Int), .int .i64 x143001_1, .int .i64 x143002_1, .int .i64 x143003_1, .slice Ao73 x143004_1.length co73, .slice none 0 0, .slice none 0 0]) ?_ 5 _ rfl; (with_reducible repeat (first | refine bN ?_ _ | refine bD ?_ | refine bA ?_ _)); refine blk_put (cs := #[.int .i64 (a0.size : Int), .int .i64 x143001_1, .int .i64 x143002_1, .int .i64 x143003_1, .slice none 0 0, .slice none 0 0, .slice none 0 0]) ?_ 4 _ rfl; (with_reducible repeat (first | refine bN ?_ _ | refine bD ?_ | refine bA ?_ _)); refine blk_put (cs := #[.int .i64 (a0.size : Int), .int .i64 x143001_1, .int .i64 x143002_1, .int .i64 0, .slice none 0 0, .slice none 0 0, .slice none 0 0]) ?_ 3 _ rfl; (with_reducible repeat (first | refine bN ?_ _ | refine bD ?_ | refine bA ?_ _)); refine blk_put (cs := #[.int .i64 (a0.size : Int), .int .i64 x143001_1, .int .i64 0, .int .i64 0, .slice none 0 0, .slice none 0 0, .slice none 0 0]) ?_ 2 _ rfl; (with_reducible repeat (first | refine bN ?_ _ | refine bD ?_ | refine bA ?_ _)); refine blk_put (cs := #[.int .i64 (a0.size : Int), .int .i64 0, .int .i64 0, .int .i64 0, .slice none 0 0, .slice none 0 0, .slice none 0 0]) ?_ 1 _ rfl; (with_reducible repeat (first | refine bN ?_ _ | refine bD ?_ | refine bA ?_ _)); refine blk_put (cs := #[.int .i64 0, .int .i64 0, .int .i64 0, .int .i64 0, .slice none 0 0, .slice none 0 0, .slice none 0 0]) ?_ 0 _ rfl; (with_reducible repeat (first | refine bN ?_ _ | refine bD ?_ | refine bA ?_ _)); exact BK128.out) Tryd.underlying26 rfl (by kernel_rfl)) rfl ?_
     exact ⟨_, _, _, by first | rfl | (simp [errW_none, errW_some] <;> rfl) | (simp [*, errW_none, errW_some] <;> rfl), by (with_reducible repeat (first | apply rA | apply rN | apply rD)); exact Kd.R_mono (R_fars7 gb128 (Kd.R_types HO_143004.out BK128.out (by decide)) (fun _ hk => hk.2) (.int .i64 (a0.size : Int)) (.int .i64 x143001_1) (.int .i64 x143002_1) (.int .i64 x143003_1) (.slice Ao73 x143004_1.length co73) (.slice Ao74 x143005_1.length co74) (.slice Ao75 x143006_1.length co75)) (fun _ hk => hk.1), by (with_reducible repeat (first | apply rA | apply rN | apply rD)); exact Kd.R_mono (R_fars7 gb128 (Kd.R_types HO_143005.out BK128.out (by decide)) (fun _ hk => hk.2) (.int .i64 (a0.size : Int)) (.int .i64 x143001_1) (.int .i64 x143002_1) (.int .i64 x143003_1) (.slice Ao73 x143004_1.length co73) (.slice Ao74 x143005_1.length co74) (.slice Ao75 x143006_1.length co75)) (fun _ hk => hk.1), by (with_reducible repeat (first | apply rA | apply rN | apply rD)); exact Kd.R_mono (R_fars7 gb128 (Kd.R_types HO_143006.out BK128.out (by decide)) (fun _ hk => hk.2) (.int .i64 (a0.size : Int)) (.int .i64 x143001_1) (.int .i64 x143002_1) (.int .i64 x143003_1) (.slice Ao73 x143004_1.length co73) (.slice Ao74 x143005_1.length co74) (.slice Ao75 x143006_1.length co75)) (fun _ hk => hk.1), by repeat (first | (with_reducible first | exact HB.out | apply wA | apply wN | apply wD | refine wS ?_ GE128.out | refine wS ?_ GE142.out) | exact HB.out)⟩

end Go.Proofs.YtkhnifehcnlpjaaDoor.QC
