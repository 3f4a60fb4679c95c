-- by a program of this session (print2.py): the machine's side of one law; Lean checks it.
import Derived.Test.YtkhnifehcnlpjaaDoorQCx0
import Derived.Test.YtkhnifehcnlpjaaDoorQCx4
import Derived.Test.YtkhnifehcnlpjaaDoorQCx6
namespace Go.Proofs.YtkhnifehcnlpjaaDoor.QC
open Go.RowKit Go.Proofs.YtkhnifehcnlpjaaDoorW.PrintWords Go.Proofs.YtkhnifehcnlpjaaDoorW.PrintLast Go.Proofs.YtkhnifehcnlpjaaDoorW.PrintMore
attribute [local go_sem] max2_int min2_int max_two min_two max_three min_three max_four min_four   -- for this text's walks alone
set_option linter.unusedVariables false
set_option linter.unusedSimpArgs false

/-! ### scan_examine: function 33 -/
def scan_examine.l0 : Nat → Int → List (S26) → Int → Int → Option (Int)
 | 0, _, _, _, _ => none
 | k + 1, x3, x6, x7, x8 => if x8 < x7 then (if 0 ≤ x8 then (if x8 < (x6.length : Int) then ((automaton_Valid.f k ((rd_T26 x6 x8).f0) ((rd_T26 x6 x8).f1.f0) ((rd_T26 x6 x8).f1.f1) ((rd_T26 x6 x8).f1.f2) ((rd_T26 x6 x8).f2.f0) ((rd_T26 x6 x8).f2.f1) ((rd_T26 x6 x8).f2.f2)).bind fun t221 => (if t221 = true then (scan_examine.l0 k (mn (wrap64 (x3 + ((rd_T26 x6 x8).f0))) 1048577) x6 x7 (wrap64 (x8 + 1))) else (some 1))) else (none)) else (none)) else (if x3 > 1048576 then (some 2) else (some 0))
def scan_examine.f (k : Nat) (l0 : List (S26)) : Option (Int) := scan_examine.l0 k 0 l0 (l0.length : Int) 0
theorem scan_examine.mono_l : ∀ k, (∀ y0 y1 y2 y3, LeO (scan_examine.l0 k y0 y1 y2 y3) (scan_examine.l0 (k + 1) y0 y1 y2 y3))
 | 0 => fun _ _ _ _ r h => by simp [scan_examine.l0] at h
 | k + 1 => by
  have ih0 := scan_examine.mono_l k
  ·intro y0 y1 y2 y3
   unfold scan_examine.l0
   repeat' first
   | (with_reducible exact ih0 _ _ _ _)
   | (with_reducible exact automaton_Valid.mono _ _ _ _ _ _ _ _)
   | (with_reducible exact LeO.refl _)
   | (with_reducible exact LeO.none _)
   | (with_reducible refine LeO.ite ?_ ?_)
   | (with_reducible refine LeO.bind ?_ (fun _ => ?_))
   | exact ih0 _ _ _ _
   | exact automaton_Valid.mono _ _ _ _ _ _ _ _
   | exact LeO.none _
   | refine LeO.ite ?_ ?_
   | refine LeO.bind ?_ (fun _ => ?_)
theorem scan_examine.mono : ∀ a0 k, LeO (scan_examine.f k a0) (scan_examine.f (k + 1) a0) := by
 intro a0 k
 have ih0 := scan_examine.mono_l k
 unfold scan_examine.f
 repeat' first
   | (with_reducible exact ih0 _ _ _ _)
   | (with_reducible exact automaton_Valid.mono _ _ _ _ _ _ _ _)
   | (with_reducible exact LeO.refl _)
   | (with_reducible exact LeO.none _)
   | (with_reducible refine LeO.ite ?_ ?_)
   | (with_reducible refine LeO.bind ?_ (fun _ => ?_))
   | exact ih0 _ _ _ _
   | exact automaton_Valid.mono _ _ _ _ _ _ _ _
   | exact LeO.none _
   | refine LeO.ite ?_ ?_
   | refine LeO.bind ?_ (fun _ => ?_)
set_option maxHeartbeats 8000000 in
set_option maxRecDepth 100000 in
theorem scan_examine.calls (k : Nat) (A0 : Option Addr) (c0 : Nat) (l0 : List (S26)) (r : Int) (w : World) (hr0 : Kd.C k26 w A0 l0.length l0) (hc0 : l0.length ≤ c0) (h : scan_examine.f k l0 = some r) :
  Calls Tryd.prog 33 #[.slice A0 l0.length c0] w fun e w' => e = .returned (.int .i64 r) ∧ Below w.heap.size w w' := by
 have hu26 := Tryd.underlying26
 have HR0 := Aside0.mk hr0
 have HC0 := Aside0.mk hc0
 clear hr0 hc0
 have HB := Aside0.mk (Below.refl w.heap.size w)
 have H : (scan_examine.l0 k 0 l0 (l0.length : Int) 0) = some r := h
 clear h
 have H' := Aside0.mk H
 clear H
 go_enter Tryd.func33, Tryd.ntmps33
 go_wp2
 go_loopg [3, 8] k (fun kq v3 v8 w' => ∃ (x3_1 : Int) (x8_1 : Int), v3 = .int .i64 x3_1 ∧ v8 = .int .i64 x8_1 ∧ Aside0 (scan_examine.l0 kq x3_1 l0 (l0.length : Int) x8_1 = some r) ∧ Aside0 (kq ≤ k) ∧ Aside0 (Below w.heap.size w w'))
 case atStart => exact ⟨(0), (0), (by first | rfl | (simp; done) | (simp [*]; done)), (by first | rfl | (simp; done) | (simp [*]; done)), H', ⟨Nat.le_refl _⟩, ⟨by repeat (first | (with_reducible first | exact HB.out | apply wA | apply wN | apply wD) | exact HB.out)⟩⟩
 case round =>
  clear H'
  obtain ⟨x3_1, x8_1, rfl, rfl, HA, HK1, HB⟩ := hrel
  cases gk with
  | zero => exact absurd HA.out (by simp [scan_examine.l0])
  | succ k1 =>
   have H := HA.out
   clear HA
   simp only [scan_examine.l0] at H
   by_cases c2 : x8_1 < (l0.length : Int)
   ·rw [if_pos c2] at H
    have c2b0 : decide (x8_1 < (l0.length : Int)) = true := decide_eq_true c2
    clear c2
    by_cases c3 : 0 ≤ x8_1
    ·rw [if_pos c3] at H
     have c3b0 : decide (0 ≤ x8_1) = true := decide_eq_true c3
     clear c3
     by_cases c4 : x8_1 < (l0.length : Int)
     ·rw [if_pos c4] at H
      have c4b0 : decide (x8_1 < (l0.length : Int)) = true := decide_eq_true c4
      clear c4
      replace H := Option.bind_eq_some_iff.mp H
      obtain ⟨t221, A50, H⟩ := H
      replace H : (if t221 = true then (scan_examine.l0 k1 (mn (wrap64 (x3_1 + ((rd_T26 l0 x8_1).f0))) 1048577) l0 (l0.length : Int) (wrap64 (x8_1 + 1))) else (some 1)) = some r := H
      have A5 := Aside0.mk A50
      clear A50
      have HF6 := Aside0.mk H
      clear H
      have p219 : 0 ≤ (x8_1 : Int) := of_decide_eq_true (by first | (with_reducible assumption) | assumption)
      have q219 : x8_1 < (l0.length : Int) := of_decide_eq_true (by first | (with_reducible assumption) | assumption)
      obtain ⟨ad219, A219_4, c219_4, A219_5, c219_5, A219_6, c219_6, e219, hx219_0, hx219_1, hx219_2, hx219_3, hx219_4, hx219_5, hx219_6, hl219_4, hi219_4, hl219_5, hi219_5, hl219_6, hi219_6⟩ := at_T26 HR0.out x8_1 p219 q219
      cases e219
      replace hx219_0 := (HB.out.cell (World.block_lt_of_cell? w _ hx219_0)).trans hx219_0
      replace hx219_1 := (HB.out.cell (World.block_lt_of_cell? w _ hx219_1)).trans hx219_1
      replace hx219_2 := (HB.out.cell (World.block_lt_of_cell? w _ hx219_2)).trans hx219_2
      replace hx219_3 := (HB.out.cell (World.block_lt_of_cell? w _ hx219_3)).trans hx219_3
      replace hx219_4 := (HB.out.cell (World.block_lt_of_cell? w _ hx219_4)).trans hx219_4
      replace hx219_5 := (HB.out.cell (World.block_lt_of_cell? w _ hx219_5)).trans hx219_5
      replace hx219_6 := (HB.out.cell (World.block_lt_of_cell? w _ hx219_6)).trans hx219_6
      have HR219_4 := Aside0.mk hi219_4
      have HC219_4 := Aside0.mk hl219_4
      clear hi219_4 hl219_4
      have HR219_5 := Aside0.mk hi219_5
      have HC219_5 := Aside0.mk hl219_5
      clear hi219_5 hl219_5
      have HR219_6 := Aside0.mk hi219_6
      have HC219_6 := Aside0.mk hl219_6
      clear hi219_6 hl219_6
      replace p219 := eq_true p219; replace q219 := eq_true q219
      go_wp2_with (first | ((with_reducible refine gate_dst (N := 5) rfl ?_); refine box_event ?hg (N := 5) ?hd (cs := #[.int .i64 0, .int .i64 0, .int .i64 0, .int .i64 0, .slice none 0 0, .slice none 0 0, .slice none 0 0]) (t := 26) ?hr ?_; (case hd => rfl); (case hg => rfl); (case hr => first | (go_simp; done) | (go_simp; rfl)); intro gb220 hg w7 hbox hb; have n0_ := Aside0.mk (below_step (by repeat (first | (with_reducible first | exact HB.out | apply wA | apply wN | apply wD) | exact HB.out)) hb); have n1_ := Aside0.mk (hbox); have n2_ := Aside0.mk ((by rw [hg]; exact (below_size (by repeat (first | (with_reducible first | exact HB.out | apply wA | apply wN | apply wD) | exact HB.out))) : w.heap.size ≤ gb220)); have n3_ := n2_; clear HB; have HB := n0_; have BK220 := n1_; have GW220 := n2_; have GE220 := n3_; clear n0_ n1_ n2_ n3_; clear hb hbox hg; have hcz8_0 : w7.cell? ⟨gb220, 0, none⟩ = some (.int .i64 0) := (blk_cell BK220.out 0).trans rfl; have hcz8_1 : w7.cell? ⟨gb220, 1, none⟩ = some (.int .i64 0) := (blk_cell BK220.out 1).trans rfl; have hcz8_2 : w7.cell? ⟨gb220, 2, none⟩ = some (.int .i64 0) := (blk_cell BK220.out 2).trans rfl; have hcz8_3 : w7.cell? ⟨gb220, 3, none⟩ = some (.int .i64 0) := (blk_cell BK220.out 3).trans rfl; have hcz8_4 : w7.cell? ⟨gb220, 4, none⟩ = some (.slice none 0 0) := (blk_cell BK220.out 4).trans rfl; have hcz8_5 : w7.cell? ⟨gb220, 5, none⟩ = some (.slice none 0 0) := (blk_cell BK220.out 5).trans rfl; have hcz8_6 : w7.cell? ⟨gb220, 6, none⟩ = some (.slice none 0 0) := (blk_cell BK220.out 6).trans rfl; have hfz8_0 := blk_frozen BK220.out 0; have hfz8_1 := blk_frozen BK220.out 1; have hfz8_2 := blk_frozen BK220.out 2; have hfz8_3 := blk_frozen BK220.out 3; have hfz8_4 := blk_frozen BK220.out 4; have hfz8_5 := blk_frozen BK220.out 5; have hfz8_6 := blk_frozen BK220.out 6))
      have H := HF6.out
      clear HF6
      by_cases c9 : t221 = true
      ·subst c9
       have H1 : (scan_examine.l0 k1 (mn (wrap64 (x3_1 + ((rd_T26 l0 x8_1).f0))) 1048577) l0 (l0.length : Int) (wrap64 (x8_1 + 1))) = some r := by rw [if_pos rfl] at H; exact H
       clear H; have H := H1; clear H1
       obtain ⟨ji10, hji10⟩ : ∃ j_ : Int, (mn (wrap64 (x3_1 + ((rd_T26 l0 x8_1).f0))) 1048577) = j_ := ⟨_, rfl⟩
       replace H : (scan_examine.l0 k1 ji10 l0 (l0.length : Int) (wrap64 (x8_1 + 1))) = some r := by first | (rw [hji10] at H; exact H) | (simp only [hji10] at H ⊢; exact H)
       (try rw [hji10] at A5)
       have hji10_ : (if 1048577 < (wrap64 (x3_1 + ((rd_T26 l0 x8_1).f0))) then 1048577 else (wrap64 (x3_1 + ((rd_T26 l0 x8_1).f0)))) = ji10 := hji10
       have H' := Aside0.mk H
       clear H
       go_wp2_with (first | (go_at_call 28; (with_reducible refine (automaton_Valid.calls k1 ((rd_T26 l0 x8_1).f0) ((rd_T26 l0 x8_1).f1.f0) ((rd_T26 l0 x8_1).f1.f1) ((rd_T26 l0 x8_1).f1.f2) _ _ ((rd_T26 l0 x8_1).f2.f0) _ _ ((rd_T26 l0 x8_1).f2.f1) _ _ ((rd_T26 l0 x8_1).f2.f2) true _ ?side1 ?side2 ?side3 ?side4 ?side5 ?side6 A5.out).mono ?_); (case side1 => exact Kd.C_below HR219_4.out (by repeat (first | (with_reducible first | exact HB.out | apply wA | apply wN | apply wD | refine wS ?_ GE220.out) | exact HB.out))); (case side2 => exact HC219_4.out); (case side3 => exact Kd.C_below HR219_5.out (by repeat (first | (with_reducible first | exact HB.out | apply wA | apply wN | apply wD | refine wS ?_ GE220.out) | exact HB.out))); (case side4 => exact HC219_5.out); (case side5 => exact Kd.C_below HR219_6.out (by repeat (first | (with_reducible first | exact HB.out | apply wA | apply wN | apply wD | refine wS ?_ GE220.out) | exact HB.out))); (case side6 => exact HC219_6.out); rintro e w11 ⟨rfl, hb⟩; have n0_ := Aside0.mk (blk_below (g := gb220) (o := .cells #[.int .i64 ((rd_T26 l0 x8_1).f0), .int .i64 ((rd_T26 l0 x8_1).f1.f0), .int .i64 ((rd_T26 l0 x8_1).f1.f1), .int .i64 ((rd_T26 l0 x8_1).f1.f2), .slice A219_4 ((rd_T26 l0 x8_1).f2.f0).length c219_4, .slice A219_5 ((rd_T26 l0 x8_1).f2.f1).length c219_5, .slice A219_6 ((rd_T26 l0 x8_1).f2.f2).length c219_6] 26 (0, 0)) (by (with_reducible repeat (first | refine bN ?_ _ | refine bD ?_ | refine bA ?_ _)); refine blk_put (cs := #[.int .i64 ((rd_T26 l0 x8_1).f0), .int .i64 ((rd_T26 l0 x8_1).f1.f0), .int .i64 ((rd_T26 l0 x8_1).f1.f1), .int .i64 ((rd_T26 l0 x8_1).f1.f2), .slice A219_4 ((rd_T26 l0 x8_1).f2.f0).length c219_4, .slice A219_5 ((rd_T26 l0 x8_1).f2.f1).length c219_5, .slice none 0 0]) ?_ 6 _ rfl; (with_reducible repeat (first | refine bN ?_ _ | refine bD ?_ | refine bA ?_ _)); refine blk_put (cs := #[.int .i64 ((rd_T26 l0 x8_1).f0), .int .i64 ((rd_T26 l0 x8_1).f1.f0), .int .i64 ((rd_T26 l0 x8_1).f1.f1), .int .i64 ((rd_T26 l0 x8_1).f1.f2), .slice A219_4 ((rd_T26 l0 x8_1).f2.f0).length c219_4, .slice none 0 0, .slice none 0 0]) ?_ 5 _ rfl; (with_reducible repeat (first | refine bN ?_ _ | refine bD ?_ | refine bA ?_ _)); refine blk_put (cs := #[.int .i64 ((rd_T26 l0 x8_1).f0), .int .i64 ((rd_T26 l0 x8_1).f1.f0), .int .i64 ((rd_T26 l0 x8_1).f1.f1), .int .i64 ((rd_T26 l0 x8_1).f1.f2), .slice none 0 0, .slice none 0 0, .slice none 0 0]) ?_ 4 _ rfl; (with_reducible repeat (first | refine bN ?_ _ | refine bD ?_ | refine bA ?_ _)); refine blk_put (cs := #[.int .i64 ((rd_T26 l0 x8_1).f0), .int .i64 ((rd_T26 l0 x8_1).f1.f0), .int .i64 ((rd_T26 l0 x8_1).f1.f1), .int .i64 0, .slice none 0 0, .slice none 0 0, .slice none 0 0]) ?_ 3 _ rfl; (with_reducible repeat (first | refine bN ?_ _ | refine bD ?_ | refine bA ?_ _)); refine blk_put (cs := #[.int .i64 ((rd_T26 l0 x8_1).f0), .int .i64 ((rd_T26 l0 x8_1).f1.f0), .int .i64 0, .int .i64 0, .slice none 0 0, .slice none 0 0, .slice none 0 0]) ?_ 2 _ rfl; (with_reducible repeat (first | refine bN ?_ _ | refine bD ?_ | refine bA ?_ _)); refine blk_put (cs := #[.int .i64 ((rd_T26 l0 x8_1).f0), .int .i64 0, .int .i64 0, .int .i64 0, .slice none 0 0, .slice none 0 0, .slice none 0 0]) ?_ 1 _ rfl; (with_reducible repeat (first | refine bN ?_ _ | refine bD ?_ | refine bA ?_ _)); refine blk_put (cs := #[.int .i64 0, .int .i64 0, .int .i64 0, .int .i64 0, .slice none 0 0, .slice none 0 0, .slice none 0 0]) ?_ 0 _ rfl; (with_reducible repeat (first | refine bN ?_ _ | refine bD ?_ | refine bA ?_ _)); exact BK220.out) hb); have n1_ := Aside0.mk (below_step (by repeat (first | (with_reducible first | exact HB.out | apply wA | apply wN | apply wD | refine wS ?_ GE220.out) | exact HB.out)) hb); clear BK220; clear HB; have BK220 := n0_; have HB := n1_; clear n0_ n1_; (try clear hb); (try clear hb2); (try clear hk); (try clear hi); have hcz12_0 : w11.cell? ⟨gb220, 0, none⟩ = some (.int .i64 ((rd_T26 l0 x8_1).f0)) := (blk_cell BK220.out 0).trans rfl; have hcz12_1 : w11.cell? ⟨gb220, 1, none⟩ = some (.int .i64 ((rd_T26 l0 x8_1).f1.f0)) := (blk_cell BK220.out 1).trans rfl; have hcz12_2 : w11.cell? ⟨gb220, 2, none⟩ = some (.int .i64 ((rd_T26 l0 x8_1).f1.f1)) := (blk_cell BK220.out 2).trans rfl; have hcz12_3 : w11.cell? ⟨gb220, 3, none⟩ = some (.int .i64 ((rd_T26 l0 x8_1).f1.f2)) := (blk_cell BK220.out 3).trans rfl; have hcz12_4 : w11.cell? ⟨gb220, 4, none⟩ = some (.slice A219_4 ((rd_T26 l0 x8_1).f2.f0).length c219_4) := (blk_cell BK220.out 4).trans rfl; have hcz12_5 : w11.cell? ⟨gb220, 5, none⟩ = some (.slice A219_5 ((rd_T26 l0 x8_1).f2.f1).length c219_5) := (blk_cell BK220.out 5).trans rfl; have hcz12_6 : w11.cell? ⟨gb220, 6, none⟩ = some (.slice A219_6 ((rd_T26 l0 x8_1).f2.f2).length c219_6) := (blk_cell BK220.out 6).trans rfl; have hfz12_0 := blk_frozen BK220.out 0; have hfz12_1 := blk_frozen BK220.out 1; have hfz12_2 := blk_frozen BK220.out 2; have hfz12_3 := blk_frozen BK220.out 3; have hfz12_4 := blk_frozen BK220.out 4; have hfz12_5 := blk_frozen BK220.out 5; have hfz12_6 := blk_frozen BK220.out 6))
       go_roundg k1
       case measure => have := HK1.out; omega
       case rel => exact ⟨(ji10), (wrap64 (x8_1 + 1)), (by first | rfl | (simp; done) | (simp only [← hji10] <;> (first | rfl | (simp; done))) | (simp [*]; done)), (by first | rfl | (simp; done) | (simp [*]; done)), H', ⟨by have := HK1.out; omega⟩, ⟨by repeat (first | (with_reducible first | exact HB.out | apply wA | apply wN | apply wD | refine wS ?_ GE220.out) | exact HB.out)⟩⟩
      ·replace c9 := Bool.eq_false_iff.mpr c9
       subst c9
       have H1 : (some 1) = some r := by rw [if_neg (show ¬ (false = true) by decide)] at H; exact H
       clear H; have H := H1; clear H1
       obtain rfl := Option.some.inj H
       go_wp2_with (first | (go_at_call 28; (with_reducible refine (automaton_Valid.calls k1 ((rd_T26 l0 x8_1).f0) ((rd_T26 l0 x8_1).f1.f0) ((rd_T26 l0 x8_1).f1.f1) ((rd_T26 l0 x8_1).f1.f2) _ _ ((rd_T26 l0 x8_1).f2.f0) _ _ ((rd_T26 l0 x8_1).f2.f1) _ _ ((rd_T26 l0 x8_1).f2.f2) false _ ?side1 ?side2 ?side3 ?side4 ?side5 ?side6 A5.out).mono ?_); (case side1 => exact Kd.C_below HR219_4.out (by repeat (first | (with_reducible first | exact HB.out | apply wA | apply wN | apply wD | refine wS ?_ GE220.out) | exact HB.out))); (case side2 => exact HC219_4.out); (case side3 => exact Kd.C_below HR219_5.out (by repeat (first | (with_reducible first | exact HB.out | apply wA | apply wN | apply wD | refine wS ?_ GE220.out) | exact HB.out))); (case side4 => exact HC219_5.out); (case side5 => exact Kd.C_below HR219_6.out (by repeat (first | (with_reducible first | exact HB.out | apply wA | apply wN | apply wD | refine wS ?_ GE220.out) | exact HB.out))); (case side6 => exact HC219_6.out); rintro e w13 ⟨rfl, hb⟩; have n0_ := Aside0.mk (blk_below (g := gb220) (o := .cells #[.int .i64 ((rd_T26 l0 x8_1).f0), .int .i64 ((rd_T26 l0 x8_1).f1.f0), .int .i64 ((rd_T26 l0 x8_1).f1.f1), .int .i64 ((rd_T26 l0 x8_1).f1.f2), .slice A219_4 ((rd_T26 l0 x8_1).f2.f0).length c219_4, .slice A219_5 ((rd_T26 l0 x8_1).f2.f1).length c219_5, .slice A219_6 ((rd_T26 l0 x8_1).f2.f2).length c219_6] 26 (0, 0)) (by (with_reducible repeat (first | refine bN ?_ _ | refine bD ?_ | refine bA ?_ _)); refine blk_put (cs := #[.int .i64 ((rd_T26 l0 x8_1).f0), .int .i64 ((rd_T26 l0 x8_1).f1.f0), .int .i64 ((rd_T26 l0 x8_1).f1.f1), .int .i64 ((rd_T26 l0 x8_1).f1.f2), .slice A219_4 ((rd_T26 l0 x8_1).f2.f0).length c219_4, .slice A219_5 ((rd_T26 l0 x8_1).f2.f1).length c219_5, .slice none 0 0]) ?_ 6 _ rfl; (with_reducible repeat (first | refine bN ?_ _ | refine bD ?_ | refine bA ?_ _)); refine blk_put (cs := #[.int .i64 ((rd_T26 l0 x8_1).f0), .int .i64 ((rd_T26 l0 x8_1).f1.f0), .int .i64 ((rd_T26 l0 x8_1).f1.f1), .int .i64 ((rd_T26 l0 x8_1).f1.f2), .slice A219_4 ((rd_T26 l0 x8_1).f2.f0).length c219_4, .slice none 0 0, .slice none 0 0]) ?_ 5 _ rfl; (with_reducible repeat (first | refine bN ?_ _ | refine bD ?_ | refine bA ?_ _)); refine blk_put (cs := #[.int .i64 ((rd_T26 l0 x8_1).f0), .int .i64 ((rd_T26 l0 x8_1).f1.f0), .int .i64 ((rd_T26 l0 x8_1).f1.f1), .int .i64 ((rd_T26 l0 x8_1).f1.f2), .slice none 0 0, .slice none 0 0, .slice none 0 0]) ?_ 4 _ rfl; (with_reducible repeat (first | refine bN ?_ _ | refine bD ?_ | refine bA ?_ _)); refine blk_put (cs := #[.int .i64 ((rd_T26 l0 x8_1).f0), .int .i64 ((rd_T26 l0 x8_1).f1.f0), .int .i64 ((rd_T26 l0 x8_1).f1.f1), .int .i64 0, .slice none 0 0, .slice none 0 0, .slice none 0 0]) ?_ 3 _ rfl; (with_reducible repeat (first | refine bN ?_ _ | refine bD ?_ | refine bA ?_ _)); refine blk_put (cs := #[.int .i64 ((rd_T26 l0 x8_1).f0), .int .i64 ((rd_T26 l0 x8_1).f1.f0), .int .i64 0, .int .i64 0, .slice none 0 0, .slice none 0 0, .slice none 0 0]) ?_ 2 _ rfl; (with_reducible repeat (first | refine bN ?_ _ | refine bD ?_ | refine bA ?_ _)); refine blk_put (cs := #[.int .i64 ((rd_T26 l0 x8_1).f0), .int .i64 0, .int .i64 0, .int .i64 0, .slice none 0 0, .slice none 0 0, .slice none 0 0]) ?_ 1 _ rfl; (with_reducible repeat (first | refine bN ?_ _ | refine bD ?_ | refine bA ?_ _)); refine blk_put (cs := #[.int .i64 0, .int .i64 0, .int .i64 0, .int .i64 0, .slice none 0 0, .slice none 0 0, .slice none 0 0]) ?_ 0 _ rfl; (with_reducible repeat (first | refine bN ?_ _ | refine bD ?_ | refine bA ?_ _)); exact BK220.out) hb); have n1_ := Aside0.mk (below_step (by repeat (first | (with_reducible first | exact HB.out | apply wA | apply wN | apply wD | refine wS ?_ GE220.out) | exact HB.out)) hb); clear BK220; clear HB; have BK220 := n0_; have HB := n1_; clear n0_ n1_; (try clear hb); (try clear hb2); (try clear hk); (try clear hi)))
       go_ret
       exact ⟨by first | rfl | (simp [errW_none, errW_some] <;> rfl) | (simp [*, errW_none, errW_some] <;> rfl), by repeat (first | (with_reducible first | exact HB.out | apply wA | apply wN | apply wD | refine wS ?_ GE220.out) | exact HB.out)⟩
     ·rw [if_neg c4] at H
      exact absurd H (by simp)
    ·rw [if_neg c3] at H
     exact absurd H (by simp)
   ·rw [if_neg c2] at H
    have c2b0 : decide (x8_1 < (l0.length : Int)) = false := decide_eq_false c2
    clear c2
    by_cases c14 : x3_1 > 1048576
    ·rw [if_pos c14] at H
     have c14b0 : decide (1048576 < x3_1) = true := decide_eq_true c14
     clear c14
     obtain rfl := Option.some.inj H
     go_wp2
     go_ret
     exact ⟨by first | rfl | (simp [errW_none, errW_some] <;> rfl) | (simp [*, errW_none, errW_some] <;> rfl), by repeat (first | (with_reducible first | exact HB.out | apply wA | apply wN | apply wD) | exact HB.out)⟩
    ·rw [if_neg c14] at H
     have c14b0 : decide (1048576 < x3_1) = false := decide_eq_false c14
     clear c14
     obtain rfl := Option.some.inj H
     go_wp2
     go_ret
     exact ⟨by first | rfl | (simp [errW_none, errW_some] <;> rfl) | (simp [*, errW_none, errW_some] <;> rfl), by repeat (first | (with_reducible first | exact HB.out | apply wA | apply wN | apply wD) | exact HB.out)⟩

/-! ### scan_Entries: function 18 -/
def scan_Entries.l0 : Nat → List Int → Int → List (S26) → Int → Int → Option (List Int × Int)
 | 0, _, _, _, _, _ => none
 | k + 1, x5, x6, x14, x15, x16 => if x16 < x15 then (if 0 ≤ x16 then (if x16 < (x14.length : Int) then (if x5.length < 17592186044416 then ((some (x5 ++ [x6] : List Int)).bind fun y225 => (if x6 = 0 then (scan_Entries.l0 k y225 ((rd_T26 x14 x16).f1.f0) x14 x15 (wrap64 (x16 + 1))) else (if x6 = 1 then (scan_Entries.l0 k y225 ((rd_T26 x14 x16).f1.f1) x14 x15 (wrap64 (x16 + 1))) else (if x6 = 2 then (scan_Entries.l0 k y225 ((rd_T26 x14 x16).f1.f2) x14 x15 (wrap64 (x16 + 1))) else (none))))) else (none)) else (none)) else (none)) else (some (x5, 0))
def scan_Entries.f (k : Nat) (l0 : List (S26)) : Option (List Int × Int) := (scan_examine.f k l0).bind fun t222 => (if t222 = 0 then (scan_Entries.l0 k ([] : List Int) 0 l0 (l0.length : Int) 0) else (some (([] : List Int), t222)))
theorem scan_Entries.mono_l : ∀ k, (∀ y0 y1 y2 y3 y4, LeO (scan_Entries.l0 k y0 y1 y2 y3 y4) (scan_Entries.l0 (k + 1) y0 y1 y2 y3 y4))
 | 0 => fun _ _ _ _ _ r h => by simp [scan_Entries.l0] at h
 | k + 1 => by
  have ih0 := scan_Entries.mono_l k
  ·intro y0 y1 y2 y3 y4
   unfold scan_Entries.l0
   repeat' first
   | (with_reducible exact ih0 _ _ _ _ _)
   | (with_reducible exact scan_examine.mono _ _)
   | (with_reducible exact LeO.refl _)
   | (with_reducible exact LeO.none _)
   | (with_reducible refine LeO.ite ?_ ?_)
   | (with_reducible refine LeO.bind ?_ (fun _ => ?_))
   | exact ih0 _ _ _ _ _
   | exact scan_examine.mono _ _
   | exact LeO.none _
   | refine LeO.ite ?_ ?_
   | refine LeO.bind ?_ (fun _ => ?_)
theorem scan_Entries.mono : ∀ a0 k, LeO (scan_Entries.f k a0) (scan_Entries.f (k + 1) a0) := by
 intro a0 k
 have ih0 := scan_Entries.mono_l k
 unfold scan_Entries.f
 repeat' first
   | (with_reducible exact ih0 _ _ _ _ _)
   | (with_reducible exact scan_examine.mono _ _)
   | (with_reducible exact LeO.refl _)
   | (with_reducible exact LeO.none _)
   | (with_reducible refine LeO.ite ?_ ?_)
   | (with_reducible refine LeO.bind ?_ (fun _ => ?_))
   | exact ih0 _ _ _ _ _
   | exact scan_examine.mono _ _
   | exact LeO.none _
   | refine LeO.ite ?_ ?_
   | refine LeO.bind ?_ (fun _ => ?_)
set_option maxHeartbeats 8000000 in
set_option maxRecDepth 100000 in
theorem scan_Entries.calls (k : Nat) (A0 : Option Addr) (c0 : Nat) (l0 : List (S26)) (r1 : List Int) (r2 : Int) (w : World) (hr0 : Kd.C k26 w A0 l0.length l0) (hc0 : l0.length ≤ c0) (h : scan_Entries.f k l0 = some (r1, r2)) :
  Calls Tryd.prog 18 #[.slice A0 l0.length c0] w fun e w' => ∃ v0_ : Value, e = .returned (.tuple #[v0_, .int .i64 r2]) ∧ Kd.R (Kd.int .i64) 3 w' w.heap.size (fun _ => True) v0_ r1 ∧ Below w.heap.size w w' := by
 have hu26 := Tryd.underlying26
 have HR0 := Aside0.mk hr0
 have HC0 := Aside0.mk hc0
 clear hr0 hc0
 have HB := Aside0.mk (Below.refl w.heap.size w)
 have H : ((scan_examine.f k l0).bind fun t222 => (if t222 = 0 then (scan_Entries.l0 k ([] : List Int) 0 l0 (l0.length : Int) 0) else (some (([] : List Int), t222)))) = some (r1, r2) := h
 clear h
 replace H := Option.bind_eq_some_iff.mp H
 obtain ⟨t222, A20, H⟩ := H
 replace H : (if t222 = 0 then (scan_Entries.l0 k ([] : List Int) 0 l0 (l0.length : Int) 0) else (some (([] : List Int), t222))) = some (r1, r2) := H
 have A2 := Aside0.mk A20
 clear A20
 by_cases c3 : t222 = 0
 ·rw [if_pos c3] at H
  have c3b0 : (t222 == 0) = true := beq_iff_eq.mpr c3
  have c3b1 : (t222 != 0) = false := bne_eq_false_iff_eq.mpr c3
  clear c3
  have H' := Aside0.mk H
  clear H
  go_enter Tryd.func18, Tryd.ntmps18
  go_wp2_with (first | ((with_reducible refine gate_callee (f := 33) rfl ?_); refine goesL_ (some 10) rfl rfl Tryd.func33 (by kernel_rfl) rfl #[.slice A0 l0.length c0] rfl (by (try simp only [List.map_toArray, List.map_cons, List.map_nil]); first | done | rfl | (simp only [List.length_drop, List.length_take]; rfl)) ?_; (with_reducible refine (scan_examine.calls k _ _ l0 t222 _ ?side1 ?side2 A2.out).mono ?_); (case side1 => repeat (first | exact HR0.out | (with_reducible refine Kd.C_alloc ?_ _) | (with_reducible refine Kd.C_drewN ?_ _) | (with_reducible refine Kd.C_drew ?_))); (case side2 => exact HC0.out); rintro e w4 ⟨rfl, hb⟩; refine ⟨_, rfl, ?_⟩; have n0_ := Aside0.mk (below_step (by repeat (first | (with_reducible first | exact HB.out | apply wA | apply wN | apply wD) | exact HB.out)) hb); clear HB; have HB := n0_; clear n0_; (try clear hb); (try clear hb2); (try clear hk); (try clear hi)))
  go_loopg [5, 6, 16] k (fun kq v5 v6 v16 w' => ∃ (x5_1 : List Int) (x6_1 : Int) (x16_1 : Int), v6 = .int .i64 x6_1 ∧ v16 = .int .i64 x16_1 ∧ Aside0 (scan_Entries.l0 kq x5_1 x6_1 l0 (l0.length : Int) x16_1 = some (r1, r2)) ∧ Aside0 (kq ≤ k) ∧ Aside0 (Kd.R (Kd.int .i64) 3 w' w.heap.size (fun _ => True) v5 x5_1) ∧ Aside0 (Below w.heap.size w w'))
  case atStart => exact ⟨(([] : List Int)), (0), (0), (by first | rfl | (simp; done) | (simp [*]; done)), (by first | rfl | (simp; done) | (simp [*]; done)), H', ⟨Nat.le_refl _⟩, ⟨by first | exact Kd.R_nil _ _ _ _ _ | exact Kd.N_nil _ _ _ _ _ | exact Kd.V_nil _ _ _ _ _ | exact Kd.Q_nil _ _ _ _ _ | exact Kd.S_nil _ _ _ _ _⟩, ⟨by repeat (first | (with_reducible first | exact HB.out | apply wA | apply wN | apply wD) | exact HB.out)⟩⟩
  case round =>
   clear H'
   (try clear c1); (try clear p2); (try clear c3); (try clear c3b0); (try clear c3b1)
   obtain ⟨x5_1, x6_1, x16_1, rfl, rfl, HA, HK1, HO_5, HB⟩ := hrel
   cases gk with
   | zero => exact absurd HA.out (by simp [scan_Entries.l0])
   | succ k1 =>
    have H := HA.out
    clear HA
    simp only [scan_Entries.l0] at H
    by_cases c5 : x16_1 < (l0.length : Int)
    ·rw [if_pos c5] at H
     have c5b0 : decide (x16_1 < (l0.length : Int)) = true := decide_eq_true c5
     clear c5
     by_cases c6 : 0 ≤ x16_1
     ·rw [if_pos c6] at H
      have c6b0 : decide (0 ≤ x16_1) = true := decide_eq_true c6
      clear c6
      by_cases c7 : x16_1 < (l0.length : Int)
      ·rw [if_pos c7] at H
       have c7b0 : decide (x16_1 < (l0.length : Int)) = true := decide_eq_true c7
       clear c7
       by_cases c8 : x5_1.length < 17592186044416
       ·rw [if_pos c8] at H
        have LMc8 := Aside0.mk c8
        clear c8
        obtain ⟨y225, hy225⟩ : ∃ y_ : List Int, y_ = (x5_1 ++ [x6_1]) := ⟨_, rfl⟩
        replace H : (if x6_1 = 0 then (scan_Entries.l0 k1 y225 ((rd_T26 l0 x16_1).f1.f0) l0 (l0.length : Int) (wrap64 (x16_1 + 1))) else (if x6_1 = 1 then (scan_Entries.l0 k1 y225 ((rd_T26 l0 x16_1).f1.f1) l0 (l0.length : Int) (wrap64 (x16_1 + 1))) else (if x6_1 = 2 then (scan_Entries.l0 k1 y225 ((rd_T26 l0 x16_1).f1.f2) l0 (l0.length : Int) (wrap64 (x16_1 + 1))) else (none)))) = some (r1, r2) := by first | (rw [hy225]; with_reducible exact H) | (have H2_ := (Option.bind_some _ _).symm.trans H; rw [hy225]; with_reducible exact H2_) | (have H2_ := (Option.bind_some _ _).symm.trans H; with_reducible exact H2_) | with_reducible exact H | (rw [hy225]; exact H) | exact H
        have Ny225 := Aside0.mk hy225
        clear hy225
        by_cases c9 : x6_1 = 0
        ·subst c9
         have H1 : (scan_Entries.l0 k1 y225 ((rd_T26 l0 x16_1).f1.f0) l0 (l0.length : Int) (wrap64 (x16_1 + 1))) = some (r1, r2) := by rw [if_pos rfl] at H; exact H
         clear H; have H := H1; clear H1
         have H' := Aside0.mk H
         clear H
         have p223 : 0 ≤ (x16_1 : Int) := of_decide_eq_true (by first | (with_reducible assumption) | assumption)
         have q223 : x16_1 < (l0.length : Int) := of_decide_eq_true (by first | (with_reducible assumption) | assumption)
         obtain ⟨ad223, A223_4, c223_4, A223_5, c223_5, A223_6, c223_6, e223, hx223_0, hx223_1, hx223_2, hx223_3, hx223_4, hx223_5, hx223_6, hl223_4, hi223_4, hl223_5, hi223_5, hl223_6, hi223_6⟩ := at_T26 HR0.out x16_1 p223 q223
         cases e223
         replace hx223_0 := (HB.out.cell (World.block_lt_of_cell? w _ hx223_0)).trans hx223_0
         replace hx223_1 := (HB.out.cell (World.block_lt_of_cell? w _ hx223_1)).trans hx223_1
         replace hx223_2 := (HB.out.cell (World.block_lt_of_cell? w _ hx223_2)).trans hx223_2
         replace hx223_3 := (HB.out.cell (World.block_lt_of_cell? w _ hx223_3)).trans hx223_3
         replace hx223_4 := (HB.out.cell (World.block_lt_of_cell? w _ hx223_4)).trans hx223_4
         replace hx223_5 := (HB.out.cell (World.block_lt_of_cell? w _ hx223_5)).trans hx223_5
         replace hx223_6 := (HB.out.cell (World.block_lt_of_cell? w _ hx223_6)).trans hx223_6
         have HR223_4 := Aside0.mk hi223_4
         have HC223_4 := Aside0.mk hl223_4
         clear hi223_4 hl223_4
         have HR223_5 := Aside0.mk hi223_5
         have HC223_5 := Aside0.mk hl223_5
         clear hi223_5 hl223_5
         have HR223_6 := Aside0.mk hi223_6
         have HC223_6 := Aside0.mk hl223_6
         clear hi223_6 hl223_6
         replace p223 := eq_true p223; replace q223 := eq_true q223
         go_wp2_with (first | ((with_reducible refine gate_dst (N := 8) rfl ?_); refine box_event ?hg (N := 8) ?hd (cs := #[.int .i64 0, .int .i64 0, .int .i64 0, .int .i64 0, .slice none 0 0, .slice none 0 0, .slice none 0 0]) (t := 26) ?hr ?_; (case hd => rfl); (case hg => rfl); (case hr => first | (go_simp; done) | (go_simp; rfl)); intro gb224 hg w10 hbox hb; have n0_ := Aside0.mk (Kd.R_below (by (with_reducible repeat (first | apply rA | apply rN | apply rD)); exact HO_5.out) hb); have n1_ := Aside0.mk (below_step (by repeat (first | (with_reducible first | exact HB.out | apply wA | apply wN | apply wD) | exact HB.out)) hb); have n2_ := Aside0.mk (hbox); have n3_ := Aside0.mk ((by rw [hg]; exact (below_size (by repeat (first | (with_reducible first | exact HB.out | apply wA | apply wN | apply wD) | exact HB.out))) : w.heap.size ≤ gb224)); have n4_ := n3_; clear HO_5; clear HB; have HO_5 := n0_; have HB := n1_; have BK224 := n2_; have GW224 := n3_; have GE224 := n4_; clear n0_ n1_ n2_ n3_ n4_; clear hb hbox hg; have hcz11_0 : w10.cell? ⟨gb224, 0, none⟩ = some (.int .i64 0) := (blk_cell BK224.out 0).trans rfl; have hcz11_1 : w10.cell? ⟨gb224, 1, none⟩ = some (.int .i64 0) := (blk_cell BK224.out 1).trans rfl; have hcz11_2 : w10.cell? ⟨gb224, 2, none⟩ = some (.int .i64 0) := (blk_cell BK224.out 2).trans rfl; have hcz11_3 : w10.cell? ⟨gb224, 3, none⟩ = some (.int .i64 0) := (blk_cell BK224.out 3).trans rfl; have hcz11_4 : w10.cell? ⟨gb224, 4, none⟩ = some (.slice none 0 0) := (blk_cell BK224.out 4).trans rfl; have hcz11_5 : w10.cell? ⟨gb224, 5, none⟩ = some (.slice none 0 0) := (blk_cell BK224.out 5).trans rfl; have hcz11_6 : w10.cell? ⟨gb224, 6, none⟩ = some (.slice none 0 0) := (blk_cell BK224.out 6).trans rfl; have hfz11_0 := blk_frozen BK224.out 0; have hfz11_1 := blk_frozen BK224.out 1; have hfz11_2 := blk_frozen BK224.out 2; have hfz11_3 := blk_frozen BK224.out 3; have hfz11_4 := blk_frozen BK224.out 4; have hfz11_5 := blk_frozen BK224.out 5; have hfz11_6 := blk_frozen BK224.out 6) | ((with_reducible refine gate_builtin (b := .append) (xs := #[.tmp 20, .tmp 22]) rfl ?_); at_builtin; refine Kd.R_append (Kd.int .i64) (w0 := w) w.heap.size rfl (.tmp 20) (.tmp 22) 23 3 (.int .i64 0) 8 rfl Tryd.underlying23 info3 rfl (by decide) (by omega) u5 x5_1 0 [.int .i64 0] (fun _ => True) (fun _ => False) rfl (by first | (go_simp; done) | (go_simp; rfl)) ?aP (fun _ hk => hk.elim) ?aF ?aO ?aB ?aS ?aL ?_; (case aP => exact rfl); (case aB => exact (by repeat (first | (with_reducible first | exact HB.out | apply wA | apply wN | apply wD | refine wS ?_ GE224.out) | exact HB.out))); (case aF => exact (fun _ _ => trivial)); (case aO => exact (by (with_reducible repeat (first | apply rA | apply rN | apply rD)); exact Kd.R_mono (R_fars7 gb224 (Kd.R_types HO_5.out BK224.out (by decide)) (fun _ hk => hk.2) (.int .i64 ((rd_T26 l0 x16_1).f0)) (.int .i64 ((rd_T26 l0 x16_1).f1.f0)) (.int .i64 ((rd_T26 l0 x16_1).f1.f1)) (.int .i64 ((rd_T26 l0 x16_1).f1.f2)) (.slice A223_4 ((rd_T26 l0 x16_1).f2.f0).length c223_4) (.slice A223_5 ((rd_T26 l0 x16_1).f2.f1).length c223_5) (.slice A223_6 ((rd_T26 l0 x16_1).f2.f2).length c223_6)) (fun _ hk => trivial))); (case aS => exact (below_size (by repeat (first | (with_reducible first | exact HB.out | apply wA | apply wN | apply wD | refine wS ?_ GE224.out) | exact HB.out)))); (case aL => have := LMc8.out; first | omega | exact Nat.le_of_lt this); intro v226 w12 ho hb hg hat; rw [← Ny225.out] at ho; have n0_ := Aside0.mk (blk_grown (g := gb224) (o := .cells #[.int .i64 ((rd_T26 l0 x16_1).f0), .int .i64 ((rd_T26 l0 x16_1).f1.f0), .int .i64 ((rd_T26 l0 x16_1).f1.f1), .int .i64 ((rd_T26 l0 x16_1).f1.f2), .slice A223_4 ((rd_T26 l0 x16_1).f2.f0).length c223_4, .slice A223_5 ((rd_T26 l0 x16_1).f2.f1).length c223_5, .slice A223_6 ((rd_T26 l0 x16_1).f2.f2).length c223_6] 26 (0, 0)) (by (with_reducible repeat (first | refine bN ?_ _ | refine bD ?_ | refine bA ?_ _)); refine blk_put (cs := #[.int .i64 ((rd_T26 l0 x16_1).f0), .int .i64 ((rd_T26 l0 x16_1).f1.f0), .int .i64 ((rd_T26 l0 x16_1).f1.f1), .int .i64 ((rd_T26 l0 x16_1).f1.f2), .slice A223_4 ((rd_T26 l0 x16_1).f2.f0).length c223_4, .slice A223_5 ((rd_T26 l0 x16_1).f2.f1).length c223_5, .slice none 0 0]) ?_ 6 _ rfl; (with_reducible repeat (first | refine bN ?_ _ | refine bD ?_ | refine bA ?_ _)); refine blk_put (cs := #[.int .i64 ((rd_T26 l0 x16_1).f0), .int .i64 ((rd_T26 l0 x16_1).f1.f0), .int .i64 ((rd_T26 l0 x16_1).f1.f1), .int .i64 ((rd_T26 l0 x16_1).f1.f2), .slice A223_4 ((rd_T26 l0 x16_1).f2.f0).length c223_4, .slice none 0 0, .slice none 0 0]) ?_ 5 _ rfl; (with_reducible repeat (first | refine bN ?_ _ | refine bD ?_ | refine bA ?_ _)); refine blk_put (cs := #[.int .i64 ((rd_T26 l0 x16_1).f0), .int .i64 ((rd_T26 l0 x16_1).f1.f0), .int .i64 ((rd_T26 l0 x16_1).f1.f1), .int .i64 ((rd_T26 l0 x16_1).f1.f2), .slice none 0 0, .slice none 0 0, .slice none 0 0]) ?_ 4 _ rfl; (with_reducible repeat (first | refine bN ?_ _ | refine bD ?_ | refine bA ?_ _)); refine blk_put (cs := #[.int .i64 ((rd_T26 l0 x16_1).f0), .int .i64 ((rd_T26 l0 x16_1).f1.f0), .int .i64 ((rd_T26 l0 x16_1).f1.f1), .int .i64 0, .slice none 0 0, .slice none 0 0, .slice none 0 0]) ?_ 3 _ rfl; (with_reducible repeat (first | refine bN ?_ _ | refine bD ?_ | refine bA ?_ _)); refine blk_put (cs := #[.int .i64 ((rd_T26 l0 x16_1).f0), .int .i64 ((rd_T26 l0 x16_1).f1.f0), .int .i64 0, .int .i64 0, .slice none 0 0, .slice none 0 0, .slice none 0 0]) ?_ 2 _ rfl; (with_reducible repeat (first | refine bN ?_ _ | refine bD ?_ | refine bA ?_ _)); refine blk_put (cs := #[.int .i64 ((rd_T26 l0 x16_1).f0), .int .i64 0, .int .i64 0, .int .i64 0, .slice none 0 0, .slice none 0 0, .slice none 0 0]) ?_ 1 _ rfl; (with_reducible repeat (first | refine bN ?_ _ | refine bD ?_ | refine bA ?_ _)); refine blk_put (cs := #[.int .i64 0, .int .i64 0, .int .i64 0, .int .i64 0, .slice none 0 0, .slice none 0 0, .slice none 0 0]) ?_ 0 _ rfl; (with_reducible repeat (first | refine bN ?_ _ | refine bD ?_ | refine bA ?_ _)); exact BK224.out) hg (Kd.R_ne HO_5.out BK224.out (by decide))); have n1_ := Aside0.mk (hb); have n2_ := Aside0.mk (ho); clear BK224; clear HB; clear HO_5; have BK224 := n0_; have HB := n1_; have HO227 := n2_; clear n0_ n1_ n2_; clear ho hb hg hat; have hcz13_0 : w12.cell? ⟨gb224, 0, none⟩ = some (.int .i64 ((rd_T26 l0 x16_1).f0)) := (blk_cell BK224.out 0).trans rfl; have hcz13_1 : w12.cell? ⟨gb224, 1, none⟩ = some (.int .i64 ((rd_T26 l0 x16_1).f1.f0)) := (blk_cell BK224.out 1).trans rfl; have hcz13_2 : w12.cell? ⟨gb224, 2, none⟩ = some (.int .i64 ((rd_T26 l0 x16_1).f1.f1)) := (blk_cell BK224.out 2).trans rfl; have hcz13_3 : w12.cell? ⟨gb224, 3, none⟩ = some (.int .i64 ((rd_T26 l0 x16_1).f1.f2)) := (blk_cell BK224.out 3).trans rfl; have hcz13_4 : w12.cell? ⟨gb224, 4, none⟩ = some (.slice A223_4 ((rd_T26 l0 x16_1).f2.f0).length c223_4) := (blk_cell BK224.out 4).trans rfl; have hcz13_5 : w12.cell? ⟨gb224, 5, none⟩ = some (.slice A223_5 ((rd_T26 l0 x16_1).f2.f1).length c223_5) := (blk_cell BK224.out 5).trans rfl; have hcz13_6 : w12.cell? ⟨gb224, 6, none⟩ = some (.slice A223_6 ((rd_T26 l0 x16_1).f2.f2).length c223_6) := (blk_cell BK224.out 6).trans rfl; have hfz13_0 := blk_frozen BK224.out 0; have hfz13_1 := blk_frozen BK224.out 1; have hfz13_2 := blk_frozen BK224.out 2; have hfz13_3 := blk_frozen BK224.out 3; have hfz13_4 := blk_frozen BK224.out 4; have hfz13_5 := blk_frozen BK224.out 5; have hfz13_6 := blk_frozen BK224.out 6))
         go_roundg k1
         case measure => have := HK1.out; omega
         case rel => exact ⟨(y225), ((rd_T26 l0 x16_1).f1.f0), (wrap64 (x16_1 + 1)), (by first | rfl | (simp; done) | (simp [*]; done)), (by first | rfl | (simp; done) | (simp [*]; done)), H', ⟨by have := HK1.out; omega⟩, ⟨by (with_reducible repeat (first | apply rA | apply rN | apply rD)); exact HO227.out⟩, ⟨by repeat (first | (with_reducible first | exact HB.out | apply wA | apply wN | apply wD | refine wS ?_ GE224.out) | exact HB.out)⟩⟩
        ·rw [if_neg c9] at H
         by_cases c14 : x6_1 = 1
         ·subst c14
          have H1 : (scan_Entries.l0 k1 y225 ((rd_T26 l0 x16_1).f1.f1) l0 (l0.length : Int) (wrap64 (x16_1 + 1))) = some (r1, r2) := by rw [if_pos rfl] at H; exact H
          clear H; have H := H1; clear H1
          have H' := Aside0.mk H
          clear H
          have p223 : 0 ≤ (x16_1 : Int) := of_decide_eq_true (by first | (with_reducible assumption) | assumption)
          have q223 : x16_1 < (l0.length : Int) := of_decide_eq_true (by first | (with_reducible assumption) | assumption)
          obtain ⟨ad223, A223_4, c223_4, A223_5, c223_5, A223_6, c223_6, e223, hx223_0, hx223_1, hx223_2, hx223_3, hx223_4, hx223_5, hx223_6, hl223_4, hi223_4, hl223_5, hi223_5, hl223_6, hi223_6⟩ := at_T26 HR0.out x16_1 p223 q223
          cases e223
          replace hx223_0 := (HB.out.cell (World.block_lt_of_cell? w _ hx223_0)).trans hx223_0
          replace hx223_1 := (HB.out.cell (World.block_lt_of_cell? w _ hx223_1)).trans hx223_1
          replace hx223_2 := (HB.out.cell (World.block_lt_of_cell? w _ hx223_2)).trans hx223_2
          replace hx223_3 := (HB.out.cell (World.block_lt_of_cell? w _ hx223_3)).trans hx223_3
          replace hx223_4 := (HB.out.cell (World.block_lt_of_cell? w _ hx223_4)).trans hx223_4
          replace hx223_5 := (HB.out.cell (World.block_lt_of_cell? w _ hx223_5)).trans hx223_5
          replace hx223_6 := (HB.out.cell (World.block_lt_of_cell? w _ hx223_6)).trans hx223_6
          have HR223_4 := Aside0.mk hi223_4
          have HC223_4 := Aside0.mk hl223_4
          clear hi223_4 hl223_4
          have HR223_5 := Aside0.mk hi223_5
          have HC223_5 := Aside0.mk hl223_5
          clear hi223_5 hl223_5
          have HR223_6 := Aside0.mk hi223_6
          have HC223_6 := Aside0.mk hl223_6
          clear hi223_6 hl223_6
          replace p223 := eq_true p223; replace q223 := eq_true q223
          go_wp2_with (first | ((with_reducible refine gate_dst (N := 8) rfl ?_); refine box_event ?hg (N := 8) ?hd (cs := #[.int .i64 0, .int .i64 0, .int .i64 0, .int .i64 0, .slice none 0 0, .slice none 0 0, .slice none 0 0]) (t := 26) ?hr ?_; (case hd => rfl); (case hg => rfl); (case hr => first | (go_simp; done) | (go_simp; rfl)); intro gb224 hg w15 hbox hb; have n0_ := Aside0.mk (Kd.R_below (by (with_reducible repeat (first | apply rA | apply rN | apply rD)); exact HO_5.out) hb); have n1_ := Aside0.mk (below_step (by repeat (first | (with_reducible first | exact HB.out | apply wA | apply wN | apply wD) | exact HB.out)) hb); have n2_ := Aside0.mk (hbox); have n3_ := Aside0.mk ((by rw [hg]; exact (below_size (by repeat (first | (with_reducible first | exact HB.out | apply wA | apply wN | apply wD) | exact HB.out))) : w.heap.size ≤ gb224)); have n4_ := n3_; clear HO_5; clear HB; have HO_5 := n0_; have HB := n1_; have BK224 := n2_; have GW224 := n3_; have GE224 := n4_; clear n0_ n1_ n2_ n3_ n4_; clear hb hbox hg; have hcz16_0 : w15.cell? ⟨gb224, 0, none⟩ = some (.int .i64 0) := (blk_cell BK224.out 0).trans rfl; have hcz16_1 : w15.cell? ⟨gb224, 1, none⟩ = some (.int .i64 0) := (blk_cell BK224.out 1).trans rfl; have hcz16_2 : w15.cell? ⟨gb224, 2, none⟩ = some (.int .i64 0) := (blk_cell BK224.out 2).trans rfl; have hcz16_3 : w15.cell? ⟨gb224, 3, none⟩ = some (.int .i64 0) := (blk_cell BK224.out 3).trans rfl; have hcz16_4 : w15.cell? ⟨gb224, 4, none⟩ = some (.slice none 0 0) := (blk_cell BK224.out 4).trans rfl; have hcz16_5 : w15.cell? ⟨gb224, 5, none⟩ = some (.slice none 0 0) := (blk_cell BK224.out 5).trans rfl; have hcz16_6 : w15.cell? ⟨gb224, 6, none⟩ = some (.slice none 0 0) := (blk_cell BK224.out 6).trans rfl; have hfz16_0 := blk_frozen BK224.out 0; have hfz16_1 := blk_frozen BK224.out 1; have hfz16_2 := blk_frozen BK224.out 2; have hfz16_3 := blk_frozen BK224.out 3; have hfz16_4 := blk_frozen BK224.out 4; have hfz16_5 := blk_frozen BK224.out 5; have hfz16_6 := blk_frozen BK224.out 6) | ((with_reducible refine gate_builtin (b := .append) (xs := #[.tmp 20, .tmp 22]) rfl ?_); at_builtin; refine Kd.R_append (Kd.int .i64) (w0 := w) w.heap.size rfl (.tmp 20) (.tmp 22) 23 3 (.int .i64 0) 8 rfl Tryd.underlying23 info3 rfl (by decide) (by omega) u5 x5_1 1 [.int .i64 1] (fun _ => True) (fun _ => False) rfl (by first | (go_simp; done) | (go_simp; rfl)) ?aP (fun _ hk => hk.elim) ?aF ?aO ?aB ?aS ?aL ?_; (case aP => exact rfl); (case aB => exact (by repeat (first | (with_reducible first | exact HB.out | apply wA | apply wN | apply wD | refine wS ?_ GE224.out) | exact HB.out))); (case aF => exact (fun _ _ => trivial)); (case aO => exact (by (with_reducible repeat (first | apply rA | apply rN | apply rD)); exact Kd.R_mono (R_fars7 gb224 (Kd.R_types HO_5.out BK224.out (by decide)) (fun _ hk => hk.2) (.int .i64 ((rd_T26 l0 x16_1).f0)) (.int .i64 ((rd_T26 l0 x16_1).f1.f0)) (.int .i64 ((rd_T26 l0 x16_1).f1.f1)) (.int .i64 ((rd_T26 l0 x16_1).f1.f2)) (.slice A223_4 ((rd_T26 l0 x16_1).f2.f0).length c223_4) (.slice A223_5 ((rd_T26 l0 x16_1).f2.f1).length c223_5) (.slice A223_6 ((rd_T26 l0 x16_1).f2.f2).length c223_6)) (fun _ hk => trivial))); (case aS => exact (below_size (by repeat (first | (with_reducible first | exact HB.out | apply wA | apply wN | apply wD | refine wS ?_ GE224.out) | exact HB.out)))); (case aL => have := LMc8.out; first | omega | exact Nat.le_of_lt this); intro v226 w17 ho hb hg hat; rw [← Ny225.out] at ho; have n0_ := Aside0.mk (blk_grown (g := gb224) (o := .cells #[.int .i64 ((rd_T26 l0 x16_1).f0), .int .i64 ((rd_T26 l0 x16_1).f1.f0), .int .i64 ((rd_T26 l0 x16_1).f1.f1), .int .i64 ((rd_T26 l0 x16_1).f1.f2), .slice A223_4 ((rd_T26 l0 x16_1).f2.f0).length c223_4, .slice A223_5 ((rd_T26 l0 x16_1).f2.f1).length c223_5, .slice A223_6 ((rd_T26 l0 x16_1).f2.f2).length c223_6] 26 (0, 0)) (by (with_reducible repeat (first | refine bN ?_ _ | refine bD ?_ | refine bA ?_ _)); refine blk_put (cs := #[.int .i64 ((rd_T26 l0 x16_1).f0), .int .i64 ((rd_T26 l0 x16_1).f1.f0), .int .i64 ((rd_T26 l0 x16_1).f1.f1), .int .i64 ((rd_T26 l0 x16_1).f1.f2), .slice A223_4 ((rd_T26 l0 x16_1).f2.f0).length c223_4, .slice A223_5 ((rd_T26 l0 x16_1).f2.f1).length c223_5, .slice none 0 0]) ?_ 6 _ rfl; (with_reducible repeat (first | refine bN ?_ _ | refine bD ?_ | refine bA ?_ _)); refine blk_put (cs := #[.int .i64 ((rd_T26 l0 x16_1).f0), .int .i64 ((rd_T26 l0 x16_1).f1.f0), .int .i64 ((rd_T26 l0 x16_1).f1.f1), .int .i64 ((rd_T26 l0 x16_1).f1.f2), .slice A223_4 ((rd_T26 l0 x16_1).f2.f0).length c223_4, .slice none 0 0, .slice none 0 0]) ?_ 5 _ rfl; (with_reducible repeat (first | refine bN ?_ _ | refine bD ?_ | refine bA ?_ _)); refine blk_put (cs := #[.int .i64 ((rd_T26 l0 x16_1).f0), .int .i64 ((rd_T26 l0 x16_1).f1.f0), .int .i64 ((rd_T26 l0 x16_1).f1.f1), .int .i64 ((rd_T26 l0 x16_1).f1.f2), .slice none 0 0, .slice none 0 0, .slice none 0 0]) ?_ 4 _ rfl; (with_reducible repeat (first | refine bN ?_ _ | refine bD ?_ | refine bA ?_ _)); refine blk_put (cs := #[.int .i64 ((rd_T26 l0 x16_1).f0), .int .i64 ((rd_T26 l0 x16_1).f1.f0), .int .i64 ((rd_T26 l0 x16_1).f1.f1), .int .i64 0, .slice none 0 0, .slice none 0 0, .slice none 0 0]) ?_ 3 _ rfl; (with_reducible repeat (first | refine bN ?_ _ | refine bD ?_ | refine bA ?_ _)); refine blk_put (cs := #[.int .i64 ((rd_T26 l0 x16_1).f0), .int .i64 ((rd_T26 l0 x16_1).f1.f0), .int .i64 0, .int .i64 0, .slice none 0 0, .slice none 0 0, .slice none 0 0]) ?_ 2 _ rfl; (with_reducible repeat (first | refine bN ?_ _ | refine bD ?_ | refine bA ?_ _)); refine blk_put (cs := #[.int .i64 ((rd_T26 l0 x16_1).f0), .int .i64 0, .int .i64 0, .int .i64 0, .slice none 0 0, .slice none 0 0, .slice none 0 0]) ?_ 1 _ rfl; (with_reducible repeat (first | refine bN ?_ _ | refine bD ?_ | refine bA ?_ _)); refine blk_put (cs := #[.int .i64 0, .int .i64 0, .int .i64 0, .int .i64 0, .slice none 0 0, .slice none 0 0, .slice none 0 0]) ?_ 0 _ rfl; (with_reducible repeat (first | refine bN ?_ _ | refine bD ?_ | refine bA ?_ _)); exact BK224.out) hg (Kd.R_ne HO_5.out BK224.out (by decide))); have n1_ := Aside0.mk (hb); have n2_ := Aside0.mk (ho); clear BK224; clear HB; clear HO_5; have BK224 := n0_; have HB := n1_; have HO227 := n2_; clear n0_ n1_ n2_; clear ho hb hg hat; have hcz18_0 : w17.cell? ⟨gb224, 0, none⟩ = some (.int .i64 ((rd_T26 l0 x16_1).f0)) := (blk_cell BK224.out 0).trans rfl; have hcz18_1 : w17.cell? ⟨gb224, 1, none⟩ = some (.int .i64 ((rd_T26 l0 x16_1).f1.f0)) := (blk_cell BK224.out 1).trans rfl; have hcz18_2 : w17.cell? ⟨gb224, 2, none⟩ = some (.int .i64 ((rd_T26 l0 x16_1).f1.f1)) := (blk_cell BK224.out 2).trans rfl; have hcz18_3 : w17.cell? ⟨gb224, 3, none⟩ = some (.int .i64 ((rd_T26 l0 x16_1).f1.f2)) := (blk_cell BK224.out 3).trans rfl; have hcz18_4 : w17.cell? ⟨gb224, 4, none⟩ = some (.slice A223_4 ((rd_T26 l0 x16_1).f2.f0).length c223_4) := (blk_cell BK224.out 4).trans rfl; have hcz18_5 : w17.cell? ⟨gb224, 5, none⟩ = some (.slice A223_5 ((rd_T26 l0 x16_1).f2.f1).length c223_5) := (blk_cell BK224.out 5).trans rfl; have hcz18_6 : w17.cell? ⟨gb224, 6, none⟩ = some (.slice A223_6 ((rd_T26 l0 x16_1).f2.f2).length c223_6) := (blk_cell BK224.out 6).trans rfl; have hfz18_0 := blk_frozen BK224.out 0; have hfz18_1 := blk_frozen BK224.out 1; have hfz18_2 := blk_frozen BK224.out 2; have hfz18_3 := blk_frozen BK224.out 3; have hfz18_4 := blk_frozen BK224.out 4; have hfz18_5 := blk_frozen BK224.out 5; have hfz18_6 := blk_frozen BK224.out 6))
          go_roundg k1
          case measure => have := HK1.out; omega
          case rel => exact ⟨(y225), ((rd_T26 l0 x16_1).f1.f1), (wrap64 (x16_1 + 1)), (by first | rfl | (simp; done) | (simp [*]; done)), (by first | rfl | (simp; done) | (simp [*]; done)), H', ⟨by have := HK1.out; omega⟩, ⟨by (with_reducible repeat (first | apply rA | apply rN | apply rD)); exact HO227.out⟩, ⟨by repeat (first | (with_reducible first | exact HB.out | apply wA | apply wN | apply wD | refine wS ?_ GE224.out) | exact HB.out)⟩⟩
         ·rw [if_neg c14] at H
          by_cases c19 : x6_1 = 2
          ·subst c19
           have H1 : (scan_Entries.l0 k1 y225 ((rd_T26 l0 x16_1).f1.f2) l0 (l0.length : Int) (wrap64 (x16_1 + 1))) = some (r1, r2) := by rw [if_pos rfl] at H; exact H
           clear H; have H := H1; clear H1
           have H' := Aside0.mk H
           clear H
           have p223 : 0 ≤ (x16_1 : Int) := of_decide_eq_true (by first | (with_reducible assumption) | assumption)
           have q223 : x16_1 < (l0.length : Int) := of_decide_eq_true (by first | (with_reducible assumption) | assumption)
           obtain ⟨ad223, A223_4, c223_4, A223_5, c223_5, A223_6, c223_6, e223, hx223_0, hx223_1, hx223_2, hx223_3, hx223_4, hx223_5, hx223_6, hl223_4, hi223_4, hl223_5, hi223_5, hl223_6, hi223_6⟩ := at_T26 HR0.out x16_1 p223 q223
           cases e223
           replace hx223_0 := (HB.out.cell (World.block_lt_of_cell? w _ hx223_0)).trans hx223_0
           replace hx223_1 := (HB.out.cell (World.block_lt_of_cell? w _ hx223_1)).trans hx223_1
           replace hx223_2 := (HB.out.cell (World.block_lt_of_cell? w _ hx223_2)).trans hx223_2
           replace hx223_3 := (HB.out.cell (World.block_lt_of_cell? w _ hx223_3)).trans hx223_3
           replace hx223_4 := (HB.out.cell (World.block_lt_of_cell? w _ hx223_4)).trans hx223_4
           replace hx223_5 := (HB.out.cell (World.block_lt_of_cell? w _ hx223_5)).trans hx223_5
           replace hx223_6 := (HB.out.cell (World.block_lt_of_cell? w _ hx223_6)).trans hx223_6
           have HR223_4 := Aside0.mk hi223_4
           have HC223_4 := Aside0.mk hl223_4
           clear hi223_4 hl223_4
           have HR223_5 := Aside0.mk hi223_5
           have HC223_5 := Aside0.mk hl223_5
           clear hi223_5 hl223_5
           have HR223_6 := Aside0.mk hi223_6
           have HC223_6 := Aside0.mk hl223_6
           clear hi223_6 hl223_6
           replace p223 := eq_true p223; replace q223 := eq_true q223
           go_wp2_with (first | ((with_reducible refine gate_dst (N := 8) rfl ?_); refine box_event ?hg (N := 8) ?hd (cs := #[.int .i64 0, .int .i64 0, .int .i64 0, .int .i64 0, .slice none 0 0, .slice none 0 0, .slice none 0 0]) (t := 26) ?hr ?_; (case hd => rfl); (case hg => rfl); (case hr => first | (go_simp; done) | (go_simp; rfl)); intro gb224 hg w20 hbox hb; have n0_ := Aside0.mk (Kd.R_below (by (with_reducible repeat (first | apply rA | apply rN | apply rD)); exact HO_5.out) hb); have n1_ := Aside0.mk (below_step (by repeat (first | (with_reducible first | exact HB.out | apply wA | apply wN | apply wD) | exact HB.out)) hb); have n2_ := Aside0.mk (hbox); have n3_ := Aside0.mk ((by rw [hg]; exact (below_size (by repeat (first | (with_reducible first | exact HB.out | apply wA | apply wN | apply wD) | exact HB.out))) : w.heap.size ≤ gb224)); have n4_ := n3_; clear HO_5; clear HB; have HO_5 := n0_; have HB := n1_; have BK224 := n2_; have GW224 := n3_; have GE224 := n4_; clear n0_ n1_ n2_ n3_ n4_; clear hb hbox hg; have hcz21_0 : w20.cell? ⟨gb224, 0, none⟩ = some (.int .i64 0) := (blk_cell BK224.out 0).trans rfl; have hcz21_1 : w20.cell? ⟨gb224, 1, none⟩ = some (.int .i64 0) := (blk_cell BK224.out 1).trans rfl; have hcz21_2 : w20.cell? ⟨gb224, 2, none⟩ = some (.int .i64 0) := (blk_cell BK224.out 2).trans rfl; have hcz21_3 : w20.cell? ⟨gb224, 3, none⟩ = some (.int .i64 0) := (blk_cell BK224.out 3).trans rfl; have hcz21_4 : w20.cell? ⟨gb224, 4, none⟩ = some (.slice none 0 0) := (blk_cell BK224.out 4).trans rfl; have hcz21_5 : w20.cell? ⟨gb224, 5, none⟩ = some (.slice none 0 0) := (blk_cell BK224.out 5).trans rfl; have hcz21_6 : w20.cell? ⟨gb224, 6, none⟩ = some (.slice none 0 0) := (blk_cell BK224.out 6).trans rfl; have hfz21_0 := blk_frozen BK224.out 0; have hfz21_1 := blk_frozen BK224.out 1; have hfz21_2 := blk_frozen BK224.out 2; have hfz21_3 := blk_frozen BK224.out 3; have hfz21_4 := blk_frozen BK224.out 4; have hfz21_5 := blk_frozen BK224.out 5; have hfz21_6 := blk_frozen BK224.out 6) | ((with_reducible refine gate_builtin (b := .append) (xs := #[.tmp 20, .tmp 22]) rfl ?_); at_builtin; refine Kd.R_append (Kd.int .i64) (w0 := w) w.heap.size rfl (.tmp 20) (.tmp 22) 23 3 (.int .i64 0) 8 rfl Tryd.underlying23 info3 rfl (by decide) (by omega) u5 x5_1 2 [.int .i64 2] (fun _ => True) (fun _ => False) rfl (by first | (go_simp; done) | (go_simp; rfl)) ?aP (fun _ hk => hk.elim) ?aF ?aO ?aB ?aS ?aL ?_; (case aP => exact rfl); (case aB => exact (by repeat (first | (with_reducible first | exact HB.out | apply wA | apply wN | apply wD | refine wS ?_ GE224.out) | exact HB.out))); (case aF => exact (fun _ _ => trivial)); (case aO => exact (by (with_reducible repeat (first | apply rA | apply rN | apply rD)); exact Kd.R_mono (R_fars7 gb224 (Kd.R_types HO_5.out BK224.out (by decide)) (fun _ hk => hk.2) (.int .i64 ((rd_T26 l0 x16_1).f0)) (.int .i64 ((rd_T26 l0 x16_1).f1.f0)) (.int .i64 ((rd_T26 l0 x16_1).f1.f1)) (.int .i64 ((rd_T26 l0 x16_1).f1.f2)) (.slice A223_4 ((rd_T26 l0 x16_1).f2.f0).length c223_4) (.slice A223_5 ((rd_T26 l0 x16_1).f2.f1).length c223_5) (.slice A223_6 ((rd_T26 l0 x16_1).f2.f2).length c223_6)) (fun _ hk => trivial))); (case aS => exact (below_size (by repeat (first | (with_reducible first | exact HB.out | apply wA | apply wN | apply wD | refine wS ?_ GE224.out) | exact HB.out)))); (case aL => have := LMc8.out; first | omega | exact Nat.le_of_lt this); intro v226 w22 ho hb hg hat; rw [← Ny225.out] at ho; have n0_ := Aside0.mk (blk_grown (g := gb224) (o := .cells #[.int .i64 ((rd_T26 l0 x16_1).f0), .int .i64 ((rd_T26 l0 x16_1).f1.f0), .int .i64 ((rd_T26 l0 x16_1).f1.f1), .int .i64 ((rd_T26 l0 x16_1).f1.f2), .slice A223_4 ((rd_T26 l0 x16_1).f2.f0).length c223_4, .slice A223_5 ((rd_T26 l0 x16_1).f2.f1).length c223_5, .slice A223_6 ((rd_T26 l0 x16_1).f2.f2).length c223_6] 26 (0, 0)) (by (with_reducible repeat (first | refine bN ?_ _ | refine bD ?_ | refine bA ?_ _)); refine blk_put (cs := #[.int .i64 ((rd_T26 l0 x16_1).f0), .int .i64 ((rd_T26 l0 x16_1).f1.f0), .int .i64 ((rd_T26 l0 x16_1).f1.f1), .int .i64 ((rd_T26 l0 x16_1).f1.f2), .slice A223_4 ((rd_T26 l0 x16_1).f2.f0).length c223_4, .slice A223_5 ((rd_T26 l0 x16_1).f2.f1).length c223_5, .slice none 0 0]) ?_ 6 _ rfl; (with_reducible repeat (first | refine bN ?_ _ | refine bD ?_ | refine bA ?_ _)); refine blk_put (cs := #[.int .i64 ((rd_T26 l0 x16_1).f0), .int .i64 ((rd_T26 l0 x16_1).f1.f0), .int .i64 ((rd_T26 l0 x16_1).f1.f1), .int .i64 ((rd_T26 l0 x16_1).f1.f2), .slice A223_4 ((rd_T26 l0 x16_1).f2.f0).length c223_4, .slice none 0 0, .slice none 0 0]) ?_ 5 _ rfl; (with_reducible repeat (first | refine bN ?_ _ | refine bD ?_ | refine bA ?_ _)); refine blk_put (cs := #[.int .i64 ((rd_T26 l0 x16_1).f0), .int .i64 ((rd_T26 l0 x16_1).f1.f0), .int .i64 ((rd_T26 l0 x16_1).f1.f1), .int .i64 ((rd_T26 l0 x16_1).f1.f2), .slice none 0 0, .slice none 0 0, .slice none 0 0]) ?_ 4 _ rfl; (with_reducible repeat (first | refine bN ?_ _ | refine bD ?_ | refine bA ?_ _)); refine blk_put (cs := #[.int .i64 ((rd_T26 l0 x16_1).f0), .int .i64 ((rd_T26 l0 x16_1).f1.f0), .int .i64 ((rd_T26 l0 x16_1).f1.f1), .int .i64 0, .slice none 0 0, .slice none 0 0, .slice none 0 0]) ?_ 3 _ rfl; (with_reducible repeat (first | refine bN ?_ _ | refine bD ?_ | refine bA ?_ _)); refine blk_put (cs := #[.int .i64 ((rd_T26 l0 x16_1).f0), .int .i64 ((rd_T26 l0 x16_1).f1.f0), .int .i64 0, .int .i64 0, .slice none 0 0, .slice none 0 0, .slice none 0 0]) ?_ 2 _ rfl; (with_reducible repeat (first | refine bN ?_ _ | refine bD ?_ | refine bA ?_ _)); refine blk_put (cs := #[.int .i64 ((rd_T26 l0 x16_1).f0), .int .i64 0, .int .i64 0, .int .i64 0, .slice none 0 0, .slice none 0 0, .slice none 0 0]) ?_ 1 _ rfl; (with_reducible repeat (first | refine bN ?_ _ | refine bD ?_ | refine bA ?_ _)); refine blk_put (cs := #[.int .i64 0, .int .i64 0, .int .i64 0, .int .i64 0, .slice none 0 0, .slice none 0 0, .slice none 0 0]) ?_ 0 _ rfl; (with_reducible repeat (first | refine bN ?_ _ | refine bD ?_ | refine bA ?_ _)); exact BK224.out) hg (Kd.R_ne HO_5.out BK224.out (by decide))); have n1_ := Aside0.mk (hb); have n2_ := Aside0.mk (ho); clear BK224; clear HB; clear HO_5; have BK224 := n0_; have HB := n1_; have HO227 := n2_; clear n0_ n1_ n2_; clear ho hb hg hat; have hcz23_0 : w22.cell? ⟨gb224, 0, none⟩ = some (.int .i64 ((rd_T26 l0 x16_1).f0)) := (blk_cell BK224.out 0).trans rfl; have hcz23_1 : w22.cell? ⟨gb224, 1, none⟩ = some (.int .i64 ((rd_T26 l0 x16_1).f1.f0)) := (blk_cell BK224.out 1).trans rfl; have hcz23_2 : w22.cell? ⟨gb224, 2, none⟩ = some (.int .i64 ((rd_T26 l0 x16_1).f1.f1)) := (blk_cell BK224.out 2).trans rfl; have hcz23_3 : w22.cell? ⟨gb224, 3, none⟩ = some (.int .i64 ((rd_T26 l0 x16_1).f1.f2)) := (blk_cell BK224.out 3).trans rfl; have hcz23_4 : w22.cell? ⟨gb224, 4, none⟩ = some (.slice A223_4 ((rd_T26 l0 x16_1).f2.f0).length c223_4) := (blk_cell BK224.out 4).trans rfl; have hcz23_5 : w22.cell? ⟨gb224, 5, none⟩ = some (.slice A223_5 ((rd_T26 l0 x16_1).f2.f1).length c223_5) := (blk_cell BK224.out 5).trans rfl; have hcz23_6 : w22.cell? ⟨gb224, 6, none⟩ = some (.slice A223_6 ((rd_T26 l0 x16_1).f2.f2).length c223_6) := (blk_cell BK224.out 6).trans rfl; have hfz23_0 := blk_frozen BK224.out 0; have hfz23_1 := blk_frozen BK224.out 1; have hfz23_2 := blk_frozen BK224.out 2; have hfz23_3 := blk_frozen BK224.out 3; have hfz23_4 := blk_frozen BK224.out 4; have hfz23_5 := blk_frozen BK224.out 5; have hfz23_6 := blk_frozen BK224.out 6))
           go_roundg k1
           case measure => have := HK1.out; omega
           case rel => exact ⟨(y225), ((rd_T26 l0 x16_1).f1.f2), (wrap64 (x16_1 + 1)), (by first | rfl | (simp; done) | (simp [*]; done)), (by first | rfl | (simp; done) | (simp [*]; done)), H', ⟨by have := HK1.out; omega⟩, ⟨by (with_reducible repeat (first | apply rA | apply rN | apply rD)); exact HO227.out⟩, ⟨by repeat (first | (with_reducible first | exact HB.out | apply wA | apply wN | apply wD | refine wS ?_ GE224.out) | exact HB.out)⟩⟩
          ·rw [if_neg c19] at H
           exact absurd H (by simp)
       ·rw [if_neg c8] at H
        exact absurd H (by simp)
      ·rw [if_neg c7] at H
       exact absurd H (by simp)
     ·rw [if_neg c6] at H
      exact absurd H (by simp)
    ·rw [if_neg c5] at H
     have c5b0 : decide (x16_1 < (l0.length : Int)) = false := decide_eq_false c5
     clear c5
     simp only [Option.some.injEq, Prod.mk.injEq] at H
     obtain ⟨rfl, rfl⟩ := H
     go_wp2
     go_ret2
     exact ⟨_, by first | rfl | (simp [errW_none, errW_some] <;> rfl) | (simp [*, errW_none, errW_some] <;> rfl), by (with_reducible repeat (first | apply rA | apply rN | apply rD)); exact HO_5.out, by repeat (first | (with_reducible first | exact HB.out | apply wA | apply wN | apply wD) | exact HB.out)⟩
 ·rw [if_neg c3] at H
  have c3b0 : (t222 == 0) = false := beq_eq_false_iff_ne.mpr c3
  have c3b1 : (t222 != 0) = true := bne_iff_ne.mpr c3
  simp only [Option.some.injEq, Prod.mk.injEq] at H
  obtain ⟨rfl, rfl⟩ := H
  go_enter Tryd.func18, Tryd.ntmps18
  go_wp2_with (first | ((with_reducible refine gate_callee (f := 33) rfl ?_); refine goesL_ (some 10) rfl rfl Tryd.func33 (by kernel_rfl) rfl #[.slice A0 l0.length c0] rfl (by (try simp only [List.map_toArray, List.map_cons, List.map_nil]); first | done | rfl | (simp only [List.length_drop, List.length_take]; rfl)) ?_; (with_reducible refine (scan_examine.calls k _ _ l0 t222 _ ?side1 ?side2 A2.out).mono ?_); (case side1 => repeat (first | exact HR0.out | (with_reducible refine Kd.C_alloc ?_ _) | (with_reducible refine Kd.C_drewN ?_ _) | (with_reducible refine Kd.C_drew ?_))); (case side2 => exact HC0.out); rintro e w24 ⟨rfl, hb⟩; refine ⟨_, rfl, ?_⟩; have n0_ := Aside0.mk (below_step (by repeat (first | (with_reducible first | exact HB.out | apply wA | apply wN | apply wD) | exact HB.out)) hb); clear HB; have HB := n0_; clear n0_; (try clear hb); (try clear hb2); (try clear hk); (try clear hi)))
  go_ret2
  exact ⟨_, by first | rfl | (simp [errW_none, errW_some] <;> rfl) | (simp [*, errW_none, errW_some] <;> rfl), by first | exact Kd.R_nil _ _ _ _ _ | exact Kd.N_nil _ _ _ _ _ | exact Kd.V_nil _ _ _ _ _ | exact Kd.Q_nil _ _ _ _ _ | exact Kd.S_nil _ _ _ _ _, by repeat (first | (with_reducible first | exact HB.out | apply wA | apply wN | apply wD) | exact HB.out)⟩

/-! ### ndjqkeep_Mod: function 23 -/
def ndjqkeep_Mod.f (a0 : Int) (a1 : Int) : Option (Int) := if a1 = 0 then (none) else (if (Int.tmod a0 a1) < 0 then (some (wrap64 ((Int.tmod a0 a1) + a1))) else (some (Int.tmod a0 a1)))
set_option maxHeartbeats 8000000 in
set_option maxRecDepth 100000 in
theorem ndjqkeep_Mod.calls (a0 : Int) (a1 : Int) (r : Int) (w : World) (h : ndjqkeep_Mod.f a0 a1 = some r) :
    Calls Tryd.prog 23 #[.int .i64 a0, .int .i64 a1] w fun e w' => e = .returned (.int .i64 r) ∧ Drawn0 w w' := by
  have H : (if a1 = 0 then (none) else (if (Int.tmod a0 a1) < 0 then (some (wrap64 ((Int.tmod a0 a1) + a1))) else (some (Int.tmod a0 a1)))) = some r := h
  clear h
  by_cases c3 : a1 = 0
  · rw [if_pos c3] at H
    exact absurd H (by simp)
  · rw [if_neg c3] at H
    have c3b0 : (a1 == 0) = false := beq_eq_false_iff_ne.mpr c3
    have c3b1 : (a1 != 0) = true := bne_iff_ne.mpr c3
    by_cases c4 : (Int.tmod a0 a1) < 0
    · rw [if_pos c4] at H
      have c4b0 : decide ((Int.tmod a0 a1) < 0) = true := decide_eq_true c4
      clear c4
      obtain rfl := Option.some.inj H
      go_enter Tryd.func23, Tryd.ntmps23
      go_wp2
      go_ret
      exact ⟨by first | rfl | (simp; done) | (simp [*]; done), by repeat (first | exact Drawn0.refl _ | apply Drawn0.step)⟩
    · rw [if_neg c4] at H
      have c4b0 : decide ((Int.tmod a0 a1) < 0) = false := decide_eq_false c4
      clear c4
      obtain rfl := Option.some.inj H
      go_enter Tryd.func23, Tryd.ntmps23
      go_wp2
      go_ret
      exact ⟨by first | rfl | (simp; done) | (simp [*]; done), by repeat (first | exact Drawn0.refl _ | apply Drawn0.step)⟩

/-! ### split_Lines: function 27 -/
def split_Lines.l0 : Nat → List Int → Int → List Int → Int → Int → Option (List Int × Int × Int)
  | 0, _, _, _, _, _ => none
  | k + 1, x5, x6, x15, x16, x17 => if x17 < x16 then (if 0 ≤ x17 then (if x17 < (x15.length : Int) then ((automaton_Step.f x6 (rd x15 x17)).bind fun bt232 => (if bt232.2 = true then (if x5.length < 17592186044416 then (split_Lines.l0 k (x5 ++ [x17]) bt232.1 x15 x16 (wrap64 (x17 + 1))) else (none)) else (split_Lines.l0 k x5 bt232.1 x15 x16 (wrap64 (x17 + 1))))) else (none)) else (none)) else (some (x5, x6, 0))
def split_Lines.f (k : Nat) (a0 : ByteArray) : Option (List Int × Int × Int) := if (a0.size : Int) > 1048576 then (some (([] : List Int), 0, 2)) else (if a0.size ≤ 9223372036854775807 then ((some (bytesOf a0 : List Int)).bind fun y228 => (split_Lines.l0 k ([] : List Int) 0 y228 (y228.length : Int) 0)) else (none))
theorem split_Lines.mono_l : ∀ k, (∀ y0 y1 y2 y3 y4, LeO (split_Lines.l0 k y0 y1 y2 y3 y4) (split_Lines.l0 (k + 1) y0 y1 y2 y3 y4))
  | 0 => fun _ _ _ _ _ r h => by simp [split_Lines.l0] at h
  | k + 1 => by
    have ih0 := split_Lines.mono_l k
    · intro y0 y1 y2 y3 y4
      unfold split_Lines.l0
      repeat' first
      | (with_reducible exact ih0 _ _ _ _ _)
      | (with_reducible exact LeO.refl _)
      | (with_reducible exact LeO.none _)
      | (with_reducible refine LeO.ite ?_ ?_)
      | (with_reducible refine LeO.bind ?_ (fun _ => ?_))
      | exact ih0 _ _ _ _ _
      | exact LeO.none _
      | refine LeO.ite ?_ ?_
      | refine LeO.bind ?_ (fun _ => ?_)
theorem split_Lines.mono : ∀ a0 k, LeO (split_Lines.f k a0) (split_Lines.f (k + 1) a0) := by
  intro a0 k
  have ih0 := split_Lines.mono_l k
  unfold split_Lines.f
  repeat' first
      | (with_reducible exact ih0 _ _ _ _ _)
      | (with_reducible exact LeO.refl _)
      | (with_reducible exact LeO.none _)
      | (with_reducible refine LeO.ite ?_ ?_)
      | (with_reducible refine LeO.bind ?_ (fun _ => ?_))
      | exact ih0 _ _ _ _ _
      | exact LeO.none _
      | refine LeO.ite ?_ ?_
      | refine LeO.bind ?_ (fun _ => ?_)
set_option maxHeartbeats 8000000 in
set_option maxRecDepth 100000 in
theorem split_Lines.calls (k : Nat) (a0 : ByteArray) (r1 : List Int) (r2 : Int) (r3 : Int) (w : World) (hG : GlbLaid w) (h : split_Lines.f k a0 = some (r1, r2, r3)) :
    Calls Tryd.prog 27 #[.string a0] w fun e w' => ∃ v0_ : Value, e = .returned (.tuple #[v0_, .int .i64 r2, .int .i64 r3]) ∧ Kd.R (Kd.int .i64) 3 w' w.heap.size (fun _ => True) v0_ r1 ∧ Below w.heap.size w w' := by
  have HG := Aside0.mk hG
  clear hG
  have HB := Aside0.mk (Below.refl w.heap.size w)
  have H : (if (a0.size : Int) > 1048576 then (some (([] : List Int), 0, 2)) else (if a0.size ≤ 9223372036854775807 then ((some (bytesOf a0 : List Int)).bind fun y228 => (split_Lines.l0 k ([] : List Int) 0 y228 (y228.length : Int) 0)) else (none))) = some (r1, r2, r3) := h
  clear h
  by_cases c2 : (a0.size : Int) > 1048576
  · rw [if_pos c2] at H
    have c2b0 : decide (1048576 < (a0.size : Int)) = true := decide_eq_true c2
    have c2b1 : decide (1048576 < a0.size) = true := decide_eq_true (by omega)
    clear c2
    simp only [Option.some.injEq, Prod.mk.injEq] at H
    obtain ⟨rfl, rfl, rfl⟩ := H
    go_enter Tryd.func27, Tryd.ntmps27
    go_wp2
    go_ret3
    exact ⟨_, by first | rfl | (simp [errW_none, errW_some] <;> rfl) | (simp [*, errW_none, errW_some] <;> rfl), by first | exact Kd.R_nil _ _ _ _ _ | exact Kd.N_nil _ _ _ _ _ | exact Kd.V_nil _ _ _ _ _ | exact Kd.Q_nil _ _ _ _ _ | exact Kd.S_nil _ _ _ _ _, by repeat (first | (with_reducible first | exact HB.out | apply below_alloc | apply pw_below_drewN | apply below_drew1) | exact HB.out)⟩
  · rw [if_neg c2] at H
    have c2b0 : decide (1048576 < (a0.size : Int)) = false := decide_eq_false c2
    have c2b1 : decide (1048576 < a0.size) = false := decide_eq_false (by omega)
    clear c2
    by_cases c3 : a0.size ≤ 9223372036854775807
    · rw [if_pos c3] at H
      have c3b0 := eq_true c3
      have c3b1 : decide (a0.size ≤ 9223372036854775807) = true := decide_eq_true c3
      try have c3b2 : (9223372036854775807 < a0.size) = False := eq_false (Nat.not_lt.2 c3)
      clear c3
      obtain ⟨y228, hy228⟩ : ∃ y_ : List Int, y_ = (bytesOf a0) := ⟨_, rfl⟩
      replace H : (split_Lines.l0 k ([] : List Int) 0 y228 (y228.length : Int) 0) = some (r1, r2, r3) := by first | (rw [hy228]; with_reducible exact H) | (have H2_ := (Option.bind_some _ _).symm.trans H; rw [hy228]; with_reducible exact H2_) | (have H2_ := (Option.bind_some _ _).symm.trans H; with_reducible exact H2_) | with_reducible exact H | (rw [hy228]; exact H) | exact H
      have Ny228 := Aside0.mk hy228
      clear hy228
      have H' := Aside0.mk H
      clear H
      go_enter Tryd.func27, Tryd.ntmps27
      go_wp2_with (first | ((with_reducible refine gate_dst (N := 15) rfl ?_); refine V_conv _ 5 rfl (N := 15) rfl 9 71 _ rfl a0 rfl Tryd.underlying9 Tryd.underlying71 Tryd.underlying5 (of_decide_eq_true (by first | (with_reducible assumption) | assumption)) (Below.refl _ _) (Nat.le_refl _) ?_; intro v229 w4 ho5 hb hg_ hnew_; clear hg_ hnew_; (first | rw [← Ny228.out] at ho5 | (simp only [Int.reduceToNat] at ho5; rw [← Ny228.out] at ho5)); have n0_ := Aside0.mk (Kd.V_lower (Kd.V_mono (ok' := fun k_ => True) ho5 (fun k_ hk_ => trivial)) (below_size (by repeat (first | (with_reducible first | exact HB.out | apply below_alloc | apply pw_below_drewN | apply below_drew1) | exact HB.out)))); have n1_ := Aside0.mk (below_step (by repeat (first | (with_reducible first | exact HB.out | apply below_alloc | apply pw_below_drewN | apply below_drew1) | exact HB.out)) hb); clear HB; have HO230 := n0_; have HB := n1_; clear n0_ n1_; clear hb ho5; obtain ⟨Ao6, co6, eo6⟩ := Kd.V_slice HO230.out; subst eo6))
      go_loopg [5, 6, 17] k (fun kq v5 v6 v17 w' => ∃ (x5_1 : List Int) (x6_1 : Int) (x17_1 : Int), v6 = .int .i64 x6_1 ∧ v17 = .int .i64 x17_1 ∧ Aside0 (split_Lines.l0 kq x5_1 x6_1 y228 (y228.length : Int) x17_1 = some (r1, r2, r3)) ∧ Aside0 (kq ≤ k) ∧ Aside0 (Kd.R (Kd.int .i64) 3 w' w.heap.size (fun _ => True) v5 x5_1) ∧ Aside0 (Kd.V (Kd.int .u8) 5 w' w.heap.size (fun k_ => some k_ ≠ (v5 : Value).ownBlock) (.slice Ao6 y228.length co6) y228) ∧ Aside0 (Below w.heap.size w w'))
      case atStart => exact ⟨(([] : List Int)), (0), (0), (by first | rfl | (simp; done) | (simp [*]; done)), (by first | rfl | (simp; done) | (simp [*]; done)), H', ⟨Nat.le_refl _⟩, ⟨by first | exact Kd.R_nil _ _ _ _ _ | exact Kd.N_nil _ _ _ _ _ | exact Kd.V_nil _ _ _ _ _ | exact Kd.Q_nil _ _ _ _ _ | exact Kd.S_nil _ _ _ _ _⟩, ⟨by (with_reducible repeat (first | apply Kd.V_alloc | apply Kd.V_drewN | apply Kd.V_drew)); exact Kd.V_mono HO230.out (fun _ hk => (by simp [Value.ownBlock]))⟩, ⟨by repeat (first | (with_reducible first | exact HB.out | apply below_alloc | apply pw_below_drewN | apply below_drew1) | exact HB.out)⟩⟩
      case round =>
        clear H'
        (try clear c2); (try clear c2b0); (try clear c2b1); (try clear p2); (try clear c3); (try clear c3b0); (try clear c3b1); (try clear c3b2)
        obtain ⟨x5_1, x6_1, x17_1, rfl, rfl, HA, HK1, HO_5, HO_15, HB⟩ := hrel
        cases gk with
        | zero => exact absurd HA.out (by simp [split_Lines.l0])
        | succ k1 =>
          have H := HA.out
          clear HA
          simp only [split_Lines.l0] at H
          by_cases c7 : x17_1 < (y228.length : Int)
          · rw [if_pos c7] at H
            have c7b0 : decide (x17_1 < (y228.length : Int)) = true := decide_eq_true c7
            clear c7
            by_cases c8 : 0 ≤ x17_1
            · rw [if_pos c8] at H
              have c8b0 : decide (0 ≤ x17_1) = true := decide_eq_true c8
              clear c8
              by_cases c9 : x17_1 < (y228.length : Int)
              · rw [if_pos c9] at H
                have c9b0 : decide (x17_1 < (y228.length : Int)) = true := decide_eq_true c9
                clear c9
                replace H := Option.bind_eq_some_iff.mp H
                obtain ⟨⟨t232, t233⟩, A100, H⟩ := H
                replace H : (if t233 = true then (if x5_1.length < 17592186044416 then (split_Lines.l0 k1 (x5_1 ++ [x17_1]) t232 y228 (y228.length : Int) (wrap64 (x17_1 + 1))) else (none)) else (split_Lines.l0 k1 x5_1 t232 y228 (y228.length : Int) (wrap64 (x17_1 + 1)))) = some (r1, r2, r3) := H
                have A10 := Aside0.mk A100
                clear A100
                by_cases c11 : t233 = true
                · subst c11
                  have H1 : (if x5_1.length < 17592186044416 then (split_Lines.l0 k1 (x5_1 ++ [x17_1]) t232 y228 (y228.length : Int) (wrap64 (x17_1 + 1))) else (none)) = some (r1, r2, r3) := by rw [if_pos rfl] at H; exact H
                  clear H
                  have H := H1
                  clear H1
                  by_cases c12 : x5_1.length < 17592186044416
                  · rw [if_pos c12] at H
                    have LMc12 := Aside0.mk c12
                    clear c12
                    obtain ⟨y234, hy234⟩ : ∃ y_ : List Int, y_ = (x5_1 ++ [x17_1]) := ⟨_, rfl⟩
                    replace H : (split_Lines.l0 k1 y234 t232 y228 (y228.length : Int) (wrap64 (x17_1 + 1))) = some (r1, r2, r3) := by first | (rw [hy234]; with_reducible exact H) | (have H2_ := (Option.bind_some _ _).symm.trans H; rw [hy234]; with_reducible exact H2_) | (have H2_ := (Option.bind_some _ _).symm.trans H; with_reducible exact H2_) | with_reducible exact H | (rw [hy234]; exact H) | exact H
                    have Ny234 := Aside0.mk hy234
                    clear hy234
                    have H' := Aside0.mk H
                    clear H
                    have p231 : 0 ≤ (x17_1 : Int) := of_decide_eq_true (by first | (with_reducible assumption) | assumption)
                    have q231 : x17_1 < (y228.length : Int) := of_decide_eq_true (by first | (with_reducible assumption) | assumption)
                    obtain ⟨ad231, e231, hx231_0⟩ := Kd.at_int (Kd.V_reads' HO_15.out).2.2 x17_1 p231 q231
                    cases e231
                    replace p231 := eq_true p231
                    replace q231 := eq_true q231
                    go_wp2_with (first | ((with_reducible refine gate_callee (f := 36) rfl ?_); refine goesL_ (some 25) rfl rfl Tryd.func36 (by kernel_rfl) rfl #[.int .i64 x6_1, .int .u8 (rd y228 x17_1)] rfl (by (try simp only [List.map_toArray, List.map_cons, List.map_nil]); first | done | rfl | (simp only [List.length_drop, List.length_take]; rfl)) ?_; (with_reducible refine (automaton_Step.calls x6_1 (rd y228 x17_1) t232 true _ ?side1 A10.out).mono ?_); (case side1 => exact GlbLaid.below HG.out (by repeat (first | (with_reducible first | exact HB.out | apply below_alloc | apply pw_below_drewN | apply below_drew1) | exact HB.out))); rintro e w13 ⟨rfl, hb⟩; refine ⟨_, rfl, ?_⟩; have n0_ := Aside0.mk (Kd.R_below (by (with_reducible repeat (first | apply Kd.R_alloc | apply Kd.R_drewN | apply Kd.R_drew)); exact HO_5.out) hb); have n1_ := Aside0.mk (Kd.V_below (by (with_reducible repeat (first | apply Kd.V_alloc | apply Kd.V_drewN | apply Kd.V_drew)); exact HO_15.out) hb); have n2_ := Aside0.mk (below_step (by repeat (first | (with_reducible first | exact HB.out | apply below_alloc | apply pw_below_drewN | apply below_drew1) | exact HB.out)) hb); clear HO_5; clear HO_15; clear HB; have HO_5 := n0_; have HO_15 := n1_; have HB := n2_; clear n0_ n1_ n2_; (try clear hb); (try clear hb2); (try clear hk); (try clear hi)) | ((with_reducible refine gate_builtin (b := .append) (xs := #[.tmp 29, .tmp 31]) rfl ?_); at_builtin; refine Kd.R_append (Kd.int .i64) (w0 := w) w.heap.size rfl (.tmp 29) (.tmp 31) 23 3 (.int .i64 0) 8 rfl Tryd.underlying23 info3 rfl (by decide) (by omega) u5 x5_1 x17_1 [.int .i64 x17_1] (fun _ => True) (fun _ => False) rfl rfl ?aP (fun _ hk => hk.elim) ?aF ?aO ?aB ?aS ?aL ?_; (case aP => exact rfl); (case aB => exact (by repeat (first | (with_reducible first | exact HB.out | apply below_alloc | apply pw_below_drewN | apply below_drew1) | exact HB.out))); (case aF => exact (fun _ _ => trivial)); (case aO => exact (by (with_reducible repeat (first | apply Kd.R_alloc | apply Kd.R_drewN | apply Kd.R_drew)); exact HO_5.out)); (case aS => exact (below_size (by repeat (first | (with_reducible first | exact HB.out | apply below_alloc | apply pw_below_drewN | apply below_drew1) | exact HB.out)))); (case aL => have := LMc12.out; first | omega | exact Nat.le_of_lt this); intro v235 w14 ho hb hg hat; rw [← Ny234.out] at ho; have n0_ := Aside0.mk (Kd.V_afterv (ok := (fun _ => True)) (by (with_reducible repeat (first | apply Kd.V_alloc | apply Kd.V_drewN | apply Kd.V_drew)); exact Kd.V_mono HO_15.out (fun _ hk => ⟨trivial, hk⟩)) hg hat); have n1_ := Aside0.mk (hb); have n2_ := Aside0.mk (ho); clear HO_15; clear HB; clear HO_5; have HO_15 := n0_; have HB := n1_; have HO236 := n2_; clear n0_ n1_ n2_; clear ho hb hg hat))
                    go_roundg k1
                    case measure => have := HK1.out; omega
                    case rel => exact ⟨(y234), (t232), (wrap64 (x17_1 + 1)), (by first | rfl | (simp; done) | (simp [*]; done)), (by first | rfl | (simp; done) | (simp [*]; done)), H', ⟨by have := HK1.out; omega⟩, ⟨by (with_reducible repeat (first | apply Kd.R_alloc | apply Kd.R_drewN | apply Kd.R_drew)); exact HO236.out⟩, ⟨by (with_reducible repeat (first | apply Kd.V_alloc | apply Kd.V_drewN | apply Kd.V_drew)); exact Kd.V_mono HO_15.out (fun _ hk => hk.2)⟩, ⟨by repeat (first | (with_reducible first | exact HB.out | apply below_alloc | apply pw_below_drewN | apply below_drew1) | exact HB.out)⟩⟩
                  · rw [if_neg c12] at H
                    exact absurd H (by simp)
                · replace c11 := Bool.eq_false_iff.mpr c11
                  subst c11
                  have H1 : (split_Lines.l0 k1 x5_1 t232 y228 (y228.length : Int) (wrap64 (x17_1 + 1))) = some (r1, r2, r3) := by rw [if_neg (show ¬ (false = true) by decide)] at H; exact H
                  clear H
                  have H := H1
                  clear H1
                  have H' := Aside0.mk H
                  clear H
                  have p231 : 0 ≤ (x17_1 : Int) := of_decide_eq_true (by first | (with_reducible assumption) | assumption)
                  have q231 : x17_1 < (y228.length : Int) := of_decide_eq_true (by first | (with_reducible assumption) | assumption)
                  obtain ⟨ad231, e231, hx231_0⟩ := Kd.at_int (Kd.V_reads' HO_15.out).2.2 x17_1 p231 q231
                  cases e231
                  replace p231 := eq_true p231
                  replace q231 := eq_true q231
                  go_wp2_with (first | ((with_reducible refine gate_callee (f := 36) rfl ?_); refine goesL_ (some 25) rfl rfl Tryd.func36 (by kernel_rfl) rfl #[.int .i64 x6_1, .int .u8 (rd y228 x17_1)] rfl (by (try simp only [List.map_toArray, List.map_cons, List.map_nil]); first | done | rfl | (simp only [List.length_drop, List.length_take]; rfl)) ?_; (with_reducible refine (automaton_Step.calls x6_1 (rd y228 x17_1) t232 false _ ?side1 A10.out).mono ?_); (case side1 => exact GlbLaid.below HG.out (by repeat (first | (with_reducible first | exact HB.out | apply below_alloc | apply pw_below_drewN | apply below_drew1) | exact HB.out))); rintro e w15 ⟨rfl, hb⟩; refine ⟨_, rfl, ?_⟩; have n0_ := Aside0.mk (Kd.R_below (by (with_reducible repeat (first | apply Kd.R_alloc | apply Kd.R_drewN | apply Kd.R_drew)); exact HO_5.out) hb); have n1_ := Aside0.mk (Kd.V_below (by (with_reducible repeat (first | apply Kd.V_alloc | apply Kd.V_drewN | apply Kd.V_drew)); exact HO_15.out) hb); have n2_ := Aside0.mk (below_step (by repeat (first | (with_reducible first | exact HB.out | apply below_alloc | apply pw_below_drewN | apply below_drew1) | exact HB.out)) hb); clear HO_5; clear HO_15; clear HB; have HO_5 := n0_; have HO_15 := n1_; have HB := n2_; clear n0_ n1_ n2_; (try clear hb); (try clear hb2); (try clear hk); (try clear hi)))
                  go_roundg k1
                  case measure => have := HK1.out; omega
                  case rel => exact ⟨(x5_1), (t232), (wrap64 (x17_1 + 1)), (by first | rfl | (simp; done) | (simp [*]; done)), (by first | rfl | (simp; done) | (simp [*]; done)), H', ⟨by have := HK1.out; omega⟩, ⟨by (with_reducible repeat (first | apply Kd.R_alloc | apply Kd.R_drewN | apply Kd.R_drew)); exact HO_5.out⟩, ⟨by (with_reducible repeat (first | apply Kd.V_alloc | apply Kd.V_drewN | apply Kd.V_drew)); exact HO_15.out⟩, ⟨by repeat (first | (with_reducible first | exact HB.out | apply below_alloc | apply pw_below_drewN | apply below_drew1) | exact HB.out)⟩⟩
              · rw [if_neg c9] at H
                exact absurd H (by simp)
            · rw [if_neg c8] at H
              exact absurd H (by simp)
          · rw [if_neg c7] at H
            have c7b0 : decide (x17_1 < (y228.length : Int)) = false := decide_eq_false c7
            clear c7
            simp only [Option.some.injEq, Prod.mk.injEq] at H
            obtain ⟨rfl, rfl, rfl⟩ := H
            go_wp2
            go_ret3
            exact ⟨_, by first | rfl | (simp [errW_none, errW_some] <;> rfl) | (simp [*, errW_none, errW_some] <;> rfl), by (with_reducible repeat (first | apply Kd.R_alloc | apply Kd.R_drewN | apply Kd.R_drew)); exact HO_5.out, by repeat (first | (with_reducible first | exact HB.out | apply below_alloc | apply pw_below_drewN | apply below_drew1) | exact HB.out)⟩
    · rw [if_neg c3] at H
      exact absurd H (by simp)

end Go.Proofs.YtkhnifehcnlpjaaDoor.QC
