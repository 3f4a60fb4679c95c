-- by a program of this session (print2.py): the machine's side of one law; Lean checks it.
import Derived.Test.YtkhnifehcnlpjaaDoorQBx0
import Derived.Test.YtkhnifehcnlpjaaDoorQBx4
namespace Go.Proofs.YtkhnifehcnlpjaaDoor.QB
open Go.RowKit Go.Proofs.YtkhnifehcnlpjaaDoorW.PrintWords Go.Proofs.YtkhnifehcnlpjaaDoorW.PrintLast Go.Proofs.YtkhnifehcnlpjaaDoorW.PrintMore
attribute [local go_sem] max2_int min2_int max_two min_two max_three min_three max_four min_four   -- for this text's walks alone
set_option linter.unusedVariables false
set_option linter.unusedSimpArgs false

/-! ### scan_examine: function 33 -/
def scan_examine.l0 : Nat → Int → List (S26) → Int → Int → Option (Int)
 | 0, _, _, _, _ => none
 | k + 1, x3, x6, x7, x8 => if x8 < x7 then (if 0 ≤ x8 then (if x8 < (x6.length : Int) then ((automaton_Valid.f k ((rd_T26 x6 x8).f0) ((rd_T26 x6 x8).f1.f0) ((rd_T26 x6 x8).f1.f1) ((rd_T26 x6 x8).f1.f2) ((rd_T26 x6 x8).f2.f0) ((rd_T26 x6 x8).f2.f1) ((rd_T26 x6 x8).f2.f2)).bind fun t221 => (if t221 = true then (scan_examine.l0 k (mn (wrap64 (x3 + ((rd_T26 x6 x8).f0))) 1048577) x6 x7 (wrap64 (x8 + 1))) else (some 1))) else (none)) else (none)) else (if x3 > 1048576 then (some 2) else (some 0))
def scan_examine.f (k : Nat) (l0 : List (S26)) : Option (Int) := scan_examine.l0 k 0 l0 (l0.length : Int) 0
theorem scan_examine.mono_l : ∀ k, (∀ y0 y1 y2 y3, LeO (scan_examine.l0 k y0 y1 y2 y3) (scan_examine.l0 (k + 1) y0 y1 y2 y3))
 | 0 => fun _ _ _ _ r h => by simp [scan_examine.l0] at h
 | k + 1 => by
  have ih0 := scan_examine.mono_l k
  ·intro y0 y1 y2 y3
   unfold scan_examine.l0
   repeat' first
   | (with_reducible exact ih0 _ _ _ _)
   | (with_reducible exact automaton_Valid.mono _ _ _ _ _ _ _ _)
   | (with_reducible exact LeO.refl _)
   | (with_reducible exact LeO.none _)
   | (with_reducible refine LeO.ite ?_ ?_)
   | (with_reducible refine LeO.bind ?_ (fun _ => ?_))
   | exact ih0 _ _ _ _
   | exact automaton_Valid.mono _ _ _ _ _ _ _ _
   | exact LeO.none _
   | refine LeO.ite ?_ ?_
   | refine LeO.bind ?_ (fun _ => ?_)
theorem scan_examine.mono : ∀ a0 k, LeO (scan_examine.f k a0) (scan_examine.f (k + 1) a0) := by
 intro a0 k
 have ih0 := scan_examine.mono_l k
 unfold scan_examine.f
 repeat' first
   | (with_reducible exact ih0 _ _ _ _)
   | (with_reducible exact automaton_Valid.mono _ _ _ _ _ _ _ _)
   | (with_reducible exact LeO.refl _)
   | (with_reducible exact LeO.none _)
   | (with_reducible refine LeO.ite ?_ ?_)
   | (with_reducible refine LeO.bind ?_ (fun _ => ?_))
   | exact ih0 _ _ _ _
   | exact automaton_Valid.mono _ _ _ _ _ _ _ _
   | exact LeO.none _
   | refine LeO.ite ?_ ?_
   | refine LeO.bind ?_ (fun _ => ?_)
set_option maxHeartbeats 8000000 in
set_option maxRecDepth 100000 in
theorem scan_examine.calls (k : Nat) (A0 : Option Addr) (c0 : Nat) (l0 : List (S26)) (r : Int) (w : World) (hr0 : Kd.C k26 w A0 l0.length l0) (hc0 : l0.length ≤ c0) (h : scan_examine.f k l0 = some r) :
  Calls Tryd.prog 33 #[.slice A0 l0.length c0] w fun e w' => e = .returned (.int .i64 r) ∧ Below w.heap.size w w' := by
 have hu26 := Tryd.underlying26
 have HR0 := Aside0.mk hr0
 have HC0 := Aside0.mk hc0
 clear hr0 hc0
 have HB := Aside0.mk (Below.refl w.heap.size w)
 have H : (scan_examine.l0 k 0 l0 (l0.length : Int) 0) = some r := h
 clear h
 have H' := Aside0.mk H
 clear H
 go_enter Tryd.func33, Tryd.ntmps33
 go_wp2
 go_loopg [3, 8] k (fun kq v3 v8 w' => ∃ (x3_1 : Int) (x8_1 : Int), v3 = .int .i64 x3_1 ∧ v8 = .int .i64 x8_1 ∧ Aside0 (scan_examine.l0 kq x3_1 l0 (l0.length : Int) x8_1 = some r) ∧ Aside0 (kq ≤ k) ∧ Aside0 (Below w.heap.size w w'))
 case atStart => exact ⟨(0), (0), (by first | rfl | (simp; done) | (simp [*]; done)), (by first | rfl | (simp; done) | (simp [*]; done)), H', ⟨Nat.le_refl _⟩, ⟨by repeat (first | (with_reducible first | exact HB.out | apply wA | apply wN | apply wD) | exact HB.out)⟩⟩
 case round =>
  clear H'
  obtain ⟨x3_1, x8_1, rfl, rfl, HA, HK1, HB⟩ := hrel
  cases gk with
  | zero => exact absurd HA.out (by simp [scan_examine.l0])
  | succ k1 =>
   have H := HA.out
   clear HA
   simp only [scan_examine.l0] at H
   by_cases c2 : x8_1 < (l0.length : Int)
   ·rw [if_pos c2] at H
    have c2b0 : decide (x8_1 < (l0.length : Int)) = true := decide_eq_true c2
    clear c2
    by_cases c3 : 0 ≤ x8_1
    ·rw [if_pos c3] at H
     have c3b0 : decide (0 ≤ x8_1) = true := decide_eq_true c3
     clear c3
     by_cases c4 : x8_1 < (l0.length : Int)
     ·rw [if_pos c4] at H
      have c4b0 : decide (x8_1 < (l0.length : Int)) = true := decide_eq_true c4
      clear c4
      replace H := Option.bind_eq_some_iff.mp H
      obtain ⟨t221, A50, H⟩ := H
      replace H : (if t221 = true then (scan_examine.l0 k1 (mn (wrap64 (x3_1 + ((rd_T26 l0 x8_1).f0))) 1048577) l0 (l0.length : Int) (wrap64 (x8_1 + 1))) else (some 1)) = some r := H
      have A5 := Aside0.mk A50
      clear A50
      have HF6 := Aside0.mk H
      clear H
      have p219 : 0 ≤ (x8_1 : Int) := of_decide_eq_true (by first | (with_reducible assumption) | assumption)
      have q219 : x8_1 < (l0.length : Int) := of_decide_eq_true (by first | (with_reducible assumption) | assumption)
      obtain ⟨ad219, A219_4, c219_4, A219_5, c219_5, A219_6, c219_6, e219, hx219_0, hx219_1, hx219_2, hx219_3, hx219_4, hx219_5, hx219_6, hl219_4, hi219_4, hl219_5, hi219_5, hl219_6, hi219_6⟩ := at_T26 HR0.out x8_1 p219 q219
      cases e219
      replace hx219_0 := (HB.out.cell (World.block_lt_of_cell? w _ hx219_0)).trans hx219_0
      replace hx219_1 := (HB.out.cell (World.block_lt_of_cell? w _ hx219_1)).trans hx219_1
      replace hx219_2 := (HB.out.cell (World.block_lt_of_cell? w _ hx219_2)).trans hx219_2
      replace hx219_3 := (HB.out.cell (World.block_lt_of_cell? w _ hx219_3)).trans hx219_3
      replace hx219_4 := (HB.out.cell (World.block_lt_of_cell? w _ hx219_4)).trans hx219_4
      replace hx219_5 := (HB.out.cell (World.block_lt_of_cell? w _ hx219_5)).trans hx219_5
      replace hx219_6 := (HB.out.cell (World.block_lt_of_cell? w _ hx219_6)).trans hx219_6
      have HR219_4 := Aside0.mk hi219_4
      have HC219_4 := Aside0.mk hl219_4
      clear hi219_4 hl219_4
      have HR219_5 := Aside0.mk hi219_5
      have HC219_5 := Aside0.mk hl219_5
      clear hi219_5 hl219_5
      have HR219_6 := Aside0.mk hi219_6
      have HC219_6 := Aside0.mk hl219_6
      clear hi219_6 hl219_6
      replace p219 := eq_true p219; replace q219 := eq_true q219
      go_wp2_with (first | ((with_reducible refine gate_dst (N := 5) rfl ?_); refine box_event ?hg (N := 5) ?hd (cs := #[.int .i64 0, .int .i64 0, .int .i64 0, .int .i64 0, .slice none 0 0, .slice none 0 0, .slice none 0 0]) (t := 26) ?hr ?_; (case hd => rfl); (case hg => rfl); (case hr => first | (go_simp; done) | (go_simp; rfl)); intro gb220 hg w7 hbox hb; have n0_ := Aside0.mk (below_step (by repeat (first | (with_reducible first | exact HB.out | apply wA | apply wN | apply wD) | exact HB.out)) hb); have n1_ := Aside0.mk (hbox); have n2_ := Aside0.mk ((by rw [hg]; exact (below_size (by repeat (first | (with_reducible first | exact HB.out | apply wA | apply wN | apply wD) | exact HB.out))) : w.heap.size ≤ gb220)); have n3_ := n2_; clear HB; have HB := n0_; have BK220 := n1_; have GW220 := n2_; have GE220 := n3_; clear n0_ n1_ n2_ n3_; clear hb hbox hg; have hcz8_0 : w7.cell? ⟨gb220, 0, none⟩ = some (.int .i64 0) := (blk_cell BK220.out 0).trans rfl; have hcz8_1 : w7.cell? ⟨gb220, 1, none⟩ = some (.int .i64 0) := (blk_cell BK220.out 1).trans rfl; have hcz8_2 : w7.cell? ⟨gb220, 2, none⟩ = some (.int .i64 0) := (blk_cell BK220.out 2).trans rfl; have hcz8_3 : w7.cell? ⟨gb220, 3, none⟩ = some (.int .i64 0) := (blk_cell BK220.out 3).trans rfl; have hcz8_4 : w7.cell? ⟨gb220, 4, none⟩ = some (.slice none 0 0) := (blk_cell BK220.out 4).trans rfl; have hcz8_5 : w7.cell? ⟨gb220, 5, none⟩ = some (.slice none 0 0) := (blk_cell BK220.out 5).trans rfl; have hcz8_6 : w7.cell? ⟨gb220, 6, none⟩ = some (.slice none 0 0) := (blk_cell BK220.out 6).trans rfl; have hfz8_0 := blk_frozen BK220.out 0; have hfz8_1 := blk_frozen BK220.out 1; have hfz8_2 := blk_frozen BK220.out 2; have hfz8_3 := blk_frozen BK220.out 3; have hfz8_4 := blk_frozen BK220.out 4; have hfz8_5 := blk_frozen BK220.out 5; have hfz8_6 := blk_frozen BK220.out 6))
      have H := HF6.out
      clear HF6
      by_cases c9 : t221 = true
      ·subst c9
       have H1 : (scan_examine.l0 k1 (mn (wrap64 (x3_1 + ((rd_T26 l0 x8_1).f0))) 1048577) l0 (l0.length : Int) (wrap64 (x8_1 + 1))) = some r := by rw [if_pos rfl] at H; exact H
       clear H; have H := H1; clear H1
       obtain ⟨ji10, hji10⟩ : ∃ j_ : Int, (mn (wrap64 (x3_1 + ((rd_T26 l0 x8_1).f0))) 1048577) = j_ := ⟨_, rfl⟩
       replace H : (scan_examine.l0 k1 ji10 l0 (l0.length : Int) (wrap64 (x8_1 + 1))) = some r := by first | (rw [hji10] at H; exact H) | (simp only [hji10] at H ⊢; exact H)
       (try rw [hji10] at A5)
       have hji10_ : (if 1048577 < (wrap64 (x3_1 + ((rd_T26 l0 x8_1).f0))) then 1048577 else (wrap64 (x3_1 + ((rd_T26 l0 x8_1).f0)))) = ji10 := hji10
       have H' := Aside0.mk H
       clear H
       go_wp2_with (first | (go_at_call 28; (with_reducible refine (automaton_Valid.calls k1 ((rd_T26 l0 x8_1).f0) ((rd_T26 l0 x8_1).f1.f0) ((rd_T26 l0 x8_1).f1.f1) ((rd_T26 l0 x8_1).f1.f2) _ _ ((rd_T26 l0 x8_1).f2.f0) _ _ ((rd_T26 l0 x8_1).f2.f1) _ _ ((rd_T26 l0 x8_1).f2.f2) true _ ?side1 ?side2 ?side3 ?side4 ?side5 ?side6 A5.out).mono ?_); (case side1 => exact Kd.C_below HR219_4.out (by repeat (first | (with_reducible first | exact HB.out | apply wA | apply wN | apply wD | refine wS ?_ GE220.out) | exact HB.out))); (case side2 => exact HC219_4.out); (case side3 => exact Kd.C_below HR219_5.out (by repeat (first | (with_reducible first | exact HB.out | apply wA | apply wN | apply wD | refine wS ?_ GE220.out) | exact HB.out))); (case side4 => exact HC219_5.out); (case side5 => exact Kd.C_below HR219_6.out (by repeat (first | (with_reducible first | exact HB.out | apply wA | apply wN | apply wD | refine wS ?_ GE220.out) | exact HB.out))); (case side6 => exact HC219_6.out); rintro e w11 ⟨rfl, hb⟩; have n0_ := Aside0.mk (blk_below (g := gb220) (o := .cells #[.int .i64 ((rd_T26 l0 x8_1).f0), .int .i64 ((rd_T26 l0 x8_1).f1.f0), .int .i64 ((rd_T26 l0 x8_1).f1.f1), .int .i64 ((rd_T26 l0 x8_1).f1.f2), .slice A219_4 ((rd_T26 l0 x8_1).f2.f0).length c219_4, .slice A219_5 ((rd_T26 l0 x8_1).f2.f1).length c219_5, .slice A219_6 ((rd_T26 l0 x8_1).f2.f2).length c219_6] 26 (0, 0)) (by (with_reducible repeat (first | refine bN ?_ _ | refine bD ?_ | refine bA ?_ _)); refine blk_put (cs := #[.int .i64 ((rd_T26 l0 x8_1).f0), .int .i64 ((rd_T26 l0 x8_1).f1.f0), .int .i64 ((rd_T26 l0 x8_1).f1.f1), .int .i64 ((rd_T26 l0 x8_1).f1.f2), .slice A219_4 ((rd_T26 l0 x8_1).f2.f0).length c219_4, .slice A219_5 ((rd_T26 l0 x8_1).f2.f1).length c219_5, .slice none 0 0]) ?_ 6 _ rfl; (with_reducible repeat (first | refine bN ?_ _ | refine bD ?_ | refine bA ?_ _)); refine blk_put (cs := #[.int .i64 ((rd_T26 l0 x8_1).f0), .int .i64 ((rd_T26 l0 x8_1).f1.f0), .int .i64 ((rd_T26 l0 x8_1).f1.f1), .int .i64 ((rd_T26 l0 x8_1).f1.f2), .slice A219_4 ((rd_T26 l0 x8_1).f2.f0).length c219_4, .slice none 0 0, .slice none 0 0]) ?_ 5 _ rfl; (with_reducible repeat (first | refine bN ?_ _ | refine bD ?_ | refine bA ?_ _)); refine blk_put (cs := #[.int .i64 ((rd_T26 l0 x8_1).f0), .int .i64 ((rd_T26 l0 x8_1).f1.f0), .int .i64 ((rd_T26 l0 x8_1).f1.f1), .int .i64 ((rd_T26 l0 x8_1).f1.f2), .slice none 0 0, .slice none 0 0, .slice none 0 0]) ?_ 4 _ rfl; (with_reducible repeat (first | refine bN ?_ _ | refine bD ?_ | refine bA ?_ _)); refine blk_put (cs := #[.int .i64 ((rd_T26 l0 x8_1).f0), .int .i64 ((rd_T26 l0 x8_1).f1.f0), .int .i64 ((rd_T26 l0 x8_1).f1.f1), .int .i64 0, .slice none 0 0, .slice none 0 0, .slice none 0 0]) ?_ 3 _ rfl; (with_reducible repeat (first | refine bN ?_ _ | refine bD ?_ | refine bA ?_ _)); refine blk_put (cs := #[.int .i64 ((rd_T26 l0 x8_1).f0), .int .i64 ((rd_T26 l0 x8_1).f1.f0), .int .i64 0, .int .i64 0, .slice none 0 0, .slice none 0 0, .slice none 0 0]) ?_ 2 _ rfl; (with_reducible repeat (first | refine bN ?_ _ | refine bD ?_ | refine bA ?_ _)); refine blk_put (cs := #[.int .i64 ((rd_T26 l0 x8_1).f0), .int .i64 0, .int .i64 0, .int .i64 0, .slice none 0 0, .slice none 0 0, .slice none 0 0]) ?_ 1 _ rfl; (with_reducible repeat (first | refine bN ?_ _ | refine bD ?_ | refine bA ?_ _)); refine blk_put (cs := #[.int .i64 0, .int .i64 0, .int .i64 0, .int .i64 0, .slice none 0 0, .slice none 0 0, .slice none 0 0]) ?_ 0 _ rfl; (with_reducible repeat (first | refine bN ?_ _ | refine bD ?_ | refine bA ?_ _)); exact BK220.out) hb); have n1_ := Aside0.mk (below_step (by repeat (first | (with_reducible first | exact HB.out | apply wA | apply wN | apply wD | refine wS ?_ GE220.out) | exact HB.out)) hb); clear BK220; clear HB; have BK220 := n0_; have HB := n1_; clear n0_ n1_; (try clear hb); (try clear hb2); (try clear hk); (try clear hi); have hcz12_0 : w11.cell? ⟨gb220, 0, none⟩ = some (.int .i64 ((rd_T26 l0 x8_1).f0)) := (blk_cell BK220.out 0).trans rfl; have hcz12_1 : w11.cell? ⟨gb220, 1, none⟩ = some (.int .i64 ((rd_T26 l0 x8_1).f1.f0)) := (blk_cell BK220.out 1).trans rfl; have hcz12_2 : w11.cell? ⟨gb220, 2, none⟩ = some (.int .i64 ((rd_T26 l0 x8_1).f1.f1)) := (blk_cell BK220.out 2).trans rfl; have hcz12_3 : w11.cell? ⟨gb220, 3, none⟩ = some (.int .i64 ((rd_T26 l0 x8_1).f1.f2)) := (blk_cell BK220.out 3).trans rfl; have hcz12_4 : w11.cell? ⟨gb220, 4, none⟩ = some (.slice A219_4 ((rd_T26 l0 x8_1).f2.f0).length c219_4) := (blk_cell BK220.out 4).trans rfl; have hcz12_5 : w11.cell? ⟨gb220, 5, none⟩ = some (.slice A219_5 ((rd_T26 l0 x8_1).f2.f1).length c219_5) := (blk_cell BK220.out 5).trans rfl; have hcz12_6 : w11.cell? ⟨gb220, 6, none⟩ = some (.slice A219_6 ((rd_T26 l0 x8_1).f2.f2).length c219_6) := (blk_cell BK220.out 6).trans rfl; have hfz12_0 := blk_frozen BK220.out 0; have hfz12_1 := blk_frozen BK220.out 1; have hfz12_2 := blk_frozen BK220.out 2; have hfz12_3 := blk_frozen BK220.out 3; have hfz12_4 := blk_frozen BK220.out 4; have hfz12_5 := blk_frozen BK220.out 5; have hfz12_6 := blk_frozen BK220.out 6))
       go_roundg k1
       case measure => have := HK1.out; omega
       case rel => exact ⟨(ji10), (wrap64 (x8_1 + 1)), (by first | rfl | (simp; done) | (simp only [← hji10] <;> (first | rfl | (simp; done))) | (simp [*]; done)), (by first | rfl | (simp; done) | (simp [*]; done)), H', ⟨by have := HK1.out; omega⟩, ⟨by repeat (first | (with_reducible first | exact HB.out | apply wA | apply wN | apply wD | refine wS ?_ GE220.out) | exact HB.out)⟩⟩
      ·replace c9 := Bool.eq_false_iff.mpr c9
       subst c9
       have H1 : (some 1) = some r := by rw [if_neg (show ¬ (false = true) by decide)] at H; exact H
       clear H; have H := H1; clear H1
       obtain rfl := Option.some.inj H
       go_wp2_with (first | (go_at_call 28; (with_reducible refine (automaton_Valid.calls k1 ((rd_T26 l0 x8_1).f0) ((rd_T26 l0 x8_1).f1.f0) ((rd_T26 l0 x8_1).f1.f1) ((rd_T26 l0 x8_1).f1.f2) _ _ ((rd_T26 l0 x8_1).f2.f0) _ _ ((rd_T26 l0 x8_1).f2.f1) _ _ ((rd_T26 l0 x8_1).f2.f2) false _ ?side1 ?side2 ?side3 ?side4 ?side5 ?side6 A5.out).mono ?_); (case side1 => exact Kd.C_below HR219_4.out (by repeat (first | (with_reducible first | exact HB.out | apply wA | apply wN | apply wD | refine wS ?_ GE220.out) | exact HB.out))); (case side2 => exact HC219_4.out); (case side3 => exact Kd.C_below HR219_5.out (by repeat (first | (with_reducible first | exact HB.out | apply wA | apply wN | apply wD | refine wS ?_ GE220.out) | exact HB.out))); (case side4 => exact HC219_5.out); (case side5 => exact Kd.C_below HR219_6.out (by repeat (first | (with_reducible first | exact HB.out | apply wA | apply wN | apply wD | refine wS ?_ GE220.out) | exact HB.out))); (case side6 => exact HC219_6.out); rintro e w13 ⟨rfl, hb⟩; have n0_ := Aside0.mk (blk_below (g := gb220) (o := .cells #[.int .i64 ((rd_T26 l0 x8_1).f0), .int .i64 ((rd_T26 l0 x8_1).f1.f0), .int .i64 ((rd_T26 l0 x8_1).f1.f1), .int .i64 ((rd_T26 l0 x8_1).f1.f2), .slice A219_4 ((rd_T26 l0 x8_1).f2.f0).length c219_4, .slice A219_5 ((rd_T26 l0 x8_1).f2.f1).length c219_5, .slice A219_6 ((rd_T26 l0 x8_1).f2.f2).length c219_6] 26 (0, 0)) (by (with_reducible repeat (first | refine bN ?_ _ | refine bD ?_ | refine bA ?_ _)); refine blk_put (cs := #[.int .i64 ((rd_T26 l0 x8_1).f0), .int .i64 ((rd_T26 l0 x8_1).f1.f0), .int .i64 ((rd_T26 l0 x8_1).f1.f1), .int .i64 ((rd_T26 l0 x8_1).f1.f2), .slice A219_4 ((rd_T26 l0 x8_1).f2.f0).length c219_4, .slice A219_5 ((rd_T26 l0 x8_1).f2.f1).length c219_5, .slice none 0 0]) ?_ 6 _ rfl; (with_reducible repeat (first | refine bN ?_ _ | refine bD ?_ | refine bA ?_ _)); refine blk_put (cs := #[.int .i64 ((rd_T26 l0 x8_1).f0), .int .i64 ((rd_T26 l0 x8_1).f1.f0), .int .i64 ((rd_T26 l0 x8_1).f1.f1), .int .i64 ((rd_T26 l0 x8_1).f1.f2), .slice A219_4 ((rd_T26 l0 x8_1).f2.f0).length c219_4, .slice none 0 0, .slice none 0 0]) ?_ 5 _ rfl; (with_reducible repeat (first | refine bN ?_ _ | refine bD ?_ | refine bA ?_ _)); refine blk_put (cs := #[.int .i64 ((rd_T26 l0 x8_1).f0), .int .i64 ((rd_T26 l0 x8_1).f1.f0), .int .i64 ((rd_T26 l0 x8_1).f1.f1), .int .i64 ((rd_T26 l0 x8_1).f1.f2), .slice none 0 0, .slice none 0 0, .slice none 0 0]) ?_ 4 _ rfl; (with_reducible repeat (first | refine bN ?_ _ | refine bD ?_ | refine bA ?_ _)); refine blk_put (cs := #[.int .i64 ((rd_T26 l0 x8_1).f0), .int .i64 ((rd_T26 l0 x8_1).f1.f0), .int .i64 ((rd_T26 l0 x8_1).f1.f1), .int .i64 0, .slice none 0 0, .slice none 0 0, .slice none 0 0]) ?_ 3 _ rfl; (with_reducible repeat (first | refine bN ?_ _ | refine bD ?_ | refine bA ?_ _)); refine blk_put (cs := #[.int .i64 ((rd_T26 l0 x8_1).f0), .int .i64 ((rd_T26 l0 x8_1).f1.f0), .int .i64 0, .int .i64 0, .slice none 0 0, .slice none 0 0, .slice none 0 0]) ?_ 2 _ rfl; (with_reducible repeat (first | refine bN ?_ _ | refine bD ?_ | refine bA ?_ _)); refine blk_put (cs := #[.int .i64 ((rd_T26 l0 x8_1).f0), .int .i64 0, .int .i64 0, .int .i64 0, .slice none 0 0, .slice none 0 0, .slice none 0 0]) ?_ 1 _ rfl; (with_reducible repeat (first | refine bN ?_ _ | refine bD ?_ | refine bA ?_ _)); refine blk_put (cs := #[.int .i64 0, .int .i64 0, .int .i64 0, .int .i64 0, .slice none 0 0, .slice none 0 0, .slice none 0 0]) ?_ 0 _ rfl; (with_reducible repeat (first | refine bN ?_ _ | refine bD ?_ | refine bA ?_ _)); exact BK220.out) hb); have n1_ := Aside0.mk (below_step (by repeat (first | (with_reducible first | exact HB.out | apply wA | apply wN | apply wD | refine wS ?_ GE220.out) | exact HB.out)) hb); clear BK220; clear HB; have BK220 := n0_; have HB := n1_; clear n0_ n1_; (try clear hb); (try clear hb2); (try clear hk); (try clear hi)))
       go_ret
       exact ⟨by first | rfl | (simp [errW_none, errW_some] <;> rfl) | (simp [*, errW_none, errW_some] <;> rfl), by repeat (first | (with_reducible first | exact HB.out | apply wA | apply wN | apply wD | refine wS ?_ GE220.out) | exact HB.out)⟩
     ·rw [if_neg c4] at H
      exact absurd H (by simp)
    ·rw [if_neg c3] at H
     exact absurd H (by simp)
   ·rw [if_neg c2] at H
    have c2b0 : decide (x8_1 < (l0.length : Int)) = false := decide_eq_false c2
    clear c2
    by_cases c14 : x3_1 > 1048576
    ·rw [if_pos c14] at H
     have c14b0 : decide (1048576 < x3_1) = true := decide_eq_true c14
     clear c14
     obtain rfl := Option.some.inj H
     go_wp2
     go_ret
     exact ⟨by first | rfl | (simp [errW_none, errW_some] <;> rfl) | (simp [*, errW_none, errW_some] <;> rfl), by repeat (first | (with_reducible first | exact HB.out | apply wA | apply wN | apply wD) | exact HB.out)⟩
    ·rw [if_neg c14] at H
     have c14b0 : decide (1048576 < x3_1) = false := decide_eq_false c14
     clear c14
     obtain rfl := Option.some.inj H
     go_wp2
     go_ret
     exact ⟨by first | rfl | (simp [errW_none, errW_some] <;> rfl) | (simp [*, errW_none, errW_some] <;> rfl), by repeat (first | (with_reducible first | exact HB.out | apply wA | apply wN | apply wD) | exact HB.out)⟩

end Go.Proofs.YtkhnifehcnlpjaaDoor.QB
