-- by a program of this session (print2.py): the machine's side of one law; Lean checks it.
import Derived.Test.YtkhnifehcnlpjaaDoorQScanChunksx0
import Derived.Test.YtkhnifehcnlpjaaDoorQScanChunksx12
namespace Go.Proofs.YtkhnifehcnlpjaaDoor.QScanChunks
open Go.RowKit Go.Proofs.YtkhnifehcnlpjaaDoorW.PrintWords Go.Proofs.YtkhnifehcnlpjaaDoorW.PrintLast Go.Proofs.YtkhnifehcnlpjaaDoorW.PrintMore
attribute [local go_sem] max2_int min2_int max_two min_two max_three min_three max_four min_four   -- for this text's walks alone
set_option linter.unusedVariables false
set_option linter.unusedSimpArgs false

/-! ### ndjqref20_sound: function 34 -/
mutual
def ndjqref20_sound.l0 : Nat → List (S26) → Int → Int → Option (Int)
 | 0, _, _, _ => none
 | k + 1, x0, x3, x4 => if x4 < (x0.length : Int) then (if 0 ≤ x4 then ((ndjqref18_Valid.f k ((rd_T26 x0 x4).f0) ((rd_T26 x0 x4).f1.f0) ((rd_T26 x0 x4).f1.f1) ((rd_T26 x0 x4).f1.f2) ((rd_T26 x0 x4).f2.f0) ((rd_T26 x0 x4).f2.f1) ((rd_T26 x0 x4).f2.f2)).bind fun t281 => (if t281 = true then (ndjqref20_sound.l0 k x0 x3 (wrap64 (x4 + 1))) else (some 1))) else (none)) else (ndjqref20_sound.l1 k x0 x3 0)
def ndjqref20_sound.l1 : Nat → List (S26) → Int → Int → Option (Int)
 | 0, _, _, _ => none
 | k + 1, x0, x3, x5 => if x5 < (x0.length : Int) then (if 0 ≤ x5 then (if (wrap64 (x3 + ((rd_T26 x0 x5).f0))) > 1048576 then (some 2) else (ndjqref20_sound.l1 k x0 (wrap64 (x3 + ((rd_T26 x0 x5).f0))) (wrap64 (x5 + 1)))) else (none)) else (some 0)
end
def ndjqref20_sound.f (k : Nat) (l0 : List (S26)) : Option (Int) := ndjqref20_sound.l0 k l0 0 0
theorem ndjqref20_sound.mono_l : ∀ k, (∀ y0 y1 y2, LeO (ndjqref20_sound.l0 k y0 y1 y2) (ndjqref20_sound.l0 (k + 1) y0 y1 y2)) ∧ (∀ y0 y1 y2, LeO (ndjqref20_sound.l1 k y0 y1 y2) (ndjqref20_sound.l1 (k + 1) y0 y1 y2))
 | 0 => ⟨fun _ _ _ r h => by simp [ndjqref20_sound.l0] at h, fun _ _ _ r h => by simp [ndjqref20_sound.l1] at h⟩
 | k + 1 => by
  obtain ⟨ih0, ih1⟩ := ndjqref20_sound.mono_l k
  refine ⟨?_, ?_⟩
  ·intro y0 y1 y2
   unfold ndjqref20_sound.l0
   repeat' first
   | (with_reducible exact ih0 _ _ _)
   | (with_reducible exact ih1 _ _ _)
   | (with_reducible exact ndjqref18_Valid.mono _ _ _ _ _ _ _ _)
   | (with_reducible exact LeO.refl _)
   | (with_reducible exact LeO.none _)
   | (with_reducible refine LeO.ite ?_ ?_)
   | (with_reducible refine LeO.bind ?_ (fun _ => ?_))
   | exact ih0 _ _ _
   | exact ih1 _ _ _
   | exact ndjqref18_Valid.mono _ _ _ _ _ _ _ _
   | exact LeO.none _
   | refine LeO.ite ?_ ?_
   | refine LeO.bind ?_ (fun _ => ?_)
  ·intro y0 y1 y2
   unfold ndjqref20_sound.l1
   repeat' first
   | (with_reducible exact ih0 _ _ _)
   | (with_reducible exact ih1 _ _ _)
   | (with_reducible exact ndjqref18_Valid.mono _ _ _ _ _ _ _ _)
   | (with_reducible exact LeO.refl _)
   | (with_reducible exact LeO.none _)
   | (with_reducible refine LeO.ite ?_ ?_)
   | (with_reducible refine LeO.bind ?_ (fun _ => ?_))
   | exact ih0 _ _ _
   | exact ih1 _ _ _
   | exact ndjqref18_Valid.mono _ _ _ _ _ _ _ _
   | exact LeO.none _
   | refine LeO.ite ?_ ?_
   | refine LeO.bind ?_ (fun _ => ?_)
theorem ndjqref20_sound.mono : ∀ a0 k, LeO (ndjqref20_sound.f k a0) (ndjqref20_sound.f (k + 1) a0) := by
 intro a0 k
 obtain ⟨ih0, ih1⟩ := ndjqref20_sound.mono_l k
 unfold ndjqref20_sound.f
 repeat' first
   | (with_reducible exact ih0 _ _ _)
   | (with_reducible exact ih1 _ _ _)
   | (with_reducible exact ndjqref18_Valid.mono _ _ _ _ _ _ _ _)
   | (with_reducible exact LeO.refl _)
   | (with_reducible exact LeO.none _)
   | (with_reducible refine LeO.ite ?_ ?_)
   | (with_reducible refine LeO.bind ?_ (fun _ => ?_))
   | exact ih0 _ _ _
   | exact ih1 _ _ _
   | exact ndjqref18_Valid.mono _ _ _ _ _ _ _ _
   | exact LeO.none _
   | refine LeO.ite ?_ ?_
   | refine LeO.bind ?_ (fun _ => ?_)
set_option maxHeartbeats 8000000 in
set_option maxRecDepth 100000 in
theorem ndjqref20_sound.calls (k : Nat) (A0 : Option Addr) (c0 : Nat) (l0 : List (S26)) (r : Int) (w : World) (hr0 : Kd.C k26 w A0 l0.length l0) (hc0 : l0.length ≤ c0) (h : ndjqref20_sound.f k l0 = some r) :
  Calls Tryd.prog 34 #[.slice A0 l0.length c0] w fun e w' => e = .returned (.int .i64 r) ∧ Below w.heap.size w w' := by
 have hu26 := Tryd.underlying26
 have HR0 := Aside0.mk hr0
 have HC0 := Aside0.mk hc0
 clear hr0 hc0
 have HB := Aside0.mk (Below.refl w.heap.size w)
 have H : (ndjqref20_sound.l0 k l0 0 0) = some r := h
 clear h
 have H' := Aside0.mk H
 clear H
 go_enter Tryd.func34, Tryd.ntmps34
 go_wp2
 go_loopg [4] k (fun kq v4 w' => ∃ (x4_1 : Int), v4 = .int .i64 x4_1 ∧ Aside0 (ndjqref20_sound.l0 kq l0 0 x4_1 = some r) ∧ Aside0 (kq ≤ k) ∧ Aside0 (Below w.heap.size w w'))
 case atStart => exact ⟨(0), (by first | rfl | (simp; done) | (simp [*]; done)), H', ⟨Nat.le_refl _⟩, ⟨by repeat (first | (with_reducible first | exact HB.out | apply wA | apply wN | apply wD) | exact HB.out)⟩⟩
 case round =>
  clear H'
  obtain ⟨x4_1, rfl, HA, HK1, HB⟩ := hrel
  cases gk with
  | zero => exact absurd HA.out (by simp [ndjqref20_sound.l0])
  | succ k1 =>
   have H := HA.out
   clear HA
   simp only [ndjqref20_sound.l0] at H
   by_cases c2 : x4_1 < (l0.length : Int)
   ·rw [if_pos c2] at H
    have c2b0 : decide (x4_1 < (l0.length : Int)) = true := decide_eq_true c2
    clear c2
    by_cases c3 : 0 ≤ x4_1
    ·rw [if_pos c3] at H
     have c3b0 : decide (0 ≤ x4_1) = true := decide_eq_true c3
     clear c3
     replace H := Option.bind_eq_some_iff.mp H
     obtain ⟨t281, A40, H⟩ := H
     replace H : (if t281 = true then (ndjqref20_sound.l0 k1 l0 0 (wrap64 (x4_1 + 1))) else (some 1)) = some r := H
     have A4 := Aside0.mk A40
     clear A40
     by_cases c5 : t281 = true
     ·subst c5
      have H1 : (ndjqref20_sound.l0 k1 l0 0 (wrap64 (x4_1 + 1))) = some r := by rw [if_pos rfl] at H; exact H
      clear H; have H := H1; clear H1
      have H' := Aside0.mk H
      clear H
      have p280 : 0 ≤ (x4_1 : Int) := of_decide_eq_true (by first | (with_reducible assumption) | assumption)
      have q280 : x4_1 < (l0.length : Int) := of_decide_eq_true (by first | (with_reducible assumption) | assumption)
      obtain ⟨ad280, A280_4, c280_4, A280_5, c280_5, A280_6, c280_6, e280, hx280_0, hx280_1, hx280_2, hx280_3, hx280_4, hx280_5, hx280_6, hl280_4, hi280_4, hl280_5, hi280_5, hl280_6, hi280_6⟩ := at_T26 HR0.out x4_1 p280 q280
      cases e280
      replace hx280_0 := (HB.out.cell (World.block_lt_of_cell? w _ hx280_0)).trans hx280_0
      replace hx280_1 := (HB.out.cell (World.block_lt_of_cell? w _ hx280_1)).trans hx280_1
      replace hx280_2 := (HB.out.cell (World.block_lt_of_cell? w _ hx280_2)).trans hx280_2
      replace hx280_3 := (HB.out.cell (World.block_lt_of_cell? w _ hx280_3)).trans hx280_3
      replace hx280_4 := (HB.out.cell (World.block_lt_of_cell? w _ hx280_4)).trans hx280_4
      replace hx280_5 := (HB.out.cell (World.block_lt_of_cell? w _ hx280_5)).trans hx280_5
      replace hx280_6 := (HB.out.cell (World.block_lt_of_cell? w _ hx280_6)).trans hx280_6
      have HR280_4 := Aside0.mk hi280_4
      have HC280_4 := Aside0.mk hl280_4
      clear hi280_4 hl280_4
      have HR280_5 := Aside0.mk hi280_5
      have HC280_5 := Aside0.mk hl280_5
      clear hi280_5 hl280_5
      have HR280_6 := Aside0.mk hi280_6
      have HC280_6 := Aside0.mk hl280_6
      clear hi280_6 hl280_6
      replace p280 := eq_true p280; replace q280 := eq_true q280
      go_wp2_with (first | ((with_reducible refine gate_callee (f := 29) rfl ?_); refine goesL_ (some 16) rfl rfl Tryd.func29 (by kernel_rfl) rfl #[.agg #[.int .i64 ((rd_T26 l0 x4_1).f0), .int .i64 ((rd_T26 l0 x4_1).f1.f0), .int .i64 ((rd_T26 l0 x4_1).f1.f1), .int .i64 ((rd_T26 l0 x4_1).f1.f2), .slice A280_4 ((rd_T26 l0 x4_1).f2.f0).length c280_4, .slice A280_5 ((rd_T26 l0 x4_1).f2.f1).length c280_5, .slice A280_6 ((rd_T26 l0 x4_1).f2.f2).length c280_6]] rfl (by (try simp only [List.map_toArray, List.map_cons, List.map_nil]); first | done | rfl | (simp only [List.length_drop, List.length_take]; rfl)) ?_; (with_reducible refine (ndjqref18_Valid.calls k1 ((rd_T26 l0 x4_1).f0) ((rd_T26 l0 x4_1).f1.f0) ((rd_T26 l0 x4_1).f1.f1) ((rd_T26 l0 x4_1).f1.f2) _ _ ((rd_T26 l0 x4_1).f2.f0) _ _ ((rd_T26 l0 x4_1).f2.f1) _ _ ((rd_T26 l0 x4_1).f2.f2) true _ ?side1 ?side2 ?side3 ?side4 ?side5 ?side6 A4.out).mono ?_); (case side1 => repeat (first | exact (Kd.C_below HR280_4.out HB.out) | (with_reducible refine Kd.C_alloc ?_ _) | (with_reducible refine Kd.C_drewN ?_ _) | (with_reducible refine Kd.C_drew ?_))); (case side2 => exact HC280_4.out); (case side3 => repeat (first | exact (Kd.C_below HR280_5.out HB.out) | (with_reducible refine Kd.C_alloc ?_ _) | (with_reducible refine Kd.C_drewN ?_ _) | (with_reducible refine Kd.C_drew ?_))); (case side4 => exact HC280_5.out); (case side5 => repeat (first | exact (Kd.C_below HR280_6.out HB.out) | (with_reducible refine Kd.C_alloc ?_ _) | (with_reducible refine Kd.C_drewN ?_ _) | (with_reducible refine Kd.C_drew ?_))); (case side6 => exact HC280_6.out); rintro e w6 ⟨rfl, hb⟩; refine ⟨_, rfl, ?_⟩; have n0_ := Aside0.mk (below_step (by repeat (first | (with_reducible first | exact HB.out | apply wA | apply wN | apply wD) | exact HB.out)) hb); clear HB; have HB := n0_; clear n0_; (try clear hb); (try clear hb2); (try clear hk); (try clear hi)))
      go_roundg k1
      case measure => have := HK1.out; omega
      case rel => exact ⟨(wrap64 (x4_1 + 1)), (by first | rfl | (simp; done) | (simp [*]; done)), H', ⟨by have := HK1.out; omega⟩, ⟨by repeat (first | (with_reducible first | exact HB.out | apply wA | apply wN | apply wD) | exact HB.out)⟩⟩
     ·replace c5 := Bool.eq_false_iff.mpr c5
      subst c5
      have H1 : (some 1) = some r := by rw [if_neg (show ¬ (false = true) by decide)] at H; exact H
      clear H; have H := H1; clear H1
      obtain rfl := Option.some.inj H
      have p280 : 0 ≤ (x4_1 : Int) := of_decide_eq_true (by first | (with_reducible assumption) | assumption)
      have q280 : x4_1 < (l0.length : Int) := of_decide_eq_true (by first | (with_reducible assumption) | assumption)
      obtain ⟨ad280, A280_4, c280_4, A280_5, c280_5, A280_6, c280_6, e280, hx280_0, hx280_1, hx280_2, hx280_3, hx280_4, hx280_5, hx280_6, hl280_4, hi280_4, hl280_5, hi280_5, hl280_6, hi280_6⟩ := at_T26 HR0.out x4_1 p280 q280
      cases e280
      replace hx280_0 := (HB.out.cell (World.block_lt_of_cell? w _ hx280_0)).trans hx280_0
      replace hx280_1 := (HB.out.cell (World.block_lt_of_cell? w _ hx280_1)).trans hx280_1
      replace hx280_2 := (HB.out.cell (World.block_lt_of_cell? w _ hx280_2)).trans hx280_2
      replace hx280_3 := (HB.out.cell (World.block_lt_of_cell? w _ hx280_3)).trans hx280_3
      replace hx280_4 := (HB.out.cell (World.block_lt_of_cell? w _ hx280_4)).trans hx280_4
      replace hx280_5 := (HB.out.cell (World.block_lt_of_cell? w _ hx280_5)).trans hx280_5
      replace hx280_6 := (HB.out.cell (World.block_lt_of_cell? w _ hx280_6)).trans hx280_6
      have HR280_4 := Aside0.mk hi280_4
      have HC280_4 := Aside0.mk hl280_4
      clear hi280_4 hl280_4
      have HR280_5 := Aside0.mk hi280_5
      have HC280_5 := Aside0.mk hl280_5
      clear hi280_5 hl280_5
      have HR280_6 := Aside0.mk hi280_6
      have HC280_6 := Aside0.mk hl280_6
      clear hi280_6 hl280_6
      replace p280 := eq_true p280; replace q280 := eq_true q280
      go_wp2_with (first | ((with_reducible refine gate_callee (f := 29) rfl ?_); refine goesL_ (some 16) rfl rfl Tryd.func29 (by kernel_rfl) rfl #[.agg #[.int .i64 ((rd_T26 l0 x4_1).f0), .int .i64 ((rd_T26 l0 x4_1).f1.f0), .int .i64 ((rd_T26 l0 x4_1).f1.f1), .int .i64 ((rd_T26 l0 x4_1).f1.f2), .slice A280_4 ((rd_T26 l0 x4_1).f2.f0).length c280_4, .slice A280_5 ((rd_T26 l0 x4_1).f2.f1).length c280_5, .slice A280_6 ((rd_T26 l0 x4_1).f2.f2).length c280_6]] rfl (by (try simp only [List.map_toArray, List.map_cons, List.map_nil]); first | done | rfl | (simp only [List.length_drop, List.length_take]; rfl)) ?_; (with_reducible refine (ndjqref18_Valid.calls k1 ((rd_T26 l0 x4_1).f0) ((rd_T26 l0 x4_1).f1.f0) ((rd_T26 l0 x4_1).f1.f1) ((rd_T26 l0 x4_1).f1.f2) _ _ ((rd_T26 l0 x4_1).f2.f0) _ _ ((rd_T26 l0 x4_1).f2.f1) _ _ ((rd_T26 l0 x4_1).f2.f2) false _ ?side1 ?side2 ?side3 ?side4 ?side5 ?side6 A4.out).mono ?_); (case side1 => repeat (first | exact (Kd.C_below HR280_4.out HB.out) | (with_reducible refine Kd.C_alloc ?_ _) | (with_reducible refine Kd.C_drewN ?_ _) | (with_reducible refine Kd.C_drew ?_))); (case side2 => exact HC280_4.out); (case side3 => repeat (first | exact (Kd.C_below HR280_5.out HB.out) | (with_reducible refine Kd.C_alloc ?_ _) | (with_reducible refine Kd.C_drewN ?_ _) | (with_reducible refine Kd.C_drew ?_))); (case side4 => exact HC280_5.out); (case side5 => repeat (first | exact (Kd.C_below HR280_6.out HB.out) | (with_reducible refine Kd.C_alloc ?_ _) | (with_reducible refine Kd.C_drewN ?_ _) | (with_reducible refine Kd.C_drew ?_))); (case side6 => exact HC280_6.out); rintro e w7 ⟨rfl, hb⟩; refine ⟨_, rfl, ?_⟩; have n0_ := Aside0.mk (below_step (by repeat (first | (with_reducible first | exact HB.out | apply wA | apply wN | apply wD) | exact HB.out)) hb); clear HB; have HB := n0_; clear n0_; (try clear hb); (try clear hb2); (try clear hk); (try clear hi)))
      go_ret
      exact ⟨by first | rfl | (simp [errW_none, errW_some] <;> rfl) | (simp [*, errW_none, errW_some] <;> rfl), by repeat (first | (with_reducible first | exact HB.out | apply wA | apply wN | apply wD) | exact HB.out)⟩
    ·rw [if_neg c3] at H
     exact absurd H (by simp)
   ·rw [if_neg c2] at H
    have c2b0 : decide (x4_1 < (l0.length : Int)) = false := decide_eq_false c2
    clear c2
    have H' := Aside0.mk H
    clear H
    go_wp2
    go_loopg [3, 5] k1 (fun kq v3 v5 w' => ∃ (x3_2 : Int) (x5_2 : Int), v3 = .int .i64 x3_2 ∧ v5 = .int .i64 x5_2 ∧ Aside0 (ndjqref20_sound.l1 kq l0 x3_2 x5_2 = some r) ∧ Aside0 (kq ≤ k1) ∧ Aside0 (Below w.heap.size w w'))
    case atStart => exact ⟨(0), (0), (by first | rfl | (simp; done) | (simp [*]; done)), (by first | rfl | (simp; done) | (simp [*]; done)), H', ⟨Nat.le_refl _⟩, ⟨by repeat (first | (with_reducible first | exact HB.out | apply wA | apply wN | apply wD) | exact HB.out)⟩⟩
    case round =>
     clear H'
     (try clear c2); (try clear c2b0); (try clear p2); (try clear q2); (try clear hx2); (try clear c3); (try clear c3b0); (try clear c5); (try clear p6); (try clear hx280_0); (try clear hx280_1); (try clear hx280_2); (try clear hx280_3); (try clear hx280_4); (try clear hx280_5); (try clear hx280_6); (try clear p280); (try clear q280)
     obtain ⟨x3_2, x5_2, rfl, rfl, HA, HK2, HB⟩ := hrel
     cases gk with
     | zero => exact absurd HA.out (by simp [ndjqref20_sound.l1])
     | succ k2 =>
      have H := HA.out
      clear HA
      simp only [ndjqref20_sound.l1] at H
      by_cases c8 : x5_2 < (l0.length : Int)
      ·rw [if_pos c8] at H
       have c8b0 : decide (x5_2 < (l0.length : Int)) = true := decide_eq_true c8
       clear c8
       by_cases c9 : 0 ≤ x5_2
       ·rw [if_pos c9] at H
        have c9b0 : decide (0 ≤ x5_2) = true := decide_eq_true c9
        clear c9
        by_cases c10 : (wrap64 (x3_2 + ((rd_T26 l0 x5_2).f0))) > 1048576
        ·rw [if_pos c10] at H
         have c10b0 : decide (1048576 < (wrap64 (x3_2 + ((rd_T26 l0 x5_2).f0)))) = true := decide_eq_true c10
         clear c10
         obtain rfl := Option.some.inj H
         have p282 : 0 ≤ (x5_2 : Int) := of_decide_eq_true (by first | (with_reducible assumption) | assumption)
         have q282 : x5_2 < (l0.length : Int) := of_decide_eq_true (by first | (with_reducible assumption) | assumption)
         obtain ⟨ad282, A282_4, c282_4, A282_5, c282_5, A282_6, c282_6, e282, hx282_0, hx282_1, hx282_2, hx282_3, hx282_4, hx282_5, hx282_6, hl282_4, hi282_4, hl282_5, hi282_5, hl282_6, hi282_6⟩ := at_T26 HR0.out x5_2 p282 q282
         cases e282
         replace hx282_0 := (HB.out.cell (World.block_lt_of_cell? w _ hx282_0)).trans hx282_0
         replace hx282_1 := (HB.out.cell (World.block_lt_of_cell? w _ hx282_1)).trans hx282_1
         replace hx282_2 := (HB.out.cell (World.block_lt_of_cell? w _ hx282_2)).trans hx282_2
         replace hx282_3 := (HB.out.cell (World.block_lt_of_cell? w _ hx282_3)).trans hx282_3
         replace hx282_4 := (HB.out.cell (World.block_lt_of_cell? w _ hx282_4)).trans hx282_4
         replace hx282_5 := (HB.out.cell (World.block_lt_of_cell? w _ hx282_5)).trans hx282_5
         replace hx282_6 := (HB.out.cell (World.block_lt_of_cell? w _ hx282_6)).trans hx282_6
         have HR282_4 := Aside0.mk hi282_4
         have HC282_4 := Aside0.mk hl282_4
         clear hi282_4 hl282_4
         have HR282_5 := Aside0.mk hi282_5
         have HC282_5 := Aside0.mk hl282_5
         clear hi282_5 hl282_5
         have HR282_6 := Aside0.mk hi282_6
         have HC282_6 := Aside0.mk hl282_6
         clear hi282_6 hl282_6
         replace p282 := eq_true p282; replace q282 := eq_true q282
         go_wp2
         go_ret
         exact ⟨by first | rfl | (simp [errW_none, errW_some] <;> rfl) | (simp [*, errW_none, errW_some] <;> rfl), by repeat (first | (with_reducible first | exact HB.out | apply wA | apply wN | apply wD) | exact HB.out)⟩
        ·rw [if_neg c10] at H
         have c10b0 : decide (1048576 < (wrap64 (x3_2 + ((rd_T26 l0 x5_2).f0)))) = false := decide_eq_false c10
         clear c10
         have H' := Aside0.mk H
         clear H
         have p282 : 0 ≤ (x5_2 : Int) := of_decide_eq_true (by first | (with_reducible assumption) | assumption)
         have q282 : x5_2 < (l0.length : Int) := of_decide_eq_true (by first | (with_reducible assumption) | assumption)
         obtain ⟨ad282, A282_4, c282_4, A282_5, c282_5, A282_6, c282_6, e282, hx282_0, hx282_1, hx282_2, hx282_3, hx282_4, hx282_5, hx282_6, hl282_4, hi282_4, hl282_5, hi282_5, hl282_6, hi282_6⟩ := at_T26 HR0.out x5_2 p282 q282
         cases e282
         replace hx282_0 := (HB.out.cell (World.block_lt_of_cell? w _ hx282_0)).trans hx282_0
         replace hx282_1 := (HB.out.cell (World.block_lt_of_cell? w _ hx282_1)).trans hx282_1
         replace hx282_2 := (HB.out.cell (World.block_lt_of_cell? w _ hx282_2)).trans hx282_2
         replace hx282_3 := (HB.out.cell (World.block_lt_of_cell? w _ hx282_3)).trans hx282_3
         replace hx282_4 := (HB.out.cell (World.block_lt_of_cell? w _ hx282_4)).trans hx282_4
         replace hx282_5 := (HB.out.cell (World.block_lt_of_cell? w _ hx282_5)).trans hx282_5
         replace hx282_6 := (HB.out.cell (World.block_lt_of_cell? w _ hx282_6)).trans hx282_6
         have HR282_4 := Aside0.mk hi282_4
         have HC282_4 := Aside0.mk hl282_4
         clear hi282_4 hl282_4
         have HR282_5 := Aside0.mk hi282_5
         have HC282_5 := Aside0.mk hl282_5
         clear hi282_5 hl282_5
         have HR282_6 := Aside0.mk hi282_6
         have HC282_6 := Aside0.mk hl282_6
         clear hi282_6 hl282_6
         replace p282 := eq_true p282; replace q282 := eq_true q282
         go_wp2
         go_roundg k2
         case measure => have := HK1.out; have := HK2.out; omega
         case rel => exact ⟨(wrap64 (x3_2 + ((rd_T26 l0 x5_2).f0))), (wrap64 (x5_2 + 1)), (by first | rfl | (simp; done) | (simp [*]; done)), (by first | rfl | (simp; done) | (simp [*]; done)), H', ⟨by have := HK1.out; have := HK2.out; omega⟩, ⟨by repeat (first | (with_reducible first | exact HB.out | apply wA | apply wN | apply wD) | exact HB.out)⟩⟩
       ·rw [if_neg c9] at H
        exact absurd H (by simp)
      ·rw [if_neg c8] at H
       have c8b0 : decide (x5_2 < (l0.length : Int)) = false := decide_eq_false c8
       clear c8
       obtain rfl := Option.some.inj H
       go_wp2
       go_ret
       exact ⟨by first | rfl | (simp [errW_none, errW_some] <;> rfl) | (simp [*, errW_none, errW_some] <;> rfl), by repeat (first | (with_reducible first | exact HB.out | apply wA | apply wN | apply wD) | exact HB.out)⟩

/-! ### ndjqref20_Entries: function 19 -/
def ndjqref20_Entries.l0 : Nat → List (S26) → List Int → Int → Int → Option (List Int × Int)
 | 0, _, _, _, _ => none
 | k + 1, x0, x5, x6, x7 => if x7 < (x0.length : Int) then (if x5.length < 17592186044416 then ((some (x5 ++ [x6] : List Int)).bind fun y284 => (if 0 ≤ x7 then (if x6 = 0 then (ndjqref20_Entries.l0 k x0 y284 ((rd_T26 x0 x7).f1.f0) (wrap64 (x7 + 1))) else (if x6 = 1 then (ndjqref20_Entries.l0 k x0 y284 ((rd_T26 x0 x7).f1.f1) (wrap64 (x7 + 1))) else (if x6 = 2 then (ndjqref20_Entries.l0 k x0 y284 ((rd_T26 x0 x7).f1.f2) (wrap64 (x7 + 1))) else (none)))) else (none))) else (none)) else (some (x5, 0))
def ndjqref20_Entries.f (k : Nat) (l0 : List (S26)) : Option (List Int × Int) := (ndjqref20_sound.f k l0).bind fun t283 => (if t283 = 0 then (ndjqref20_Entries.l0 k l0 ([] : List Int) 0 0) else (some (([] : List Int), t283)))
theorem ndjqref20_Entries.mono_l : ∀ k, (∀ y0 y1 y2 y3, LeO (ndjqref20_Entries.l0 k y0 y1 y2 y3) (ndjqref20_Entries.l0 (k + 1) y0 y1 y2 y3))
 | 0 => fun _ _ _ _ r h => by simp [ndjqref20_Entries.l0] at h
 | k + 1 => by
  have ih0 := ndjqref20_Entries.mono_l k
  ·intro y0 y1 y2 y3
   unfold ndjqref20_Entries.l0
   repeat' first
   | (with_reducible exact ih0 _ _ _ _)
   | (with_reducible exact ndjqref20_sound.mono _ _)
   | (with_reducible exact LeO.refl _)
   | (with_reducible exact LeO.none _)
   | (with_reducible refine LeO.ite ?_ ?_)
   | (with_reducible refine LeO.bind ?_ (fun _ => ?_))
   | exact ih0 _ _ _ _
   | exact ndjqref20_sound.mono _ _
   | exact LeO.none _
   | refine LeO.ite ?_ ?_
   | refine LeO.bind ?_ (fun _ => ?_)
theorem ndjqref20_Entries.mono : ∀ a0 k, LeO (ndjqref20_Entries.f k a0) (ndjqref20_Entries.f (k + 1) a0) := by
 intro a0 k
 have ih0 := ndjqref20_Entries.mono_l k
 unfold ndjqref20_Entries.f
 repeat' first
   | (with_reducible exact ih0 _ _ _ _)
   | (with_reducible exact ndjqref20_sound.mono _ _)
   | (with_reducible exact LeO.refl _)
   | (with_reducible exact LeO.none _)
   | (with_reducible refine LeO.ite ?_ ?_)
   | (with_reducible refine LeO.bind ?_ (fun _ => ?_))
   | exact ih0 _ _ _ _
   | exact ndjqref20_sound.mono _ _
   | exact LeO.none _
   | refine LeO.ite ?_ ?_
   | refine LeO.bind ?_ (fun _ => ?_)
set_option maxHeartbeats 8000000 in
set_option maxRecDepth 100000 in
theorem ndjqref20_Entries.calls (k : Nat) (A0 : Option Addr) (c0 : Nat) (l0 : List (S26)) (r1 : List Int) (r2 : Int) (w : World) (hr0 : Kd.C k26 w A0 l0.length l0) (hc0 : l0.length ≤ c0) (h : ndjqref20_Entries.f k l0 = some (r1, r2)) :
  Calls Tryd.prog 19 #[.slice A0 l0.length c0] w fun e w' => ∃ v0_ : Value, e = .returned (.tuple #[v0_, .int .i64 r2]) ∧ Kd.R (Kd.int .i64) 3 w' w.heap.size (fun _ => True) v0_ r1 ∧ Below w.heap.size w w' := by
 have HR0 := Aside0.mk hr0
 have HC0 := Aside0.mk hc0
 clear hr0 hc0
 have HB := Aside0.mk (Below.refl w.heap.size w)
 have H : ((ndjqref20_sound.f k l0).bind fun t283 => (if t283 = 0 then (ndjqref20_Entries.l0 k l0 ([] : List Int) 0 0) else (some (([] : List Int), t283)))) = some (r1, r2) := h
 clear h
 replace H := Option.bind_eq_some_iff.mp H
 obtain ⟨t283, A20, H⟩ := H
 replace H : (if t283 = 0 then (ndjqref20_Entries.l0 k l0 ([] : List Int) 0 0) else (some (([] : List Int), t283))) = some (r1, r2) := H
 have A2 := Aside0.mk A20
 clear A20
 by_cases c3 : t283 = 0
 ·rw [if_pos c3] at H
  have c3b0 : (t283 == 0) = true := beq_iff_eq.mpr c3
  have c3b1 : (t283 != 0) = false := bne_eq_false_iff_eq.mpr c3
  clear c3
  have H' := Aside0.mk H
  clear H
  go_enter Tryd.func19, Tryd.ntmps19
  go_wp2_with (first | ((with_reducible refine gate_callee (f := 34) rfl ?_); refine goesL_ (some 9) rfl rfl Tryd.func34 (by kernel_rfl) rfl #[.slice A0 l0.length c0] rfl (by (try simp only [List.map_toArray, List.map_cons, List.map_nil]); first | done | rfl | (simp only [List.length_drop, List.length_take]; rfl)) ?_; (with_reducible refine (ndjqref20_sound.calls k _ _ l0 t283 _ ?side1 ?side2 A2.out).mono ?_); (case side1 => repeat (first | exact HR0.out | (with_reducible refine Kd.C_alloc ?_ _) | (with_reducible refine Kd.C_drewN ?_ _) | (with_reducible refine Kd.C_drew ?_))); (case side2 => exact HC0.out); rintro e w4 ⟨rfl, hb⟩; refine ⟨_, rfl, ?_⟩; have n0_ := Aside0.mk (below_step (by repeat (first | (with_reducible first | exact HB.out | apply wA | apply wN | apply wD) | exact HB.out)) hb); clear HB; have HB := n0_; clear n0_; (try clear hb); (try clear hb2); (try clear hk); (try clear hi)))
  go_loopg [5, 6, 7] k (fun kq v5 v6 v7 w' => ∃ (x5_1 : List Int) (x6_1 : Int) (x7_1 : Int), v6 = .int .i64 x6_1 ∧ v7 = .int .i64 x7_1 ∧ Aside0 (ndjqref20_Entries.l0 kq l0 x5_1 x6_1 x7_1 = some (r1, r2)) ∧ Aside0 (kq ≤ k) ∧ Aside0 (Kd.R (Kd.int .i64) 3 w' w.heap.size (fun _ => True) v5 x5_1) ∧ Aside0 (Below w.heap.size w w'))
  case atStart => exact ⟨(([] : List Int)), (0), (0), (by first | rfl | (simp; done) | (simp [*]; done)), (by first | rfl | (simp; done) | (simp [*]; done)), H', ⟨Nat.le_refl _⟩, ⟨by first | exact Kd.R_nil _ _ _ _ _ | exact Kd.N_nil _ _ _ _ _ | exact Kd.V_nil _ _ _ _ _ | exact Kd.Q_nil _ _ _ _ _ | exact Kd.S_nil _ _ _ _ _⟩, ⟨by repeat (first | (with_reducible first | exact HB.out | apply wA | apply wN | apply wD) | exact HB.out)⟩⟩
  case round =>
   clear H'
   (try clear c1); (try clear p2); (try clear c3); (try clear c3b0); (try clear c3b1)
   obtain ⟨x5_1, x6_1, x7_1, rfl, rfl, HA, HK1, HO_5, HB⟩ := hrel
   cases gk with
   | zero => exact absurd HA.out (by simp [ndjqref20_Entries.l0])
   | succ k1 =>
    have H := HA.out
    clear HA
    simp only [ndjqref20_Entries.l0] at H
    by_cases c5 : x7_1 < (l0.length : Int)
    ·rw [if_pos c5] at H
     have c5b0 : decide (x7_1 < (l0.length : Int)) = true := decide_eq_true c5
     clear c5
     by_cases c6 : x5_1.length < 17592186044416
     ·rw [if_pos c6] at H
      have LMc6 := Aside0.mk c6
      clear c6
      obtain ⟨y284, hy284⟩ : ∃ y_ : List Int, y_ = (x5_1 ++ [x6_1]) := ⟨_, rfl⟩
      replace H : (if 0 ≤ x7_1 then (if x6_1 = 0 then (ndjqref20_Entries.l0 k1 l0 y284 ((rd_T26 l0 x7_1).f1.f0) (wrap64 (x7_1 + 1))) else (if x6_1 = 1 then (ndjqref20_Entries.l0 k1 l0 y284 ((rd_T26 l0 x7_1).f1.f1) (wrap64 (x7_1 + 1))) else (if x6_1 = 2 then (ndjqref20_Entries.l0 k1 l0 y284 ((rd_T26 l0 x7_1).f1.f2) (wrap64 (x7_1 + 1))) else (none)))) else (none)) = some (r1, r2) := by first | (rw [hy284]; with_reducible exact H) | (have H2_ := (Option.bind_some _ _).symm.trans H; rw [hy284]; with_reducible exact H2_) | (have H2_ := (Option.bind_some _ _).symm.trans H; with_reducible exact H2_) | with_reducible exact H | (rw [hy284]; exact H) | exact H
      have Ny284 := Aside0.mk hy284
      clear hy284
      by_cases c7 : 0 ≤ x7_1
      ·rw [if_pos c7] at H
       have c7b0 : decide (0 ≤ x7_1) = true := decide_eq_true c7
       clear c7
       by_cases c8 : x6_1 = 0
       ·subst c8
        have H1 : (ndjqref20_Entries.l0 k1 l0 y284 ((rd_T26 l0 x7_1).f1.f0) (wrap64 (x7_1 + 1))) = some (r1, r2) := by rw [if_pos rfl] at H; exact H
        clear H; have H := H1; clear H1
        have H' := Aside0.mk H
        clear H
        go_wp2_with (first | ((with_reducible refine gate_builtin (b := .append) (xs := #[.tmp 19, .tmp 21]) rfl ?_); at_builtin; refine Kd.R_append (Kd.int .i64) (w0 := w) w.heap.size rfl (.tmp 19) (.tmp 21) 23 3 (.int .i64 0) 8 rfl Tryd.underlying23 info3 rfl (by decide) (by omega) u5 x5_1 0 [.int .i64 0] (fun _ => True) (fun _ => False) rfl rfl ?aP (fun _ hk => hk.elim) ?aF ?aO ?aB ?aS ?aL ?_; (case aP => exact rfl); (case aB => exact (by repeat (first | (with_reducible first | exact HB.out | apply wA | apply wN | apply wD) | exact HB.out))); (case aF => exact (fun _ _ => trivial)); (case aO => exact (by (with_reducible repeat (first | apply rA | apply rN | apply rD)); exact HO_5.out)); (case aS => exact (below_size (by repeat (first | (with_reducible first | exact HB.out | apply wA | apply wN | apply wD) | exact HB.out)))); (case aL => have := LMc6.out; first | omega | exact Nat.le_of_lt this); intro v285 w9 ho hb hg hat; rw [← Ny284.out] at ho; have n0_ := Aside0.mk (hb); have n1_ := Aside0.mk (ho); clear HB; clear HO_5; have HB := n0_; have HO286 := n1_; clear n0_ n1_; clear ho hb hg hat; have p287 : 0 ≤ (x7_1 : Int) := of_decide_eq_true (by first | (with_reducible assumption) | assumption); have q287 : x7_1 < (l0.length : Int) := of_decide_eq_true (by first | (with_reducible assumption) | assumption); obtain ⟨ad287, A287_4, c287_4, A287_5, c287_5, A287_6, c287_6, e287, hx287_0, hx287_1, hx287_2, hx287_3, hx287_4, hx287_5, hx287_6, hl287_4, hi287_4, hl287_5, hi287_5, hl287_6, hi287_6⟩ := at_T26 HR0.out x7_1 p287 q287; cases e287; replace hx287_0 := (HB.out.cell (World.block_lt_of_cell? w _ hx287_0)).trans hx287_0; replace hx287_1 := (HB.out.cell (World.block_lt_of_cell? w _ hx287_1)).trans hx287_1; replace hx287_2 := (HB.out.cell (World.block_lt_of_cell? w _ hx287_2)).trans hx287_2; replace hx287_3 := (HB.out.cell (World.block_lt_of_cell? w _ hx287_3)).trans hx287_3; replace hx287_4 := (HB.out.cell (World.block_lt_of_cell? w _ hx287_4)).trans hx287_4; replace hx287_5 := (HB.out.cell (World.block_lt_of_cell? w _ hx287_5)).trans hx287_5; replace hx287_6 := (HB.out.cell (World.block_lt_of_cell? w _ hx287_6)).trans hx287_6; have HR287_4 := Aside0.mk hi287_4; have HC287_4 := Aside0.mk hl287_4; clear hi287_4 hl287_4; have HR287_5 := Aside0.mk hi287_5; have HC287_5 := Aside0.mk hl287_5; clear hi287_5 hl287_5; have HR287_6 := Aside0.mk hi287_6; have HC287_6 := Aside0.mk hl287_6; clear hi287_6 hl287_6; replace p287 := eq_true p287; replace q287 := eq_true q287))
        go_roundg k1
        case measure => have := HK1.out; omega
        case rel => exact ⟨(y284), ((rd_T26 l0 x7_1).f1.f0), (wrap64 (x7_1 + 1)), (by first | rfl | (simp; done) | (simp [*]; done)), (by first | rfl | (simp; done) | (simp [*]; done)), H', ⟨by have := HK1.out; omega⟩, ⟨by (with_reducible repeat (first | apply rA | apply rN | apply rD)); exact HO286.out⟩, ⟨by repeat (first | (with_reducible first | exact HB.out | apply wA | apply wN | apply wD) | exact HB.out)⟩⟩
       ·rw [if_neg c8] at H
        by_cases c10 : x6_1 = 1
        ·subst c10
         have H1 : (ndjqref20_Entries.l0 k1 l0 y284 ((rd_T26 l0 x7_1).f1.f1) (wrap64 (x7_1 + 1))) = some (r1, r2) := by rw [if_pos rfl] at H; exact H
         clear H; have H := H1; clear H1
         have H' := Aside0.mk H
         clear H
         go_wp2_with (first | ((with_reducible refine gate_builtin (b := .append) (xs := #[.tmp 19, .tmp 21]) rfl ?_); at_builtin; refine Kd.R_append (Kd.int .i64) (w0 := w) w.heap.size rfl (.tmp 19) (.tmp 21) 23 3 (.int .i64 0) 8 rfl Tryd.underlying23 info3 rfl (by decide) (by omega) u5 x5_1 1 [.int .i64 1] (fun _ => True) (fun _ => False) rfl rfl ?aP (fun _ hk => hk.elim) ?aF ?aO ?aB ?aS ?aL ?_; (case aP => exact rfl); (case aB => exact (by repeat (first | (with_reducible first | exact HB.out | apply wA | apply wN | apply wD) | exact HB.out))); (case aF => exact (fun _ _ => trivial)); (case aO => exact (by (with_reducible repeat (first | apply rA | apply rN | apply rD)); exact HO_5.out)); (case aS => exact (below_size (by repeat (first | (with_reducible first | exact HB.out | apply wA | apply wN | apply wD) | exact HB.out)))); (case aL => have := LMc6.out; first | omega | exact Nat.le_of_lt this); intro v285 w11 ho hb hg hat; rw [← Ny284.out] at ho; have n0_ := Aside0.mk (hb); have n1_ := Aside0.mk (ho); clear HB; clear HO_5; have HB := n0_; have HO286 := n1_; clear n0_ n1_; clear ho hb hg hat; have p287 : 0 ≤ (x7_1 : Int) := of_decide_eq_true (by first | (with_reducible assumption) | assumption); have q287 : x7_1 < (l0.length : Int) := of_decide_eq_true (by first | (with_reducible assumption) | assumption); obtain ⟨ad287, A287_4, c287_4, A287_5, c287_5, A287_6, c287_6, e287, hx287_0, hx287_1, hx287_2, hx287_3, hx287_4, hx287_5, hx287_6, hl287_4, hi287_4, hl287_5, hi287_5, hl287_6, hi287_6⟩ := at_T26 HR0.out x7_1 p287 q287; cases e287; replace hx287_0 := (HB.out.cell (World.block_lt_of_cell? w _ hx287_0)).trans hx287_0; replace hx287_1 := (HB.out.cell (World.block_lt_of_cell? w _ hx287_1)).trans hx287_1; replace hx287_2 := (HB.out.cell (World.block_lt_of_cell? w _ hx287_2)).trans hx287_2; replace hx287_3 := (HB.out.cell (World.block_lt_of_cell? w _ hx287_3)).trans hx287_3; replace hx287_4 := (HB.out.cell (World.block_lt_of_cell? w _ hx287_4)).trans hx287_4; replace hx287_5 := (HB.out.cell (World.block_lt_of_cell? w _ hx287_5)).trans hx287_5; replace hx287_6 := (HB.out.cell (World.block_lt_of_cell? w _ hx287_6)).trans hx287_6; have HR287_4 := Aside0.mk hi287_4; have HC287_4 := Aside0.mk hl287_4; clear hi287_4 hl287_4; have HR287_5 := Aside0.mk hi287_5; have HC287_5 := Aside0.mk hl287_5; clear hi287_5 hl287_5; have HR287_6 := Aside0.mk hi287_6; have HC287_6 := Aside0.mk hl287_6; clear hi287_6 hl287_6; replace p287 := eq_true p287; replace q287 := eq_true q287))
         go_roundg k1
         case measure => have := HK1.out; omega
         case rel => exact ⟨(y284), ((rd_T26 l0 x7_1).f1.f1), (wrap64 (x7_1 + 1)), (by first | rfl | (simp; done) | (simp [*]; done)), (by first | rfl | (simp; done) | (simp [*]; done)), H', ⟨by have := HK1.out; omega⟩, ⟨by (with_reducible repeat (first | apply rA | apply rN | apply rD)); exact HO286.out⟩, ⟨by repeat (first | (with_reducible first | exact HB.out | apply wA | apply wN | apply wD) | exact HB.out)⟩⟩
        ·rw [if_neg c10] at H
         by_cases c12 : x6_1 = 2
         ·subst c12
          have H1 : (ndjqref20_Entries.l0 k1 l0 y284 ((rd_T26 l0 x7_1).f1.f2) (wrap64 (x7_1 + 1))) = some (r1, r2) := by rw [if_pos rfl] at H; exact H
          clear H; have H := H1; clear H1
          have H' := Aside0.mk H
          clear H
          go_wp2_with (first | ((with_reducible refine gate_builtin (b := .append) (xs := #[.tmp 19, .tmp 21]) rfl ?_); at_builtin; refine Kd.R_append (Kd.int .i64) (w0 := w) w.heap.size rfl (.tmp 19) (.tmp 21) 23 3 (.int .i64 0) 8 rfl Tryd.underlying23 info3 rfl (by decide) (by omega) u5 x5_1 2 [.int .i64 2] (fun _ => True) (fun _ => False) rfl rfl ?aP (fun _ hk => hk.elim) ?aF ?aO ?aB ?aS ?aL ?_; (case aP => exact rfl); (case aB => exact (by repeat (first | (with_reducible first | exact HB.out | apply wA | apply wN | apply wD) | exact HB.out))); (case aF => exact (fun _ _ => trivial)); (case aO => exact (by (with_reducible repeat (first | apply rA | apply rN | apply rD)); exact HO_5.out)); (case aS => exact (below_size (by repeat (first | (with_reducible first | exact HB.out | apply wA | apply wN | apply wD) | exact HB.out)))); (case aL => have := LMc6.out; first | omega | exact Nat.le_of_lt this); intro v285 w13 ho hb hg hat; rw [← Ny284.out] at ho; have n0_ := Aside0.mk (hb); have n1_ := Aside0.mk (ho); clear HB; clear HO_5; have HB := n0_; have HO286 := n1_; clear n0_ n1_; clear ho hb hg hat; have p287 : 0 ≤ (x7_1 : Int) := of_decide_eq_true (by first | (with_reducible assumption) | assumption); have q287 : x7_1 < (l0.length : Int) := of_decide_eq_true (by first | (with_reducible assumption) | assumption); obtain ⟨ad287, A287_4, c287_4, A287_5, c287_5, A287_6, c287_6, e287, hx287_0, hx287_1, hx287_2, hx287_3, hx287_4, hx287_5, hx287_6, hl287_4, hi287_4, hl287_5, hi287_5, hl287_6, hi287_6⟩ := at_T26 HR0.out x7_1 p287 q287; cases e287; replace hx287_0 := (HB.out.cell (World.block_lt_of_cell? w _ hx287_0)).trans hx287_0; replace hx287_1 := (HB.out.cell (World.block_lt_of_cell? w _ hx287_1)).trans hx287_1; replace hx287_2 := (HB.out.cell (World.block_lt_of_cell? w _ hx287_2)).trans hx287_2; replace hx287_3 := (HB.out.cell (World.block_lt_of_cell? w _ hx287_3)).trans hx287_3; replace hx287_4 := (HB.out.cell (World.block_lt_of_cell? w _ hx287_4)).trans hx287_4; replace hx287_5 := (HB.out.cell (World.block_lt_of_cell? w _ hx287_5)).trans hx287_5; replace hx287_6 := (HB.out.cell (World.block_lt_of_cell? w _ hx287_6)).trans hx287_6; have HR287_4 := Aside0.mk hi287_4; have HC287_4 := Aside0.mk hl287_4; clear hi287_4 hl287_4; have HR287_5 := Aside0.mk hi287_5; have HC287_5 := Aside0.mk hl287_5; clear hi287_5 hl287_5; have HR287_6 := Aside0.mk hi287_6; have HC287_6 := Aside0.mk hl287_6; clear hi287_6 hl287_6; replace p287 := eq_true p287; replace q287 := eq_true q287))
          go_roundg k1
          case measure => have := HK1.out; omega
          case rel => exact ⟨(y284), ((rd_T26 l0 x7_1).f1.f2), (wrap64 (x7_1 + 1)), (by first | rfl | (simp; done) | (simp [*]; done)), (by first | rfl | (simp; done) | (simp [*]; done)), H', ⟨by have := HK1.out; omega⟩, ⟨by (with_reducible repeat (first | apply rA | apply rN | apply rD)); exact HO286.out⟩, ⟨by repeat (first | (with_reducible first | exact HB.out | apply wA | apply wN | apply wD) | exact HB.out)⟩⟩
         ·rw [if_neg c12] at H
          exact absurd H (by simp)
      ·rw [if_neg c7] at H
       exact absurd H (by simp)
     ·rw [if_neg c6] at H
      exact absurd H (by simp)
    ·rw [if_neg c5] at H
     have c5b0 : decide (x7_1 < (l0.length : Int)) = false := decide_eq_false c5
     clear c5
     simp only [Option.some.injEq, Prod.mk.injEq] at H
     obtain ⟨rfl, rfl⟩ := H
     go_wp2
     go_ret2
     exact ⟨_, by first | rfl | (simp [errW_none, errW_some] <;> rfl) | (simp [*, errW_none, errW_some] <;> rfl), by (with_reducible repeat (first | apply rA | apply rN | apply rD)); exact HO_5.out, by repeat (first | (with_reducible first | exact HB.out | apply wA | apply wN | apply wD) | exact HB.out)⟩
 ·rw [if_neg c3] at H
  have c3b0 : (t283 == 0) = false := beq_eq_false_iff_ne.mpr c3
  have c3b1 : (t283 != 0) = true := bne_iff_ne.mpr c3
  simp only [Option.some.injEq, Prod.mk.injEq] at H
  obtain ⟨rfl, rfl⟩ := H
  go_enter Tryd.func19, Tryd.ntmps19
  go_wp2_with (first | ((with_reducible refine gate_callee (f := 34) rfl ?_); refine goesL_ (some 9) rfl rfl Tryd.func34 (by kernel_rfl) rfl #[.slice A0 l0.length c0] rfl (by (try simp only [List.map_toArray, List.map_cons, List.map_nil]); first | done | rfl | (simp only [List.length_drop, List.length_take]; rfl)) ?_; (with_reducible refine (ndjqref20_sound.calls k _ _ l0 t283 _ ?side1 ?side2 A2.out).mono ?_); (case side1 => repeat (first | exact HR0.out | (with_reducible refine Kd.C_alloc ?_ _) | (with_reducible refine Kd.C_drewN ?_ _) | (with_reducible refine Kd.C_drew ?_))); (case side2 => exact HC0.out); rintro e w14 ⟨rfl, hb⟩; refine ⟨_, rfl, ?_⟩; have n0_ := Aside0.mk (below_step (by repeat (first | (with_reducible first | exact HB.out | apply wA | apply wN | apply wD) | exact HB.out)) hb); clear HB; have HB := n0_; clear n0_; (try clear hb); (try clear hb2); (try clear hk); (try clear hi)))
  go_ret2
  exact ⟨_, by first | rfl | (simp [errW_none, errW_some] <;> rfl) | (simp [*, errW_none, errW_some] <;> rfl), by first | exact Kd.R_nil _ _ _ _ _ | exact Kd.N_nil _ _ _ _ _ | exact Kd.V_nil _ _ _ _ _ | exact Kd.Q_nil _ _ _ _ _ | exact Kd.S_nil _ _ _ _ _, by repeat (first | (with_reducible first | exact HB.out | apply wA | apply wN | apply wD) | exact HB.out)⟩

end Go.Proofs.YtkhnifehcnlpjaaDoor.QScanChunks
