-- by a program of this session (print2.py): the machine's side of one law; Lean checks it.
import Derived.Test.YtkhnifehcnlpjaaDoorQBx0
import Derived.Test.YtkhnifehcnlpjaaDoorQBx11
namespace Go.Proofs.YtkhnifehcnlpjaaDoor.QB
open Go.RowKit Go.Proofs.YtkhnifehcnlpjaaDoorW.PrintWords Go.Proofs.YtkhnifehcnlpjaaDoorW.PrintLast Go.Proofs.YtkhnifehcnlpjaaDoorW.PrintMore
attribute [local go_sem] max2_int min2_int max_two min_two max_three min_three max_four min_four   -- for this text's walks alone
set_option linter.unusedVariables false
set_option linter.unusedSimpArgs false

/-! ### ndjqref20_sound: function 34 -/
mutual
def ndjqref20_sound.l0 : Nat → List (S26) → Int → Int → Option (Int)
 | 0, _, _, _ => none
 | k + 1, x0, x3, x4 => if x4 < (x0.length : Int) then (if 0 ≤ x4 then ((ndjqref18_Valid.f k ((rd_T26 x0 x4).f0) ((rd_T26 x0 x4).f1.f0) ((rd_T26 x0 x4).f1.f1) ((rd_T26 x0 x4).f1.f2) ((rd_T26 x0 x4).f2.f0) ((rd_T26 x0 x4).f2.f1) ((rd_T26 x0 x4).f2.f2)).bind fun t261 => (if t261 = true then (ndjqref20_sound.l0 k x0 x3 (wrap64 (x4 + 1))) else (some 1))) else (none)) else (ndjqref20_sound.l1 k x0 x3 0)
def ndjqref20_sound.l1 : Nat → List (S26) → Int → Int → Option (Int)
 | 0, _, _, _ => none
 | k + 1, x0, x3, x5 => if x5 < (x0.length : Int) then (if 0 ≤ x5 then (if (wrap64 (x3 + ((rd_T26 x0 x5).f0))) > 1048576 then (some 2) else (ndjqref20_sound.l1 k x0 (wrap64 (x3 + ((rd_T26 x0 x5).f0))) (wrap64 (x5 + 1)))) else (none)) else (some 0)
end
def ndjqref20_sound.f (k : Nat) (l0 : List (S26)) : Option (Int) := ndjqref20_sound.l0 k l0 0 0
theorem ndjqref20_sound.mono_l : ∀ k, (∀ y0 y1 y2, LeO (ndjqref20_sound.l0 k y0 y1 y2) (ndjqref20_sound.l0 (k + 1) y0 y1 y2)) ∧ (∀ y0 y1 y2, LeO (ndjqref20_sound.l1 k y0 y1 y2) (ndjqref20_sound.l1 (k + 1) y0 y1 y2))
 | 0 => ⟨fun _ _ _ r h => by simp [ndjqref20_sound.l0] at h, fun _ _ _ r h => by simp [ndjqref20_sound.l1] at h⟩
 | k + 1 => by
  obtain ⟨ih0, ih1⟩ := ndjqref20_sound.mono_l k
  refine ⟨?_, ?_⟩
  ·intro y0 y1 y2
   unfold ndjqref20_sound.l0
   repeat' first
   | (with_reducible exact ih0 _ _ _)
   | (with_reducible exact ih1 _ _ _)
   | (with_reducible exact ndjqref18_Valid.mono _ _ _ _ _ _ _ _)
   | (with_reducible exact LeO.refl _)
   | (with_reducible exact LeO.none _)
   | (with_reducible refine LeO.ite ?_ ?_)
   | (with_reducible refine LeO.bind ?_ (fun _ => ?_))
   | exact ih0 _ _ _
   | exact ih1 _ _ _
   | exact ndjqref18_Valid.mono _ _ _ _ _ _ _ _
   | exact LeO.none _
   | refine LeO.ite ?_ ?_
   | refine LeO.bind ?_ (fun _ => ?_)
  ·intro y0 y1 y2
   unfold ndjqref20_sound.l1
   repeat' first
   | (with_reducible exact ih0 _ _ _)
   | (with_reducible exact ih1 _ _ _)
   | (with_reducible exact ndjqref18_Valid.mono _ _ _ _ _ _ _ _)
   | (with_reducible exact LeO.refl _)
   | (with_reducible exact LeO.none _)
   | (with_reducible refine LeO.ite ?_ ?_)
   | (with_reducible refine LeO.bind ?_ (fun _ => ?_))
   | exact ih0 _ _ _
   | exact ih1 _ _ _
   | exact ndjqref18_Valid.mono _ _ _ _ _ _ _ _
   | exact LeO.none _
   | refine LeO.ite ?_ ?_
   | refine LeO.bind ?_ (fun _ => ?_)
theorem ndjqref20_sound.mono : ∀ a0 k, LeO (ndjqref20_sound.f k a0) (ndjqref20_sound.f (k + 1) a0) := by
 intro a0 k
 obtain ⟨ih0, ih1⟩ := ndjqref20_sound.mono_l k
 unfold ndjqref20_sound.f
 repeat' first
   | (with_reducible exact ih0 _ _ _)
   | (with_reducible exact ih1 _ _ _)
   | (with_reducible exact ndjqref18_Valid.mono _ _ _ _ _ _ _ _)
   | (with_reducible exact LeO.refl _)
   | (with_reducible exact LeO.none _)
   | (with_reducible refine LeO.ite ?_ ?_)
   | (with_reducible refine LeO.bind ?_ (fun _ => ?_))
   | exact ih0 _ _ _
   | exact ih1 _ _ _
   | exact ndjqref18_Valid.mono _ _ _ _ _ _ _ _
   | exact LeO.none _
   | refine LeO.ite ?_ ?_
   | refine LeO.bind ?_ (fun _ => ?_)
set_option maxHeartbeats 8000000 in
set_option maxRecDepth 100000 in
theorem ndjqref20_sound.calls (k : Nat) (A0 : Option Addr) (c0 : Nat) (l0 : List (S26)) (r : Int) (w : World) (hr0 : Kd.C k26 w A0 l0.length l0) (hc0 : l0.length ≤ c0) (h : ndjqref20_sound.f k l0 = some r) :
  Calls Tryd.prog 34 #[.slice A0 l0.length c0] w fun e w' => e = .returned (.int .i64 r) ∧ Below w.heap.size w w' := by
 have hu26 := Tryd.underlying26
 have HR0 := Aside0.mk hr0
 have HC0 := Aside0.mk hc0
 clear hr0 hc0
 have HB := Aside0.mk (Below.refl w.heap.size w)
 have H : (ndjqref20_sound.l0 k l0 0 0) = some r := h
 clear h
 have H' := Aside0.mk H
 clear H
 go_enter Tryd.func34, Tryd.ntmps34
 go_wp2
 go_loopg [4] k (fun kq v4 w' => ∃ (x4_1 : Int), v4 = .int .i64 x4_1 ∧ Aside0 (ndjqref20_sound.l0 kq l0 0 x4_1 = some r) ∧ Aside0 (kq ≤ k) ∧ Aside0 (Below w.heap.size w w'))
 case atStart => exact ⟨(0), (by first | rfl | (simp; done) | (simp [*]; done)), H', ⟨Nat.le_refl _⟩, ⟨by repeat (first | (with_reducible first | exact HB.out | apply wA | apply wN | apply wD) | exact HB.out)⟩⟩
 case round =>
  clear H'
  obtain ⟨x4_1, rfl, HA, HK1, HB⟩ := hrel
  cases gk with
  | zero => exact absurd HA.out (by simp [ndjqref20_sound.l0])
  | succ k1 =>
   have H := HA.out
   clear HA
   simp only [ndjqref20_sound.l0] at H
   by_cases c2 : x4_1 < (l0.length : Int)
   ·rw [if_pos c2] at H
    have c2b0 : decide (x4_1 < (l0.length : Int)) = true := decide_eq_true c2
    clear c2
    by_cases c3 : 0 ≤ x4_1
    ·rw [if_pos c3] at H
     have c3b0 : decide (0 ≤ x4_1) = true := decide_eq_true c3
     clear c3
     replace H := Option.bind_eq_some_iff.mp H
     obtain ⟨t261, A40, H⟩ := H
     replace H : (if t261 = true then (ndjqref20_sound.l0 k1 l0 0 (wrap64 (x4_1 + 1))) else (some 1)) = some r := H
     have A4 := Aside0.mk A40
     clear A40
     by_cases c5 : t261 = true
     ·subst c5
      have H1 : (ndjqref20_sound.l0 k1 l0 0 (wrap64 (x4_1 + 1))) = some r := by rw [if_pos rfl] at H; exact H
      clear H; have H := H1; clear H1
      have H' := Aside0.mk H
      clear H
      have p260 : 0 ≤ (x4_1 : Int) := of_decide_eq_true (by first | (with_reducible assumption) | assumption)
      have q260 : x4_1 < (l0.length : Int) := of_decide_eq_true (by first | (with_reducible assumption) | assumption)
      obtain ⟨ad260, A260_4, c260_4, A260_5, c260_5, A260_6, c260_6, e260, hx260_0, hx260_1, hx260_2, hx260_3, hx260_4, hx260_5, hx260_6, hl260_4, hi260_4, hl260_5, hi260_5, hl260_6, hi260_6⟩ := at_T26 HR0.out x4_1 p260 q260
      cases e260
      replace hx260_0 := (HB.out.cell (World.block_lt_of_cell? w _ hx260_0)).trans hx260_0
      replace hx260_1 := (HB.out.cell (World.block_lt_of_cell? w _ hx260_1)).trans hx260_1
      replace hx260_2 := (HB.out.cell (World.block_lt_of_cell? w _ hx260_2)).trans hx260_2
      replace hx260_3 := (HB.out.cell (World.block_lt_of_cell? w _ hx260_3)).trans hx260_3
      replace hx260_4 := (HB.out.cell (World.block_lt_of_cell? w _ hx260_4)).trans hx260_4
      replace hx260_5 := (HB.out.cell (World.block_lt_of_cell? w _ hx260_5)).trans hx260_5
      replace hx260_6 := (HB.out.cell (World.block_lt_of_cell? w _ hx260_6)).trans hx260_6
      have HR260_4 := Aside0.mk hi260_4
      have HC260_4 := Aside0.mk hl260_4
      clear hi260_4 hl260_4
      have HR260_5 := Aside0.mk hi260_5
      have HC260_5 := Aside0.mk hl260_5
      clear hi260_5 hl260_5
      have HR260_6 := Aside0.mk hi260_6
      have HC260_6 := Aside0.mk hl260_6
      clear hi260_6 hl260_6
      replace p260 := eq_true p260; replace q260 := eq_true q260
      go_wp2_with (first | ((with_reducible refine gate_callee (f := 29) rfl ?_); refine goesL_ (some 16) rfl rfl Tryd.func29 (by kernel_rfl) rfl #[.agg #[.int .i64 ((rd_T26 l0 x4_1).f0), .int .i64 ((rd_T26 l0 x4_1).f1.f0), .int .i64 ((rd_T26 l0 x4_1).f1.f1), .int .i64 ((rd_T26 l0 x4_1).f1.f2), .slice A260_4 ((rd_T26 l0 x4_1).f2.f0).length c260_4, .slice A260_5 ((rd_T26 l0 x4_1).f2.f1).length c260_5, .slice A260_6 ((rd_T26 l0 x4_1).f2.f2).length c260_6]] rfl (by (try simp only [List.map_toArray, List.map_cons, List.map_nil]); first | done | rfl | (simp only [List.length_drop, List.length_take]; rfl)) ?_; (with_reducible refine (ndjqref18_Valid.calls k1 ((rd_T26 l0 x4_1).f0) ((rd_T26 l0 x4_1).f1.f0) ((rd_T26 l0 x4_1).f1.f1) ((rd_T26 l0 x4_1).f1.f2) _ _ ((rd_T26 l0 x4_1).f2.f0) _ _ ((rd_T26 l0 x4_1).f2.f1) _ _ ((rd_T26 l0 x4_1).f2.f2) true _ ?side1 ?side2 ?side3 ?side4 ?side5 ?side6 A4.out).mono ?_); (case side1 => repeat (first | exact (Kd.C_below HR260_4.out HB.out) | (with_reducible refine Kd.C_alloc ?_ _) | (with_reducible refine Kd.C_drewN ?_ _) | (with_reducible refine Kd.C_drew ?_))); (case side2 => exact HC260_4.out); (case side3 => repeat (first | exact (Kd.C_below HR260_5.out HB.out) | (with_reducible refine Kd.C_alloc ?_ _) | (with_reducible refine Kd.C_drewN ?_ _) | (with_reducible refine Kd.C_drew ?_))); (case side4 => exact HC260_5.out); (case side5 => repeat (first | exact (Kd.C_below HR260_6.out HB.out) | (with_reducible refine Kd.C_alloc ?_ _) | (with_reducible refine Kd.C_drewN ?_ _) | (with_reducible refine Kd.C_drew ?_))); (case side6 => exact HC260_6.out); rintro e w6 ⟨rfl, hb⟩; refine ⟨_, rfl, ?_⟩; have n0_ := Aside0.mk (below_step (by repeat (first | (with_reducible first | exact HB.out | apply wA | apply wN | apply wD) | exact HB.out)) hb); clear HB; have HB := n0_; clear n0_; (try clear hb); (try clear hb2); (try clear hk); (try clear hi)))
      go_roundg k1
      case measure => have := HK1.out; omega
      case rel => exact ⟨(wrap64 (x4_1 + 1)), (by first | rfl | (simp; done) | (simp [*]; done)), H', ⟨by have := HK1.out; omega⟩, ⟨by repeat (first | (with_reducible first | exact HB.out | apply wA | apply wN | apply wD) | exact HB.out)⟩⟩
     ·replace c5 := Bool.eq_false_iff.mpr c5
      subst c5
      have H1 : (some 1) = some r := by rw [if_neg (show ¬ (false = true) by decide)] at H; exact H
      clear H; have H := H1; clear H1
      obtain rfl := Option.some.inj H
      have p260 : 0 ≤ (x4_1 : Int) := of_decide_eq_true (by first | (with_reducible assumption) | assumption)
      have q260 : x4_1 < (l0.length : Int) := of_decide_eq_true (by first | (with_reducible assumption) | assumption)
      obtain ⟨ad260, A260_4, c260_4, A260_5, c260_5, A260_6, c260_6, e260, hx260_0, hx260_1, hx260_2, hx260_3, hx260_4, hx260_5, hx260_6, hl260_4, hi260_4, hl260_5, hi260_5, hl260_6, hi260_6⟩ := at_T26 HR0.out x4_1 p260 q260
      cases e260
      replace hx260_0 := (HB.out.cell (World.block_lt_of_cell? w _ hx260_0)).trans hx260_0
      replace hx260_1 := (HB.out.cell (World.block_lt_of_cell? w _ hx260_1)).trans hx260_1
      replace hx260_2 := (HB.out.cell (World.block_lt_of_cell? w _ hx260_2)).trans hx260_2
      replace hx260_3 := (HB.out.cell (World.block_lt_of_cell? w _ hx260_3)).trans hx260_3
      replace hx260_4 := (HB.out.cell (World.block_lt_of_cell? w _ hx260_4)).trans hx260_4
      replace hx260_5 := (HB.out.cell (World.block_lt_of_cell? w _ hx260_5)).trans hx260_5
      replace hx260_6 := (HB.out.cell (World.block_lt_of_cell? w _ hx260_6)).trans hx260_6
      have HR260_4 := Aside0.mk hi260_4
      have HC260_4 := Aside0.mk hl260_4
      clear hi260_4 hl260_4
      have HR260_5 := Aside0.mk hi260_5
      have HC260_5 := Aside0.mk hl260_5
      clear hi260_5 hl260_5
      have HR260_6 := Aside0.mk hi260_6
      have HC260_6 := Aside0.mk hl260_6
      clear hi260_6 hl260_6
      replace p260 := eq_true p260; replace q260 := eq_true q260
      go_wp2_with (first | ((with_reducible refine gate_callee (f := 29) rfl ?_); refine goesL_ (some 16) rfl rfl Tryd.func29 (by kernel_rfl) rfl #[.agg #[.int .i64 ((rd_T26 l0 x4_1).f0), .int .i64 ((rd_T26 l0 x4_1).f1.f0), .int .i64 ((rd_T26 l0 x4_1).f1.f1), .int .i64 ((rd_T26 l0 x4_1).f1.f2), .slice A260_4 ((rd_T26 l0 x4_1).f2.f0).length c260_4, .slice A260_5 ((rd_T26 l0 x4_1).f2.f1).length c260_5, .slice A260_6 ((rd_T26 l0 x4_1).f2.f2).length c260_6]] rfl (by (try simp only [List.map_toArray, List.map_cons, List.map_nil]); first | done | rfl | (simp only [List.length_drop, List.length_take]; rfl)) ?_; (with_reducible refine (ndjqref18_Valid.calls k1 ((rd_T26 l0 x4_1).f0) ((rd_T26 l0 x4_1).f1.f0) ((rd_T26 l0 x4_1).f1.f1) ((rd_T26 l0 x4_1).f1.f2) _ _ ((rd_T26 l0 x4_1).f2.f0) _ _ ((rd_T26 l0 x4_1).f2.f1) _ _ ((rd_T26 l0 x4_1).f2.f2) false _ ?side1 ?side2 ?side3 ?side4 ?side5 ?side6 A4.out).mono ?_); (case side1 => repeat (first | exact (Kd.C_below HR260_4.out HB.out) | (with_reducible refine Kd.C_alloc ?_ _) | (with_reducible refine Kd.C_drewN ?_ _) | (with_reducible refine Kd.C_drew ?_))); (case side2 => exact HC260_4.out); (case side3 => repeat (first | exact (Kd.C_below HR260_5.out HB.out) | (with_reducible refine Kd.C_alloc ?_ _) | (with_reducible refine Kd.C_drewN ?_ _) | (with_reducible refine Kd.C_drew ?_))); (case side4 => exact HC260_5.out); (case side5 => repeat (first | exact (Kd.C_below HR260_6.out HB.out) | (with_reducible refine Kd.C_alloc ?_ _) | (with_reducible refine Kd.C_drewN ?_ _) | (with_reducible refine Kd.C_drew ?_))); (case side6 => exact HC260_6.out); rintro e w7 ⟨rfl, hb⟩; refine ⟨_, rfl, ?_⟩; have n0_ := Aside0.mk (below_step (by repeat (first | (with_reducible first | exact HB.out | apply wA | apply wN | apply wD) | exact HB.out)) hb); clear HB; have HB := n0_; clear n0_; (try clear hb); (try clear hb2); (try clear hk); (try clear hi)))
      go_ret
      exact ⟨by first | rfl | (simp [errW_none, errW_some] <;> rfl) | (simp [*, errW_none, errW_some] <;> rfl), by repeat (first | (with_reducible first | exact HB.out | apply wA | apply wN | apply wD) | exact HB.out)⟩
    ·rw [if_neg c3] at H
     exact absurd H (by simp)
   ·rw [if_neg c2] at H
    have c2b0 : decide (x4_1 < (l0.length : Int)) = false := decide_eq_false c2
    clear c2
    have H' := Aside0.mk H
    clear H
    go_wp2
    go_loopg [3, 5] k1 (fun kq v3 v5 w' => ∃ (x3_2 : Int) (x5_2 : Int), v3 = .int .i64 x3_2 ∧ v5 = .int .i64 x5_2 ∧ Aside0 (ndjqref20_sound.l1 kq l0 x3_2 x5_2 = some r) ∧ Aside0 (kq ≤ k1) ∧ Aside0 (Below w.heap.size w w'))
    case atStart => exact ⟨(0), (0), (by first | rfl | (simp; done) | (simp [*]; done)), (by first | rfl | (simp; done) | (simp [*]; done)), H', ⟨Nat.le_refl _⟩, ⟨by repeat (first | (with_reducible first | exact HB.out | apply wA | apply wN | apply wD) | exact HB.out)⟩⟩
    case round =>
     clear H'
     (try clear c2); (try clear c2b0); (try clear p2); (try clear q2); (try clear hx2); (try clear c3); (try clear c3b0); (try clear c5); (try clear p6); (try clear hx260_0); (try clear hx260_1); (try clear hx260_2); (try clear hx260_3); (try clear hx260_4); (try clear hx260_5); (try clear hx260_6); (try clear p260); (try clear q260)
     obtain ⟨x3_2, x5_2, rfl, rfl, HA, HK2, HB⟩ := hrel
     cases gk with
     | zero => exact absurd HA.out (by simp [ndjqref20_sound.l1])
     | succ k2 =>
      have H := HA.out
      clear HA
      simp only [ndjqref20_sound.l1] at H
      by_cases c8 : x5_2 < (l0.length : Int)
      ·rw [if_pos c8] at H
       have c8b0 : decide (x5_2 < (l0.length : Int)) = true := decide_eq_true c8
       clear c8
       by_cases c9 : 0 ≤ x5_2
       ·rw [if_pos c9] at H
        have c9b0 : decide (0 ≤ x5_2) = true := decide_eq_true c9
        clear c9
        by_cases c10 : (wrap64 (x3_2 + ((rd_T26 l0 x5_2).f0))) > 1048576
        ·rw [if_pos c10] at H
         have c10b0 : decide (1048576 < (wrap64 (x3_2 + ((rd_T26 l0 x5_2).f0)))) = true := decide_eq_true c10
         clear c10
         obtain rfl := Option.some.inj H
         have p262 : 0 ≤ (x5_2 : Int) := of_decide_eq_true (by first | (with_reducible assumption) | assumption)
         have q262 : x5_2 < (l0.length : Int) := of_decide_eq_true (by first | (with_reducible assumption) | assumption)
         obtain ⟨ad262, A262_4, c262_4, A262_5, c262_5, A262_6, c262_6, e262, hx262_0, hx262_1, hx262_2, hx262_3, hx262_4, hx262_5, hx262_6, hl262_4, hi262_4, hl262_5, hi262_5, hl262_6, hi262_6⟩ := at_T26 HR0.out x5_2 p262 q262
         cases e262
         replace hx262_0 := (HB.out.cell (World.block_lt_of_cell? w _ hx262_0)).trans hx262_0
         replace hx262_1 := (HB.out.cell (World.block_lt_of_cell? w _ hx262_1)).trans hx262_1
         replace hx262_2 := (HB.out.cell (World.block_lt_of_cell? w _ hx262_2)).trans hx262_2
         replace hx262_3 := (HB.out.cell (World.block_lt_of_cell? w _ hx262_3)).trans hx262_3
         replace hx262_4 := (HB.out.cell (World.block_lt_of_cell? w _ hx262_4)).trans hx262_4
         replace hx262_5 := (HB.out.cell (World.block_lt_of_cell? w _ hx262_5)).trans hx262_5
         replace hx262_6 := (HB.out.cell (World.block_lt_of_cell? w _ hx262_6)).trans hx262_6
         have HR262_4 := Aside0.mk hi262_4
         have HC262_4 := Aside0.mk hl262_4
         clear hi262_4 hl262_4
         have HR262_5 := Aside0.mk hi262_5
         have HC262_5 := Aside0.mk hl262_5
         clear hi262_5 hl262_5
         have HR262_6 := Aside0.mk hi262_6
         have HC262_6 := Aside0.mk hl262_6
         clear hi262_6 hl262_6
         replace p262 := eq_true p262; replace q262 := eq_true q262
         go_wp2
         go_ret
         exact ⟨by first | rfl | (simp [errW_none, errW_some] <;> rfl) | (simp [*, errW_none, errW_some] <;> rfl), by repeat (first | (with_reducible first | exact HB.out | apply wA | apply wN | apply wD) | exact HB.out)⟩
        ·rw [if_neg c10] at H
         have c10b0 : decide (1048576 < (wrap64 (x3_2 + ((rd_T26 l0 x5_2).f0)))) = false := decide_eq_false c10
         clear c10
         have H' := Aside0.mk H
         clear H
         have p262 : 0 ≤ (x5_2 : Int) := of_decide_eq_true (by first | (with_reducible assumption) | assumption)
         have q262 : x5_2 < (l0.length : Int) := of_decide_eq_true (by first | (with_reducible assumption) | assumption)
         obtain ⟨ad262, A262_4, c262_4, A262_5, c262_5, A262_6, c262_6, e262, hx262_0, hx262_1, hx262_2, hx262_3, hx262_4, hx262_5, hx262_6, hl262_4, hi262_4, hl262_5, hi262_5, hl262_6, hi262_6⟩ := at_T26 HR0.out x5_2 p262 q262
         cases e262
         replace hx262_0 := (HB.out.cell (World.block_lt_of_cell? w _ hx262_0)).trans hx262_0
         replace hx262_1 := (HB.out.cell (World.block_lt_of_cell? w _ hx262_1)).trans hx262_1
         replace hx262_2 := (HB.out.cell (World.block_lt_of_cell? w _ hx262_2)).trans hx262_2
         replace hx262_3 := (HB.out.cell (World.block_lt_of_cell? w _ hx262_3)).trans hx262_3
         replace hx262_4 := (HB.out.cell (World.block_lt_of_cell? w _ hx262_4)).trans hx262_4
         replace hx262_5 := (HB.out.cell (World.block_lt_of_cell? w _ hx262_5)).trans hx262_5
         replace hx262_6 := (HB.out.cell (World.block_lt_of_cell? w _ hx262_6)).trans hx262_6
         have HR262_4 := Aside0.mk hi262_4
         have HC262_4 := Aside0.mk hl262_4
         clear hi262_4 hl262_4
         have HR262_5 := Aside0.mk hi262_5
         have HC262_5 := Aside0.mk hl262_5
         clear hi262_5 hl262_5
         have HR262_6 := Aside0.mk hi262_6
         have HC262_6 := Aside0.mk hl262_6
         clear hi262_6 hl262_6
         replace p262 := eq_true p262; replace q262 := eq_true q262
         go_wp2
         go_roundg k2
         case measure => have := HK1.out; have := HK2.out; omega
         case rel => exact ⟨(wrap64 (x3_2 + ((rd_T26 l0 x5_2).f0))), (wrap64 (x5_2 + 1)), (by first | rfl | (simp; done) | (simp [*]; done)), (by first | rfl | (simp; done) | (simp [*]; done)), H', ⟨by have := HK1.out; have := HK2.out; omega⟩, ⟨by repeat (first | (with_reducible first | exact HB.out | apply wA | apply wN | apply wD) | exact HB.out)⟩⟩
       ·rw [if_neg c9] at H
        exact absurd H (by simp)
      ·rw [if_neg c8] at H
       have c8b0 : decide (x5_2 < (l0.length : Int)) = false := decide_eq_false c8
       clear c8
       obtain rfl := Option.some.inj H
       go_wp2
       go_ret
       exact ⟨by first | rfl | (simp [errW_none, errW_some] <;> rfl) | (simp [*, errW_none, errW_some] <;> rfl), by repeat (first | (with_reducible first | exact HB.out | apply wA | apply wN | apply wD) | exact HB.out)⟩

-- NOT PRINTED: function 44 (ndjqref18_Empty)

end Go.Proofs.YtkhnifehcnlpjaaDoor.QB
