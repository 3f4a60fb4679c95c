-- by a program of this session (print2.py): the machine's side of one law; Lean checks it.
import Derived.Test.YtcnojfoiolbnaaaQJsonlexNumbersx0
import Derived.Test.YtcnojfoiolbnaaaQJsonlexNumbersx2
namespace Go.Proofs.Ytcnojfoiolbnaaa.QJsonlexNumbers
open Go.RowKit Go.Proofs.YtcnojfoiolbnaaaW.PrintWords Go.Proofs.YtcnojfoiolbnaaaW.PrintLast Go.Proofs.YtcnojfoiolbnaaaW.PrintMore
attribute [local go_sem] max2_int min2_int max_two min_two max_three min_three max_four min_four   -- for this text's walks alone
set_option linter.unusedVariables false
set_option linter.unusedSimpArgs false

/-! ### jsonlex_number: function 20 -/
mutual
def jsonlex_number.j0 : Nat → ByteArray → Int → Int → Bool → Option (Int × Int × Int)
 | 0, _, _, _, _ => none
 | k + 1, x0, x1, x7, x8 => if x7 = (x0.size : Int) then (jsonlex_number.j1 k x0 x1 x7 x8 true) else (if 0 ≤ x7 then (if x7 < (x0.size : Int) then ((jsonlex_digit.f (bt x0 x7)).bind fun t102 => (jsonlex_number.j1 k x0 x1 x7 x8 (!t102))) else (none)) else (none))
def jsonlex_number.j1 : Nat → ByteArray → Int → Int → Bool → Bool → Option (Int × Int × Int)
 | 0, _, _, _, _, _ => none
 | k + 1, x0, x1, x7, x8, x30 => if x30 = true then (some (0, x7, 4)) else (if 0 ≤ x7 then (if x7 < (x0.size : Int) then (if (bt x0 x7) = 48 then (if (wrap64 (x7 + 1)) < (x0.size : Int) then (if 0 ≤ (wrap64 (x7 + 1)) then ((jsonlex_digit.f (bt x0 (wrap64 (x7 + 1)))).bind fun t103 => (jsonlex_number.j2 k x0 x1 x7 x8 t103)) else (none)) else (jsonlex_number.j2 k x0 x1 x7 x8 false)) else (jsonlex_number.j2 k x0 x1 x7 x8 false)) else (none)) else (none))
def jsonlex_number.j2 : Nat → ByteArray → Int → Int → Bool → Bool → Option (Int × Int × Int)
 | 0, _, _, _, _, _ => none
 | k + 1, x0, x1, x7, x8, x49 => if x49 = true then (some (0, wrap64 (x7 + 1), 4)) else (jsonlex_number.l0 k x0 x1 x7 x8 true 0)
def jsonlex_number.l0 : Nat → ByteArray → Int → Int → Bool → Bool → Int → Option (Int × Int × Int)
 | 0, _, _, _, _, _, _ => none
 | k + 1, x0, x1, x7, x8, x9, x10 => if x7 < (x0.size : Int) then (if 0 ≤ x7 then ((jsonlex_digit.f (bt x0 x7)).bind fun t104 => (jsonlex_number.j4 k x0 x1 x7 x8 x9 x10 t104)) else (none)) else (jsonlex_number.j4 k x0 x1 x7 x8 x9 x10 false)
def jsonlex_number.j4 : Nat → ByteArray → Int → Int → Bool → Bool → Int → Bool → Option (Int × Int × Int)
 | 0, _, _, _, _, _, _, _ => none
 | k + 1, x0, x1, x7, x8, x9, x10, x61 => if x61 = true then (if 0 ≤ x7 then (if x7 < (x0.size : Int) then (if x10 < (Int.tdiv ((-9223372036854775808) + (((bt x0 x7) - 48) % 256)) 10) then (jsonlex_number.l0 k x0 x1 (wrap64 (x7 + 1)) x8 false x10) else (jsonlex_number.l0 k x0 x1 (wrap64 (x7 + 1)) x8 x9 (wrap64 ((wrap64 (x10 * 10)) - (((bt x0 x7) - 48) % 256))))) else (none)) else (none)) else (if x7 < (x0.size : Int) then (if 0 ≤ x7 then (if (bt x0 x7) = 46 then (jsonlex_number.j5 k x1 x7 x8 x10 true) else (if (bt x0 x7) = 101 then (jsonlex_number.j5 k x1 x7 x8 x10 true) else (if (bt x0 x7) = 69 then (jsonlex_number.j5 k x1 x7 x8 x10 true) else (if x9 = true then (if x8 = true then (jsonlex_number.j5 k x1 x7 x8 x10 false) else (jsonlex_number.j5 k x1 x7 x8 x10 (x10 == (-9223372036854775808)))) else (jsonlex_number.j5 k x1 x7 x8 x10 true))))) else (none)) else (if x9 = true then (if x8 = true then (jsonlex_number.j5 k x1 x7 x8 x10 false) else (jsonlex_number.j5 k x1 x7 x8 x10 (x10 == (-9223372036854775808)))) else (jsonlex_number.j5 k x1 x7 x8 x10 true)))
def jsonlex_number.j5 : Nat → Int → Int → Bool → Int → Bool → Option (Int × Int × Int)
 | 0, _, _, _, _, _ => none
 | k + 1, x1, x7, x8, x10, x111 => if x111 = true then (some (0, x1, 7)) else (if x8 = true then (some (x10, x7, 0)) else (some (wrap64 (-x10), x7, 0)))
end
def jsonlex_number.f (k : Nat) (a0 : ByteArray) (a1 : Int) : Option (Int × Int × Int) := if 0 ≤ a1 then (if a1 < (a0.size : Int) then (if (bt a0 a1) = 45 then (jsonlex_number.j0 k a0 a1 (wrap64 (a1 + 1)) ((bt a0 a1) == 45)) else (jsonlex_number.j0 k a0 a1 a1 ((bt a0 a1) == 45))) else (none)) else (none)
theorem jsonlex_number.mono_l : ∀ k, (∀ y0 y1 y2 y3, LeO (jsonlex_number.j0 k y0 y1 y2 y3) (jsonlex_number.j0 (k + 1) y0 y1 y2 y3)) ∧ (∀ y0 y1 y2 y3 y4, LeO (jsonlex_number.j1 k y0 y1 y2 y3 y4) (jsonlex_number.j1 (k + 1) y0 y1 y2 y3 y4)) ∧ (∀ y0 y1 y2 y3 y4, LeO (jsonlex_number.j2 k y0 y1 y2 y3 y4) (jsonlex_number.j2 (k + 1) y0 y1 y2 y3 y4)) ∧ (∀ y0 y1 y2 y3 y4 y5, LeO (jsonlex_number.l0 k y0 y1 y2 y3 y4 y5) (jsonlex_number.l0 (k + 1) y0 y1 y2 y3 y4 y5)) ∧ (∀ y0 y1 y2 y3 y4 y5 y6, LeO (jsonlex_number.j4 k y0 y1 y2 y3 y4 y5 y6) (jsonlex_number.j4 (k + 1) y0 y1 y2 y3 y4 y5 y6)) ∧ (∀ y0 y1 y2 y3 y4, LeO (jsonlex_number.j5 k y0 y1 y2 y3 y4) (jsonlex_number.j5 (k + 1) y0 y1 y2 y3 y4))
 | 0 => ⟨fun _ _ _ _ r h => by simp [jsonlex_number.j0] at h, fun _ _ _ _ _ r h => by simp [jsonlex_number.j1] at h, fun _ _ _ _ _ r h => by simp [jsonlex_number.j2] at h, fun _ _ _ _ _ _ r h => by simp [jsonlex_number.l0] at h, fun _ _ _ _ _ _ _ r h => by simp [jsonlex_number.j4] at h, fun _ _ _ _ _ r h => by simp [jsonlex_number.j5] at h⟩
 | k + 1 => by
  obtain ⟨ih0, ih1, ih2, ih3, ih4, ih5⟩ := jsonlex_number.mono_l k
  refine ⟨?_, ?_, ?_, ?_, ?_, ?_⟩
  ·intro y0 y1 y2 y3
   unfold jsonlex_number.j0
   repeat' first
   | (with_reducible exact ih0 _ _ _ _)
   | (with_reducible exact ih1 _ _ _ _ _)
   | (with_reducible exact ih2 _ _ _ _ _)
   | (with_reducible exact ih3 _ _ _ _ _ _)
   | (with_reducible exact ih4 _ _ _ _ _ _ _)
   | (with_reducible exact ih5 _ _ _ _ _)
   | (with_reducible exact LeO.refl _)
   | (with_reducible exact LeO.none _)
   | (with_reducible refine LeO.ite ?_ ?_)
   | (with_reducible refine LeO.bind ?_ (fun _ => ?_))
   | exact ih0 _ _ _ _
   | exact ih1 _ _ _ _ _
   | exact ih2 _ _ _ _ _
   | exact ih3 _ _ _ _ _ _
   | exact ih4 _ _ _ _ _ _ _
   | exact ih5 _ _ _ _ _
   | exact LeO.none _
   | refine LeO.ite ?_ ?_
   | refine LeO.bind ?_ (fun _ => ?_)
  ·intro y0 y1 y2 y3 y4
   unfold jsonlex_number.j1
   repeat' first
   | (with_reducible exact ih0 _ _ _ _)
   | (with_reducible exact ih1 _ _ _ _ _)
   | (with_reducible exact ih2 _ _ _ _ _)
   | (with_reducible exact ih3 _ _ _ _ _ _)
   | (with_reducible exact ih4 _ _ _ _ _ _ _)
   | (with_reducible exact ih5 _ _ _ _ _)
   | (with_reducible exact LeO.refl _)
   | (with_reducible exact LeO.none _)
   | (with_reducible refine LeO.ite ?_ ?_)
   | (with_reducible refine LeO.bind ?_ (fun _ => ?_))
   | exact ih0 _ _ _ _
   | exact ih1 _ _ _ _ _
   | exact ih2 _ _ _ _ _
   | exact ih3 _ _ _ _ _ _
   | exact ih4 _ _ _ _ _ _ _
   | exact ih5 _ _ _ _ _
   | exact LeO.none _
   | refine LeO.ite ?_ ?_
   | refine LeO.bind ?_ (fun _ => ?_)
  ·intro y0 y1 y2 y3 y4
   unfold jsonlex_number.j2
   repeat' first
   | (with_reducible exact ih0 _ _ _ _)
   | (with_reducible exact ih1 _ _ _ _ _)
   | (with_reducible exact ih2 _ _ _ _ _)
   | (with_reducible exact ih3 _ _ _ _ _ _)
   | (with_reducible exact ih4 _ _ _ _ _ _ _)
   | (with_reducible exact ih5 _ _ _ _ _)
   | (with_reducible exact LeO.refl _)
   | (with_reducible exact LeO.none _)
   | (with_reducible refine LeO.ite ?_ ?_)
   | (with_reducible refine LeO.bind ?_ (fun _ => ?_))
   | exact ih0 _ _ _ _
   | exact ih1 _ _ _ _ _
   | exact ih2 _ _ _ _ _
   | exact ih3 _ _ _ _ _ _
   | exact ih4 _ _ _ _ _ _ _
   | exact ih5 _ _ _ _ _
   | exact LeO.none _
   | refine LeO.ite ?_ ?_
   | refine LeO.bind ?_ (fun _ => ?_)
  ·intro y0 y1 y2 y3 y4 y5
   unfold jsonlex_number.l0
   repeat' first
   | (with_reducible exact ih0 _ _ _ _)
   | (with_reducible exact ih1 _ _ _ _ _)
   | (with_reducible exact ih2 _ _ _ _ _)
   | (with_reducible exact ih3 _ _ _ _ _ _)
   | (with_reducible exact ih4 _ _ _ _ _ _ _)
   | (with_reducible exact ih5 _ _ _ _ _)
   | (with_reducible exact LeO.refl _)
   | (with_reducible exact LeO.none _)
   | (with_reducible refine LeO.ite ?_ ?_)
   | (with_reducible refine LeO.bind ?_ (fun _ => ?_))
   | exact ih0 _ _ _ _
   | exact ih1 _ _ _ _ _
   | exact ih2 _ _ _ _ _
   | exact ih3 _ _ _ _ _ _
   | exact ih4 _ _ _ _ _ _ _
   | exact ih5 _ _ _ _ _
   | exact LeO.none _
   | refine LeO.ite ?_ ?_
   | refine LeO.bind ?_ (fun _ => ?_)
  ·intro y0 y1 y2 y3 y4 y5 y6
   unfold jsonlex_number.j4
   repeat' first
   | (with_reducible exact ih0 _ _ _ _)
   | (with_reducible exact ih1 _ _ _ _ _)
   | (with_reducible exact ih2 _ _ _ _ _)
   | (with_reducible exact ih3 _ _ _ _ _ _)
   | (with_reducible exact ih4 _ _ _ _ _ _ _)
   | (with_reducible exact ih5 _ _ _ _ _)
   | (with_reducible exact LeO.refl _)
   | (with_reducible exact LeO.none _)
   | (with_reducible refine LeO.ite ?_ ?_)
   | (with_reducible refine LeO.bind ?_ (fun _ => ?_))
   | exact ih0 _ _ _ _
   | exact ih1 _ _ _ _ _
   | exact ih2 _ _ _ _ _
   | exact ih3 _ _ _ _ _ _
   | exact ih4 _ _ _ _ _ _ _
   | exact ih5 _ _ _ _ _
   | exact LeO.none _
   | refine LeO.ite ?_ ?_
   | refine LeO.bind ?_ (fun _ => ?_)
  ·intro y0 y1 y2 y3 y4
   unfold jsonlex_number.j5
   repeat' first
   | (with_reducible exact ih0 _ _ _ _)
   | (with_reducible exact ih1 _ _ _ _ _)
   | (with_reducible exact ih2 _ _ _ _ _)
   | (with_reducible exact ih3 _ _ _ _ _ _)
   | (with_reducible exact ih4 _ _ _ _ _ _ _)
   | (with_reducible exact ih5 _ _ _ _ _)
   | (with_reducible exact LeO.refl _)
   | (with_reducible exact LeO.none _)
   | (with_reducible refine LeO.ite ?_ ?_)
   | (with_reducible refine LeO.bind ?_ (fun _ => ?_))
   | exact ih0 _ _ _ _
   | exact ih1 _ _ _ _ _
   | exact ih2 _ _ _ _ _
   | exact ih3 _ _ _ _ _ _
   | exact ih4 _ _ _ _ _ _ _
   | exact ih5 _ _ _ _ _
   | exact LeO.none _
   | refine LeO.ite ?_ ?_
   | refine LeO.bind ?_ (fun _ => ?_)
theorem jsonlex_number.mono : ∀ a0 a1 k, LeO (jsonlex_number.f k a0 a1) (jsonlex_number.f (k + 1) a0 a1) := by
 intro a0 a1 k
 obtain ⟨ih0, ih1, ih2, ih3, ih4, ih5⟩ := jsonlex_number.mono_l k
 unfold jsonlex_number.f
 repeat' first
   | (with_reducible exact ih0 _ _ _ _)
   | (with_reducible exact ih1 _ _ _ _ _)
   | (with_reducible exact ih2 _ _ _ _ _)
   | (with_reducible exact ih3 _ _ _ _ _ _)
   | (with_reducible exact ih4 _ _ _ _ _ _ _)
   | (with_reducible exact ih5 _ _ _ _ _)
   | (with_reducible exact LeO.refl _)
   | (with_reducible exact LeO.none _)
   | (with_reducible refine LeO.ite ?_ ?_)
   | (with_reducible refine LeO.bind ?_ (fun _ => ?_))
   | exact ih0 _ _ _ _
   | exact ih1 _ _ _ _ _
   | exact ih2 _ _ _ _ _
   | exact ih3 _ _ _ _ _ _
   | exact ih4 _ _ _ _ _ _ _
   | exact ih5 _ _ _ _ _
   | exact LeO.none _
   | refine LeO.ite ?_ ?_
   | refine LeO.bind ?_ (fun _ => ?_)
set_option maxHeartbeats 8000000 in
set_option maxRecDepth 100000 in
theorem jsonlex_number.calls (k : Nat) (a0 : ByteArray) (a1 : Int) (r1 : Int) (r2 : Int) (r3 : Int) (w : World) (h : jsonlex_number.f k a0 a1 = some (r1, r2, r3)) :
  Calls Try.prog 20 #[.string a0, .int .i64 a1] w fun e w' => e = .returned (.tuple #[.int .i64 r1, .int .i64 r2, .int .i64 r3]) ∧ Drawn0 w w' := by
 have H : (if 0 ≤ a1 then (if a1 < (a0.size : Int) then (if (bt a0 a1) = 45 then (jsonlex_number.j0 k a0 a1 (wrap64 (a1 + 1)) ((bt a0 a1) == 45)) else (jsonlex_number.j0 k a0 a1 a1 ((bt a0 a1) == 45))) else (none)) else (none)) = some (r1, r2, r3) := h
 clear h
 by_cases c3 : 0 ≤ a1
 ·rw [if_pos c3] at H
  have c3b0 : decide (0 ≤ a1) = true := decide_eq_true c3
  clear c3
  by_cases c4 : a1 < (a0.size : Int)
  ·rw [if_pos c4] at H
   have c4b0 : decide (a1 < (a0.size : Int)) = true := decide_eq_true c4
   clear c4
   have HC6 := Aside0.mk H
   clear H
   have p5 : 0 ≤ (a1 : Int) := of_decide_eq_true (by first | (with_reducible assumption) | assumption)
   have q5 : a1 < (a0.size : Int) := of_decide_eq_true (by first | (with_reducible assumption) | assumption)
   have hx5 := bt_at a0 a1
   replace p5 := eq_true p5; replace q5 := eq_true q5
   go_enter Try.func20, Try.ntmps20
   go_upto_if 17 with (fail)
   go_cut [7] (fun v7 wc => ∃ (kq : Nat) (x7_5 : Int), v7 = .int .i64 x7_5 ∧ Aside0 (jsonlex_number.j0 kq a0 a1 x7_5 ((bt a0 a1) == 45) = some (r1, r2, r3)) ∧ Aside0 (kq ≤ k) ∧ Drawn0 w wc)
   case first =>
    have H := HC6.out
    clear HC6
    by_cases c7 : (bt a0 a1) = 45
    ·rw [if_pos c7] at H
     have c7b0 : ((bt a0 a1) == 45) = true := beq_iff_eq.mpr c7
     have c7b1 : ((bt a0 a1) != 45) = false := bne_eq_false_iff_eq.mpr c7
     clear c7
     have H' := Aside0.mk H
     clear H
     go_wp2
     go_meet
     case rel => exact ⟨_, (wrap64 (a1 + 1)), (by first | rfl | (simp; done) | (simp [*]; done)), H', ⟨by first | omega | exact Nat.le_refl _⟩, by repeat (first | exact Drawn0.refl _ | apply Drawn0.step)⟩
    ·rw [if_neg c7] at H
     have c7b0 : ((bt a0 a1) == 45) = false := beq_eq_false_iff_ne.mpr c7
     have c7b1 : ((bt a0 a1) != 45) = true := bne_iff_ne.mpr c7
     have H' := Aside0.mk H
     clear H
     go_wp2
     go_meet
     case rel => exact ⟨_, (a1), (by first | rfl | (simp; done) | (simp [*]; done)), H', ⟨by first | omega | exact Nat.le_refl _⟩, by repeat (first | exact Drawn0.refl _ | apply Drawn0.step)⟩
   case rest =>
    clear HC6
    (try clear c2); (try clear p2); (try clear c3); (try clear c3b0); (try clear c4); (try clear c4b0); (try clear p5); (try clear q5); (try clear hx5); (try clear p6); (try clear c7); (try clear c7b0); (try clear c7b1)
    obtain ⟨kq, x7_5, rfl, HA, HJ5, ⟨mc5, rfl⟩⟩ := hcut
    cases kq with
    | zero => exact absurd HA.out (by simp [jsonlex_number.j0])
    | succ kj5 =>
     have H := HA.out
     clear HA
     simp only [jsonlex_number.j0] at H
     have HC8 := Aside0.mk H
     clear H
     go_upto_region 5 with (fail)
     go_cut [30] (fun v30 wc => ∃ (kq : Nat) (x30_7 : Bool), v30 = .bool x30_7 ∧ Aside0 (jsonlex_number.j1 kq a0 a1 x7_5 ((bt a0 a1) == 45) x30_7 = some (r1, r2, r3)) ∧ Aside0 (kq ≤ kj5) ∧ Drawn0 w wc)
     case first =>
      have H := HC8.out
      clear HC8
      by_cases c9 : x7_5 = (a0.size : Int)
      ·rw [if_pos c9] at H
       have c9b0 : (x7_5 == (a0.size : Int)) = true := beq_iff_eq.mpr c9
       have c9b1 : (x7_5 != (a0.size : Int)) = false := bne_eq_false_iff_eq.mpr c9
       clear c9
       (first | rw [c9b0] | (simp only [i64_w, i32_w]; rw [c9b0]) | skip)
       have H' := Aside0.mk H
       clear H
       go_wp2
       go_meet
       case rel => exact ⟨_, (true), (by first | rfl | (simp; done) | (simp [*]; done)), H', ⟨by have := HJ5.out; first | omega | exact Nat.le_refl _⟩, by repeat (first | exact Drawn0.refl _ | apply Drawn0.step)⟩
      ·rw [if_neg c9] at H
       have c9b0 : (x7_5 == (a0.size : Int)) = false := beq_eq_false_iff_ne.mpr c9
       have c9b1 : (x7_5 != (a0.size : Int)) = true := bne_iff_ne.mpr c9
       (first | rw [c9b0] | (simp only [i64_w, i32_w]; rw [c9b0]) | skip)
       by_cases c10 : 0 ≤ x7_5
       ·rw [if_pos c10] at H
        have c10b0 : decide (0 ≤ x7_5) = true := decide_eq_true c10
        clear c10
        by_cases c11 : x7_5 < (a0.size : Int)
        ·rw [if_pos c11] at H
         have c11b0 : decide (x7_5 < (a0.size : Int)) = true := decide_eq_true c11
         clear c11
         replace H := Option.bind_eq_some_iff.mp H
         obtain ⟨t102, A130, H⟩ := H
         replace H : (jsonlex_number.j1 kj5 a0 a1 x7_5 ((bt a0 a1) == 45) (!t102)) = some (r1, r2, r3) := H
         have A13 := Aside0.mk A130
         clear A130
         have H' := Aside0.mk H
         clear H
         have p12 : 0 ≤ (x7_5 : Int) := of_decide_eq_true (by first | (with_reducible assumption) | assumption)
         have q12 : x7_5 < (a0.size : Int) := of_decide_eq_true (by first | (with_reducible assumption) | assumption)
         have hx12 := bt_at a0 x7_5
         replace p12 := eq_true p12; replace q12 := eq_true q12
         go_wp2_with (first | (go_at_call 19; (with_reducible refine (jsonlex_digit.calls (bt a0 x7_5) t102 _ A13.out).mono ?_); rintro e w' ⟨rfl, ⟨nd, rfl⟩⟩))
         go_meet
         case rel => exact ⟨_, (!t102), (by first | rfl | (simp; done) | (simp [*]; done)), H', ⟨by have := HJ5.out; first | omega | exact Nat.le_refl _⟩, by repeat (first | exact Drawn0.refl _ | apply Drawn0.step)⟩
        ·rw [if_neg c11] at H
         exact absurd H (by simp)
       ·rw [if_neg c10] at H
        exact absurd H (by simp)
     case rest =>
      clear HC8
      (try clear c1); (try clear p1); (try clear q1); (try clear hx1); (try clear c5); (try clear c9); (try clear c9b0); (try clear c9b1); (try clear c10); (try clear c10b0); (try clear c11); (try clear c11b0); (try clear p12); (try clear q12); (try clear hx12)
      obtain ⟨kq, x30_7, rfl, HA, HJ7, ⟨mc7, rfl⟩⟩ := hcut
      cases kq with
      | zero => exact absurd HA.out (by simp [jsonlex_number.j1])
      | succ kj7 =>
       have H := HA.out
       clear HA
       simp only [jsonlex_number.j1] at H
       by_cases c14 : x30_7 = true
       ·subst c14
        have H1 : (some (0, x7_5, 4)) = some (r1, r2, r3) := by rw [if_pos rfl] at H; exact H
        clear H; have H := H1; clear H1
        simp only [Option.some.injEq, Prod.mk.injEq] at H
        obtain ⟨rfl, rfl, rfl⟩ := H
        go_wp2
        go_ret3
        exact ⟨by first | rfl | (simp; done) | (simp [*]; done), by repeat (first | exact Drawn0.refl _ | apply Drawn0.step)⟩
       ·replace c14 := Bool.eq_false_iff.mpr c14
        subst c14
        have H1 : (if 0 ≤ x7_5 then (if x7_5 < (a0.size : Int) then (if (bt a0 x7_5) = 48 then (if (wrap64 (x7_5 + 1)) < (a0.size : Int) then (if 0 ≤ (wrap64 (x7_5 + 1)) then ((jsonlex_digit.f (bt a0 (wrap64 (x7_5 + 1)))).bind fun t103 => (jsonlex_number.j2 kj7 a0 a1 x7_5 ((bt a0 a1) == 45) t103)) else (none)) else (jsonlex_number.j2 kj7 a0 a1 x7_5 ((bt a0 a1) == 45) false)) else (jsonlex_number.j2 kj7 a0 a1 x7_5 ((bt a0 a1) == 45) false)) else (none)) else (none)) = some (r1, r2, r3) := by rw [if_neg (show ¬ (false = true) by decide)] at H; exact H
        clear H; have H := H1; clear H1
        have HC15 := Aside0.mk H
        clear H
        go_upto_region 7 with (fail)
        go_cut [49] (fun v49 wc => ∃ (kq : Nat) (x49_14 : Bool), v49 = .bool x49_14 ∧ Aside0 (jsonlex_number.j2 kq a0 a1 x7_5 ((bt a0 a1) == 45) x49_14 = some (r1, r2, r3)) ∧ Aside0 (kq ≤ kj7) ∧ Drawn0 w wc)
        case first =>
         have H := HC15.out
         clear HC15
         by_cases c16 : 0 ≤ x7_5
         ·rw [if_pos c16] at H
          have c16b0 : decide (0 ≤ x7_5) = true := decide_eq_true c16
          clear c16
          (first | rw [c16b0] | (simp only [i64_w, i32_w]; rw [c16b0]) | skip)
          by_cases c17 : x7_5 < (a0.size : Int)
          ·rw [if_pos c17] at H
           have c17b0 : decide (x7_5 < (a0.size : Int)) = true := decide_eq_true c17
           clear c17
           by_cases c19 : (bt a0 x7_5) = 48
           ·rw [if_pos c19] at H
            have c19b0 : ((bt a0 x7_5) == 48) = true := beq_iff_eq.mpr c19
            have c19b1 : ((bt a0 x7_5) != 48) = false := bne_eq_false_iff_eq.mpr c19
            clear c19
            by_cases c20 : (wrap64 (x7_5 + 1)) < (a0.size : Int)
            ·rw [if_pos c20] at H
             have c20b0 : decide ((wrap64 (x7_5 + 1)) < (a0.size : Int)) = true := decide_eq_true c20
             clear c20
             obtain ⟨ji21, hji21⟩ : ∃ j_ : Int, (wrap64 (x7_5 + 1)) = j_ := ⟨_, rfl⟩
             replace H : (if 0 ≤ (ji21) then ((jsonlex_digit.f (bt a0 (ji21))).bind fun t103 => (jsonlex_number.j2 kj7 a0 a1 x7_5 ((bt a0 a1) == 45) t103)) else (none)) = some (r1, r2, r3) := by first | (rw [hji21] at H; exact H) | (simp only [hji21] at H ⊢; exact H)
             (try rw [hji21] at c20b0)
             have hji21w : (IntKind.i64.wrap (x7_5 + 1)) = ji21 := (i64_w _).trans hji21
             by_cases c22 : 0 ≤ (ji21)
             ·rw [if_pos c22] at H
              have c22b0 : decide (0 ≤ (ji21)) = true := decide_eq_true c22
              clear c22
              replace H := Option.bind_eq_some_iff.mp H
              obtain ⟨t103, A240, H⟩ := H
              replace H : (jsonlex_number.j2 kj7 a0 a1 x7_5 ((bt a0 a1) == 45) t103) = some (r1, r2, r3) := H
              have A24 := Aside0.mk A240
              clear A240
              have H' := Aside0.mk H
              clear H
              have p18 : 0 ≤ (x7_5 : Int) := of_decide_eq_true (by first | (with_reducible assumption) | assumption)
              have q18 : x7_5 < (a0.size : Int) := of_decide_eq_true (by first | (with_reducible assumption) | assumption)
              have hx18 := bt_at a0 x7_5
              replace p18 := eq_true p18; replace q18 := eq_true q18
              have p23 : 0 ≤ ((ji21) : Int) := of_decide_eq_true (by first | (with_reducible assumption) | assumption)
              have q23 : (ji21) < (a0.size : Int) := of_decide_eq_true (by first | (with_reducible assumption) | assumption)
              have hx23 := bt_at a0 (ji21)
              replace p23 := eq_true p23; replace q23 := eq_true q23
              go_wp2_with (first | (go_at_call 19; (with_reducible refine (jsonlex_digit.calls (bt a0 (ji21)) t103 _ A24.out).mono ?_); rintro e w' ⟨rfl, ⟨nd, rfl⟩⟩))
              go_meet
              case rel => exact ⟨_, (t103), (by first | rfl | (simp; done) | (simp [*]; done)), H', ⟨by have := HJ5.out; have := HJ7.out; first | omega | exact Nat.le_refl _⟩, by repeat (first | exact Drawn0.refl _ | apply Drawn0.step)⟩
             ·rw [if_neg c22] at H
              exact absurd H (by simp)
            ·rw [if_neg c20] at H
             have c20b0 : decide ((wrap64 (x7_5 + 1)) < (a0.size : Int)) = false := decide_eq_false c20
             clear c20
             have H' := Aside0.mk H
             clear H
             have p18 : 0 ≤ (x7_5 : Int) := of_decide_eq_true (by first | (with_reducible assumption) | assumption)
             have q18 : x7_5 < (a0.size : Int) := of_decide_eq_true (by first | (with_reducible assumption) | assumption)
             have hx18 := bt_at a0 x7_5
             replace p18 := eq_true p18; replace q18 := eq_true q18
             go_wp2
             go_meet
             case rel => exact ⟨_, (false), (by first | rfl | (simp; done) | (simp [*]; done)), H', ⟨by have := HJ5.out; have := HJ7.out; first | omega | exact Nat.le_refl _⟩, by repeat (first | exact Drawn0.refl _ | apply Drawn0.step)⟩
           ·rw [if_neg c19] at H
            have c19b0 : ((bt a0 x7_5) == 48) = false := beq_eq_false_iff_ne.mpr c19
            have c19b1 : ((bt a0 x7_5) != 48) = true := bne_iff_ne.mpr c19
            have H' := Aside0.mk H
            clear H
            have p18 : 0 ≤ (x7_5 : Int) := of_decide_eq_true (by first | (with_reducible assumption) | assumption)
            have q18 : x7_5 < (a0.size : Int) := of_decide_eq_true (by first | (with_reducible assumption) | assumption)
            have hx18 := bt_at a0 x7_5
            replace p18 := eq_true p18; replace q18 := eq_true q18
            go_wp2
            go_meet
            case rel => exact ⟨_, (false), (by first | rfl | (simp; done) | (simp [*]; done)), H', ⟨by have := HJ5.out; have := HJ7.out; first | omega | exact Nat.le_refl _⟩, by repeat (first | exact Drawn0.refl _ | apply Drawn0.step)⟩
          ·rw [if_neg c17] at H
           exact absurd H (by simp)
         ·rw [if_neg c16] at H
          exact absurd H (by simp)
        case rest =>
         clear HC15
         (try clear q2); (try clear hx2); (try clear c14); (try clear c16); (try clear c16b0); (try clear c17); (try clear c17b0); (try clear p18); (try clear q18); (try clear hx18); (try clear c19); (try clear c19b0); (try clear c19b1); (try clear c20); (try clear c20b0); (try clear c22); (try clear c22b0); (try clear p23); (try clear q23); (try clear hx23)
         obtain ⟨kq, x49_14, rfl, HA, HJ14, ⟨mc14, rfl⟩⟩ := hcut
         cases kq with
         | zero => exact absurd HA.out (by simp [jsonlex_number.j2])
         | succ kj14 =>
          have H := HA.out
          clear HA
          simp only [jsonlex_number.j2] at H
          by_cases c25 : x49_14 = true
          ·subst c25
           have H1 : (some (0, wrap64 (x7_5 + 1), 4)) = some (r1, r2, r3) := by rw [if_pos rfl] at H; exact H
           clear H; have H := H1; clear H1
           simp only [Option.some.injEq, Prod.mk.injEq] at H
           obtain ⟨rfl, rfl, rfl⟩ := H
           go_wp2
           go_ret3
           exact ⟨by first | rfl | (simp; done) | (simp [*]; done), by repeat (first | exact Drawn0.refl _ | apply Drawn0.step)⟩
          ·replace c25 := Bool.eq_false_iff.mpr c25
           subst c25
           have H1 : (jsonlex_number.l0 kj14 a0 a1 x7_5 ((bt a0 a1) == 45) true 0) = some (r1, r2, r3) := by rw [if_neg (show ¬ (false = true) by decide)] at H; exact H
           clear H; have H := H1; clear H1
           have H' := Aside0.mk H
           clear H
           go_wp2
           go_loopg [7, 9, 10] kj14 (fun kq v7 v9 v10 w' => ∃ (x7_4 : Int) (x9_4 : Bool) (x10_4 : Int), v7 = .int .i64 x7_4 ∧ v9 = .bool x9_4 ∧ v10 = .int .i64 x10_4 ∧ Aside0 (jsonlex_number.l0 kq a0 a1 x7_4 ((bt a0 a1) == 45) x9_4 x10_4 = some (r1, r2, r3)) ∧ Aside0 (kq ≤ kj14) ∧ Drawn0 w w')
           case atStart => exact ⟨(x7_5), (true), (0), (by first | rfl | (simp; done) | (simp [*]; done)), (by first | rfl | (simp; done) | (simp [*]; done)), (by first | rfl | (simp; done) | (simp [*]; done)), H', ⟨Nat.le_refl _⟩, by repeat (first | exact Drawn0.refl _ | apply Drawn0.step)⟩
           case round =>
            clear H'
            (try clear c25)
            obtain ⟨x7_4, x9_4, x10_4, rfl, rfl, rfl, HA, HK4, ⟨m4, rfl⟩⟩ := hrel
            cases gk with
            | zero => exact absurd HA.out (by simp [jsonlex_number.l0])
            | succ k4 =>
             have H := HA.out
             clear HA
             simp only [jsonlex_number.l0] at H
             have HC26 := Aside0.mk H
             clear H
             go_upto_region 11 with (fail)
             go_cut [61] (fun v61 wc => ∃ (kq : Nat) (x61_25 : Bool), v61 = .bool x61_25 ∧ Aside0 (jsonlex_number.j4 kq a0 a1 x7_4 ((bt a0 a1) == 45) x9_4 x10_4 x61_25 = some (r1, r2, r3)) ∧ Aside0 (kq ≤ k4) ∧ Drawn0 w wc)
             case first =>
              have H := HC26.out
              clear HC26
              by_cases c27 : x7_4 < (a0.size : Int)
              ·rw [if_pos c27] at H
               have c27b0 : decide (x7_4 < (a0.size : Int)) = true := decide_eq_true c27
               clear c27
               (first | rw [c27b0] | (simp only [i64_w, i32_w]; rw [c27b0]) | skip)
               by_cases c28 : 0 ≤ x7_4
               ·rw [if_pos c28] at H
                have c28b0 : decide (0 ≤ x7_4) = true := decide_eq_true c28
                clear c28
                replace H := Option.bind_eq_some_iff.mp H
                obtain ⟨t104, A300, H⟩ := H
                replace H : (jsonlex_number.j4 k4 a0 a1 x7_4 ((bt a0 a1) == 45) x9_4 x10_4 t104) = some (r1, r2, r3) := H
                have A30 := Aside0.mk A300
                clear A300
                have H' := Aside0.mk H
                clear H
                have p29 : 0 ≤ (x7_4 : Int) := of_decide_eq_true (by first | (with_reducible assumption) | assumption)
                have q29 : x7_4 < (a0.size : Int) := of_decide_eq_true (by first | (with_reducible assumption) | assumption)
                have hx29 := bt_at a0 x7_4
                replace p29 := eq_true p29; replace q29 := eq_true q29
                go_wp2_with (first | (go_at_call 19; (with_reducible refine (jsonlex_digit.calls (bt a0 x7_4) t104 _ A30.out).mono ?_); rintro e w' ⟨rfl, ⟨nd, rfl⟩⟩))
                go_meet
                case rel => exact ⟨_, (t104), (by first | rfl | (simp; done) | (simp [*]; done)), H', ⟨by have := HJ5.out; have := HJ7.out; have := HJ14.out; have := HK4.out; first | omega | exact Nat.le_refl _⟩, by repeat (first | exact Drawn0.refl _ | apply Drawn0.step)⟩
               ·rw [if_neg c28] at H
                exact absurd H (by simp)
              ·rw [if_neg c27] at H
               have c27b0 : decide (x7_4 < (a0.size : Int)) = false := decide_eq_false c27
               clear c27
               (first | rw [c27b0] | (simp only [i64_w, i32_w]; rw [c27b0]) | skip)
               have H' := Aside0.mk H
               clear H
               go_wp2
               go_meet
               case rel => exact ⟨_, (false), (by first | rfl | (simp; done) | (simp [*]; done)), H', ⟨by have := HJ5.out; have := HJ7.out; have := HJ14.out; have := HK4.out; first | omega | exact Nat.le_refl _⟩, by repeat (first | exact Drawn0.refl _ | apply Drawn0.step)⟩
             case rest =>
              clear HC26
              (try clear c27); (try clear c27b0); (try clear c28); (try clear c28b0); (try clear p29); (try clear q29); (try clear hx29)
              obtain ⟨kq, x61_25, rfl, HA, HJ25, ⟨mc25, rfl⟩⟩ := hcut
              cases kq with
              | zero => exact absurd HA.out (by simp [jsonlex_number.j4])
              | succ kj25 =>
               have H := HA.out
               clear HA
               simp only [jsonlex_number.j4] at H
               by_cases c31 : x61_25 = true
               ·subst c31
                have H1 : (if 0 ≤ x7_4 then (if x7_4 < (a0.size : Int) then (if x10_4 < (Int.tdiv ((-9223372036854775808) + (((bt a0 x7_4) - 48) % 256)) 10) then (jsonlex_number.l0 kj25 a0 a1 (wrap64 (x7_4 + 1)) ((bt a0 a1) == 45) false x10_4) else (jsonlex_number.l0 kj25 a0 a1 (wrap64 (x7_4 + 1)) ((bt a0 a1) == 45) x9_4 (wrap64 ((wrap64 (x10_4 * 10)) - (((bt a0 x7_4) - 48) % 256))))) else (none)) else (none)) = some (r1, r2, r3) := by rw [if_pos rfl] at H; exact H
                clear H; have H := H1; clear H1
                by_cases c32 : 0 ≤ x7_4
                ·rw [if_pos c32] at H
                 have c32b0 : decide (0 ≤ x7_4) = true := decide_eq_true c32
                 clear c32
                 by_cases c33 : x7_4 < (a0.size : Int)
                 ·rw [if_pos c33] at H
                  have c33b0 : decide (x7_4 < (a0.size : Int)) = true := decide_eq_true c33
                  clear c33
                  by_cases c35 : x10_4 < (Int.tdiv ((-9223372036854775808) + (((bt a0 x7_4) - 48) % 256)) 10)
                  ·rw [if_pos c35] at H
                   have c35b0 : decide (x10_4 < (Int.tdiv ((-9223372036854775808) + (((bt a0 x7_4) - 48) % 256)) 10)) = true := decide_eq_true c35
                   clear c35
                   have H' := Aside0.mk H
                   clear H
                   have p34 : 0 ≤ (x7_4 : Int) := of_decide_eq_true (by first | (with_reducible assumption) | assumption)
                   have q34 : x7_4 < (a0.size : Int) := of_decide_eq_true (by first | (with_reducible assumption) | assumption)
                   have hx34 := bt_at a0 x7_4
                   replace p34 := eq_true p34; replace q34 := eq_true q34
                   go_wp2
                   go_roundg kj25
                   case measure => have := HJ5.out; have := HJ7.out; have := HJ14.out; have := HK4.out; have := HJ25.out; omega
                   case rel => exact ⟨(wrap64 (x7_4 + 1)), (false), (x10_4), (by first | rfl | (simp; done) | (simp [*]; done)), (by first | rfl | (simp; done) | (simp [*]; done)), (by first | rfl | (simp; done) | (simp [*]; done)), H', ⟨by have := HJ5.out; have := HJ7.out; have := HJ14.out; have := HK4.out; have := HJ25.out; omega⟩, by repeat (first | exact Drawn0.refl _ | apply Drawn0.step)⟩
                  ·rw [if_neg c35] at H
                   have c35b0 : decide (x10_4 < (Int.tdiv ((-9223372036854775808) + (((bt a0 x7_4) - 48) % 256)) 10)) = false := decide_eq_false c35
                   clear c35
                   have H' := Aside0.mk H
                   clear H
                   have p34 : 0 ≤ (x7_4 : Int) := of_decide_eq_true (by first | (with_reducible assumption) | assumption)
                   have q34 : x7_4 < (a0.size : Int) := of_decide_eq_true (by first | (with_reducible assumption) | assumption)
                   have hx34 := bt_at a0 x7_4
                   replace p34 := eq_true p34; replace q34 := eq_true q34
                   go_wp2
                   go_roundg kj25
                   case measure => have := HJ5.out; have := HJ7.out; have := HJ14.out; have := HK4.out; have := HJ25.out; omega
                   case rel => exact ⟨(wrap64 (x7_4 + 1)), (x9_4), (wrap64 ((wrap64 (x10_4 * 10)) - (((bt a0 x7_4) - 48) % 256))), (by first | rfl | (simp; done) | (simp [*]; done)), (by first | rfl | (simp; done) | (simp [*]; done)), (by first | rfl | (simp; done) | (simp [*]; done)), H', ⟨by have := HJ5.out; have := HJ7.out; have := HJ14.out; have := HK4.out; have := HJ25.out; omega⟩, by repeat (first | exact Drawn0.refl _ | apply Drawn0.step)⟩
                 ·rw [if_neg c33] at H
                  exact absurd H (by simp)
                ·rw [if_neg c32] at H
                 exact absurd H (by simp)
               ·replace c31 := Bool.eq_false_iff.mpr c31
                subst c31
                have H1 : (if x7_4 < (a0.size : Int) then (if 0 ≤ x7_4 then (if (bt a0 x7_4) = 46 then (jsonlex_number.j5 kj25 a1 x7_4 ((bt a0 a1) == 45) x10_4 true) else (if (bt a0 x7_4) = 101 then (jsonlex_number.j5 kj25 a1 x7_4 ((bt a0 a1) == 45) x10_4 true) else (if (bt a0 x7_4) = 69 then (jsonlex_number.j5 kj25 a1 x7_4 ((bt a0 a1) == 45) x10_4 true) else (if x9_4 = true then (if ((bt a0 a1) == 45) = true then (jsonlex_number.j5 kj25 a1 x7_4 ((bt a0 a1) == 45) x10_4 false) else (jsonlex_number.j5 kj25 a1 x7_4 ((bt a0 a1) == 45) x10_4 (x10_4 == (-9223372036854775808)))) else (jsonlex_number.j5 kj25 a1 x7_4 ((bt a0 a1) == 45) x10_4 true))))) else (none)) else (if x9_4 = true then (if ((bt a0 a1) == 45) = true then (jsonlex_number.j5 kj25 a1 x7_4 ((bt a0 a1) == 45) x10_4 false) else (jsonlex_number.j5 kj25 a1 x7_4 ((bt a0 a1) == 45) x10_4 (x10_4 == (-9223372036854775808)))) else (jsonlex_number.j5 kj25 a1 x7_4 ((bt a0 a1) == 45) x10_4 true))) = some (r1, r2, r3) := by rw [if_neg (show ¬ (false = true) by decide)] at H; exact H
                clear H; have H := H1; clear H1
                have HC36 := Aside0.mk H
                clear H
                go_upto_region 17 with (fail)
                go_cut [111] (fun v111 wc => ∃ (kq : Nat) (x111_35 : Bool), v111 = .bool x111_35 ∧ Aside0 (jsonlex_number.j5 kq a1 x7_4 ((bt a0 a1) == 45) x10_4 x111_35 = some (r1, r2, r3)) ∧ Aside0 (kq ≤ kj25) ∧ Drawn0 w wc)
                case first =>
                 have H := HC36.out
                 clear HC36
                 by_cases c37 : x7_4 < (a0.size : Int)
                 ·rw [if_pos c37] at H
                  have c37b0 : decide (x7_4 < (a0.size : Int)) = true := decide_eq_true c37
                  clear c37
                  (first | rw [c37b0] | (simp only [i64_w, i32_w]; rw [c37b0]) | skip)
                  by_cases c38 : 0 ≤ x7_4
                  ·rw [if_pos c38] at H
                   have c38b0 : decide (0 ≤ x7_4) = true := decide_eq_true c38
                   clear c38
                   by_cases c40 : (bt a0 x7_4) = 46
                   ·rw [if_pos c40] at H
                    have c40b0 : ((bt a0 x7_4) == 46) = true := beq_iff_eq.mpr c40
                    have c40b1 : ((bt a0 x7_4) != 46) = false := bne_eq_false_iff_eq.mpr c40
                    clear c40
                    have H' := Aside0.mk H
                    clear H
                    have p39 : 0 ≤ (x7_4 : Int) := of_decide_eq_true (by first | (with_reducible assumption) | assumption)
                    have q39 : x7_4 < (a0.size : Int) := of_decide_eq_true (by first | (with_reducible assumption) | assumption)
                    have hx39 := bt_at a0 x7_4
                    replace p39 := eq_true p39; replace q39 := eq_true q39
                    go_wp2
                    go_meet
                    case rel => exact ⟨_, (true), (by first | rfl | (simp; done) | (simp [*]; done)), H', ⟨by have := HJ5.out; have := HJ7.out; have := HJ14.out; have := HK4.out; have := HJ25.out; first | omega | exact Nat.le_refl _⟩, by repeat (first | exact Drawn0.refl _ | apply Drawn0.step)⟩
                   ·rw [if_neg c40] at H
                    have c40b0 : ((bt a0 x7_4) == 46) = false := beq_eq_false_iff_ne.mpr c40
                    have c40b1 : ((bt a0 x7_4) != 46) = true := bne_iff_ne.mpr c40
                    by_cases c42 : (bt a0 x7_4) = 101
                    ·rw [if_pos c42] at H
                     have c42b0 : ((bt a0 x7_4) == 101) = true := beq_iff_eq.mpr c42
                     have c42b1 : ((bt a0 x7_4) != 101) = false := bne_eq_false_iff_eq.mpr c42
                     clear c42
                     have H' := Aside0.mk H
                     clear H
                     have p39 : 0 ≤ (x7_4 : Int) := of_decide_eq_true (by first | (with_reducible assumption) | assumption)
                     have q39 : x7_4 < (a0.size : Int) := of_decide_eq_true (by first | (with_reducible assumption) | assumption)
                     have hx39 := bt_at a0 x7_4
                     replace p39 := eq_true p39; replace q39 := eq_true q39
                     have p41 : 0 ≤ (x7_4 : Int) := of_decide_eq_true (by first | (with_reducible assumption) | assumption)
                     have q41 : x7_4 < (a0.size : Int) := of_decide_eq_true (by first | (with_reducible assumption) | assumption)
                     have hx41 := bt_at a0 x7_4
                     replace p41 := eq_true p41; replace q41 := eq_true q41
                     go_wp2
                     go_meet
                     case rel => exact ⟨_, (true), (by first | rfl | (simp; done) | (simp [*]; done)), H', ⟨by have := HJ5.out; have := HJ7.out; have := HJ14.out; have := HK4.out; have := HJ25.out; first | omega | exact Nat.le_refl _⟩, by repeat (first | exact Drawn0.refl _ | apply Drawn0.step)⟩
                    ·rw [if_neg c42] at H
                     have c42b0 : ((bt a0 x7_4) == 101) = false := beq_eq_false_iff_ne.mpr c42
                     have c42b1 : ((bt a0 x7_4) != 101) = true := bne_iff_ne.mpr c42
                     by_cases c44 : (bt a0 x7_4) = 69
                     ·rw [if_pos c44] at H
                      have c44b0 : ((bt a0 x7_4) == 69) = true := beq_iff_eq.mpr c44
                      have c44b1 : ((bt a0 x7_4) != 69) = false := bne_eq_false_iff_eq.mpr c44
                      clear c44
                      have H' := Aside0.mk H
                      clear H
                      have p39 : 0 ≤ (x7_4 : Int) := of_decide_eq_true (by first | (with_reducible assumption) | assumption)
                      have q39 : x7_4 < (a0.size : Int) := of_decide_eq_true (by first | (with_reducible assumption) | assumption)
                      have hx39 := bt_at a0 x7_4
                      replace p39 := eq_true p39; replace q39 := eq_true q39
                      have p41 : 0 ≤ (x7_4 : Int) := of_decide_eq_true (by first | (with_reducible assumption) | assumption)
                      have q41 : x7_4 < (a0.size : Int) := of_decide_eq_true (by first | (with_reducible assumption) | assumption)
                      have hx41 := bt_at a0 x7_4
                      replace p41 := eq_true p41; replace q41 := eq_true q41
                      have p43 : 0 ≤ (x7_4 : Int) := of_decide_eq_true (by first | (with_reducible assumption) | assumption)
                      have q43 : x7_4 < (a0.size : Int) := of_decide_eq_true (by first | (with_reducible assumption) | assumption)
                      have hx43 := bt_at a0 x7_4
                      replace p43 := eq_true p43; replace q43 := eq_true q43
                      go_wp2
                      go_meet
                      case rel => exact ⟨_, (true), (by first | rfl | (simp; done) | (simp [*]; done)), H', ⟨by have := HJ5.out; have := HJ7.out; have := HJ14.out; have := HK4.out; have := HJ25.out; first | omega | exact Nat.le_refl _⟩, by repeat (first | exact Drawn0.refl _ | apply Drawn0.step)⟩
                     ·rw [if_neg c44] at H
                      have c44b0 : ((bt a0 x7_4) == 69) = false := beq_eq_false_iff_ne.mpr c44
                      have c44b1 : ((bt a0 x7_4) != 69) = true := bne_iff_ne.mpr c44
                      by_cases c45 : x9_4 = true
                      ·subst c45
                       have H1 : (if ((bt a0 a1) == 45) = true then (jsonlex_number.j5 kj25 a1 x7_4 ((bt a0 a1) == 45) x10_4 false) else (jsonlex_number.j5 kj25 a1 x7_4 ((bt a0 a1) == 45) x10_4 (x10_4 == (-9223372036854775808)))) = some (r1, r2, r3) := by rw [if_pos rfl] at H; exact H
                       clear H; have H := H1; clear H1
                       by_cases c46 : ((bt a0 a1) == 45) = true
                       ·rw [if_pos c46] at H
                        have c46b0 : ((bt a0 a1) == 45) = true := c46
                        (try (have c46b1 : decide ((bt a0 a1) = 45) = true := by simpa using c46))
                        (try (have c46b2 : ((bt a0 a1) == 45) = true := by simpa using c46))
                        clear c46
                        have H' := Aside0.mk H
                        clear H
                        have p39 : 0 ≤ (x7_4 : Int) := of_decide_eq_true (by first | (with_reducible assumption) | assumption)
                        have q39 : x7_4 < (a0.size : Int) := of_decide_eq_true (by first | (with_reducible assumption) | assumption)
                        have hx39 := bt_at a0 x7_4
                        replace p39 := eq_true p39; replace q39 := eq_true q39
                        have p41 : 0 ≤ (x7_4 : Int) := of_decide_eq_true (by first | (with_reducible assumption) | assumption)
                        have q41 : x7_4 < (a0.size : Int) := of_decide_eq_true (by first | (with_reducible assumption) | assumption)
                        have hx41 := bt_at a0 x7_4
                        replace p41 := eq_true p41; replace q41 := eq_true q41
                        have p43 : 0 ≤ (x7_4 : Int) := of_decide_eq_true (by first | (with_reducible assumption) | assumption)
                        have q43 : x7_4 < (a0.size : Int) := of_decide_eq_true (by first | (with_reducible assumption) | assumption)
                        have hx43 := bt_at a0 x7_4
                        replace p43 := eq_true p43; replace q43 := eq_true q43
                        go_wp2
                        go_meet
                        case rel => exact ⟨_, (false), (by first | rfl | (simp; done) | (simp [*]; done)), H', ⟨by have := HJ5.out; have := HJ7.out; have := HJ14.out; have := HK4.out; have := HJ25.out; first | omega | exact Nat.le_refl _⟩, by repeat (first | exact Drawn0.refl _ | apply Drawn0.step)⟩
                       ·rw [if_neg c46] at H
                        have c46b0 : ((bt a0 a1) == 45) = false := by simpa using c46
                        (try (have c46b1 : decide ((bt a0 a1) = 45) = false := by simpa using c46))
                        (try (have c46b2 : ((bt a0 a1) == 45) = false := by simpa using c46))
                        (try (have c46b3 : ¬ ((bt a0 a1) = 45) := by simpa using c46))
                        clear c46
                        have H' := Aside0.mk H
                        clear H
                        have p39 : 0 ≤ (x7_4 : Int) := of_decide_eq_true (by first | (with_reducible assumption) | assumption)
                        have q39 : x7_4 < (a0.size : Int) := of_decide_eq_true (by first | (with_reducible assumption) | assumption)
                        have hx39 := bt_at a0 x7_4
                        replace p39 := eq_true p39; replace q39 := eq_true q39
                        have p41 : 0 ≤ (x7_4 : Int) := of_decide_eq_true (by first | (with_reducible assumption) | assumption)
                        have q41 : x7_4 < (a0.size : Int) := of_decide_eq_true (by first | (with_reducible assumption) | assumption)
                        have hx41 := bt_at a0 x7_4
                        replace p41 := eq_true p41; replace q41 := eq_true q41
                        have p43 : 0 ≤ (x7_4 : Int) := of_decide_eq_true (by first | (with_reducible assumption) | assumption)
                        have q43 : x7_4 < (a0.size : Int) := of_decide_eq_true (by first | (with_reducible assumption) | assumption)
                        have hx43 := bt_at a0 x7_4
                        replace p43 := eq_true p43; replace q43 := eq_true q43
                        go_wp2
                        go_meet
                        case rel => exact ⟨_, ((x10_4 == (-9223372036854775808))), (by first | rfl | (simp; done) | (simp [*]; done)), H', ⟨by have := HJ5.out; have := HJ7.out; have := HJ14.out; have := HK4.out; have := HJ25.out; first | omega | exact Nat.le_refl _⟩, by repeat (first | exact Drawn0.refl _ | apply Drawn0.step)⟩
                      ·replace c45 := Bool.eq_false_iff.mpr c45
                       subst c45
                       have H1 : (jsonlex_number.j5 kj25 a1 x7_4 ((bt a0 a1) == 45) x10_4 true) = some (r1, r2, r3) := by rw [if_neg (show ¬ (false = true) by decide)] at H; exact H
                       clear H; have H := H1; clear H1
                       have H' := Aside0.mk H
                       clear H
                       have p39 : 0 ≤ (x7_4 : Int) := of_decide_eq_true (by first | (with_reducible assumption) | assumption)
                       have q39 : x7_4 < (a0.size : Int) := of_decide_eq_true (by first | (with_reducible assumption) | assumption)
                       have hx39 := bt_at a0 x7_4
                       replace p39 := eq_true p39; replace q39 := eq_true q39
                       have p41 : 0 ≤ (x7_4 : Int) := of_decide_eq_true (by first | (with_reducible assumption) | assumption)
                       have q41 : x7_4 < (a0.size : Int) := of_decide_eq_true (by first | (with_reducible assumption) | assumption)
                       have hx41 := bt_at a0 x7_4
                       replace p41 := eq_true p41; replace q41 := eq_true q41
                       have p43 : 0 ≤ (x7_4 : Int) := of_decide_eq_true (by first | (with_reducible assumption) | assumption)
                       have q43 : x7_4 < (a0.size : Int) := of_decide_eq_true (by first | (with_reducible assumption) | assumption)
                       have hx43 := bt_at a0 x7_4
                       replace p43 := eq_true p43; replace q43 := eq_true q43
                       go_wp2
                       go_meet
                       case rel => exact ⟨_, (true), (by first | rfl | (simp; done) | (simp [*]; done)), H', ⟨by have := HJ5.out; have := HJ7.out; have := HJ14.out; have := HK4.out; have := HJ25.out; first | omega | exact Nat.le_refl _⟩, by repeat (first | exact Drawn0.refl _ | apply Drawn0.step)⟩
                  ·rw [if_neg c38] at H
                   exact absurd H (by simp)
                 ·rw [if_neg c37] at H
                  have c37b0 : decide (x7_4 < (a0.size : Int)) = false := decide_eq_false c37
                  clear c37
                  (first | rw [c37b0] | (simp only [i64_w, i32_w]; rw [c37b0]) | skip)
                  by_cases c47 : x9_4 = true
                  ·subst c47
                   have H1 : (if ((bt a0 a1) == 45) = true then (jsonlex_number.j5 kj25 a1 x7_4 ((bt a0 a1) == 45) x10_4 false) else (jsonlex_number.j5 kj25 a1 x7_4 ((bt a0 a1) == 45) x10_4 (x10_4 == (-9223372036854775808)))) = some (r1, r2, r3) := by rw [if_pos rfl] at H; exact H
                   clear H; have H := H1; clear H1
                   by_cases c48 : ((bt a0 a1) == 45) = true
                   ·rw [if_pos c48] at H
                    have c48b0 : ((bt a0 a1) == 45) = true := c48
                    (try (have c48b1 : decide ((bt a0 a1) = 45) = true := by simpa using c48))
                    (try (have c48b2 : ((bt a0 a1) == 45) = true := by simpa using c48))
                    clear c48
                    have H' := Aside0.mk H
                    clear H
                    go_wp2
                    go_meet
                    case rel => exact ⟨_, (false), (by first | rfl | (simp; done) | (simp [*]; done)), H', ⟨by have := HJ5.out; have := HJ7.out; have := HJ14.out; have := HK4.out; have := HJ25.out; first | omega | exact Nat.le_refl _⟩, by repeat (first | exact Drawn0.refl _ | apply Drawn0.step)⟩
                   ·rw [if_neg c48] at H
                    have c48b0 : ((bt a0 a1) == 45) = false := by simpa using c48
                    (try (have c48b1 : decide ((bt a0 a1) = 45) = false := by simpa using c48))
                    (try (have c48b2 : ((bt a0 a1) == 45) = false := by simpa using c48))
                    (try (have c48b3 : ¬ ((bt a0 a1) = 45) := by simpa using c48))
                    clear c48
                    have H' := Aside0.mk H
                    clear H
                    go_wp2
                    go_meet
                    case rel => exact ⟨_, ((x10_4 == (-9223372036854775808))), (by first | rfl | (simp; done) | (simp [*]; done)), H', ⟨by have := HJ5.out; have := HJ7.out; have := HJ14.out; have := HK4.out; have := HJ25.out; first | omega | exact Nat.le_refl _⟩, by repeat (first | exact Drawn0.refl _ | apply Drawn0.step)⟩
                  ·replace c47 := Bool.eq_false_iff.mpr c47
                   subst c47
                   have H1 : (jsonlex_number.j5 kj25 a1 x7_4 ((bt a0 a1) == 45) x10_4 true) = some (r1, r2, r3) := by rw [if_neg (show ¬ (false = true) by decide)] at H; exact H
                   clear H; have H := H1; clear H1
                   have H' := Aside0.mk H
                   clear H
                   go_wp2
                   go_meet
                   case rel => exact ⟨_, (true), (by first | rfl | (simp; done) | (simp [*]; done)), H', ⟨by have := HJ5.out; have := HJ7.out; have := HJ14.out; have := HK4.out; have := HJ25.out; first | omega | exact Nat.le_refl _⟩, by repeat (first | exact Drawn0.refl _ | apply Drawn0.step)⟩
                case rest =>
                 clear HC36
                 (try clear p3); (try clear q3); (try clear hx3); (try clear p4); (try clear q4); (try clear hx4); (try clear c31); (try clear c32); (try clear c32b0); (try clear c33); (try clear c33b0); (try clear p34); (try clear q34); (try clear hx34); (try clear c35); (try clear c35b0); (try clear c37); (try clear c37b0); (try clear c38); (try clear c38b0); (try clear p39); (try clear q39); (try clear hx39); (try clear c40); (try clear c40b0); (try clear c40b1); (try clear p41); (try clear q41); (try clear hx41); (try clear c42); (try clear c42b0); (try clear c42b1); (try clear p43); (try clear q43); (try clear hx43); (try clear c44); (try clear c44b0); (try clear c44b1); (try clear c45); (try clear c46); (try clear c46b0); (try clear c46b1); (try clear c46b2); (try clear c47); (try clear c48); (try clear c48b0); (try clear c48b1); (try clear c48b2)
                 obtain ⟨kq, x111_35, rfl, HA, HJ35, ⟨mc35, rfl⟩⟩ := hcut
                 cases kq with
                 | zero => exact absurd HA.out (by simp [jsonlex_number.j5])
                 | succ kj35 =>
                  have H := HA.out
                  clear HA
                  simp only [jsonlex_number.j5] at H
                  by_cases c49 : x111_35 = true
                  ·subst c49
                   have H1 : (some (0, a1, 7)) = some (r1, r2, r3) := by rw [if_pos rfl] at H; exact H
                   clear H; have H := H1; clear H1
                   simp only [Option.some.injEq, Prod.mk.injEq] at H
                   obtain ⟨rfl, rfl, rfl⟩ := H
                   go_wp2
                   go_ret3
                   exact ⟨by first | rfl | (simp; done) | (simp [*]; done), by repeat (first | exact Drawn0.refl _ | apply Drawn0.step)⟩
                  ·replace c49 := Bool.eq_false_iff.mpr c49
                   subst c49
                   have H1 : (if ((bt a0 a1) == 45) = true then (some (x10_4, x7_4, 0)) else (some (wrap64 (-x10_4), x7_4, 0))) = some (r1, r2, r3) := by rw [if_neg (show ¬ (false = true) by decide)] at H; exact H
                   clear H; have H := H1; clear H1
                   by_cases c50 : ((bt a0 a1) == 45) = true
                   ·rw [if_pos c50] at H
                    have c50b0 : ((bt a0 a1) == 45) = true := c50
                    (try (have c50b1 : decide ((bt a0 a1) = 45) = true := by simpa using c50))
                    (try (have c50b2 : ((bt a0 a1) == 45) = true := by simpa using c50))
                    clear c50
                    simp only [Option.some.injEq, Prod.mk.injEq] at H
                    obtain ⟨rfl, rfl, rfl⟩ := H
                    go_wp2
                    go_ret3
                    exact ⟨by first | rfl | (simp; done) | (simp [*]; done), by repeat (first | exact Drawn0.refl _ | apply Drawn0.step)⟩
                   ·rw [if_neg c50] at H
                    have c50b0 : ((bt a0 a1) == 45) = false := by simpa using c50
                    (try (have c50b1 : decide ((bt a0 a1) = 45) = false := by simpa using c50))
                    (try (have c50b2 : ((bt a0 a1) == 45) = false := by simpa using c50))
                    (try (have c50b3 : ¬ ((bt a0 a1) = 45) := by simpa using c50))
                    clear c50
                    simp only [Option.some.injEq, Prod.mk.injEq] at H
                    obtain ⟨rfl, rfl, rfl⟩ := H
                    go_wp2
                    go_ret3
                    exact ⟨by first | rfl | (simp; done) | (simp [*]; done), by repeat (first | exact Drawn0.refl _ | apply Drawn0.step)⟩
  ·rw [if_neg c4] at H
   exact absurd H (by simp)
 ·rw [if_neg c3] at H
  exact absurd H (by simp)

end Go.Proofs.Ytcnojfoiolbnaaa.QJsonlexNumbers
