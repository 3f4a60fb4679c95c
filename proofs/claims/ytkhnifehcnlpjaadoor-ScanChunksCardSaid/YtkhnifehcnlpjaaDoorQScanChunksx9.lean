-- by a program of this session (print2.py): the machine's side of one law; Lean checks it.
import Derived.Test.YtkhnifehcnlpjaaDoorQScanChunksx0
namespace Go.Proofs.YtkhnifehcnlpjaaDoor.QScanChunks
open Go.RowKit Go.Proofs.YtkhnifehcnlpjaaDoorW.PrintWords Go.Proofs.YtkhnifehcnlpjaaDoorW.PrintLast Go.Proofs.YtkhnifehcnlpjaaDoorW.PrintMore
attribute [local go_sem] max2_int min2_int max_two min_two max_three min_three max_four min_four   -- for this text's walks alone
set_option linter.unusedVariables false
set_option linter.unusedSimpArgs false

/-! ### ndjqref18_Step: function 46 -/
mutual
def ndjqref18_Step.j0 : Nat → Int → Int → Bool → Option (Int × Bool)
  | 0, _, _, _ => none
  | k + 1, x0, x1, x6 => if x6 = true then (some (1, false)) else (if x0 = 0 then (some (0, (x1 == 10))) else (if x0 = 1 then (ndjqref18_Step.j1 k x0 x1 (x1 == 92)) else (ndjqref18_Step.j1 k x0 x1 false)))
def ndjqref18_Step.j1 : Nat → Int → Int → Bool → Option (Int × Bool)
  | 0, _, _, _ => none
  | k + 1, x0, x1, x18 => if x18 = true then (some (2, false)) else (if x0 = 1 then (ndjqref18_Step.j2 k x0 (x1 == 34)) else (ndjqref18_Step.j2 k x0 false))
def ndjqref18_Step.j2 : Nat → Int → Bool → Option (Int × Bool)
  | 0, _, _ => none
  | k + 1, x0, x25 => if x25 = true then (some (0, false)) else (if x0 = 1 then (some (1, false)) else (if x0 = 2 then (some (1, false)) else (some (0, false))))
end
def ndjqref18_Step.f (k : Nat) (a0 : Int) (a1 : Int) : Option (Int × Bool) := if a0 = 0 then (ndjqref18_Step.j0 k a0 a1 (a1 == 34)) else (ndjqref18_Step.j0 k a0 a1 false)
theorem ndjqref18_Step.mono_l : ∀ k, (∀ y0 y1 y2, LeO (ndjqref18_Step.j0 k y0 y1 y2) (ndjqref18_Step.j0 (k + 1) y0 y1 y2)) ∧ (∀ y0 y1 y2, LeO (ndjqref18_Step.j1 k y0 y1 y2) (ndjqref18_Step.j1 (k + 1) y0 y1 y2)) ∧ (∀ y0 y1, LeO (ndjqref18_Step.j2 k y0 y1) (ndjqref18_Step.j2 (k + 1) y0 y1))
  | 0 => ⟨fun _ _ _ r h => by simp [ndjqref18_Step.j0] at h, fun _ _ _ r h => by simp [ndjqref18_Step.j1] at h, fun _ _ r h => by simp [ndjqref18_Step.j2] at h⟩
  | k + 1 => by
    obtain ⟨ih0, ih1, ih2⟩ := ndjqref18_Step.mono_l k
    refine ⟨?_, ?_, ?_⟩
    · intro y0 y1 y2
      unfold ndjqref18_Step.j0
      repeat' first
      | (with_reducible exact ih0 _ _ _)
      | (with_reducible exact ih1 _ _ _)
      | (with_reducible exact ih2 _ _)
      | (with_reducible exact LeO.refl _)
      | (with_reducible exact LeO.none _)
      | (with_reducible refine LeO.ite ?_ ?_)
      | (with_reducible refine LeO.bind ?_ (fun _ => ?_))
      | exact ih0 _ _ _
      | exact ih1 _ _ _
      | exact ih2 _ _
      | exact LeO.none _
      | refine LeO.ite ?_ ?_
      | refine LeO.bind ?_ (fun _ => ?_)
    · intro y0 y1 y2
      unfold ndjqref18_Step.j1
      repeat' first
      | (with_reducible exact ih0 _ _ _)
      | (with_reducible exact ih1 _ _ _)
      | (with_reducible exact ih2 _ _)
      | (with_reducible exact LeO.refl _)
      | (with_reducible exact LeO.none _)
      | (with_reducible refine LeO.ite ?_ ?_)
      | (with_reducible refine LeO.bind ?_ (fun _ => ?_))
      | exact ih0 _ _ _
      | exact ih1 _ _ _
      | exact ih2 _ _
      | exact LeO.none _
      | refine LeO.ite ?_ ?_
      | refine LeO.bind ?_ (fun _ => ?_)
    · intro y0 y1
      unfold ndjqref18_Step.j2
      repeat' first
      | (with_reducible exact ih0 _ _ _)
      | (with_reducible exact ih1 _ _ _)
      | (with_reducible exact ih2 _ _)
      | (with_reducible exact LeO.refl _)
      | (with_reducible exact LeO.none _)
      | (with_reducible refine LeO.ite ?_ ?_)
      | (with_reducible refine LeO.bind ?_ (fun _ => ?_))
      | exact ih0 _ _ _
      | exact ih1 _ _ _
      | exact ih2 _ _
      | exact LeO.none _
      | refine LeO.ite ?_ ?_
      | refine LeO.bind ?_ (fun _ => ?_)
theorem ndjqref18_Step.mono : ∀ a0 a1 k, LeO (ndjqref18_Step.f k a0 a1) (ndjqref18_Step.f (k + 1) a0 a1) := by
  intro a0 a1 k
  obtain ⟨ih0, ih1, ih2⟩ := ndjqref18_Step.mono_l k
  unfold ndjqref18_Step.f
  repeat' first
      | (with_reducible exact ih0 _ _ _)
      | (with_reducible exact ih1 _ _ _)
      | (with_reducible exact ih2 _ _)
      | (with_reducible exact LeO.refl _)
      | (with_reducible exact LeO.none _)
      | (with_reducible refine LeO.ite ?_ ?_)
      | (with_reducible refine LeO.bind ?_ (fun _ => ?_))
      | exact ih0 _ _ _
      | exact ih1 _ _ _
      | exact ih2 _ _
      | exact LeO.none _
      | refine LeO.ite ?_ ?_
      | refine LeO.bind ?_ (fun _ => ?_)
set_option maxHeartbeats 8000000 in
set_option maxRecDepth 100000 in
theorem ndjqref18_Step.calls (k : Nat) (a0 : Int) (a1 : Int) (r1 : Int) (r2 : Bool) (w : World) (h : ndjqref18_Step.f k a0 a1 = some (r1, r2)) :
    Calls Tryd.prog 46 #[.int .i64 a0, .int .u8 a1] w fun e w' => e = .returned (.tuple #[.int .i64 r1, .bool r2]) ∧ Drawn0 w w' := by
  have H : (if a0 = 0 then (ndjqref18_Step.j0 k a0 a1 (a1 == 34)) else (ndjqref18_Step.j0 k a0 a1 false)) = some (r1, r2) := h
  clear h
  have HC3 := Aside0.mk H
  clear H
  go_enter Tryd.func46, Tryd.ntmps46
  go_upto_region 1 with (fail)
  go_cut [6] (fun v6 wc => ∃ (kq : Nat) (x6_2 : Bool), v6 = .bool x6_2 ∧ Aside0 (ndjqref18_Step.j0 kq a0 a1 x6_2 = some (r1, r2)) ∧ Aside0 (kq ≤ k) ∧ Drawn0 w wc)
  case first =>
    have H := HC3.out
    clear HC3
    by_cases c4 : a0 = 0
    · rw [if_pos c4] at H
      have c4b0 : (a0 == 0) = true := beq_iff_eq.mpr c4
      have c4b1 : (a0 != 0) = false := bne_eq_false_iff_eq.mpr c4
      clear c4
      (first | rw [c4b0] | (simp only [i64_w, i32_w]; rw [c4b0]) | skip)
      have H' := Aside0.mk H
      clear H
      go_wp2
      go_meet
      case rel => exact ⟨_, ((a1 == 34)), (by first | rfl | (simp; done) | (simp [*]; done)), H', ⟨by first | omega | exact Nat.le_refl _⟩, by repeat (first | exact Drawn0.refl _ | apply Drawn0.step)⟩
    · rw [if_neg c4] at H
      have c4b0 : (a0 == 0) = false := beq_eq_false_iff_ne.mpr c4
      have c4b1 : (a0 != 0) = true := bne_iff_ne.mpr c4
      (first | rw [c4b0] | (simp only [i64_w, i32_w]; rw [c4b0]) | skip)
      have H' := Aside0.mk H
      clear H
      go_wp2
      go_meet
      case rel => exact ⟨_, (false), (by first | rfl | (simp; done) | (simp [*]; done)), H', ⟨by first | omega | exact Nat.le_refl _⟩, by repeat (first | exact Drawn0.refl _ | apply Drawn0.step)⟩
  case rest =>
    clear HC3
    (try clear p2); (try clear c4); (try clear c4b0); (try clear c4b1)
    obtain ⟨kq, x6_2, rfl, HA, HJ2, ⟨mc2, rfl⟩⟩ := hcut
    cases kq with
    | zero => exact absurd HA.out (by simp [ndjqref18_Step.j0])
    | succ kj2 =>
      have H := HA.out
      clear HA
      simp only [ndjqref18_Step.j0] at H
      by_cases c5 : x6_2 = true
      · subst c5
        have H1 : (some (1, false)) = some (r1, r2) := by rw [if_pos rfl] at H; exact H
        clear H
        have H := H1
        clear H1
        simp only [Option.some.injEq, Prod.mk.injEq] at H
        obtain ⟨rfl, rfl⟩ := H
        go_wp2
        go_ret2
        exact ⟨by first | rfl | (simp; done) | (simp [*]; done), by repeat (first | exact Drawn0.refl _ | apply Drawn0.step)⟩
      · replace c5 := Bool.eq_false_iff.mpr c5
        subst c5
        have H1 : (if a0 = 0 then (some (0, (a1 == 10))) else (if a0 = 1 then (ndjqref18_Step.j1 kj2 a0 a1 (a1 == 92)) else (ndjqref18_Step.j1 kj2 a0 a1 false))) = some (r1, r2) := by rw [if_neg (show ¬ (false = true) by decide)] at H; exact H
        clear H
        have H := H1
        clear H1
        by_cases c6 : a0 = 0
        · rw [if_pos c6] at H
          have c6b0 : (a0 == 0) = true := beq_iff_eq.mpr c6
          have c6b1 : (a0 != 0) = false := bne_eq_false_iff_eq.mpr c6
          clear c6
          simp only [Option.some.injEq, Prod.mk.injEq] at H
          obtain ⟨rfl, rfl⟩ := H
          go_wp2
          go_ret2
          exact ⟨by first | rfl | (simp; done) | (simp [*]; done), by repeat (first | exact Drawn0.refl _ | apply Drawn0.step)⟩
        · rw [if_neg c6] at H
          have c6b0 : (a0 == 0) = false := beq_eq_false_iff_ne.mpr c6
          have c6b1 : (a0 != 0) = true := bne_iff_ne.mpr c6
          have HC7 := Aside0.mk H
          clear H
          go_upto_region 5 with (fail)
          go_cut [18] (fun v18 wc => ∃ (kq : Nat) (x18_6 : Bool), v18 = .bool x18_6 ∧ Aside0 (ndjqref18_Step.j1 kq a0 a1 x18_6 = some (r1, r2)) ∧ Aside0 (kq ≤ kj2) ∧ Drawn0 w wc)
          case first =>
            have H := HC7.out
            clear HC7
            by_cases c8 : a0 = 1
            · rw [if_pos c8] at H
              have c8b0 : (a0 == 1) = true := beq_iff_eq.mpr c8
              have c8b1 : (a0 != 1) = false := bne_eq_false_iff_eq.mpr c8
              clear c8
              (first | rw [c8b0] | (simp only [i64_w, i32_w]; rw [c8b0]) | skip)
              have H' := Aside0.mk H
              clear H
              go_wp2
              go_meet
              case rel => exact ⟨_, ((a1 == 92)), (by first | rfl | (simp; done) | (simp [*]; done)), H', ⟨by have := HJ2.out; first | omega | exact Nat.le_refl _⟩, by repeat (first | exact Drawn0.refl _ | apply Drawn0.step)⟩
            · rw [if_neg c8] at H
              have c8b0 : (a0 == 1) = false := beq_eq_false_iff_ne.mpr c8
              have c8b1 : (a0 != 1) = true := bne_iff_ne.mpr c8
              (first | rw [c8b0] | (simp only [i64_w, i32_w]; rw [c8b0]) | skip)
              have H' := Aside0.mk H
              clear H
              go_wp2
              go_meet
              case rel => exact ⟨_, (false), (by first | rfl | (simp; done) | (simp [*]; done)), H', ⟨by have := HJ2.out; first | omega | exact Nat.le_refl _⟩, by repeat (first | exact Drawn0.refl _ | apply Drawn0.step)⟩
          case rest =>
            clear HC7
            (try clear c2); (try clear p2); (try clear c4); (try clear c4b0); (try clear c4b1); (try clear c5); (try clear c6); (try clear c6b0); (try clear c6b1); (try clear c8); (try clear c8b0); (try clear c8b1); (try clear p2)
            obtain ⟨kq, x18_6, rfl, HA, HJ6, ⟨mc6, rfl⟩⟩ := hcut
            cases kq with
            | zero => exact absurd HA.out (by simp [ndjqref18_Step.j1])
            | succ kj6 =>
              have H := HA.out
              clear HA
              simp only [ndjqref18_Step.j1] at H
              by_cases c9 : x18_6 = true
              · subst c9
                have H1 : (some (2, false)) = some (r1, r2) := by rw [if_pos rfl] at H; exact H
                clear H
                have H := H1
                clear H1
                simp only [Option.some.injEq, Prod.mk.injEq] at H
                obtain ⟨rfl, rfl⟩ := H
                go_wp2
                go_ret2
                exact ⟨by first | rfl | (simp; done) | (simp [*]; done), by repeat (first | exact Drawn0.refl _ | apply Drawn0.step)⟩
              · replace c9 := Bool.eq_false_iff.mpr c9
                subst c9
                have H1 : (if a0 = 1 then (ndjqref18_Step.j2 kj6 a0 (a1 == 34)) else (ndjqref18_Step.j2 kj6 a0 false)) = some (r1, r2) := by rw [if_neg (show ¬ (false = true) by decide)] at H; exact H
                clear H
                have H := H1
                clear H1
                have HC10 := Aside0.mk H
                clear H
                go_upto_region 7 with (fail)
                go_cut [25] (fun v25 wc => ∃ (kq : Nat) (x25_9 : Bool), v25 = .bool x25_9 ∧ Aside0 (ndjqref18_Step.j2 kq a0 x25_9 = some (r1, r2)) ∧ Aside0 (kq ≤ kj6) ∧ Drawn0 w wc)
                case first =>
                  have H := HC10.out
                  clear HC10
                  by_cases c11 : a0 = 1
                  · rw [if_pos c11] at H
                    have c11b0 : (a0 == 1) = true := beq_iff_eq.mpr c11
                    have c11b1 : (a0 != 1) = false := bne_eq_false_iff_eq.mpr c11
                    clear c11
                    (first | rw [c11b0] | (simp only [i64_w, i32_w]; rw [c11b0]) | skip)
                    have H' := Aside0.mk H
                    clear H
                    go_wp2
                    go_meet
                    case rel => exact ⟨_, ((a1 == 34)), (by first | rfl | (simp; done) | (simp [*]; done)), H', ⟨by have := HJ2.out; have := HJ6.out; first | omega | exact Nat.le_refl _⟩, by repeat (first | exact Drawn0.refl _ | apply Drawn0.step)⟩
                  · rw [if_neg c11] at H
                    have c11b0 : (a0 == 1) = false := beq_eq_false_iff_ne.mpr c11
                    have c11b1 : (a0 != 1) = true := bne_iff_ne.mpr c11
                    (first | rw [c11b0] | (simp only [i64_w, i32_w]; rw [c11b0]) | skip)
                    have H' := Aside0.mk H
                    clear H
                    go_wp2
                    go_meet
                    case rel => exact ⟨_, (false), (by first | rfl | (simp; done) | (simp [*]; done)), H', ⟨by have := HJ2.out; have := HJ6.out; first | omega | exact Nat.le_refl _⟩, by repeat (first | exact Drawn0.refl _ | apply Drawn0.step)⟩
                case rest =>
                  clear HC10
                  (try clear c1); (try clear c2); (try clear p2); (try clear c4); (try clear c4b0); (try clear c4b1); (try clear c5); (try clear c6); (try clear c6b0); (try clear c6b1); (try clear c8); (try clear c8b0); (try clear c8b1); (try clear c9); (try clear c11); (try clear c11b0); (try clear c11b1); (try clear p2)
                  obtain ⟨kq, x25_9, rfl, HA, HJ9, ⟨mc9, rfl⟩⟩ := hcut
                  cases kq with
                  | zero => exact absurd HA.out (by simp [ndjqref18_Step.j2])
                  | succ kj9 =>
                    have H := HA.out
                    clear HA
                    simp only [ndjqref18_Step.j2] at H
                    by_cases c12 : x25_9 = true
                    · subst c12
                      have H1 : (some (0, false)) = some (r1, r2) := by rw [if_pos rfl] at H; exact H
                      clear H
                      have H := H1
                      clear H1
                      simp only [Option.some.injEq, Prod.mk.injEq] at H
                      obtain ⟨rfl, rfl⟩ := H
                      go_wp2
                      go_ret2
                      exact ⟨by first | rfl | (simp; done) | (simp [*]; done), by repeat (first | exact Drawn0.refl _ | apply Drawn0.step)⟩
                    · replace c12 := Bool.eq_false_iff.mpr c12
                      subst c12
                      have H1 : (if a0 = 1 then (some (1, false)) else (if a0 = 2 then (some (1, false)) else (some (0, false)))) = some (r1, r2) := by rw [if_neg (show ¬ (false = true) by decide)] at H; exact H
                      clear H
                      have H := H1
                      clear H1
                      by_cases c13 : a0 = 1
                      · rw [if_pos c13] at H
                        have c13b0 : (a0 == 1) = true := beq_iff_eq.mpr c13
                        have c13b1 : (a0 != 1) = false := bne_eq_false_iff_eq.mpr c13
                        clear c13
                        simp only [Option.some.injEq, Prod.mk.injEq] at H
                        obtain ⟨rfl, rfl⟩ := H
                        go_wp2
                        go_ret2
                        exact ⟨by first | rfl | (simp; done) | (simp [*]; done), by repeat (first | exact Drawn0.refl _ | apply Drawn0.step)⟩
                      · rw [if_neg c13] at H
                        have c13b0 : (a0 == 1) = false := beq_eq_false_iff_ne.mpr c13
                        have c13b1 : (a0 != 1) = true := bne_iff_ne.mpr c13
                        by_cases c14 : a0 = 2
                        · rw [if_pos c14] at H
                          have c14b0 : (a0 == 2) = true := beq_iff_eq.mpr c14
                          have c14b1 : (a0 != 2) = false := bne_eq_false_iff_eq.mpr c14
                          clear c14
                          simp only [Option.some.injEq, Prod.mk.injEq] at H
                          obtain ⟨rfl, rfl⟩ := H
                          go_wp2
                          go_ret2
                          exact ⟨by first | rfl | (simp; done) | (simp [*]; done), by repeat (first | exact Drawn0.refl _ | apply Drawn0.step)⟩
                        · rw [if_neg c14] at H
                          have c14b0 : (a0 == 2) = false := beq_eq_false_iff_ne.mpr c14
                          have c14b1 : (a0 != 2) = true := bne_iff_ne.mpr c14
                          simp only [Option.some.injEq, Prod.mk.injEq] at H
                          obtain ⟨rfl, rfl⟩ := H
                          go_wp2
                          go_ret2
                          exact ⟨by first | rfl | (simp; done) | (simp [*]; done), by repeat (first | exact Drawn0.refl _ | apply Drawn0.step)⟩

/-! ### ndjqref18_Read: function 42 -/
def ndjqref18_Read.l0 : Nat → Int → ByteArray → List Int → Int → Option (Int × List Int)
  | 0, _, _, _, _ => none
  | k + 1, x0, x1, x6, x7 => if x7 < (x1.size : Int) then (if 0 ≤ x7 then ((ndjqref18_Step.f k x0 (bt x1 x7)).bind fun bt218 => (if bt218.2 = true then (if x6.length < 17592186044416 then (ndjqref18_Read.l0 k bt218.1 x1 (x6 ++ [x7]) (wrap64 (x7 + 1))) else (none)) else (ndjqref18_Read.l0 k bt218.1 x1 x6 (wrap64 (x7 + 1))))) else (none)) else (some (x0, x6))
def ndjqref18_Read.f (k : Nat) (a0 : Int) (a1 : ByteArray) : Option (Int × List Int) := ndjqref18_Read.l0 k a0 a1 ([] : List Int) 0
theorem ndjqref18_Read.mono_l : ∀ k, (∀ y0 y1 y2 y3, LeO (ndjqref18_Read.l0 k y0 y1 y2 y3) (ndjqref18_Read.l0 (k + 1) y0 y1 y2 y3))
  | 0 => fun _ _ _ _ r h => by simp [ndjqref18_Read.l0] at h
  | k + 1 => by
    have ih0 := ndjqref18_Read.mono_l k
    · intro y0 y1 y2 y3
      unfold ndjqref18_Read.l0
      repeat' first
      | (with_reducible exact ih0 _ _ _ _)
      | (with_reducible exact ndjqref18_Step.mono _ _ _)
      | (with_reducible exact LeO.refl _)
      | (with_reducible exact LeO.none _)
      | (with_reducible refine LeO.ite ?_ ?_)
      | (with_reducible refine LeO.bind ?_ (fun _ => ?_))
      | exact ih0 _ _ _ _
      | exact ndjqref18_Step.mono _ _ _
      | exact LeO.none _
      | refine LeO.ite ?_ ?_
      | refine LeO.bind ?_ (fun _ => ?_)
theorem ndjqref18_Read.mono : ∀ a0 a1 k, LeO (ndjqref18_Read.f k a0 a1) (ndjqref18_Read.f (k + 1) a0 a1) := by
  intro a0 a1 k
  have ih0 := ndjqref18_Read.mono_l k
  unfold ndjqref18_Read.f
  repeat' first
      | (with_reducible exact ih0 _ _ _ _)
      | (with_reducible exact ndjqref18_Step.mono _ _ _)
      | (with_reducible exact LeO.refl _)
      | (with_reducible exact LeO.none _)
      | (with_reducible refine LeO.ite ?_ ?_)
      | (with_reducible refine LeO.bind ?_ (fun _ => ?_))
      | exact ih0 _ _ _ _
      | exact ndjqref18_Step.mono _ _ _
      | exact LeO.none _
      | refine LeO.ite ?_ ?_
      | refine LeO.bind ?_ (fun _ => ?_)
set_option maxHeartbeats 8000000 in
set_option maxRecDepth 100000 in
theorem ndjqref18_Read.calls (k : Nat) (a0 : Int) (a1 : ByteArray) (r1 : Int) (r2 : List Int) (w : World) (h : ndjqref18_Read.f k a0 a1 = some (r1, r2)) :
    Calls Tryd.prog 42 #[.int .i64 a0, .string a1] w fun e w' => ∃ v1_ : Value, e = .returned (.tuple #[.int .i64 r1, v1_]) ∧ Kd.R (Kd.int .i64) 3 w' w.heap.size (fun _ => True) v1_ r2 ∧ Below w.heap.size w w' := by
  have HB := Aside0.mk (Below.refl w.heap.size w)
  have H : (ndjqref18_Read.l0 k a0 a1 ([] : List Int) 0) = some (r1, r2) := h
  clear h
  have H' := Aside0.mk H
  clear H
  go_enter Tryd.func42, Tryd.ntmps42
  go_wp2
  go_loopg [0, 6, 7] k (fun kq v0 v6 v7 w' => ∃ (x0_1 : Int) (x6_1 : List Int) (x7_1 : Int), v0 = .int .i64 x0_1 ∧ v7 = .int .i64 x7_1 ∧ Aside0 (ndjqref18_Read.l0 kq x0_1 a1 x6_1 x7_1 = some (r1, r2)) ∧ Aside0 (kq ≤ k) ∧ Aside0 (Kd.R (Kd.int .i64) 3 w' w.heap.size (fun _ => True) v6 x6_1) ∧ Aside0 (Below w.heap.size w w'))
  case atStart => exact ⟨(a0), (([] : List Int)), (0), (by first | rfl | (simp; done) | (simp [*]; done)), (by first | rfl | (simp; done) | (simp [*]; done)), H', ⟨Nat.le_refl _⟩, ⟨by first | exact Kd.R_nil _ _ _ _ _ | exact Kd.N_nil _ _ _ _ _ | exact Kd.V_nil _ _ _ _ _ | exact Kd.Q_nil _ _ _ _ _ | exact Kd.S_nil _ _ _ _ _⟩, ⟨by repeat (first | (with_reducible first | exact HB.out | apply below_alloc | apply pw_below_drewN | apply below_drew1) | exact HB.out)⟩⟩
  case round =>
    clear H'
    (try clear p2)
    obtain ⟨x0_1, x6_1, x7_1, rfl, rfl, HA, HK1, HO_6, HB⟩ := hrel
    cases gk with
    | zero => exact absurd HA.out (by simp [ndjqref18_Read.l0])
    | succ k1 =>
      have H := HA.out
      clear HA
      simp only [ndjqref18_Read.l0] at H
      by_cases c3 : x7_1 < (a1.size : Int)
      · rw [if_pos c3] at H
        have c3b0 : decide (x7_1 < (a1.size : Int)) = true := decide_eq_true c3
        clear c3
        by_cases c4 : 0 ≤ x7_1
        · rw [if_pos c4] at H
          have c4b0 : decide (0 ≤ x7_1) = true := decide_eq_true c4
          clear c4
          replace H := Option.bind_eq_some_iff.mp H
          obtain ⟨⟨t218, t219⟩, A60, H⟩ := H
          replace H : (if t219 = true then (if x6_1.length < 17592186044416 then (ndjqref18_Read.l0 k1 t218 a1 (x6_1 ++ [x7_1]) (wrap64 (x7_1 + 1))) else (none)) else (ndjqref18_Read.l0 k1 t218 a1 x6_1 (wrap64 (x7_1 + 1)))) = some (r1, r2) := H
          have A6 := Aside0.mk A60
          clear A60
          by_cases c7 : t219 = true
          · subst c7
            have H1 : (if x6_1.length < 17592186044416 then (ndjqref18_Read.l0 k1 t218 a1 (x6_1 ++ [x7_1]) (wrap64 (x7_1 + 1))) else (none)) = some (r1, r2) := by rw [if_pos rfl] at H; exact H
            clear H
            have H := H1
            clear H1
            by_cases c8 : x6_1.length < 17592186044416
            · rw [if_pos c8] at H
              have LMc8 := Aside0.mk c8
              clear c8
              obtain ⟨y220, hy220⟩ : ∃ y_ : List Int, y_ = (x6_1 ++ [x7_1]) := ⟨_, rfl⟩
              replace H : (ndjqref18_Read.l0 k1 t218 a1 y220 (wrap64 (x7_1 + 1))) = some (r1, r2) := by first | (rw [hy220]; with_reducible exact H) | (have H2_ := (Option.bind_some _ _).symm.trans H; rw [hy220]; with_reducible exact H2_) | (have H2_ := (Option.bind_some _ _).symm.trans H; with_reducible exact H2_) | with_reducible exact H | (rw [hy220]; exact H) | exact H
              have Ny220 := Aside0.mk hy220
              clear hy220
              have H' := Aside0.mk H
              clear H
              have p5 : 0 ≤ (x7_1 : Int) := of_decide_eq_true (by first | (with_reducible assumption) | assumption)
              have q5 : x7_1 < (a1.size : Int) := of_decide_eq_true (by first | (with_reducible assumption) | assumption)
              have hx5 := bt_at a1 x7_1
              replace p5 := eq_true p5
              replace q5 := eq_true q5
              go_wp2_with (first | ((with_reducible refine gate_callee (f := 46) rfl ?_); refine goesL_ (some 21) rfl rfl Tryd.func46 (by kernel_rfl) rfl #[.int .i64 x0_1, .int .u8 (bt a1 x7_1)] rfl (by (try simp only [List.map_toArray, List.map_cons, List.map_nil]); first | done | rfl | (simp only [List.length_drop, List.length_take]; rfl)) ?_; (with_reducible refine (ndjqref18_Step.calls k1 x0_1 (bt a1 x7_1) t218 true _ A6.out).mono ?_); rintro e w' ⟨rfl, ⟨nd, rfl⟩⟩; refine ⟨_, rfl, ?_⟩) | ((with_reducible refine gate_builtin (b := .append) (xs := #[.tmp 25, .tmp 27]) rfl ?_); at_builtin; refine Kd.R_append (Kd.int .i64) (w0 := w) w.heap.size rfl (.tmp 25) (.tmp 27) 23 3 (.int .i64 0) 8 rfl Tryd.underlying23 info3 rfl (by decide) (by omega) u6 x6_1 x7_1 [.int .i64 x7_1] (fun _ => True) (fun _ => False) rfl rfl ?aP (fun _ hk => hk.elim) ?aF ?aO ?aB ?aS ?aL ?_; (case aP => exact rfl); (case aB => exact (by repeat (first | (with_reducible first | exact HB.out | apply below_alloc | apply pw_below_drewN | apply below_drew1) | exact HB.out))); (case aF => exact (fun _ _ => trivial)); (case aO => exact (by (with_reducible repeat (first | apply Kd.R_alloc | apply Kd.R_drewN | apply Kd.R_drew)); exact HO_6.out)); (case aS => exact (below_size (by repeat (first | (with_reducible first | exact HB.out | apply below_alloc | apply pw_below_drewN | apply below_drew1) | exact HB.out)))); (case aL => have := LMc8.out; first | omega | exact Nat.le_of_lt this); intro v221 w9 ho hb hg hat; rw [← Ny220.out] at ho; have n0_ := Aside0.mk (hb); have n1_ := Aside0.mk (ho); clear HB; clear HO_6; have HB := n0_; have HO222 := n1_; clear n0_ n1_; clear ho hb hg hat))
              go_roundg k1
              case measure => have := HK1.out; omega
              case rel => exact ⟨(t218), (y220), (wrap64 (x7_1 + 1)), (by first | rfl | (simp; done) | (simp [*]; done)), (by first | rfl | (simp; done) | (simp [*]; done)), H', ⟨by have := HK1.out; omega⟩, ⟨by (with_reducible repeat (first | apply Kd.R_alloc | apply Kd.R_drewN | apply Kd.R_drew)); exact HO222.out⟩, ⟨by repeat (first | (with_reducible first | exact HB.out | apply below_alloc | apply pw_below_drewN | apply below_drew1) | exact HB.out)⟩⟩
            · rw [if_neg c8] at H
              exact absurd H (by simp)
          · replace c7 := Bool.eq_false_iff.mpr c7
            subst c7
            have H1 : (ndjqref18_Read.l0 k1 t218 a1 x6_1 (wrap64 (x7_1 + 1))) = some (r1, r2) := by rw [if_neg (show ¬ (false = true) by decide)] at H; exact H
            clear H
            have H := H1
            clear H1
            have H' := Aside0.mk H
            clear H
            have p5 : 0 ≤ (x7_1 : Int) := of_decide_eq_true (by first | (with_reducible assumption) | assumption)
            have q5 : x7_1 < (a1.size : Int) := of_decide_eq_true (by first | (with_reducible assumption) | assumption)
            have hx5 := bt_at a1 x7_1
            replace p5 := eq_true p5
            replace q5 := eq_true q5
            go_wp2_with (first | ((with_reducible refine gate_callee (f := 46) rfl ?_); refine goesL_ (some 21) rfl rfl Tryd.func46 (by kernel_rfl) rfl #[.int .i64 x0_1, .int .u8 (bt a1 x7_1)] rfl (by (try simp only [List.map_toArray, List.map_cons, List.map_nil]); first | done | rfl | (simp only [List.length_drop, List.length_take]; rfl)) ?_; (with_reducible refine (ndjqref18_Step.calls k1 x0_1 (bt a1 x7_1) t218 false _ A6.out).mono ?_); rintro e w' ⟨rfl, ⟨nd, rfl⟩⟩; refine ⟨_, rfl, ?_⟩))
            go_roundg k1
            case measure => have := HK1.out; omega
            case rel => exact ⟨(t218), (x6_1), (wrap64 (x7_1 + 1)), (by first | rfl | (simp; done) | (simp [*]; done)), (by first | rfl | (simp; done) | (simp [*]; done)), H', ⟨by have := HK1.out; omega⟩, ⟨by (with_reducible repeat (first | apply Kd.R_alloc | apply Kd.R_drewN | apply Kd.R_drew)); exact HO_6.out⟩, ⟨by repeat (first | (with_reducible first | exact HB.out | apply below_alloc | apply pw_below_drewN | apply below_drew1) | exact HB.out)⟩⟩
        · rw [if_neg c4] at H
          exact absurd H (by simp)
      · rw [if_neg c3] at H
        have c3b0 : decide (x7_1 < (a1.size : Int)) = false := decide_eq_false c3
        clear c3
        simp only [Option.some.injEq, Prod.mk.injEq] at H
        obtain ⟨rfl, rfl⟩ := H
        go_wp2
        go_ret2
        exact ⟨_, by first | rfl | (simp [errW_none, errW_some] <;> rfl) | (simp [*, errW_none, errW_some] <;> rfl), by (with_reducible repeat (first | apply Kd.R_alloc | apply Kd.R_drewN | apply Kd.R_drew)); exact HO_6.out, by repeat (first | (with_reducible first | exact HB.out | apply below_alloc | apply pw_below_drewN | apply below_drew1) | exact HB.out)⟩

/-! ### ndjqref18_Summary: function 32 -/
def ndjqref18_Summary.l0 : Nat → ByteArray → Int → Int → Int → Int → Int → List Int → List Int → List Int → Option (Int × Int × Int × Int × List Int × List Int × List Int)
 | 0, _, _, _, _, _, _, _, _, _ => none
 | k + 1, x0, x4, x225000, x225001, x225002, x225003, x225004, x225005, x225006 => if x4 < 3 then ((ndjqref18_Read.f k x4 x0).bind fun bt225 => (if x4 = 0 then (ndjqref18_Summary.l0 k x0 1 x225000 bt225.1 x225002 x225003 bt225.2 x225005 x225006) else (if x4 = 1 then (ndjqref18_Summary.l0 k x0 2 x225000 x225001 bt225.1 x225003 x225004 bt225.2 x225006) else (if x4 = 2 then (ndjqref18_Summary.l0 k x0 3 x225000 x225001 x225002 bt225.1 x225004 x225005 bt225.2) else (none))))) else (some (x225000, x225001, x225002, x225003, x225004, x225005, x225006))
def ndjqref18_Summary.f (k : Nat) (a0 : ByteArray) : Option (Int × Int × Int × Int × List Int × List Int × List Int) := ndjqref18_Summary.l0 k a0 0 (a0.size : Int) 0 0 0 ([] : List Int) ([] : List Int) ([] : List Int)
theorem ndjqref18_Summary.mono_l : ∀ k, (∀ y0 y1 y2 y3 y4 y5 y6 y7 y8, LeO (ndjqref18_Summary.l0 k y0 y1 y2 y3 y4 y5 y6 y7 y8) (ndjqref18_Summary.l0 (k + 1) y0 y1 y2 y3 y4 y5 y6 y7 y8))
 | 0 => fun _ _ _ _ _ _ _ _ _ r h => by simp [ndjqref18_Summary.l0] at h
 | k + 1 => by
  have ih0 := ndjqref18_Summary.mono_l k
  ·intro y0 y1 y2 y3 y4 y5 y6 y7 y8
   unfold ndjqref18_Summary.l0
   repeat' first
   | (with_reducible exact ih0 _ _ _ _ _ _ _ _ _)
   | (with_reducible exact ndjqref18_Read.mono _ _ _)
   | (with_reducible exact LeO.refl _)
   | (with_reducible exact LeO.none _)
   | (with_reducible refine LeO.ite ?_ ?_)
   | (with_reducible refine LeO.bind ?_ (fun _ => ?_))
   | exact ih0 _ _ _ _ _ _ _ _ _
   | exact ndjqref18_Read.mono _ _ _
   | exact LeO.none _
   | refine LeO.ite ?_ ?_
   | refine LeO.bind ?_ (fun _ => ?_)
theorem ndjqref18_Summary.mono : ∀ a0 k, LeO (ndjqref18_Summary.f k a0) (ndjqref18_Summary.f (k + 1) a0) := by
 intro a0 k
 have ih0 := ndjqref18_Summary.mono_l k
 unfold ndjqref18_Summary.f
 repeat' first
   | (with_reducible exact ih0 _ _ _ _ _ _ _ _ _)
   | (with_reducible exact ndjqref18_Read.mono _ _ _)
   | (with_reducible exact LeO.refl _)
   | (with_reducible exact LeO.none _)
   | (with_reducible refine LeO.ite ?_ ?_)
   | (with_reducible refine LeO.bind ?_ (fun _ => ?_))
   | exact ih0 _ _ _ _ _ _ _ _ _
   | exact ndjqref18_Read.mono _ _ _
   | exact LeO.none _
   | refine LeO.ite ?_ ?_
   | refine LeO.bind ?_ (fun _ => ?_)
set_option maxHeartbeats 8000000 in
set_option maxRecDepth 100000 in
theorem ndjqref18_Summary.calls (k : Nat) (a0 : ByteArray) (r1 : Int) (r2 : Int) (r3 : Int) (r4 : Int) (r5 : List Int) (r6 : List Int) (r7 : List Int) (w : World) (h : ndjqref18_Summary.f k a0 = some (r1, r2, r3, r4, r5, r6, r7)) :
  Calls Tryd.prog 32 #[.string a0] w fun e w' => ∃ v4_ v5_ v6_ : Value, e = .returned (.agg #[.int .i64 r1, .int .i64 r2, .int .i64 r3, .int .i64 r4, v4_, v5_, v6_]) ∧ Kd.R (Kd.int .i64) 3 w' w.heap.size (fun k_ => some k_ ≠ (v5_ : Value).ownBlock ∧ some k_ ≠ (v6_ : Value).ownBlock) v4_ r5 ∧ Kd.R (Kd.int .i64) 3 w' w.heap.size (fun k_ => some k_ ≠ (v4_ : Value).ownBlock ∧ some k_ ≠ (v6_ : Value).ownBlock) v5_ r6 ∧ Kd.R (Kd.int .i64) 3 w' w.heap.size (fun k_ => some k_ ≠ (v4_ : Value).ownBlock ∧ some k_ ≠ (v5_ : Value).ownBlock) v6_ r7 ∧ Below w.heap.size w w' := by
 have hu26 := Tryd.underlying26
 have HB := Aside0.mk (Below.refl w.heap.size w)
 have H : (ndjqref18_Summary.l0 k a0 0 (a0.size : Int) 0 0 0 ([] : List Int) ([] : List Int) ([] : List Int)) = some (r1, r2, r3, r4, r5, r6, r7) := h
 clear h
 have H' := Aside0.mk H
 clear H
 go_enter Tryd.func32, Tryd.ntmps32
 go_wp2_with (first | ((with_reducible refine gate_dst (N := 2) rfl ?_); refine box_event ?hg (N := 2) ?hd (cs := #[.int .i64 0, .int .i64 0, .int .i64 0, .int .i64 0, .slice none 0 0, .slice none 0 0, .slice none 0 0]) (t := 26) ?hr ?_; (case hd => rfl); (case hg => rfl); (case hr => first | (go_simp; done) | (go_simp; rfl)); intro gb223 hg w2 hbox hb; have n0_ := Aside0.mk (below_step (by repeat (first | (with_reducible first | exact HB.out | apply wA | apply wN | apply wD) | exact HB.out)) hb); have n1_ := Aside0.mk (hbox); have n2_ := Aside0.mk ((by rw [hg]; exact (below_size (by repeat (first | (with_reducible first | exact HB.out | apply wA | apply wN | apply wD) | exact HB.out))) : w.heap.size ≤ gb223)); have n3_ := n2_; clear HB; have HB := n0_; have BK223 := n1_; have GW223 := n2_; have GE223 := n3_; clear n0_ n1_ n2_ n3_; clear hb hbox hg) | ((with_reducible refine gate_dst (N := 3) rfl ?_); refine box_event ?hg (N := 3) ?hd (cs := #[.int .i64 0, .int .i64 0, .int .i64 0, .int .i64 0, .slice none 0 0, .slice none 0 0, .slice none 0 0]) (t := 26) ?hr ?_; (case hd => rfl); (case hg => rfl); (case hr => first | (go_simp; done) | (go_simp; rfl)); intro gb224 hg w3 hbox hb; have n0_ := Aside0.mk (blk_below (g := gb223) (o := .cells #[.int .i64 0, .int .i64 0, .int .i64 0, .int .i64 0, .slice none 0 0, .slice none 0 0, .slice none 0 0] 26 (0, 0)) (by (with_reducible repeat (first | refine bN ?_ _ | refine bD ?_ | refine bA ?_ _)); exact BK223.out) hb); have n1_ := Aside0.mk (below_step (by repeat (first | (with_reducible first | exact HB.out | apply wA | apply wN | apply wD | refine wS ?_ GE223.out) | exact HB.out)) hb); have n2_ := Aside0.mk (hbox); have n3_ := Aside0.mk ((by rw [hg]; exact (below_size (by repeat (first | (with_reducible first | exact HB.out | apply wA | apply wN | apply wD | refine wS ?_ GE223.out) | exact HB.out))) : w.heap.size ≤ gb224)); have n4_ := n3_; have n5_ := Aside0.mk ((by rw [hg]; exact Nat.ne_of_lt (blk_lt (g := gb223) (o := .cells #[.int .i64 0, .int .i64 0, .int .i64 0, .int .i64 0, .slice none 0 0, .slice none 0 0, .slice none 0 0] 26 (0, 0)) (by (with_reducible repeat (first | refine bN ?_ _ | refine bD ?_ | refine bA ?_ _)); exact BK223.out)) : gb223 ≠ gb224)); have n6_ := Aside0.mk ((by rw [hg]; exact Nat.ne_of_gt (blk_lt (g := gb223) (o := .cells #[.int .i64 0, .int .i64 0, .int .i64 0, .int .i64 0, .slice none 0 0, .slice none 0 0, .slice none 0 0] 26 (0, 0)) (by (with_reducible repeat (first | refine bN ?_ _ | refine bD ?_ | refine bA ?_ _)); exact BK223.out)) : gb224 ≠ gb223)); clear BK223; clear HB; have BK223 := n0_; have HB := n1_; have BK224 := n2_; have GW224 := n3_; have GE224 := n4_; have NB223_224 := n5_; have NB224_223 := n6_; clear n0_ n1_ n2_ n3_ n4_ n5_ n6_; clear hb hbox hg; have hnb4 := NB224_223.out; have hnc4 := NB223_224.out; have hcz5_0 : w3.cell? ⟨gb224, 0, none⟩ = some (.int .i64 0) := (blk_cell BK224.out 0).trans rfl; have hcz5_1 : w3.cell? ⟨gb224, 1, none⟩ = some (.int .i64 0) := (blk_cell BK224.out 1).trans rfl; have hcz5_2 : w3.cell? ⟨gb224, 2, none⟩ = some (.int .i64 0) := (blk_cell BK224.out 2).trans rfl; have hcz5_3 : w3.cell? ⟨gb224, 3, none⟩ = some (.int .i64 0) := (blk_cell BK224.out 3).trans rfl; have hcz5_4 : w3.cell? ⟨gb224, 4, none⟩ = some (.slice none 0 0) := (blk_cell BK224.out 4).trans rfl; have hcz5_5 : w3.cell? ⟨gb224, 5, none⟩ = some (.slice none 0 0) := (blk_cell BK224.out 5).trans rfl; have hcz5_6 : w3.cell? ⟨gb224, 6, none⟩ = some (.slice none 0 0) := (blk_cell BK224.out 6).trans rfl; have hfz5_0 := blk_frozen BK224.out 0; have hfz5_1 := blk_frozen BK224.out 1; have hfz5_2 := blk_frozen BK224.out 2; have hfz5_3 := blk_frozen BK224.out 3; have hfz5_4 := blk_frozen BK224.out 4; have hfz5_5 := blk_frozen BK224.out 5; have hfz5_6 := blk_frozen BK224.out 6))
 go_loopg [4] k (fun kq v4 w' => ∃ (x4_1 : Int) (x225001_1 : Int) (x225002_1 : Int) (x225003_1 : Int) (x225004_1 : List Int) (x225005_1 : List Int) (x225006_1 : List Int) (u225004 : Value) (u225005 : Value) (u225006 : Value), v4 = .int .i64 x4_1 ∧ Aside0 (ndjqref18_Summary.l0 kq a0 x4_1 (a0.size : Int) x225001_1 x225002_1 x225003_1 x225004_1 x225005_1 x225006_1 = some (r1, r2, r3, r4, r5, r6, r7)) ∧ Aside0 (kq ≤ k) ∧ Aside0 (Kd.R (Kd.int .i64) 3 w' w.heap.size (fun k_ => some k_ ≠ (u225005 : Value).ownBlock ∧ some k_ ≠ (u225006 : Value).ownBlock) u225004 x225004_1) ∧ Aside0 (Kd.R (Kd.int .i64) 3 w' w.heap.size (fun k_ => some k_ ≠ (u225004 : Value).ownBlock ∧ some k_ ≠ (u225006 : Value).ownBlock) u225005 x225005_1) ∧ Aside0 (Kd.R (Kd.int .i64) 3 w' w.heap.size (fun k_ => some k_ ≠ (u225004 : Value).ownBlock ∧ some k_ ≠ (u225005 : Value).ownBlock) u225006 x225006_1) ∧ Aside0 (w'.heap[gb223]? = some (.cells #[.int .i64 0, .int .i64 0, .int .i64 0, .int .i64 0, (.slice none 0 0), (.slice none 0 0), (.slice none 0 0)] 26 (0, 0))) ∧ Aside0 (w'.heap[gb224]? = some (.cells #[.int .i64 (a0.size : Int), .int .i64 x225001_1, .int .i64 x225002_1, .int .i64 x225003_1, u225004, u225005, u225006] 26 (0, 0))) ∧ Aside0 (Below w.heap.size w w'))
 case atStart => exact ⟨(0), (0), (0), (0), (([] : List Int)), (([] : List Int)), (([] : List Int)), (.slice none 0 0), (.slice none 0 0), (.slice none 0 0), (by first | rfl | (simp; done) | (simp [*]; done)), H', ⟨Nat.le_refl _⟩, ⟨by first | exact Kd.R_nil _ _ _ _ _ | exact Kd.N_nil _ _ _ _ _ | exact Kd.V_nil _ _ _ _ _ | exact Kd.Q_nil _ _ _ _ _ | exact Kd.S_nil _ _ _ _ _⟩, ⟨by first | exact Kd.R_nil _ _ _ _ _ | exact Kd.N_nil _ _ _ _ _ | exact Kd.V_nil _ _ _ _ _ | exact Kd.Q_nil _ _ _ _ _ | exact Kd.S_nil _ _ _ _ _⟩, ⟨by first | exact Kd.R_nil _ _ _ _ _ | exact Kd.N_nil _ _ _ _ _ | exact Kd.V_nil _ _ _ _ _ | exact Kd.Q_nil _ _ _ _ _ | exact Kd.S_nil _ _ _ _ _⟩, ⟨by (with_reducible repeat (first | refine bN ?_ _ | refine bD ?_ | refine bA ?_ _ | refine blk_far ?_ NB223_224.out _)); exact BK223.out⟩, ⟨by (with_reducible repeat (first | refine bN ?_ _ | refine bD ?_ | refine bA ?_ _)); refine blk_put (cs := #[.int .i64 (a0.size : Int), .int .i64 0, .int .i64 0, .int .i64 0, .slice none 0 0, .slice none 0 0, .slice none 0 0]) ?_ 6 _ rfl; (with_reducible repeat (first | refine bN ?_ _ | refine bD ?_ | refine bA ?_ _)); refine blk_put (cs := #[.int .i64 (a0.size : Int), .int .i64 0, .int .i64 0, .int .i64 0, .slice none 0 0, .slice none 0 0, .slice none 0 0]) ?_ 5 _ rfl; (with_reducible repeat (first | refine bN ?_ _ | refine bD ?_ | refine bA ?_ _)); refine blk_put (cs := #[.int .i64 (a0.size : Int), .int .i64 0, .int .i64 0, .int .i64 0, .slice none 0 0, .slice none 0 0, .slice none 0 0]) ?_ 4 _ rfl; (with_reducible repeat (first | refine bN ?_ _ | refine bD ?_ | refine bA ?_ _)); refine blk_put (cs := #[.int .i64 (a0.size : Int), .int .i64 0, .int .i64 0, .int .i64 0, .slice none 0 0, .slice none 0 0, .slice none 0 0]) ?_ 3 _ rfl; (with_reducible repeat (first | refine bN ?_ _ | refine bD ?_ | refine bA ?_ _)); refine blk_put (cs := #[.int .i64 (a0.size : Int), .int .i64 0, .int .i64 0, .int .i64 0, .slice none 0 0, .slice none 0 0, .slice none 0 0]) ?_ 2 _ rfl; (with_reducible repeat (first | refine bN ?_ _ | refine bD ?_ | refine bA ?_ _)); refine blk_put (cs := #[.int .i64 (a0.size : Int), .int .i64 0, .int .i64 0, .int .i64 0, .slice none 0 0, .slice none 0 0, .slice none 0 0]) ?_ 1 _ rfl; (with_reducible repeat (first | refine bN ?_ _ | refine bD ?_ | refine bA ?_ _)); refine blk_put (cs := #[.int .i64 0, .int .i64 0, .int .i64 0, .int .i64 0, .slice none 0 0, .slice none 0 0, .slice none 0 0]) ?_ 0 _ rfl; (with_reducible repeat (first | refine bN ?_ _ | refine bD ?_ | refine bA ?_ _)); exact BK224.out⟩, ⟨by repeat (first | (with_reducible first | exact HB.out | apply wA | apply wN | apply wD | refine wS ?_ GE223.out | refine wS ?_ GE224.out) | exact HB.out)⟩⟩
 case round =>
  clear H'
  (try clear p2); (try clear c3); (try clear c4); (try clear hcz5_0); (try clear hcz5_1); (try clear hcz5_2); (try clear hcz5_3); (try clear hcz5_4); (try clear hcz5_5); (try clear hcz5_6); (try clear hfz5_0); (try clear hfz5_1); (try clear hfz5_2); (try clear hfz5_3); (try clear hfz5_4); (try clear hfz5_5); (try clear hfz5_6)
  obtain ⟨x4_1, x225001_1, x225002_1, x225003_1, x225004_1, x225005_1, x225006_1, u225004, u225005, u225006, rfl, HA, HK1, HO_225004, HO_225005, HO_225006, BK223, BK224, HB⟩ := hrel
  cases gk with
  | zero => exact absurd HA.out (by simp [ndjqref18_Summary.l0])
  | succ k1 =>
   have H := HA.out
   clear HA
   simp only [ndjqref18_Summary.l0] at H
   by_cases c6 : x4_1 < 3
   ·rw [if_pos c6] at H
    have c6b0 : decide (x4_1 < 3) = true := decide_eq_true c6
    clear c6
    replace H := Option.bind_eq_some_iff.mp H
    obtain ⟨⟨t225, t226⟩, A70, H⟩ := H
    replace H : (if x4_1 = 0 then (ndjqref18_Summary.l0 k1 a0 1 (a0.size : Int) t225 x225002_1 x225003_1 t226 x225005_1 x225006_1) else (if x4_1 = 1 then (ndjqref18_Summary.l0 k1 a0 2 (a0.size : Int) x225001_1 t225 x225003_1 x225004_1 t226 x225006_1) else (if x4_1 = 2 then (ndjqref18_Summary.l0 k1 a0 3 (a0.size : Int) x225001_1 x225002_1 t225 x225004_1 x225005_1 t226) else (none)))) = some (r1, r2, r3, r4, r5, r6, r7) := H
    have A7 := Aside0.mk A70
    clear A70
    by_cases c8 : x4_1 = 0
    ·subst c8
     have H1 : (ndjqref18_Summary.l0 k1 a0 1 (a0.size : Int) t225 x225002_1 x225003_1 t226 x225005_1 x225006_1) = some (r1, r2, r3, r4, r5, r6, r7) := by rw [if_pos rfl] at H; exact H
     clear H; have H := H1; clear H1
     have H' := Aside0.mk H
     clear H
     go_wp2_with (first | ((with_reducible refine gate_callee (f := 42) rfl ?_); refine goesL_ (some 17) rfl rfl Tryd.func42 (by kernel_rfl) rfl #[.int .i64 0, .string a0] rfl (by (try simp only [List.map_toArray, List.map_cons, List.map_nil]); first | done | rfl | (simp only [List.length_drop, List.length_take]; rfl)) ?_; (with_reducible refine (ndjqref18_Read.calls k1 0 a0 t225 t226 _ A7.out).mono ?_); rintro e w9 ⟨v227, rfl, ho0, hb⟩; refine ⟨_, rfl, ?_⟩; have n0_ := Aside0.mk (Kd.R_elder' (by (with_reducible repeat (first | apply rA | apply rN | apply rD)); exact HO_225004.out) (Kd.R_base ho0) hb); have n1_ := Aside0.mk (Kd.R_elder' (by (with_reducible repeat (first | apply rA | apply rN | apply rD)); exact HO_225005.out) (Kd.R_base ho0) hb); have n2_ := Aside0.mk (Kd.R_elder' (by (with_reducible repeat (first | apply rA | apply rN | apply rD)); exact HO_225006.out) (Kd.R_base ho0) hb); have n3_ := Aside0.mk (Kd.R_lower (Kd.R_new' (Kd.R_new' (Kd.R_new' ho0 (Kd.R_lt (by (with_reducible repeat (first | apply rA | apply rN | apply rD)); exact HO_225004.out))) (Kd.R_lt (by (with_reducible repeat (first | apply rA | apply rN | apply rD)); exact HO_225005.out))) (Kd.R_lt (by (with_reducible repeat (first | apply rA | apply rN | apply rD)); exact HO_225006.out))) (below_size (by repeat (first | (with_reducible first | exact HB.out | apply wA | apply wN | apply wD | refine wS ?_ GE223.out | refine wS ?_ GE224.out) | exact HB.out)))); have n4_ := Aside0.mk (blk_below (g := gb223) (o := .cells #[.int .i64 0, .int .i64 0, .int .i64 0, .int .i64 0, .slice none 0 0, .slice none 0 0, .slice none 0 0] 26 (0, 0)) (by (with_reducible repeat (first | refine bN ?_ _ | refine bD ?_ | refine bA ?_ _)); exact BK223.out) hb); have n5_ := Aside0.mk (blk_below (g := gb224) (o := .cells #[.int .i64 (a0.size : Int), .int .i64 x225001_1, .int .i64 x225002_1, .int .i64 x225003_1, u225004, u225005, u225006] 26 (0, 0)) (by (with_reducible repeat (first | refine bN ?_ _ | refine bD ?_ | refine bA ?_ _)); exact BK224.out) hb); have n6_ := Aside0.mk (below_step (by repeat (first | (with_reducible first | exact HB.out | apply wA | apply wN | apply wD | refine wS ?_ GE223.out | refine wS ?_ GE224.out) | exact HB.out)) hb); clear HO_225004; clear HO_225005; clear HO_225006; clear BK223; clear BK224; clear HB; have HO_225004 := n0_; have HO_225005 := n1_; have HO_225006 := n2_; have HO228 := n3_; have BK223 := n4_; have BK224 := n5_; have HB := n6_; clear n0_ n1_ n2_ n3_ n4_ n5_ n6_; (try clear hb); (try clear hb2); (try clear hk); (try clear hi); (try clear ho0); have hnb10 := NB224_223.out; have hnc10 := NB223_224.out; have hcz11_0 : w9.cell? ⟨gb224, 0, none⟩ = some (.int .i64 (a0.size : Int)) := (blk_cell BK224.out 0).trans rfl; have hcz11_1 : w9.cell? ⟨gb224, 1, none⟩ = some (.int .i64 x225001_1) := (blk_cell BK224.out 1).trans rfl; have hcz11_2 : w9.cell? ⟨gb224, 2, none⟩ = some (.int .i64 x225002_1) := (blk_cell BK224.out 2).trans rfl; have hcz11_3 : w9.cell? ⟨gb224, 3, none⟩ = some (.int .i64 x225003_1) := (blk_cell BK224.out 3).trans rfl; have hcz11_4 : w9.cell? ⟨gb224, 4, none⟩ = some (u225004) := (blk_cell BK224.out 4).trans rfl; have hcz11_5 : w9.cell? ⟨gb224, 5, none⟩ = some (u225005) := (blk_cell BK224.out 5).trans rfl; have hcz11_6 : w9.cell? ⟨gb224, 6, none⟩ = some (u225006) := (blk_cell BK224.out 6).trans rfl; have hfz11_0 := blk_frozen BK224.out 0; have hfz11_1 := blk_frozen BK224.out 1; have hfz11_2 := blk_frozen BK224.out 2; have hfz11_3 := blk_frozen BK224.out 3; have hfz11_4 := blk_frozen BK224.out 4; have hfz11_5 := blk_frozen BK224.out 5; have hfz11_6 := blk_frozen BK224.out 6; obtain ⟨Ao12, co12, eo12⟩ := Kd.R_slice HO228.out; subst eo12))
     go_roundg k1
     case measure => have := HK1.out; omega
     case rel => exact ⟨(1), (t225), (x225002_1), (x225003_1), (t226), (x225005_1), (x225006_1), (.slice Ao12 t226.length co12), (u225005), (u225006), (by first | rfl | (simp; done) | (simp [*]; done)), H', ⟨by have := HK1.out; omega⟩, ⟨by (with_reducible repeat (first | apply rA | apply rN | apply rD)); exact Kd.R_mono (Kd.R_far (p := ⟨gb224, 4, none⟩) (Kd.R_far (p := ⟨gb224, 1, none⟩) (Kd.R_types HO228.out BK224.out (by decide)) (fun _ hk => hk.2) (.int .i64 t225)) (fun _ hk => hk.2) (.slice Ao12 t226.length co12)) (fun _ hk => ⟨hk.1.1.2, hk.1.2⟩)⟩, ⟨by (with_reducible repeat (first | apply rA | apply rN | apply rD)); exact Kd.R_mono (Kd.R_far (p := ⟨gb224, 4, none⟩) (Kd.R_far (p := ⟨gb224, 1, none⟩) (Kd.R_types HO_225005.out BK224.out (by decide)) (fun _ hk => hk.2) (.int .i64 t225)) (fun _ hk => hk.2) (.slice Ao12 t226.length co12)) (fun _ hk => ⟨hk.1.2, hk.1.1.2⟩)⟩, ⟨by (with_reducible repeat (first | apply rA | apply rN | apply rD)); exact Kd.R_mono (Kd.R_far (p := ⟨gb224, 4, none⟩) (Kd.R_far (p := ⟨gb224, 1, none⟩) (Kd.R_types HO_225006.out BK224.out (by decide)) (fun _ hk => hk.2) (.int .i64 t225)) (fun _ hk => hk.2) (.slice Ao12 t226.length co12)) (fun _ hk => ⟨hk.1.2, hk.1.1.2⟩)⟩, ⟨by (with_reducible repeat (first | refine bN ?_ _ | refine bD ?_ | refine bA ?_ _ | refine blk_far ?_ NB223_224.out _)); exact BK223.out⟩, ⟨by (with_reducible repeat (first | refine bN ?_ _ | refine bD ?_ | refine bA ?_ _)); refine blk_put (cs := #[.int .i64 (a0.size : Int), .int .i64 t225, .int .i64 x225002_1, .int .i64 x225003_1, u225004, u225005, u225006]) ?_ 4 _ rfl; (with_reducible repeat (first | refine bN ?_ _ | refine bD ?_ | refine bA ?_ _)); refine blk_put (cs := #[.int .i64 (a0.size : Int), .int .i64 x225001_1, .int .i64 x225002_1, .int .i64 x225003_1, u225004, u225005, u225006]) ?_ 1 _ rfl; (with_reducible repeat (first | refine bN ?_ _ | refine bD ?_ | refine bA ?_ _)); exact BK224.out⟩, ⟨by repeat (first | (with_reducible first | exact HB.out | apply wA | apply wN | apply wD | refine wS ?_ GE223.out | refine wS ?_ GE224.out) | exact HB.out)⟩⟩
    ·rw [if_neg c8] at H
     by_cases c13 : x4_1 = 1
     ·subst c13
      have H1 : (ndjqref18_Summary.l0 k1 a0 2 (a0.size : Int) x225001_1 t225 x225003_1 x225004_1 t226 x225006_1) = some (r1, r2, r3, r4, r5, r6, r7) := by rw [if_pos rfl] at H; exact H
      clear H; have H := H1; clear H1
      have H' := Aside0.mk H
      clear H
      go_wp2_with (first | ((with_reducible refine gate_callee (f := 42) rfl ?_); refine goesL_ (some 17) rfl rfl Tryd.func42 (by kernel_rfl) rfl #[.int .i64 1, .string a0] rfl (by (try simp only [List.map_toArray, List.map_cons, List.map_nil]); first | done | rfl | (simp only [List.length_drop, List.length_take]; rfl)) ?_; (with_reducible refine (ndjqref18_Read.calls k1 1 a0 t225 t226 _ A7.out).mono ?_); rintro e w14 ⟨v227, rfl, ho0, hb⟩; refine ⟨_, rfl, ?_⟩; have n0_ := Aside0.mk (Kd.R_elder' (by (with_reducible repeat (first | apply rA | apply rN | apply rD)); exact HO_225004.out) (Kd.R_base ho0) hb); have n1_ := Aside0.mk (Kd.R_elder' (by (with_reducible repeat (first | apply rA | apply rN | apply rD)); exact HO_225005.out) (Kd.R_base ho0) hb); have n2_ := Aside0.mk (Kd.R_elder' (by (with_reducible repeat (first | apply rA | apply rN | apply rD)); exact HO_225006.out) (Kd.R_base ho0) hb); have n3_ := Aside0.mk (Kd.R_lower (Kd.R_new' (Kd.R_new' (Kd.R_new' ho0 (Kd.R_lt (by (with_reducible repeat (first | apply rA | apply rN | apply rD)); exact HO_225004.out))) (Kd.R_lt (by (with_reducible repeat (first | apply rA | apply rN | apply rD)); exact HO_225005.out))) (Kd.R_lt (by (with_reducible repeat (first | apply rA | apply rN | apply rD)); exact HO_225006.out))) (below_size (by repeat (first | (with_reducible first | exact HB.out | apply wA | apply wN | apply wD | refine wS ?_ GE223.out | refine wS ?_ GE224.out) | exact HB.out)))); have n4_ := Aside0.mk (blk_below (g := gb223) (o := .cells #[.int .i64 0, .int .i64 0, .int .i64 0, .int .i64 0, .slice none 0 0, .slice none 0 0, .slice none 0 0] 26 (0, 0)) (by (with_reducible repeat (first | refine bN ?_ _ | refine bD ?_ | refine bA ?_ _)); exact BK223.out) hb); have n5_ := Aside0.mk (blk_below (g := gb224) (o := .cells #[.int .i64 (a0.size : Int), .int .i64 x225001_1, .int .i64 x225002_1, .int .i64 x225003_1, u225004, u225005, u225006] 26 (0, 0)) (by (with_reducible repeat (first | refine bN ?_ _ | refine bD ?_ | refine bA ?_ _)); exact BK224.out) hb); have n6_ := Aside0.mk (below_step (by repeat (first | (with_reducible first | exact HB.out | apply wA | apply wN | apply wD | refine wS ?_ GE223.out | refine wS ?_ GE224.out) | exact HB.out)) hb); clear HO_225004; clear HO_225005; clear HO_225006; clear BK223; clear BK224; clear HB; have HO_225004 := n0_; have HO_225005 := n1_; have HO_225006 := n2_; have HO228 := n3_; have BK223 := n4_; have BK224 := n5_; have HB := n6_; clear n0_ n1_ n2_ n3_ n4_ n5_ n6_; (try clear hb); (try clear hb2); (try clear hk); (try clear hi); (try clear ho0); have hnb15 := NB224_223.out; have hnc15 := NB223_224.out; have hcz16_0 : w14.cell? ⟨gb224, 0, none⟩ = some (.int .i64 (a0.size : Int)) := (blk_cell BK224.out 0).trans rfl; have hcz16_1 : w14.cell? ⟨gb224, 1, none⟩ = some (.int .i64 x225001_1) := (blk_cell BK224.out 1).trans rfl; have hcz16_2 : w14.cell? ⟨gb224, 2, none⟩ = some (.int .i64 x225002_1) := (blk_cell BK224.out 2).trans rfl; have hcz16_3 : w14.cell? ⟨gb224, 3, none⟩ = some (.int .i64 x225003_1) := (blk_cell BK224.out 3).trans rfl; have hcz16_4 : w14.cell? ⟨gb224, 4, none⟩ = some (u225004) := (blk_cell BK224.out 4).trans rfl; have hcz16_5 : w14.cell? ⟨gb224, 5, none⟩ = some (u225005) := (blk_cell BK224.out 5).trans rfl; have hcz16_6 : w14.cell? ⟨gb224, 6, none⟩ = some (u225006) := (blk_cell BK224.out 6).trans rfl; have hfz16_0 := blk_frozen BK224.out 0; have hfz16_1 := blk_frozen BK224.out 1; have hfz16_2 := blk_frozen BK224.out 2; have hfz16_3 := blk_frozen BK224.out 3; have hfz16_4 := blk_frozen BK224.out 4; have hfz16_5 := blk_frozen BK224.out 5; have hfz16_6 := blk_frozen BK224.out 6; obtain ⟨Ao17, co17, eo17⟩ := Kd.R_slice HO228.out; subst eo17))
      go_roundg k1
      case measure => have := HK1.out; omega
      case rel => exact ⟨(2), (x225001_1), (t225), (x225003_1), (x225004_1), (t226), (x225006_1), (u225004), (.slice Ao17 t226.length co17), (u225006), (by first | rfl | (simp; done) | (simp [*]; done)), H', ⟨by have := HK1.out; omega⟩, ⟨by (with_reducible repeat (first | apply rA | apply rN | apply rD)); exact Kd.R_mono (Kd.R_far (p := ⟨gb224, 5, none⟩) (Kd.R_far (p := ⟨gb224, 2, none⟩) (Kd.R_types HO_225004.out BK224.out (by decide)) (fun _ hk => hk.2) (.int .i64 t225)) (fun _ hk => hk.2) (.slice Ao17 t226.length co17)) (fun _ hk => ⟨hk.1.2, hk.1.1.2⟩)⟩, ⟨by (with_reducible repeat (first | apply rA | apply rN | apply rD)); exact Kd.R_mono (Kd.R_far (p := ⟨gb224, 5, none⟩) (Kd.R_far (p := ⟨gb224, 2, none⟩) (Kd.R_types HO228.out BK224.out (by decide)) (fun _ hk => hk.2) (.int .i64 t225)) (fun _ hk => hk.2) (.slice Ao17 t226.length co17)) (fun _ hk => ⟨hk.1.1.1.2, hk.1.2⟩)⟩, ⟨by (with_reducible repeat (first | apply rA | apply rN | apply rD)); exact Kd.R_mono (Kd.R_far (p := ⟨gb224, 5, none⟩) (Kd.R_far (p := ⟨gb224, 2, none⟩) (Kd.R_types HO_225006.out BK224.out (by decide)) (fun _ hk => hk.2) (.int .i64 t225)) (fun _ hk => hk.2) (.slice Ao17 t226.length co17)) (fun _ hk => ⟨hk.1.1.1, hk.1.2⟩)⟩, ⟨by (with_reducible repeat (first | refine bN ?_ _ | refine bD ?_ | refine bA ?_ _ | refine blk_far ?_ NB223_224.out _)); exact BK223.out⟩, ⟨by (with_reducible repeat (first | refine bN ?_ _ | refine bD ?_ | refine bA ?_ _)); refine blk_put (cs := #[.int .i64 (a0.size : Int), .int .i64 x225001_1, .int .i64 t225, .int .i64 x225003_1, u225004, u225005, u225006]) ?_ 5 _ rfl; (with_reducible repeat (first | refine bN ?_ _ | refine bD ?_ | refine bA ?_ _)); refine blk_put (cs := #[.int .i64 (a0.size : Int), .int .i64 x225001_1, .int .i64 x225002_1, .int .i64 x225003_1, u225004, u225005, u225006]) ?_ 2 _ rfl; (with_reducible repeat (first | refine bN ?_ _ | refine bD ?_ | refine bA ?_ _)); exact BK224.out⟩, ⟨by repeat (first | (with_reducible first | exact HB.out | apply wA | apply wN | apply wD | refine wS ?_ GE223.out | refine wS ?_ GE224.out) | exact HB.out)⟩⟩
     ·rw [if_neg c13] at H
      by_cases c18 : x4_1 = 2
      ·subst c18
       have H1 : (ndjqref18_Summary.l0 k1 a0 3 (a0.size : Int) x225001_1 x225002_1 t225 x225004_1 x225005_1 t226) = some (r1, r2, r3, r4, r5, r6, r7) := by rw [if_pos rfl] at H; exact H
       clear H; have H := H1; clear H1
       have H' := Aside0.mk H
       clear H
       go_wp2_with (first | ((with_reducible refine gate_callee (f := 42) rfl ?_); refine goesL_ (some 17) rfl rfl Tryd.func42 (by kernel_rfl) rfl #[.int .i64 2, .string a0] rfl (by (try simp only [List.map_toArray, List.map_cons, List.map_nil]); first | done | rfl | (simp only [List.length_drop, List.length_take]; rfl)) ?_; (with_reducible refine (ndjqref18_Read.calls k1 2 a0 t225 t226 _ A7.out).mono ?_); rintro e w19 ⟨v227, rfl, ho0, hb⟩; refine ⟨_, rfl, ?_⟩; have n0_ := Aside0.mk (Kd.R_elder' (by (with_reducible repeat (first | apply rA | apply rN | apply rD)); exact HO_225004.out) (Kd.R_base ho0) hb); have n1_ := Aside0.mk (Kd.R_elder' (by (with_reducible repeat (first | apply rA | apply rN | apply rD)); exact HO_225005.out) (Kd.R_base ho0) hb); have n2_ := Aside0.mk (Kd.R_elder' (by (with_reducible repeat (first | apply rA | apply rN | apply rD)); exact HO_225006.out) (Kd.R_base ho0) hb); have n3_ := Aside0.mk (Kd.R_lower (Kd.R_new' (Kd.R_new' (Kd.R_new' ho0 (Kd.R_lt (by (with_reducible repeat (first | apply rA | apply rN | apply rD)); exact HO_225004.out))) (Kd.R_lt (by (with_reducible repeat (first | apply rA | apply rN | apply rD)); exact HO_225005.out))) (Kd.R_lt (by (with_reducible repeat (first | apply rA | apply rN | apply rD)); exact HO_225006.out))) (below_size (by repeat (first | (with_reducible first | exact HB.out | apply wA | apply wN | apply wD | refine wS ?_ GE223.out | refine wS ?_ GE224.out) | exact HB.out)))); have n4_ := Aside0.mk (blk_below (g := gb223) (o := .cells #[.int .i64 0, .int .i64 0, .int .i64 0, .int .i64 0, .slice none 0 0, .slice none 0 0, .slice none 0 0] 26 (0, 0)) (by (with_reducible repeat (first | refine bN ?_ _ | refine bD ?_ | refine bA ?_ _)); exact BK223.out) hb); have n5_ := Aside0.mk (blk_below (g := gb224) (o := .cells #[.int .i64 (a0.size : Int), .int .i64 x225001_1, .int .i64 x225002_1, .int .i64 x225003_1, u225004, u225005, u225006] 26 (0, 0)) (by (with_reducible repeat (first | refine bN ?_ _ | refine bD ?_ | refine bA ?_ _)); exact BK224.out) hb); have n6_ := Aside0.mk (below_step (by repeat (first | (with_reducible first | exact HB.out | apply wA | apply wN | apply wD | refine wS ?_ GE223.out | refine wS ?_ GE224.out) | exact HB.out)) hb); clear HO_225004; clear HO_225005; clear HO_225006; clear BK223; clear BK224; clear HB; have HO_225004 := n0_; have HO_225005 := n1_; have HO_225006 := n2_; have HO228 := n3_; have BK223 := n4_; have BK224 := n5_; have HB := n6_; clear n0_ n1_ n2_ n3_ n4_ n5_ n6_; (try clear hb); (try clear hb2); (try clear hk); (try clear hi); (try clear ho0); have hnb20 := NB224_223.out; have hnc20 := NB223_224.out; have hcz21_0 : w19.cell? ⟨gb224, 0, none⟩ = some (.int .i64 (a0.size : Int)) := (blk_cell BK224.out 0).trans rfl; have hcz21_1 : w19.cell? ⟨gb224, 1, none⟩ = some (.int .i64 x225001_1) := (blk_cell BK224.out 1).trans rfl; have hcz21_2 : w19.cell? ⟨gb224, 2, none⟩ = some (.int .i64 x225002_1) := (blk_cell BK224.out 2).trans rfl; have hcz21_3 : w19.cell? ⟨gb224, 3, none⟩ = some (.int .i64 x225003_1) := (blk_cell BK224.out 3).trans rfl; have hcz21_4 : w19.cell? ⟨gb224, 4, none⟩ = some (u225004) := (blk_cell BK224.out 4).trans rfl; have hcz21_5 : w19.cell? ⟨gb224, 5, none⟩ = some (u225005) := (blk_cell BK224.out 5).trans rfl; have hcz21_6 : w19.cell? ⟨gb224, 6, none⟩ = some (u225006) := (blk_cell BK224.out 6).trans rfl; have hfz21_0 := blk_frozen BK224.out 0; have hfz21_1 := blk_frozen BK224.out 1; have hfz21_2 := blk_frozen BK224.out 2; have hfz21_3 := blk_frozen BK224.out 3; have hfz21_4 := blk_frozen BK224.out 4; have hfz21_5 := blk_frozen BK224.out 5; have hfz21_6 := blk_frozen BK224.out 6; obtain ⟨Ao22, co22, eo22⟩ := Kd.R_slice HO228.out; subst eo22))
       go_roundg k1
       case measure => have := HK1.out; omega
       case rel => exact ⟨(3), (x225001_1), (x225002_1), (t225), (x225004_1), (x225005_1), (t226), (u225004), (u225005), (.slice Ao22 t226.length co22), (by first | rfl | (simp; done) | (simp [*]; done)), H', ⟨by have := HK1.out; omega⟩, ⟨by (with_reducible repeat (first | apply rA | apply rN | apply rD)); exact Kd.R_mono (Kd.R_far (p := ⟨gb224, 6, none⟩) (Kd.R_far (p := ⟨gb224, 3, none⟩) (Kd.R_types HO_225004.out BK224.out (by decide)) (fun _ hk => hk.2) (.int .i64 t225)) (fun _ hk => hk.2) (.slice Ao22 t226.length co22)) (fun _ hk => ⟨hk.1.1.1, hk.1.2⟩)⟩, ⟨by (with_reducible repeat (first | apply rA | apply rN | apply rD)); exact Kd.R_mono (Kd.R_far (p := ⟨gb224, 6, none⟩) (Kd.R_far (p := ⟨gb224, 3, none⟩) (Kd.R_types HO_225005.out BK224.out (by decide)) (fun _ hk => hk.2) (.int .i64 t225)) (fun _ hk => hk.2) (.slice Ao22 t226.length co22)) (fun _ hk => ⟨hk.1.1.1, hk.1.2⟩)⟩, ⟨by (with_reducible repeat (first | apply rA | apply rN | apply rD)); exact Kd.R_mono (Kd.R_far (p := ⟨gb224, 6, none⟩) (Kd.R_far (p := ⟨gb224, 3, none⟩) (Kd.R_types HO228.out BK224.out (by decide)) (fun _ hk => hk.2) (.int .i64 t225)) (fun _ hk => hk.2) (.slice Ao22 t226.length co22)) (fun _ hk => ⟨hk.1.1.1.2, hk.1.1.2⟩)⟩, ⟨by (with_reducible repeat (first | refine bN ?_ _ | refine bD ?_ | refine bA ?_ _ | refine blk_far ?_ NB223_224.out _)); exact BK223.out⟩, ⟨by (with_reducible repeat (first | refine bN ?_ _ | refine bD ?_ | refine bA ?_ _)); refine blk_put (cs := #[.int .i64 (a0.size : Int), .int .i64 x225001_1, .int .i64 x225002_1, .int .i64 t225, u225004, u225005, u225006]) ?_ 6 _ rfl; (with_reducible repeat (first | refine bN ?_ _ | refine bD ?_ | refine bA ?_ _)); refine blk_put (cs := #[.int .i64 (a0.size : Int), .int .i64 x225001_1, .int .i64 x225002_1, .int .i64 x225003_1, u225004, u225005, u225006]) ?_ 3 _ rfl; (with_reducible repeat (first | refine bN ?_ _ | refine bD ?_ | refine bA ?_ _)); exact BK224.out⟩, ⟨by repeat (first | (with_reducible first | exact HB.out | apply wA | apply wN | apply wD | refine wS ?_ GE223.out | refine wS ?_ GE224.out) | exact HB.out)⟩⟩
      ·rw [if_neg c18] at H
       exact absurd H (by simp)
   ·rw [if_neg c6] at H
    have c6b0 : decide (x4_1 < 3) = false := decide_eq_false c6
    clear c6
    simp only [Option.some.injEq, Prod.mk.injEq] at H
    obtain ⟨rfl, rfl, rfl, rfl, rfl, rfl, rfl⟩ := H
    have hnb23 := NB224_223.out; have hnc23 := NB223_224.out; have hcz24_0 : wr.cell? ⟨gb224, 0, none⟩ = some (.int .i64 (a0.size : Int)) := (blk_cell BK224.out 0).trans rfl; have hcz24_1 : wr.cell? ⟨gb224, 1, none⟩ = some (.int .i64 x225001_1) := (blk_cell BK224.out 1).trans rfl; have hcz24_2 : wr.cell? ⟨gb224, 2, none⟩ = some (.int .i64 x225002_1) := (blk_cell BK224.out 2).trans rfl; have hcz24_3 : wr.cell? ⟨gb224, 3, none⟩ = some (.int .i64 x225003_1) := (blk_cell BK224.out 3).trans rfl; have hcz24_4 : wr.cell? ⟨gb224, 4, none⟩ = some (u225004) := (blk_cell BK224.out 4).trans rfl; have hcz24_5 : wr.cell? ⟨gb224, 5, none⟩ = some (u225005) := (blk_cell BK224.out 5).trans rfl; have hcz24_6 : wr.cell? ⟨gb224, 6, none⟩ = some (u225006) := (blk_cell BK224.out 6).trans rfl; have hfz24_0 := blk_frozen BK224.out 0; have hfz24_1 := blk_frozen BK224.out 1; have hfz24_2 := blk_frozen BK224.out 2; have hfz24_3 := blk_frozen BK224.out 3; have hfz24_4 := blk_frozen BK224.out 4; have hfz24_5 := blk_frozen BK224.out 5; have hfz24_6 := blk_frozen BK224.out 6; have hcz25_0 : wr.cell? ⟨gb223, 0, none⟩ = some (.int .i64 0) := (blk_cell BK223.out 0).trans rfl; have hcz25_1 : wr.cell? ⟨gb223, 1, none⟩ = some (.int .i64 0) := (blk_cell BK223.out 1).trans rfl; have hcz25_2 : wr.cell? ⟨gb223, 2, none⟩ = some (.int .i64 0) := (blk_cell BK223.out 2).trans rfl; have hcz25_3 : wr.cell? ⟨gb223, 3, none⟩ = some (.int .i64 0) := (blk_cell BK223.out 3).trans rfl; have hcz25_4 : wr.cell? ⟨gb223, 4, none⟩ = some (.slice none 0 0) := (blk_cell BK223.out 4).trans rfl; have hcz25_5 : wr.cell? ⟨gb223, 5, none⟩ = some (.slice none 0 0) := (blk_cell BK223.out 5).trans rfl; have hcz25_6 : wr.cell? ⟨gb223, 6, none⟩ = some (.slice none 0 0) := (blk_cell BK223.out 6).trans rfl; have hfz25_0 := blk_frozen BK223.out 0; have hfz25_1 := blk_frozen BK223.out 1; have hfz25_2 := blk_frozen BK223.out 2; have hfz25_3 := blk_frozen BK223.out 3; have hfz25_4 := blk_frozen BK223.out 4; have hfz25_5 := blk_frozen BK223.out 5; have hfz25_6 := blk_frozen BK223.out 6
    obtain ⟨Ao26, co26, eo26⟩ := Kd.R_slice HO_225004.out
    subst eo26
    obtain ⟨Ao27, co27, eo27⟩ := Kd.R_slice HO_225005.out
    subst eo27
    obtain ⟨Ao28, co28, eo28⟩ := Kd.R_slice HO_225006.out
    subst eo28
    go_wp2
    refine bodyPost_ret (results_cell_row rfl _ _ gb223 26 #[.int .i64 (a0.size : Int), .int .i64 x225001_1, .int .i64 x225002_1, .int .i64 x225003_1, .slice Ao26 x225004_1.length co26, .slice Ao27 x225005_1.length co27, .slice Ao28 x225006_1.length co28] (0, 0) _ rfl (by (with_reducible repeat (first | refine bN ?_ _ | refine bD ?_ | refine bA ?_ _)); refine blk_put (cs := #[.int .i64 (a0.size : Int), .int .i64 x225001_1, .int .i64 x225002_1, .int .i64 x225003_1, .slice Ao26 x225004_1.length co26, .slice Ao27 x225005_1.length co27, .slice none 0 0]) ?_ 6 _ rfl; (with_reducible repeat (first | refine bN ?_ _ | refine bD ?_ | refine bA ?_ _)); refine blk_put (cs := #[.int .i64 (a0.size : Int), .int .i64 x225001_1, .int .i64 x225002_1, .int .i64 x225003_1, .slice Ao26 x225004_1.length co26, .slice none 0 0, .slice none 0 0]) ?_ 5 _ rfl; (with_reducible repeat (first | refine bN ?_ _ | refine bD ?_ | refine bA ?_ _)); refine blk_put (cs := #[.int .i64 (a0.size : Int), .int .i64 x225001_1, .int .i64 x225002_1, .int .i64 x225003_1, .slice none 0 0, .slice none 0 0, .slice none 0 0]) ?_ 4 _ rfl; (with_reducible repeat (first | refine bN ?_ _ | refine bD ?_ | refine bA ?_ _)); refine blk_put (cs := #[.int .i64 (a0.size : Int), .int .i64 x225001_1, .int .i64 x225002_1, .int .i64 0, .slice none 0 0, .slice none 0 0, .slice none 0 0]) ?_ 3 _ rfl; (with_reducible repeat (first | refine bN ?_ _ | refine bD ?_ | refine bA ?_ _)); refine blk_put (cs := #[.int .i64 (a0.size : Int), .int .i64 x225001_1, .int .i64 0, .int .i64 0, .slice none 0 0, .slice none 0 0, .slice none 0 0]) ?_ 2 _ rfl; (with_reducible repeat (first | refine bN ?_ _ | refine bD ?_ | refine bA ?_ _)); refine blk_put (cs := #[.int .i64 (a0.size : Int), .int .i64 0, .int .i64 0, .int .i64 0, .slice none 0 0, .slice none 0 0, .slice none 0 0]) ?_ 1 _ rfl; (with_reducible repeat (first | refine bN ?_ _ | refine bD ?_ | refine bA ?_ _)); refine blk_put (cs := #[.int .i64 0, .int .i64 0, .int .i64 0, .int .i64 0, .slice none 0 0, .slice none 0 0, .slice none 0 0]) ?_ 0 _ rfl; (with_reducible repeat (first | refine bN ?_ _ | refine bD ?_ | refine bA ?_ _)); exact BK223.out) Tryd.underlying26 rfl (by kernel_rfl)) rfl ?_
    exact ⟨_, _, _, by first | rfl | (simp [errW_none, errW_some] <;> rfl) | (simp [*, errW_none, errW_some] <;> rfl), by (with_reducible repeat (first | apply rA | apply rN | apply rD)); exact Kd.R_mono (R_fars7 gb223 (Kd.R_types HO_225004.out BK223.out (by decide)) (fun _ hk => hk.2) (.int .i64 (a0.size : Int)) (.int .i64 x225001_1) (.int .i64 x225002_1) (.int .i64 x225003_1) (.slice Ao26 x225004_1.length co26) (.slice Ao27 x225005_1.length co27) (.slice Ao28 x225006_1.length co28)) (fun _ hk => hk.1), by (with_reducible repeat (first | apply rA | apply rN | apply rD)); exact Kd.R_mono (R_fars7 gb223 (Kd.R_types HO_225005.out BK223.out (by decide)) (fun _ hk => hk.2) (.int .i64 (a0.size : Int)) (.int .i64 x225001_1) (.int .i64 x225002_1) (.int .i64 x225003_1) (.slice Ao26 x225004_1.length co26) (.slice Ao27 x225005_1.length co27) (.slice Ao28 x225006_1.length co28)) (fun _ hk => hk.1), by (with_reducible repeat (first | apply rA | apply rN | apply rD)); exact Kd.R_mono (R_fars7 gb223 (Kd.R_types HO_225006.out BK223.out (by decide)) (fun _ hk => hk.2) (.int .i64 (a0.size : Int)) (.int .i64 x225001_1) (.int .i64 x225002_1) (.int .i64 x225003_1) (.slice Ao26 x225004_1.length co26) (.slice Ao27 x225005_1.length co27) (.slice Ao28 x225006_1.length co28)) (fun _ hk => hk.1), by repeat (first | (with_reducible first | exact HB.out | apply wA | apply wN | apply wD | refine wS ?_ GE223.out | refine wS ?_ GE224.out) | exact HB.out)⟩

end Go.Proofs.YtkhnifehcnlpjaaDoor.QScanChunks
