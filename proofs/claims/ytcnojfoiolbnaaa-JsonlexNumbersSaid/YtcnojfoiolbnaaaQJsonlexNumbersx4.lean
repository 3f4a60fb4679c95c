-- by a program of this session (print2.py): the machine's side of one law; Lean checks it.
import Derived.Test.YtcnojfoiolbnaaaQJsonlexNumbersx0
import Derived.Test.YtcnojfoiolbnaaaQJsonlexNumbersx2
namespace Go.Proofs.Ytcnojfoiolbnaaa.QJsonlexNumbers
open Go.RowKit Go.Proofs.YtcnojfoiolbnaaaW.PrintWords Go.Proofs.YtcnojfoiolbnaaaW.PrintLast Go.Proofs.YtcnojfoiolbnaaaW.PrintMore
attribute [local go_sem] max2_int min2_int max_two min_two max_three min_three max_four min_four   -- for this text's walks alone
set_option linter.unusedVariables false
set_option linter.unusedSimpArgs false

/-! ### jsonlex_hex: function 46 -/
def jsonlex_hex.j0 : Nat → Int → Bool → Option (Int)
  | 0, _, _ => none
  | k + 1, x0, x9 => if x9 = true then (some (((x0 - 97) % 256) + 10)) else (if x0 ≥ 65 then (if x0 ≤ 70 then (some (((x0 - 65) % 256) + 10)) else (some (-1))) else (some (-1)))
def jsonlex_hex.f (k : Nat) (a0 : Int) : Option (Int) := (jsonlex_digit.f a0).bind fun t105 => (if t105 = true then (some ((a0 - 48) % 256)) else (if a0 ≥ 97 then (jsonlex_hex.j0 k a0 (decide (a0 ≤ 102))) else (jsonlex_hex.j0 k a0 false)))
theorem jsonlex_hex.mono_l : ∀ k, (∀ y0 y1, LeO (jsonlex_hex.j0 k y0 y1) (jsonlex_hex.j0 (k + 1) y0 y1))
  | 0 => fun _ _ r h => by simp [jsonlex_hex.j0] at h
  | k + 1 => by
    have ih0 := jsonlex_hex.mono_l k
    · intro y0 y1
      unfold jsonlex_hex.j0
      repeat' first
      | (with_reducible exact ih0 _ _)
      | (with_reducible exact LeO.refl _)
      | (with_reducible exact LeO.none _)
      | (with_reducible refine LeO.ite ?_ ?_)
      | (with_reducible refine LeO.bind ?_ (fun _ => ?_))
      | exact ih0 _ _
      | exact LeO.none _
      | refine LeO.ite ?_ ?_
      | refine LeO.bind ?_ (fun _ => ?_)
theorem jsonlex_hex.mono : ∀ a0 k, LeO (jsonlex_hex.f k a0) (jsonlex_hex.f (k + 1) a0) := by
  intro a0 k
  have ih0 := jsonlex_hex.mono_l k
  unfold jsonlex_hex.f
  repeat' first
      | (with_reducible exact ih0 _ _)
      | (with_reducible exact LeO.refl _)
      | (with_reducible exact LeO.none _)
      | (with_reducible refine LeO.ite ?_ ?_)
      | (with_reducible refine LeO.bind ?_ (fun _ => ?_))
      | exact ih0 _ _
      | exact LeO.none _
      | refine LeO.ite ?_ ?_
      | refine LeO.bind ?_ (fun _ => ?_)
set_option maxHeartbeats 8000000 in
set_option maxRecDepth 100000 in
theorem jsonlex_hex.calls (k : Nat) (a0 : Int) (r : Int) (w : World) (h : jsonlex_hex.f k a0 = some r) :
    Calls Try.prog 46 #[.int .u8 a0] w fun e w' => e = .returned (.int .i64 r) ∧ Drawn0 w w' := by
  have H : ((jsonlex_digit.f a0).bind fun t105 => (if t105 = true then (some ((a0 - 48) % 256)) else (if a0 ≥ 97 then (jsonlex_hex.j0 k a0 (decide (a0 ≤ 102))) else (jsonlex_hex.j0 k a0 false)))) = some r := h
  clear h
  replace H := Option.bind_eq_some_iff.mp H
  obtain ⟨t105, A20, H⟩ := H
  replace H : (if t105 = true then (some ((a0 - 48) % 256)) else (if a0 ≥ 97 then (jsonlex_hex.j0 k a0 (decide (a0 ≤ 102))) else (jsonlex_hex.j0 k a0 false))) = some r := H
  have A2 := Aside0.mk A20
  clear A20
  by_cases c3 : t105 = true
  · subst c3
    have H1 : (some ((a0 - 48) % 256)) = some r := by rw [if_pos rfl] at H; exact H
    clear H
    have H := H1
    clear H1
    obtain rfl := Option.some.inj H
    go_enter Try.func46, Try.ntmps46
    go_wp2_with (first | ((with_reducible refine gate_callee (f := 19) rfl ?_); refine goesL_ (some 5) rfl rfl Try.func19 (by kernel_rfl) rfl #[.int .u8 a0] rfl (by (try simp only [List.map_toArray, List.map_cons, List.map_nil]); first | done | rfl | (simp only [List.length_drop, List.length_take]; rfl)) ?_; (with_reducible refine (jsonlex_digit.calls a0 true _ A2.out).mono ?_); rintro e w' ⟨rfl, ⟨nd, rfl⟩⟩; refine ⟨_, rfl, ?_⟩))
    go_ret
    exact ⟨by first | rfl | (simp; done) | (simp [*]; done), by repeat (first | exact Drawn0.refl _ | apply Drawn0.step)⟩
  · replace c3 := Bool.eq_false_iff.mpr c3
    subst c3
    have H1 : (if a0 ≥ 97 then (jsonlex_hex.j0 k a0 (decide (a0 ≤ 102))) else (jsonlex_hex.j0 k a0 false)) = some r := by rw [if_neg (show ¬ (false = true) by decide)] at H; exact H
    clear H
    have H := H1
    clear H1
    have HC4 := Aside0.mk H
    clear H
    go_enter Try.func46, Try.ntmps46
    go_upto_region 3 with (first | ((with_reducible refine gate_callee (f := 19) rfl ?_); refine goesL_ (some 5) rfl rfl Try.func19 (by kernel_rfl) rfl #[.int .u8 a0] rfl (by (try simp only [List.map_toArray, List.map_cons, List.map_nil]); first | done | rfl | (simp only [List.length_drop, List.length_take]; rfl)) ?_; (with_reducible refine (jsonlex_digit.calls a0 false _ A2.out).mono ?_); rintro e w' ⟨rfl, ⟨nd, rfl⟩⟩; refine ⟨_, rfl, ?_⟩))
    (try simp only [Act.put, List.setIfInBounds_toArray, List.set_cons_zero, List.set_cons_succ])
    go_cut [9] (fun v9 wc => ∃ (kq : Nat) (x9_3 : Bool), v9 = .bool x9_3 ∧ Aside0 (jsonlex_hex.j0 kq a0 x9_3 = some r) ∧ Aside0 (kq ≤ k) ∧ Drawn0 w wc)
    case first =>
      have H := HC4.out
      clear HC4
      by_cases c5 : a0 ≥ 97
      · rw [if_pos c5] at H
        have c5b0 : decide (97 ≤ a0) = true := decide_eq_true c5
        clear c5
        (first | rw [c5b0] | (simp only [i64_w, i32_w]; rw [c5b0]) | skip)
        have H' := Aside0.mk H
        clear H
        go_wp2
        go_meet
        case rel => exact ⟨_, (decide (a0 ≤ 102)), (by first | rfl | (simp; done) | (simp [*]; done)), H', ⟨by first | omega | exact Nat.le_refl _⟩, by repeat (first | exact Drawn0.refl _ | apply Drawn0.step)⟩
      · rw [if_neg c5] at H
        have c5b0 : decide (97 ≤ a0) = false := decide_eq_false c5
        clear c5
        (first | rw [c5b0] | (simp only [i64_w, i32_w]; rw [c5b0]) | skip)
        have H' := Aside0.mk H
        clear H
        go_wp2
        go_meet
        case rel => exact ⟨_, (false), (by first | rfl | (simp; done) | (simp [*]; done)), H', ⟨by first | omega | exact Nat.le_refl _⟩, by repeat (first | exact Drawn0.refl _ | apply Drawn0.step)⟩
    case rest =>
      clear HC4
      (try clear c1); (try clear p2); (try clear c3); (try clear c4); (try clear c5); (try clear c5b0)
      obtain ⟨kq, x9_3, rfl, HA, HJ3, ⟨mc3, rfl⟩⟩ := hcut
      cases kq with
      | zero => exact absurd HA.out (by simp [jsonlex_hex.j0])
      | succ kj3 =>
        have H := HA.out
        clear HA
        simp only [jsonlex_hex.j0] at H
        by_cases c6 : x9_3 = true
        · subst c6
          have H1 : (some (((a0 - 97) % 256) + 10)) = some r := by rw [if_pos rfl] at H; exact H
          clear H
          have H := H1
          clear H1
          obtain rfl := Option.some.inj H
          go_wp2
          go_ret
          exact ⟨by first | rfl | (simp; done) | (simp [*]; done), by repeat (first | exact Drawn0.refl _ | apply Drawn0.step)⟩
        · replace c6 := Bool.eq_false_iff.mpr c6
          subst c6
          have H1 : (if a0 ≥ 65 then (if a0 ≤ 70 then (some (((a0 - 65) % 256) + 10)) else (some (-1))) else (some (-1))) = some r := by rw [if_neg (show ¬ (false = true) by decide)] at H; exact H
          clear H
          have H := H1
          clear H1
          by_cases c7 : a0 ≥ 65
          · rw [if_pos c7] at H
            have c7b0 : decide (65 ≤ a0) = true := decide_eq_true c7
            clear c7
            by_cases c8 : a0 ≤ 70
            · rw [if_pos c8] at H
              have c8b0 : decide (a0 ≤ 70) = true := decide_eq_true c8
              clear c8
              obtain rfl := Option.some.inj H
              go_wp2
              go_ret
              exact ⟨by first | rfl | (simp; done) | (simp [*]; done), by repeat (first | exact Drawn0.refl _ | apply Drawn0.step)⟩
            · rw [if_neg c8] at H
              have c8b0 : decide (a0 ≤ 70) = false := decide_eq_false c8
              clear c8
              obtain rfl := Option.some.inj H
              go_wp2
              go_ret
              exact ⟨by first | rfl | (simp; done) | (simp [*]; done), by repeat (first | exact Drawn0.refl _ | apply Drawn0.step)⟩
          · rw [if_neg c7] at H
            have c7b0 : decide (65 ≤ a0) = false := decide_eq_false c7
            clear c7
            obtain rfl := Option.some.inj H
            go_wp2
            go_ret
            exact ⟨by first | rfl | (simp; done) | (simp [*]; done), by repeat (first | exact Drawn0.refl _ | apply Drawn0.step)⟩

/-! ### jsonlex_four: function 40 -/
def jsonlex_four.l0 : Nat → ByteArray → Bool → Int → Int → Option (Int × Int)
 | 0, _, _, _, _ => none
 | k + 1, x0, x1, x6, x9 => if x9 < 4 then (if x9 = (x0.size : Int) then (some (0, 5)) else (if 0 ≤ x9 then (if x9 < (x0.size : Int) then ((jsonlex_hex.f k (bt x0 x9)).bind fun t106 => (if t106 < 0 then (some (0, 4)) else (if x1 = true then (if x9 = 0 then (if t106 = 13 then (if x9 = 1 then (if x6 = 13 then (if (x1 != (decide (t106 ≥ 12))) = true then (some (0, 4)) else (jsonlex_four.l0 k x0 x1 (Go.bits .or .i64 (wrap64 (x6 * 16)) t106) (wrap64 (x9 + 1)))) else (jsonlex_four.l0 k x0 x1 (Go.bits .or .i64 (wrap64 (x6 * 16)) t106) (wrap64 (x9 + 1)))) else (jsonlex_four.l0 k x0 x1 (Go.bits .or .i64 (wrap64 (x6 * 16)) t106) (wrap64 (x9 + 1)))) else (some (0, 4))) else (if x9 = 1 then (if x6 = 13 then (if (x1 != (decide (t106 ≥ 12))) = true then (some (0, 4)) else (jsonlex_four.l0 k x0 x1 (Go.bits .or .i64 (wrap64 (x6 * 16)) t106) (wrap64 (x9 + 1)))) else (jsonlex_four.l0 k x0 x1 (Go.bits .or .i64 (wrap64 (x6 * 16)) t106) (wrap64 (x9 + 1)))) else (jsonlex_four.l0 k x0 x1 (Go.bits .or .i64 (wrap64 (x6 * 16)) t106) (wrap64 (x9 + 1))))) else (if x9 = 1 then (if x6 = 13 then (if (x1 != (decide (t106 ≥ 12))) = true then (some (0, 4)) else (jsonlex_four.l0 k x0 x1 (Go.bits .or .i64 (wrap64 (x6 * 16)) t106) (wrap64 (x9 + 1)))) else (jsonlex_four.l0 k x0 x1 (Go.bits .or .i64 (wrap64 (x6 * 16)) t106) (wrap64 (x9 + 1)))) else (jsonlex_four.l0 k x0 x1 (Go.bits .or .i64 (wrap64 (x6 * 16)) t106) (wrap64 (x9 + 1))))))) else (none)) else (none))) else (some (x6, 0))
def jsonlex_four.f (k : Nat) (a0 : ByteArray) (a1 : Bool) : Option (Int × Int) := jsonlex_four.l0 k a0 a1 0 0
theorem jsonlex_four.mono_l : ∀ k, (∀ y0 y1 y2 y3, LeO (jsonlex_four.l0 k y0 y1 y2 y3) (jsonlex_four.l0 (k + 1) y0 y1 y2 y3))
 | 0 => fun _ _ _ _ r h => by simp [jsonlex_four.l0] at h
 | k + 1 => by
  have ih0 := jsonlex_four.mono_l k
  ·intro y0 y1 y2 y3
   unfold jsonlex_four.l0
   repeat' first
   | (with_reducible exact ih0 _ _ _ _)
   | (with_reducible exact jsonlex_hex.mono _ _)
   | (with_reducible exact LeO.refl _)
   | (with_reducible exact LeO.none _)
   | (with_reducible refine LeO.ite ?_ ?_)
   | (with_reducible refine LeO.bind ?_ (fun _ => ?_))
   | exact ih0 _ _ _ _
   | exact jsonlex_hex.mono _ _
   | exact LeO.none _
   | refine LeO.ite ?_ ?_
   | refine LeO.bind ?_ (fun _ => ?_)
theorem jsonlex_four.mono : ∀ a0 a1 k, LeO (jsonlex_four.f k a0 a1) (jsonlex_four.f (k + 1) a0 a1) := by
 intro a0 a1 k
 have ih0 := jsonlex_four.mono_l k
 unfold jsonlex_four.f
 repeat' first
   | (with_reducible exact ih0 _ _ _ _)
   | (with_reducible exact jsonlex_hex.mono _ _)
   | (with_reducible exact LeO.refl _)
   | (with_reducible exact LeO.none _)
   | (with_reducible refine LeO.ite ?_ ?_)
   | (with_reducible refine LeO.bind ?_ (fun _ => ?_))
   | exact ih0 _ _ _ _
   | exact jsonlex_hex.mono _ _
   | exact LeO.none _
   | refine LeO.ite ?_ ?_
   | refine LeO.bind ?_ (fun _ => ?_)
set_option maxHeartbeats 8000000 in
set_option maxRecDepth 100000 in
theorem jsonlex_four.calls (k : Nat) (a0 : ByteArray) (a1 : Bool) (r1 : Int) (r2 : Int) (w : World) (h : jsonlex_four.f k a0 a1 = some (r1, r2)) :
  Calls Try.prog 40 #[.string a0, .bool a1] w fun e w' => e = .returned (.tuple #[.int .i64 r1, .int .i64 r2]) ∧ Drawn0 w w' := by
 have H : (jsonlex_four.l0 k a0 a1 0 0) = some (r1, r2) := h
 clear h
 have H' := Aside0.mk H
 clear H
 go_enter Try.func40, Try.ntmps40
 go_wp2
 go_loopg [6, 9] k (fun kq v6 v9 w' => ∃ (x6_1 : Int) (x9_1 : Int), v6 = .int .i64 x6_1 ∧ v9 = .int .i64 x9_1 ∧ Aside0 (jsonlex_four.l0 kq a0 a1 x6_1 x9_1 = some (r1, r2)) ∧ Aside0 (kq ≤ k) ∧ Drawn0 w w')
 case atStart => exact ⟨(0), (0), (by first | rfl | (simp; done) | (simp [*]; done)), (by first | rfl | (simp; done) | (simp [*]; done)), H', ⟨Nat.le_refl _⟩, by repeat (first | exact Drawn0.refl _ | apply Drawn0.step)⟩
 case round =>
  clear H'
  (try clear p2)
  obtain ⟨x6_1, x9_1, rfl, rfl, HA, HK1, ⟨m1, rfl⟩⟩ := hrel
  cases gk with
  | zero => exact absurd HA.out (by simp [jsonlex_four.l0])
  | succ k1 =>
   have H := HA.out
   clear HA
   simp only [jsonlex_four.l0] at H
   by_cases c3 : x9_1 < 4
   ·rw [if_pos c3] at H
    have c3b0 : decide (x9_1 < 4) = true := decide_eq_true c3
    clear c3
    by_cases c4 : x9_1 = (a0.size : Int)
    ·rw [if_pos c4] at H
     have c4b0 : (x9_1 == (a0.size : Int)) = true := beq_iff_eq.mpr c4
     have c4b1 : (x9_1 != (a0.size : Int)) = false := bne_eq_false_iff_eq.mpr c4
     clear c4
     simp only [Option.some.injEq, Prod.mk.injEq] at H
     obtain ⟨rfl, rfl⟩ := H
     go_wp2
     go_ret2
     exact ⟨by first | rfl | (simp; done) | (simp [*]; done), by repeat (first | exact Drawn0.refl _ | apply Drawn0.step)⟩
    ·rw [if_neg c4] at H
     have c4b0 : (x9_1 == (a0.size : Int)) = false := beq_eq_false_iff_ne.mpr c4
     have c4b1 : (x9_1 != (a0.size : Int)) = true := bne_iff_ne.mpr c4
     by_cases c5 : 0 ≤ x9_1
     ·rw [if_pos c5] at H
      have c5b0 : decide (0 ≤ x9_1) = true := decide_eq_true c5
      clear c5
      by_cases c6 : x9_1 < (a0.size : Int)
      ·rw [if_pos c6] at H
       have c6b0 : decide (x9_1 < (a0.size : Int)) = true := decide_eq_true c6
       clear c6
       replace H := Option.bind_eq_some_iff.mp H
       obtain ⟨t106, A80, H⟩ := H
       replace H : (if t106 < 0 then (some (0, 4)) else (if a1 = true then (if x9_1 = 0 then (if t106 = 13 then (if x9_1 = 1 then (if x6_1 = 13 then (if (a1 != (decide (t106 ≥ 12))) = true then (some (0, 4)) else (jsonlex_four.l0 k1 a0 a1 (Go.bits .or .i64 (wrap64 (x6_1 * 16)) t106) (wrap64 (x9_1 + 1)))) else (jsonlex_four.l0 k1 a0 a1 (Go.bits .or .i64 (wrap64 (x6_1 * 16)) t106) (wrap64 (x9_1 + 1)))) else (jsonlex_four.l0 k1 a0 a1 (Go.bits .or .i64 (wrap64 (x6_1 * 16)) t106) (wrap64 (x9_1 + 1)))) else (some (0, 4))) else (if x9_1 = 1 then (if x6_1 = 13 then (if (a1 != (decide (t106 ≥ 12))) = true then (some (0, 4)) else (jsonlex_four.l0 k1 a0 a1 (Go.bits .or .i64 (wrap64 (x6_1 * 16)) t106) (wrap64 (x9_1 + 1)))) else (jsonlex_four.l0 k1 a0 a1 (Go.bits .or .i64 (wrap64 (x6_1 * 16)) t106) (wrap64 (x9_1 + 1)))) else (jsonlex_four.l0 k1 a0 a1 (Go.bits .or .i64 (wrap64 (x6_1 * 16)) t106) (wrap64 (x9_1 + 1))))) else (if x9_1 = 1 then (if x6_1 = 13 then (if (a1 != (decide (t106 ≥ 12))) = true then (some (0, 4)) else (jsonlex_four.l0 k1 a0 a1 (Go.bits .or .i64 (wrap64 (x6_1 * 16)) t106) (wrap64 (x9_1 + 1)))) else (jsonlex_four.l0 k1 a0 a1 (Go.bits .or .i64 (wrap64 (x6_1 * 16)) t106) (wrap64 (x9_1 + 1)))) else (jsonlex_four.l0 k1 a0 a1 (Go.bits .or .i64 (wrap64 (x6_1 * 16)) t106) (wrap64 (x9_1 + 1)))))) = some (r1, r2) := H
       have A8 := Aside0.mk A80
       clear A80
       by_cases c9 : t106 < 0
       ·rw [if_pos c9] at H
        have c9b0 : decide (t106 < 0) = true := decide_eq_true c9
        clear c9
        simp only [Option.some.injEq, Prod.mk.injEq] at H
        obtain ⟨rfl, rfl⟩ := H
        have p7 : 0 ≤ (x9_1 : Int) := of_decide_eq_true (by first | (with_reducible assumption) | assumption)
        have q7 : x9_1 < (a0.size : Int) := of_decide_eq_true (by first | (with_reducible assumption) | assumption)
        have hx7 := bt_at a0 x9_1
        replace p7 := eq_true p7; replace q7 := eq_true q7
        go_wp2_with (first | ((with_reducible refine gate_callee (f := 46) rfl ?_); refine goesL_ (some 19) rfl rfl Try.func46 (by kernel_rfl) rfl #[.int .u8 (bt a0 x9_1)] rfl (by (try simp only [List.map_toArray, List.map_cons, List.map_nil]); first | done | rfl | (simp only [List.length_drop, List.length_take]; rfl)) ?_; (with_reducible refine (jsonlex_hex.calls k1 (bt a0 x9_1) t106 _ A8.out).mono ?_); rintro e w' ⟨rfl, ⟨nd, rfl⟩⟩; refine ⟨_, rfl, ?_⟩))
        go_ret2
        exact ⟨by first | rfl | (simp; done) | (simp [*]; done), by repeat (first | exact Drawn0.refl _ | apply Drawn0.step)⟩
       ·rw [if_neg c9] at H
        have c9b0 : decide (t106 < 0) = false := decide_eq_false c9
        clear c9
        by_cases c10 : a1 = true
        ·subst c10
         have H1 : (if x9_1 = 0 then (if t106 = 13 then (if x9_1 = 1 then (if x6_1 = 13 then (if (true != (decide (t106 ≥ 12))) = true then (some (0, 4)) else (jsonlex_four.l0 k1 a0 true (Go.bits .or .i64 (wrap64 (x6_1 * 16)) t106) (wrap64 (x9_1 + 1)))) else (jsonlex_four.l0 k1 a0 true (Go.bits .or .i64 (wrap64 (x6_1 * 16)) t106) (wrap64 (x9_1 + 1)))) else (jsonlex_four.l0 k1 a0 true (Go.bits .or .i64 (wrap64 (x6_1 * 16)) t106) (wrap64 (x9_1 + 1)))) else (some (0, 4))) else (if x9_1 = 1 then (if x6_1 = 13 then (if (true != (decide (t106 ≥ 12))) = true then (some (0, 4)) else (jsonlex_four.l0 k1 a0 true (Go.bits .or .i64 (wrap64 (x6_1 * 16)) t106) (wrap64 (x9_1 + 1)))) else (jsonlex_four.l0 k1 a0 true (Go.bits .or .i64 (wrap64 (x6_1 * 16)) t106) (wrap64 (x9_1 + 1)))) else (jsonlex_four.l0 k1 a0 true (Go.bits .or .i64 (wrap64 (x6_1 * 16)) t106) (wrap64 (x9_1 + 1))))) = some (r1, r2) := by rw [if_pos rfl] at H; exact H
         clear H; have H := H1; clear H1
         by_cases c11 : x9_1 = 0
         ·rw [if_pos c11] at H
          have c11b0 : (x9_1 == 0) = true := beq_iff_eq.mpr c11
          have c11b1 : (x9_1 != 0) = false := bne_eq_false_iff_eq.mpr c11
          clear c11
          by_cases c12 : t106 = 13
          ·rw [if_pos c12] at H
           have c12b0 : (t106 == 13) = true := beq_iff_eq.mpr c12
           have c12b1 : (t106 != 13) = false := bne_eq_false_iff_eq.mpr c12
           clear c12
           by_cases c13 : x9_1 = 1
           ·rw [if_pos c13] at H
            have c13b0 : (x9_1 == 1) = true := beq_iff_eq.mpr c13
            have c13b1 : (x9_1 != 1) = false := bne_eq_false_iff_eq.mpr c13
            clear c13
            by_cases c14 : x6_1 = 13
            ·rw [if_pos c14] at H
             have c14b0 : (x6_1 == 13) = true := beq_iff_eq.mpr c14
             have c14b1 : (x6_1 != 13) = false := bne_eq_false_iff_eq.mpr c14
             clear c14
             by_cases c15 : (true != (decide (t106 ≥ 12))) = true
             ·rw [if_pos c15] at H
              have c15b0 : (true != (decide (t106 ≥ 12))) = true := c15
              (try (have c15b1 : decide (true = (decide (t106 ≥ 12))) = false := by simpa using c15))
              (try (have c15b2 : (true == (decide (t106 ≥ 12))) = false := by simpa using c15))
              (try (have c15b3 : ¬ (true = (decide (t106 ≥ 12))) := by simpa using c15))
              clear c15
              simp only [Option.some.injEq, Prod.mk.injEq] at H
              obtain ⟨rfl, rfl⟩ := H
              have p7 : 0 ≤ (x9_1 : Int) := of_decide_eq_true (by first | (with_reducible assumption) | assumption)
              have q7 : x9_1 < (a0.size : Int) := of_decide_eq_true (by first | (with_reducible assumption) | assumption)
              have hx7 := bt_at a0 x9_1
              replace p7 := eq_true p7; replace q7 := eq_true q7
              go_wp2_with (first | ((with_reducible refine gate_callee (f := 46) rfl ?_); refine goesL_ (some 19) rfl rfl Try.func46 (by kernel_rfl) rfl #[.int .u8 (bt a0 x9_1)] rfl (by (try simp only [List.map_toArray, List.map_cons, List.map_nil]); first | done | rfl | (simp only [List.length_drop, List.length_take]; rfl)) ?_; (with_reducible refine (jsonlex_hex.calls k1 (bt a0 x9_1) t106 _ A8.out).mono ?_); rintro e w' ⟨rfl, ⟨nd, rfl⟩⟩; refine ⟨_, rfl, ?_⟩))
              go_ret2
              exact ⟨by first | rfl | (simp; done) | (simp [*]; done), by repeat (first | exact Drawn0.refl _ | apply Drawn0.step)⟩
             ·rw [if_neg c15] at H
              have c15b0 : (true != (decide (t106 ≥ 12))) = false := by simpa using c15
              (try (have c15b1 : decide (true = (decide (t106 ≥ 12))) = true := by simpa using c15))
              (try (have c15b2 : (true == (decide (t106 ≥ 12))) = true := by simpa using c15))
              clear c15
              have H' := Aside0.mk H
              clear H
              have p7 : 0 ≤ (x9_1 : Int) := of_decide_eq_true (by first | (with_reducible assumption) | assumption)
              have q7 : x9_1 < (a0.size : Int) := of_decide_eq_true (by first | (with_reducible assumption) | assumption)
              have hx7 := bt_at a0 x9_1
              replace p7 := eq_true p7; replace q7 := eq_true q7
              go_wp2_with (first | ((with_reducible refine gate_callee (f := 46) rfl ?_); refine goesL_ (some 19) rfl rfl Try.func46 (by kernel_rfl) rfl #[.int .u8 (bt a0 x9_1)] rfl (by (try simp only [List.map_toArray, List.map_cons, List.map_nil]); first | done | rfl | (simp only [List.length_drop, List.length_take]; rfl)) ?_; (with_reducible refine (jsonlex_hex.calls k1 (bt a0 x9_1) t106 _ A8.out).mono ?_); rintro e w' ⟨rfl, ⟨nd, rfl⟩⟩; refine ⟨_, rfl, ?_⟩))
              go_roundg k1
              case measure => have := HK1.out; omega
              case rel => exact ⟨(Go.bits .or .i64 (wrap64 (x6_1 * 16)) t106), (wrap64 (x9_1 + 1)), (by first | rfl | (simp; done) | (simp [*]; done)), (by first | rfl | (simp; done) | (simp [*]; done)), H', ⟨by have := HK1.out; omega⟩, by repeat (first | exact Drawn0.refl _ | apply Drawn0.step)⟩
            ·rw [if_neg c14] at H
             have c14b0 : (x6_1 == 13) = false := beq_eq_false_iff_ne.mpr c14
             have c14b1 : (x6_1 != 13) = true := bne_iff_ne.mpr c14
             have H' := Aside0.mk H
             clear H
             have p7 : 0 ≤ (x9_1 : Int) := of_decide_eq_true (by first | (with_reducible assumption) | assumption)
             have q7 : x9_1 < (a0.size : Int) := of_decide_eq_true (by first | (with_reducible assumption) | assumption)
             have hx7 := bt_at a0 x9_1
             replace p7 := eq_true p7; replace q7 := eq_true q7
             go_wp2_with (first | ((with_reducible refine gate_callee (f := 46) rfl ?_); refine goesL_ (some 19) rfl rfl Try.func46 (by kernel_rfl) rfl #[.int .u8 (bt a0 x9_1)] rfl (by (try simp only [List.map_toArray, List.map_cons, List.map_nil]); first | done | rfl | (simp only [List.length_drop, List.length_take]; rfl)) ?_; (with_reducible refine (jsonlex_hex.calls k1 (bt a0 x9_1) t106 _ A8.out).mono ?_); rintro e w' ⟨rfl, ⟨nd, rfl⟩⟩; refine ⟨_, rfl, ?_⟩))
             go_roundg k1
             case measure => have := HK1.out; omega
             case rel => exact ⟨(Go.bits .or .i64 (wrap64 (x6_1 * 16)) t106), (wrap64 (x9_1 + 1)), (by first | rfl | (simp; done) | (simp [*]; done)), (by first | rfl | (simp; done) | (simp [*]; done)), H', ⟨by have := HK1.out; omega⟩, by repeat (first | exact Drawn0.refl _ | apply Drawn0.step)⟩
           ·rw [if_neg c13] at H
            have c13b0 : (x9_1 == 1) = false := beq_eq_false_iff_ne.mpr c13
            have c13b1 : (x9_1 != 1) = true := bne_iff_ne.mpr c13
            have H' := Aside0.mk H
            clear H
            have p7 : 0 ≤ (x9_1 : Int) := of_decide_eq_true (by first | (with_reducible assumption) | assumption)
            have q7 : x9_1 < (a0.size : Int) := of_decide_eq_true (by first | (with_reducible assumption) | assumption)
            have hx7 := bt_at a0 x9_1
            replace p7 := eq_true p7; replace q7 := eq_true q7
            go_wp2_with (first | ((with_reducible refine gate_callee (f := 46) rfl ?_); refine goesL_ (some 19) rfl rfl Try.func46 (by kernel_rfl) rfl #[.int .u8 (bt a0 x9_1)] rfl (by (try simp only [List.map_toArray, List.map_cons, List.map_nil]); first | done | rfl | (simp only [List.length_drop, List.length_take]; rfl)) ?_; (with_reducible refine (jsonlex_hex.calls k1 (bt a0 x9_1) t106 _ A8.out).mono ?_); rintro e w' ⟨rfl, ⟨nd, rfl⟩⟩; refine ⟨_, rfl, ?_⟩))
            go_roundg k1
            case measure => have := HK1.out; omega
            case rel => exact ⟨(Go.bits .or .i64 (wrap64 (x6_1 * 16)) t106), (wrap64 (x9_1 + 1)), (by first | rfl | (simp; done) | (simp [*]; done)), (by first | rfl | (simp; done) | (simp [*]; done)), H', ⟨by have := HK1.out; omega⟩, by repeat (first | exact Drawn0.refl _ | apply Drawn0.step)⟩
          ·rw [if_neg c12] at H
           have c12b0 : (t106 == 13) = false := beq_eq_false_iff_ne.mpr c12
           have c12b1 : (t106 != 13) = true := bne_iff_ne.mpr c12
           simp only [Option.some.injEq, Prod.mk.injEq] at H
           obtain ⟨rfl, rfl⟩ := H
           have p7 : 0 ≤ (x9_1 : Int) := of_decide_eq_true (by first | (with_reducible assumption) | assumption)
           have q7 : x9_1 < (a0.size : Int) := of_decide_eq_true (by first | (with_reducible assumption) | assumption)
           have hx7 := bt_at a0 x9_1
           replace p7 := eq_true p7; replace q7 := eq_true q7
           go_wp2_with (first | ((with_reducible refine gate_callee (f := 46) rfl ?_); refine goesL_ (some 19) rfl rfl Try.func46 (by kernel_rfl) rfl #[.int .u8 (bt a0 x9_1)] rfl (by (try simp only [List.map_toArray, List.map_cons, List.map_nil]); first | done | rfl | (simp only [List.length_drop, List.length_take]; rfl)) ?_; (with_reducible refine (jsonlex_hex.calls k1 (bt a0 x9_1) t106 _ A8.out).mono ?_); rintro e w' ⟨rfl, ⟨nd, rfl⟩⟩; refine ⟨_, rfl, ?_⟩))
           go_ret2
           exact ⟨by first | rfl | (simp; done) | (simp [*]; done), by repeat (first | exact Drawn0.refl _ | apply Drawn0.step)⟩
         ·rw [if_neg c11] at H
          have c11b0 : (x9_1 == 0) = false := beq_eq_false_iff_ne.mpr c11
          have c11b1 : (x9_1 != 0) = true := bne_iff_ne.mpr c11
          by_cases c16 : x9_1 = 1
          ·rw [if_pos c16] at H
           have c16b0 : (x9_1 == 1) = true := beq_iff_eq.mpr c16
           have c16b1 : (x9_1 != 1) = false := bne_eq_false_iff_eq.mpr c16
           clear c16
           by_cases c17 : x6_1 = 13
           ·rw [if_pos c17] at H
            have c17b0 : (x6_1 == 13) = true := beq_iff_eq.mpr c17
            have c17b1 : (x6_1 != 13) = false := bne_eq_false_iff_eq.mpr c17
            clear c17
            by_cases c18 : (true != (decide (t106 ≥ 12))) = true
            ·rw [if_pos c18] at H
             have c18b0 : (true != (decide (t106 ≥ 12))) = true := c18
             (try (have c18b1 : decide (true = (decide (t106 ≥ 12))) = false := by simpa using c18))
             (try (have c18b2 : (true == (decide (t106 ≥ 12))) = false := by simpa using c18))
             (try (have c18b3 : ¬ (true = (decide (t106 ≥ 12))) := by simpa using c18))
             clear c18
             simp only [Option.some.injEq, Prod.mk.injEq] at H
             obtain ⟨rfl, rfl⟩ := H
             have p7 : 0 ≤ (x9_1 : Int) := of_decide_eq_true (by first | (with_reducible assumption) | assumption)
             have q7 : x9_1 < (a0.size : Int) := of_decide_eq_true (by first | (with_reducible assumption) | assumption)
             have hx7 := bt_at a0 x9_1
             replace p7 := eq_true p7; replace q7 := eq_true q7
             go_wp2_with (first | ((with_reducible refine gate_callee (f := 46) rfl ?_); refine goesL_ (some 19) rfl rfl Try.func46 (by kernel_rfl) rfl #[.int .u8 (bt a0 x9_1)] rfl (by (try simp only [List.map_toArray, List.map_cons, List.map_nil]); first | done | rfl | (simp only [List.length_drop, List.length_take]; rfl)) ?_; (with_reducible refine (jsonlex_hex.calls k1 (bt a0 x9_1) t106 _ A8.out).mono ?_); rintro e w' ⟨rfl, ⟨nd, rfl⟩⟩; refine ⟨_, rfl, ?_⟩))
             go_ret2
             exact ⟨by first | rfl | (simp; done) | (simp [*]; done), by repeat (first | exact Drawn0.refl _ | apply Drawn0.step)⟩
            ·rw [if_neg c18] at H
             have c18b0 : (true != (decide (t106 ≥ 12))) = false := by simpa using c18
             (try (have c18b1 : decide (true = (decide (t106 ≥ 12))) = true := by simpa using c18))
             (try (have c18b2 : (true == (decide (t106 ≥ 12))) = true := by simpa using c18))
             clear c18
             have H' := Aside0.mk H
             clear H
             have p7 : 0 ≤ (x9_1 : Int) := of_decide_eq_true (by first | (with_reducible assumption) | assumption)
             have q7 : x9_1 < (a0.size : Int) := of_decide_eq_true (by first | (with_reducible assumption) | assumption)
             have hx7 := bt_at a0 x9_1
             replace p7 := eq_true p7; replace q7 := eq_true q7
             go_wp2_with (first | ((with_reducible refine gate_callee (f := 46) rfl ?_); refine goesL_ (some 19) rfl rfl Try.func46 (by kernel_rfl) rfl #[.int .u8 (bt a0 x9_1)] rfl (by (try simp only [List.map_toArray, List.map_cons, List.map_nil]); first | done | rfl | (simp only [List.length_drop, List.length_take]; rfl)) ?_; (with_reducible refine (jsonlex_hex.calls k1 (bt a0 x9_1) t106 _ A8.out).mono ?_); rintro e w' ⟨rfl, ⟨nd, rfl⟩⟩; refine ⟨_, rfl, ?_⟩))
             go_roundg k1
             case measure => have := HK1.out; omega
             case rel => exact ⟨(Go.bits .or .i64 (wrap64 (x6_1 * 16)) t106), (wrap64 (x9_1 + 1)), (by first | rfl | (simp; done) | (simp [*]; done)), (by first | rfl | (simp; done) | (simp [*]; done)), H', ⟨by have := HK1.out; omega⟩, by repeat (first | exact Drawn0.refl _ | apply Drawn0.step)⟩
           ·rw [if_neg c17] at H
            have c17b0 : (x6_1 == 13) = false := beq_eq_false_iff_ne.mpr c17
            have c17b1 : (x6_1 != 13) = true := bne_iff_ne.mpr c17
            have H' := Aside0.mk H
            clear H
            have p7 : 0 ≤ (x9_1 : Int) := of_decide_eq_true (by first | (with_reducible assumption) | assumption)
            have q7 : x9_1 < (a0.size : Int) := of_decide_eq_true (by first | (with_reducible assumption) | assumption)
            have hx7 := bt_at a0 x9_1
            replace p7 := eq_true p7; replace q7 := eq_true q7
            go_wp2_with (first | ((with_reducible refine gate_callee (f := 46) rfl ?_); refine goesL_ (some 19) rfl rfl Try.func46 (by kernel_rfl) rfl #[.int .u8 (bt a0 x9_1)] rfl (by (try simp only [List.map_toArray, List.map_cons, List.map_nil]); first | done | rfl | (simp only [List.length_drop, List.length_take]; rfl)) ?_; (with_reducible refine (jsonlex_hex.calls k1 (bt a0 x9_1) t106 _ A8.out).mono ?_); rintro e w' ⟨rfl, ⟨nd, rfl⟩⟩; refine ⟨_, rfl, ?_⟩))
            go_roundg k1
            case measure => have := HK1.out; omega
            case rel => exact ⟨(Go.bits .or .i64 (wrap64 (x6_1 * 16)) t106), (wrap64 (x9_1 + 1)), (by first | rfl | (simp; done) | (simp [*]; done)), (by first | rfl | (simp; done) | (simp [*]; done)), H', ⟨by have := HK1.out; omega⟩, by repeat (first | exact Drawn0.refl _ | apply Drawn0.step)⟩
          ·rw [if_neg c16] at H
           have c16b0 : (x9_1 == 1) = false := beq_eq_false_iff_ne.mpr c16
           have c16b1 : (x9_1 != 1) = true := bne_iff_ne.mpr c16
           have H' := Aside0.mk H
           clear H
           have p7 : 0 ≤ (x9_1 : Int) := of_decide_eq_true (by first | (with_reducible assumption) | assumption)
           have q7 : x9_1 < (a0.size : Int) := of_decide_eq_true (by first | (with_reducible assumption) | assumption)
           have hx7 := bt_at a0 x9_1
           replace p7 := eq_true p7; replace q7 := eq_true q7
           go_wp2_with (first | ((with_reducible refine gate_callee (f := 46) rfl ?_); refine goesL_ (some 19) rfl rfl Try.func46 (by kernel_rfl) rfl #[.int .u8 (bt a0 x9_1)] rfl (by (try simp only [List.map_toArray, List.map_cons, List.map_nil]); first | done | rfl | (simp only [List.length_drop, List.length_take]; rfl)) ?_; (with_reducible refine (jsonlex_hex.calls k1 (bt a0 x9_1) t106 _ A8.out).mono ?_); rintro e w' ⟨rfl, ⟨nd, rfl⟩⟩; refine ⟨_, rfl, ?_⟩))
           go_roundg k1
           case measure => have := HK1.out; omega
           case rel => exact ⟨(Go.bits .or .i64 (wrap64 (x6_1 * 16)) t106), (wrap64 (x9_1 + 1)), (by first | rfl | (simp; done) | (simp [*]; done)), (by first | rfl | (simp; done) | (simp [*]; done)), H', ⟨by have := HK1.out; omega⟩, by repeat (first | exact Drawn0.refl _ | apply Drawn0.step)⟩
        ·replace c10 := Bool.eq_false_iff.mpr c10
         subst c10
         have H1 : (if x9_1 = 1 then (if x6_1 = 13 then (if (false != (decide (t106 ≥ 12))) = true then (some (0, 4)) else (jsonlex_four.l0 k1 a0 false (Go.bits .or .i64 (wrap64 (x6_1 * 16)) t106) (wrap64 (x9_1 + 1)))) else (jsonlex_four.l0 k1 a0 false (Go.bits .or .i64 (wrap64 (x6_1 * 16)) t106) (wrap64 (x9_1 + 1)))) else (jsonlex_four.l0 k1 a0 false (Go.bits .or .i64 (wrap64 (x6_1 * 16)) t106) (wrap64 (x9_1 + 1)))) = some (r1, r2) := by rw [if_neg (show ¬ (false = true) by decide)] at H; exact H
         clear H; have H := H1; clear H1
         by_cases c19 : x9_1 = 1
         ·rw [if_pos c19] at H
          have c19b0 : (x9_1 == 1) = true := beq_iff_eq.mpr c19
          have c19b1 : (x9_1 != 1) = false := bne_eq_false_iff_eq.mpr c19
          clear c19
          by_cases c20 : x6_1 = 13
          ·rw [if_pos c20] at H
           have c20b0 : (x6_1 == 13) = true := beq_iff_eq.mpr c20
           have c20b1 : (x6_1 != 13) = false := bne_eq_false_iff_eq.mpr c20
           clear c20
           by_cases c21 : (false != (decide (t106 ≥ 12))) = true
           ·rw [if_pos c21] at H
            have c21b0 : (false != (decide (t106 ≥ 12))) = true := c21
            (try (have c21b1 : decide (false = (decide (t106 ≥ 12))) = false := by simpa using c21))
            (try (have c21b2 : (false == (decide (t106 ≥ 12))) = false := by simpa using c21))
            (try (have c21b3 : ¬ (false = (decide (t106 ≥ 12))) := by simpa using c21))
            clear c21
            simp only [Option.some.injEq, Prod.mk.injEq] at H
            obtain ⟨rfl, rfl⟩ := H
            have p7 : 0 ≤ (x9_1 : Int) := of_decide_eq_true (by first | (with_reducible assumption) | assumption)
            have q7 : x9_1 < (a0.size : Int) := of_decide_eq_true (by first | (with_reducible assumption) | assumption)
            have hx7 := bt_at a0 x9_1
            replace p7 := eq_true p7; replace q7 := eq_true q7
            go_wp2_with (first | ((with_reducible refine gate_callee (f := 46) rfl ?_); refine goesL_ (some 19) rfl rfl Try.func46 (by kernel_rfl) rfl #[.int .u8 (bt a0 x9_1)] rfl (by (try simp only [List.map_toArray, List.map_cons, List.map_nil]); first | done | rfl | (simp only [List.length_drop, List.length_take]; rfl)) ?_; (with_reducible refine (jsonlex_hex.calls k1 (bt a0 x9_1) t106 _ A8.out).mono ?_); rintro e w' ⟨rfl, ⟨nd, rfl⟩⟩; refine ⟨_, rfl, ?_⟩))
            go_ret2
            exact ⟨by first | rfl | (simp; done) | (simp [*]; done), by repeat (first | exact Drawn0.refl _ | apply Drawn0.step)⟩
           ·rw [if_neg c21] at H
            have c21b0 : (false != (decide (t106 ≥ 12))) = false := by simpa using c21
            (try (have c21b1 : decide (false = (decide (t106 ≥ 12))) = true := by simpa using c21))
            (try (have c21b2 : (false == (decide (t106 ≥ 12))) = true := by simpa using c21))
            clear c21
            have H' := Aside0.mk H
            clear H
            have p7 : 0 ≤ (x9_1 : Int) := of_decide_eq_true (by first | (with_reducible assumption) | assumption)
            have q7 : x9_1 < (a0.size : Int) := of_decide_eq_true (by first | (with_reducible assumption) | assumption)
            have hx7 := bt_at a0 x9_1
            replace p7 := eq_true p7; replace q7 := eq_true q7
            go_wp2_with (first | ((with_reducible refine gate_callee (f := 46) rfl ?_); refine goesL_ (some 19) rfl rfl Try.func46 (by kernel_rfl) rfl #[.int .u8 (bt a0 x9_1)] rfl (by (try simp only [List.map_toArray, List.map_cons, List.map_nil]); first | done | rfl | (simp only [List.length_drop, List.length_take]; rfl)) ?_; (with_reducible refine (jsonlex_hex.calls k1 (bt a0 x9_1) t106 _ A8.out).mono ?_); rintro e w' ⟨rfl, ⟨nd, rfl⟩⟩; refine ⟨_, rfl, ?_⟩))
            go_roundg k1
            case measure => have := HK1.out; omega
            case rel => exact ⟨(Go.bits .or .i64 (wrap64 (x6_1 * 16)) t106), (wrap64 (x9_1 + 1)), (by first | rfl | (simp; done) | (simp [*]; done)), (by first | rfl | (simp; done) | (simp [*]; done)), H', ⟨by have := HK1.out; omega⟩, by repeat (first | exact Drawn0.refl _ | apply Drawn0.step)⟩
          ·rw [if_neg c20] at H
           have c20b0 : (x6_1 == 13) = false := beq_eq_false_iff_ne.mpr c20
           have c20b1 : (x6_1 != 13) = true := bne_iff_ne.mpr c20
           have H' := Aside0.mk H
           clear H
           have p7 : 0 ≤ (x9_1 : Int) := of_decide_eq_true (by first | (with_reducible assumption) | assumption)
           have q7 : x9_1 < (a0.size : Int) := of_decide_eq_true (by first | (with_reducible assumption) | assumption)
           have hx7 := bt_at a0 x9_1
           replace p7 := eq_true p7; replace q7 := eq_true q7
           go_wp2_with (first | ((with_reducible refine gate_callee (f := 46) rfl ?_); refine goesL_ (some 19) rfl rfl Try.func46 (by kernel_rfl) rfl #[.int .u8 (bt a0 x9_1)] rfl (by (try simp only [List.map_toArray, List.map_cons, List.map_nil]); first | done | rfl | (simp only [List.length_drop, List.length_take]; rfl)) ?_; (with_reducible refine (jsonlex_hex.calls k1 (bt a0 x9_1) t106 _ A8.out).mono ?_); rintro e w' ⟨rfl, ⟨nd, rfl⟩⟩; refine ⟨_, rfl, ?_⟩))
           go_roundg k1
           case measure => have := HK1.out; omega
           case rel => exact ⟨(Go.bits .or .i64 (wrap64 (x6_1 * 16)) t106), (wrap64 (x9_1 + 1)), (by first | rfl | (simp; done) | (simp [*]; done)), (by first | rfl | (simp; done) | (simp [*]; done)), H', ⟨by have := HK1.out; omega⟩, by repeat (first | exact Drawn0.refl _ | apply Drawn0.step)⟩
         ·rw [if_neg c19] at H
          have c19b0 : (x9_1 == 1) = false := beq_eq_false_iff_ne.mpr c19
          have c19b1 : (x9_1 != 1) = true := bne_iff_ne.mpr c19
          have H' := Aside0.mk H
          clear H
          have p7 : 0 ≤ (x9_1 : Int) := of_decide_eq_true (by first | (with_reducible assumption) | assumption)
          have q7 : x9_1 < (a0.size : Int) := of_decide_eq_true (by first | (with_reducible assumption) | assumption)
          have hx7 := bt_at a0 x9_1
          replace p7 := eq_true p7; replace q7 := eq_true q7
          go_wp2_with (first | ((with_reducible refine gate_callee (f := 46) rfl ?_); refine goesL_ (some 19) rfl rfl Try.func46 (by kernel_rfl) rfl #[.int .u8 (bt a0 x9_1)] rfl (by (try simp only [List.map_toArray, List.map_cons, List.map_nil]); first | done | rfl | (simp only [List.length_drop, List.length_take]; rfl)) ?_; (with_reducible refine (jsonlex_hex.calls k1 (bt a0 x9_1) t106 _ A8.out).mono ?_); rintro e w' ⟨rfl, ⟨nd, rfl⟩⟩; refine ⟨_, rfl, ?_⟩))
          go_roundg k1
          case measure => have := HK1.out; omega
          case rel => exact ⟨(Go.bits .or .i64 (wrap64 (x6_1 * 16)) t106), (wrap64 (x9_1 + 1)), (by first | rfl | (simp; done) | (simp [*]; done)), (by first | rfl | (simp; done) | (simp [*]; done)), H', ⟨by have := HK1.out; omega⟩, by repeat (first | exact Drawn0.refl _ | apply Drawn0.step)⟩
      ·rw [if_neg c6] at H
       exact absurd H (by simp)
     ·rw [if_neg c5] at H
      exact absurd H (by simp)
   ·rw [if_neg c3] at H
    have c3b0 : decide (x9_1 < 4) = false := decide_eq_false c3
    clear c3
    simp only [Option.some.injEq, Prod.mk.injEq] at H
    obtain ⟨rfl, rfl⟩ := H
    go_wp2
    go_ret2
    exact ⟨by first | rfl | (simp; done) | (simp [*]; done), by repeat (first | exact Drawn0.refl _ | apply Drawn0.step)⟩

end Go.Proofs.Ytcnojfoiolbnaaa.QJsonlexNumbers
