-- by a program of this session (print2.py): the machine's side of one law; Lean checks it.
import Derived.Test.YtgpjkojnmeaoiaaQVx0
namespace Go.Proofs.Ytgpjkojnmeaoiaa.QV
open Go.RowKit Go.Proofs.YtgpjkojnmeaoiaaW.PrintWords Go.Proofs.YtgpjkojnmeaoiaaW.PrintLast Go.Proofs.YtgpjkojnmeaoiaaW.PrintMore
attribute [local go_sem] max2_int min2_int max_two min_two max_three min_three max_four min_four   -- for this text's walks alone
set_option linter.unusedVariables false
set_option linter.unusedSimpArgs false

/-! ### ndjqkeep_Strings: function 42 -/
def ndjqkeep_Strings.l0 : Nat → List ByteArray → List ByteArray → Int → Option (Bool)
  | 0, _, _, _ => none
  | k + 1, x0, x1, x5 => if x5 < (x0.length : Int) then (if 0 ≤ x5 then (if x5 < (x1.length : Int) then (if (rdOf ByteArray.empty x0 x5).toList = (rdOf ByteArray.empty x1 x5).toList then (ndjqkeep_Strings.l0 k x0 x1 (wrap64 (x5 + 1))) else (some false)) else (none)) else (none)) else (some true)
def ndjqkeep_Strings.f (k : Nat) (l0 : List ByteArray) (l1 : List ByteArray) : Option (Bool) := if (l0.length : Int) = (l1.length : Int) then (ndjqkeep_Strings.l0 k l0 l1 0) else (some false)
theorem ndjqkeep_Strings.mono_l : ∀ k, (∀ y0 y1 y2, LeO (ndjqkeep_Strings.l0 k y0 y1 y2) (ndjqkeep_Strings.l0 (k + 1) y0 y1 y2))
  | 0 => fun _ _ _ r h => by simp [ndjqkeep_Strings.l0] at h
  | k + 1 => by
    have ih0 := ndjqkeep_Strings.mono_l k
    · intro y0 y1 y2
      unfold ndjqkeep_Strings.l0
      repeat' first
      | (with_reducible exact ih0 _ _ _)
      | (with_reducible exact LeO.refl _)
      | (with_reducible exact LeO.none _)
      | (with_reducible refine LeO.ite ?_ ?_)
      | (with_reducible refine LeO.bind ?_ (fun _ => ?_))
      | exact ih0 _ _ _
      | exact LeO.none _
      | refine LeO.ite ?_ ?_
      | refine LeO.bind ?_ (fun _ => ?_)
theorem ndjqkeep_Strings.mono : ∀ a0 a1 k, LeO (ndjqkeep_Strings.f k a0 a1) (ndjqkeep_Strings.f (k + 1) a0 a1) := by
  intro a0 a1 k
  have ih0 := ndjqkeep_Strings.mono_l k
  unfold ndjqkeep_Strings.f
  repeat' first
      | (with_reducible exact ih0 _ _ _)
      | (with_reducible exact LeO.refl _)
      | (with_reducible exact LeO.none _)
      | (with_reducible refine LeO.ite ?_ ?_)
      | (with_reducible refine LeO.bind ?_ (fun _ => ?_))
      | exact ih0 _ _ _
      | exact LeO.none _
      | refine LeO.ite ?_ ?_
      | refine LeO.bind ?_ (fun _ => ?_)
set_option maxHeartbeats 8000000 in
set_option maxRecDepth 100000 in
theorem ndjqkeep_Strings.calls (k : Nat) (A0 : Option Addr) (c0 : Nat) (l0 : List ByteArray) (A1 : Option Addr) (c1 : Nat) (l1 : List ByteArray) (r : Bool) (w : World) (hr0 : Kd.C Kd.string w A0 l0.length l0) (hc0 : l0.length ≤ c0) (hr1 : Kd.C Kd.string w A1 l1.length l1) (hc1 : l1.length ≤ c1) (h : ndjqkeep_Strings.f k l0 l1 = some r) :
    Calls Try.prog 42 #[.slice A0 l0.length c0, .slice A1 l1.length c1] w fun e w' => e = .returned (.bool r) ∧ Drawn0 w w' := by
  have HR0 := Aside0.mk hr0
  have HC0 := Aside0.mk hc0
  clear hr0 hc0
  have HR1 := Aside0.mk hr1
  have HC1 := Aside0.mk hc1
  clear hr1 hc1
  have H : (if (l0.length : Int) = (l1.length : Int) then (ndjqkeep_Strings.l0 k l0 l1 0) else (some false)) = some r := h
  clear h
  by_cases c3 : (l0.length : Int) = (l1.length : Int)
  · rw [if_pos c3] at H
    have c3b0 : ((l0.length : Int) == (l1.length : Int)) = true := beq_iff_eq.mpr c3
    have c3b1 : ((l0.length : Int) != (l1.length : Int)) = false := bne_eq_false_iff_eq.mpr c3
    have c3b2 : (l0.length == l1.length) = true := by first | simpa using c3 | (simp at c3 ⊢; omega)
    clear c3
    have H' := Aside0.mk H
    clear H
    go_enter Try.func42, Try.ntmps42
    go_wp2
    repeat (go_quiet (fail); try go_wp2)
    go_loopg [5] k (fun kq v5 w' => ∃ (x5_1 : Int), v5 = .int .i64 x5_1 ∧ Aside0 (ndjqkeep_Strings.l0 kq l0 l1 x5_1 = some r) ∧ Aside0 (kq ≤ k) ∧ Drawn0 w w')
    case atStart => exact ⟨(0), (by first | rfl | (simp; done) | (simp [*]; done)), H', ⟨Nat.le_refl _⟩, by repeat (first | exact Drawn0.refl _ | apply Drawn0.step)⟩
    case round =>
      clear H'
      (try clear c1); (try clear p2); (try clear c3); (try clear c3b0); (try clear c3b1); (try clear c3b2)
      obtain ⟨x5_1, rfl, HA, HK1, ⟨m1, rfl⟩⟩ := hrel
      cases gk with
      | zero => exact absurd HA.out (by simp [ndjqkeep_Strings.l0])
      | succ k1 =>
        have H := HA.out
        clear HA
        simp only [ndjqkeep_Strings.l0] at H
        by_cases c4 : x5_1 < (l0.length : Int)
        · rw [if_pos c4] at H
          have c4b0 : decide (x5_1 < (l0.length : Int)) = true := decide_eq_true c4
          clear c4
          by_cases c5 : 0 ≤ x5_1
          · rw [if_pos c5] at H
            have c5b0 : decide (0 ≤ x5_1) = true := decide_eq_true c5
            clear c5
            by_cases c6 : x5_1 < (l1.length : Int)
            · rw [if_pos c6] at H
              have c6b0 : decide (x5_1 < (l1.length : Int)) = true := decide_eq_true c6
              clear c6
              by_cases c7 : (rdOf ByteArray.empty l0 x5_1).toList = (rdOf ByteArray.empty l1 x5_1).toList
              · rw [if_pos c7] at H
                have c7b0 : ((rdOf ByteArray.empty l0 x5_1).toList == (rdOf ByteArray.empty l1 x5_1).toList) = true := beq_iff_eq.mpr c7
                have c7b1 : ((rdOf ByteArray.empty l0 x5_1).toList != (rdOf ByteArray.empty l1 x5_1).toList) = false := bne_eq_false_iff_eq.mpr c7
                clear c7
                have H' := Aside0.mk H
                clear H
                have p134 : 0 ≤ (x5_1 : Int) := of_decide_eq_true (by first | (with_reducible assumption) | assumption)
                have q134 : x5_1 < (l0.length : Int) := of_decide_eq_true (by first | (with_reducible assumption) | assumption)
                obtain ⟨ad134, e134, hx134_0⟩ := Kd.at_string HR0.out x5_1 p134 q134
                cases e134
                replace p134 := eq_true p134
                replace q134 := eq_true q134
                have p135 : 0 ≤ (x5_1 : Int) := of_decide_eq_true (by first | (with_reducible assumption) | assumption)
                have q135 : x5_1 < (l1.length : Int) := of_decide_eq_true (by first | (with_reducible assumption) | assumption)
                obtain ⟨ad135, e135, hx135_0⟩ := Kd.at_string HR1.out x5_1 p135 q135
                cases e135
                replace p135 := eq_true p135
                replace q135 := eq_true q135
                go_wp2
                repeat (go_quiet (fail); try go_wp2)
                go_roundg k1
                case measure => have := HK1.out; omega
                case rel => exact ⟨(wrap64 (x5_1 + 1)), (by first | rfl | (simp; done) | (simp [*]; done)), H', ⟨by have := HK1.out; omega⟩, by repeat (first | exact Drawn0.refl _ | apply Drawn0.step)⟩
              · rw [if_neg c7] at H
                have c7b0 : ((rdOf ByteArray.empty l0 x5_1).toList == (rdOf ByteArray.empty l1 x5_1).toList) = false := beq_eq_false_iff_ne.mpr c7
                have c7b1 : ((rdOf ByteArray.empty l0 x5_1).toList != (rdOf ByteArray.empty l1 x5_1).toList) = true := bne_iff_ne.mpr c7
                obtain rfl := Option.some.inj H
                have p134 : 0 ≤ (x5_1 : Int) := of_decide_eq_true (by first | (with_reducible assumption) | assumption)
                have q134 : x5_1 < (l0.length : Int) := of_decide_eq_true (by first | (with_reducible assumption) | assumption)
                obtain ⟨ad134, e134, hx134_0⟩ := Kd.at_string HR0.out x5_1 p134 q134
                cases e134
                replace p134 := eq_true p134
                replace q134 := eq_true q134
                have p135 : 0 ≤ (x5_1 : Int) := of_decide_eq_true (by first | (with_reducible assumption) | assumption)
                have q135 : x5_1 < (l1.length : Int) := of_decide_eq_true (by first | (with_reducible assumption) | assumption)
                obtain ⟨ad135, e135, hx135_0⟩ := Kd.at_string HR1.out x5_1 p135 q135
                cases e135
                replace p135 := eq_true p135
                replace q135 := eq_true q135
                go_wp2
                repeat (go_quiet (fail); try go_wp2)
                go_ret
                exact ⟨by first | rfl | (simp; done) | (simp [*]; done), by repeat (first | exact Drawn0.refl _ | apply Drawn0.step)⟩
            · rw [if_neg c6] at H
              exact absurd H (by simp)
          · rw [if_neg c5] at H
            exact absurd H (by simp)
        · rw [if_neg c4] at H
          have c4b0 : decide (x5_1 < (l0.length : Int)) = false := decide_eq_false c4
          clear c4
          obtain rfl := Option.some.inj H
          go_wp2
          repeat (go_quiet (fail); try go_wp2)
          go_ret
          exact ⟨by first | rfl | (simp; done) | (simp [*]; done), by repeat (first | exact Drawn0.refl _ | apply Drawn0.step)⟩
  · rw [if_neg c3] at H
    have c3b0 : ((l0.length : Int) == (l1.length : Int)) = false := beq_eq_false_iff_ne.mpr c3
    have c3b1 : ((l0.length : Int) != (l1.length : Int)) = true := bne_iff_ne.mpr c3
    have c3b2 : (l0.length == l1.length) = false := by first | simpa using c3 | (simp at c3 ⊢; omega)
    obtain rfl := Option.some.inj H
    go_enter Try.func42, Try.ntmps42
    go_wp2
    repeat (go_quiet (fail); try go_wp2)
    go_ret
    exact ⟨by first | rfl | (simp; done) | (simp [*]; done), by repeat (first | exact Drawn0.refl _ | apply Drawn0.step)⟩

/-! ### ndjqref01_size: function 92 -/
def ndjqref01_size.j0 : Nat → Int → Bool → Option (Int)
  | 0, _, _ => none
  | k + 1, x0, x3 => if x3 = true then (some 0) else (if x0 < 128 then (some 1) else (if x0 < 2048 then (some 2) else (if x0 < 65536 then (some 3) else (some 4))))
def ndjqref01_size.f (k : Nat) (a0 : Int) : Option (Int) := if a0 < 0 then (ndjqref01_size.j0 k a0 true) else (if a0 > 1114111 then (ndjqref01_size.j0 k a0 true) else (if a0 ≥ 55296 then (ndjqref01_size.j0 k a0 (decide (a0 < 57344))) else (ndjqref01_size.j0 k a0 false)))
theorem ndjqref01_size.mono_l : ∀ k, (∀ y0 y1, LeO (ndjqref01_size.j0 k y0 y1) (ndjqref01_size.j0 (k + 1) y0 y1))
  | 0 => fun _ _ r h => by simp [ndjqref01_size.j0] at h
  | k + 1 => by
    have ih0 := ndjqref01_size.mono_l k
    · intro y0 y1
      unfold ndjqref01_size.j0
      repeat' first
      | (with_reducible exact ih0 _ _)
      | (with_reducible exact LeO.refl _)
      | (with_reducible exact LeO.none _)
      | (with_reducible refine LeO.ite ?_ ?_)
      | (with_reducible refine LeO.bind ?_ (fun _ => ?_))
      | exact ih0 _ _
      | exact LeO.none _
      | refine LeO.ite ?_ ?_
      | refine LeO.bind ?_ (fun _ => ?_)
theorem ndjqref01_size.mono : ∀ a0 k, LeO (ndjqref01_size.f k a0) (ndjqref01_size.f (k + 1) a0) := by
  intro a0 k
  have ih0 := ndjqref01_size.mono_l k
  unfold ndjqref01_size.f
  repeat' first
      | (with_reducible exact ih0 _ _)
      | (with_reducible exact LeO.refl _)
      | (with_reducible exact LeO.none _)
      | (with_reducible refine LeO.ite ?_ ?_)
      | (with_reducible refine LeO.bind ?_ (fun _ => ?_))
      | exact ih0 _ _
      | exact LeO.none _
      | refine LeO.ite ?_ ?_
      | refine LeO.bind ?_ (fun _ => ?_)
set_option maxHeartbeats 8000000 in
set_option maxRecDepth 100000 in
theorem ndjqref01_size.calls (k : Nat) (a0 : Int) (r : Int) (w : World) (h : ndjqref01_size.f k a0 = some r) :
    Calls Try.prog 92 #[.int .i64 a0] w fun e w' => e = .returned (.int .i64 r) ∧ Drawn0 w w' := by
  have H : (if a0 < 0 then (ndjqref01_size.j0 k a0 true) else (if a0 > 1114111 then (ndjqref01_size.j0 k a0 true) else (if a0 ≥ 55296 then (ndjqref01_size.j0 k a0 (decide (a0 < 57344))) else (ndjqref01_size.j0 k a0 false)))) = some r := h
  clear h
  have HC2 := Aside0.mk H
  clear H
  go_enter Try.func92, Try.ntmps92
  go_upto_region 1 with (fail)
  go_cut [3] (fun v3 wc => ∃ (kq : Nat) (x3_1 : Bool), v3 = .bool x3_1 ∧ Aside0 (ndjqref01_size.j0 kq a0 x3_1 = some r) ∧ Aside0 (kq ≤ k) ∧ Drawn0 w wc)
  case first =>
    have H := HC2.out
    clear HC2
    by_cases c3 : a0 < 0
    · rw [if_pos c3] at H
      have c3b0 : decide (a0 < 0) = true := decide_eq_true c3
      clear c3
      (first | rw [c3b0] | (simp only [i64_w, i32_w]; rw [c3b0]) | skip)
      have H' := Aside0.mk H
      clear H
      go_wp2
      go_meet
      case rel => exact ⟨_, (true), (by first | rfl | (simp; done) | (simp [*]; done)), H', ⟨by first | omega | exact Nat.le_refl _⟩, by repeat (first | exact Drawn0.refl _ | apply Drawn0.step)⟩
    · rw [if_neg c3] at H
      have c3b0 : decide (a0 < 0) = false := decide_eq_false c3
      clear c3
      (first | rw [c3b0] | (simp only [i64_w, i32_w]; rw [c3b0]) | skip)
      by_cases c4 : a0 > 1114111
      · rw [if_pos c4] at H
        have c4b0 : decide (1114111 < a0) = true := decide_eq_true c4
        clear c4
        have H' := Aside0.mk H
        clear H
        go_wp2
        go_meet
        case rel => exact ⟨_, (true), (by first | rfl | (simp; done) | (simp [*]; done)), H', ⟨by first | omega | exact Nat.le_refl _⟩, by repeat (first | exact Drawn0.refl _ | apply Drawn0.step)⟩
      · rw [if_neg c4] at H
        have c4b0 : decide (1114111 < a0) = false := decide_eq_false c4
        clear c4
        by_cases c5 : a0 ≥ 55296
        · rw [if_pos c5] at H
          have c5b0 : decide (55296 ≤ a0) = true := decide_eq_true c5
          clear c5
          have H' := Aside0.mk H
          clear H
          go_wp2
          go_meet
          case rel => exact ⟨_, (decide (a0 < 57344)), (by first | rfl | (simp; done) | (simp [*]; done)), H', ⟨by first | omega | exact Nat.le_refl _⟩, by repeat (first | exact Drawn0.refl _ | apply Drawn0.step)⟩
        · rw [if_neg c5] at H
          have c5b0 : decide (55296 ≤ a0) = false := decide_eq_false c5
          clear c5
          have H' := Aside0.mk H
          clear H
          go_wp2
          go_meet
          case rel => exact ⟨_, (false), (by first | rfl | (simp; done) | (simp [*]; done)), H', ⟨by first | omega | exact Nat.le_refl _⟩, by repeat (first | exact Drawn0.refl _ | apply Drawn0.step)⟩
  case rest =>
    clear HC2
    (try clear p2); (try clear c3); (try clear c3b0); (try clear c4); (try clear c4b0); (try clear c5); (try clear c5b0)
    obtain ⟨kq, x3_1, rfl, HA, HJ1, ⟨mc1, rfl⟩⟩ := hcut
    cases kq with
    | zero => exact absurd HA.out (by simp [ndjqref01_size.j0])
    | succ kj1 =>
      have H := HA.out
      clear HA
      simp only [ndjqref01_size.j0] at H
      by_cases c6 : x3_1 = true
      · subst c6
        have H1 : (some 0) = some r := by rw [if_pos rfl] at H; exact H
        clear H
        have H := H1
        clear H1
        obtain rfl := Option.some.inj H
        go_wp2
        go_ret
        exact ⟨by first | rfl | (simp; done) | (simp [*]; done), by repeat (first | exact Drawn0.refl _ | apply Drawn0.step)⟩
      · replace c6 := Bool.eq_false_iff.mpr c6
        subst c6
        have H1 : (if a0 < 128 then (some 1) else (if a0 < 2048 then (some 2) else (if a0 < 65536 then (some 3) else (some 4)))) = some r := by rw [if_neg (show ¬ (false = true) by decide)] at H; exact H
        clear H
        have H := H1
        clear H1
        by_cases c7 : a0 < 128
        · rw [if_pos c7] at H
          have c7b0 : decide (a0 < 128) = true := decide_eq_true c7
          clear c7
          obtain rfl := Option.some.inj H
          go_wp2
          go_ret
          exact ⟨by first | rfl | (simp; done) | (simp [*]; done), by repeat (first | exact Drawn0.refl _ | apply Drawn0.step)⟩
        · rw [if_neg c7] at H
          have c7b0 : decide (a0 < 128) = false := decide_eq_false c7
          clear c7
          by_cases c8 : a0 < 2048
          · rw [if_pos c8] at H
            have c8b0 : decide (a0 < 2048) = true := decide_eq_true c8
            clear c8
            obtain rfl := Option.some.inj H
            go_wp2
            go_ret
            exact ⟨by first | rfl | (simp; done) | (simp [*]; done), by repeat (first | exact Drawn0.refl _ | apply Drawn0.step)⟩
          · rw [if_neg c8] at H
            have c8b0 : decide (a0 < 2048) = false := decide_eq_false c8
            clear c8
            by_cases c9 : a0 < 65536
            · rw [if_pos c9] at H
              have c9b0 : decide (a0 < 65536) = true := decide_eq_true c9
              clear c9
              obtain rfl := Option.some.inj H
              go_wp2
              go_ret
              exact ⟨by first | rfl | (simp; done) | (simp [*]; done), by repeat (first | exact Drawn0.refl _ | apply Drawn0.step)⟩
            · rw [if_neg c9] at H
              have c9b0 : decide (a0 < 65536) = false := decide_eq_false c9
              clear c9
              obtain rfl := Option.some.inj H
              go_wp2
              go_ret
              exact ⟨by first | rfl | (simp; done) | (simp [*]; done), by repeat (first | exact Drawn0.refl _ | apply Drawn0.step)⟩

/-! ### ndjqref01_Decode: function 84 -/
mutual
def ndjqref01_Decode.j0 : Nat → ByteArray → Int → Bool → Option (Int × Int × Bool)
 | 0, _, _, _ => none
 | k + 1, x0, x1, x19 => if x19 = true then (some (0, 0, false)) else (if 0 ≤ x1 then (if x1 < (x0.size : Int) then (if (wrap64 (bt x0 x1)) < 128 then (some (wrap64 (bt x0 x1), 1, true)) else (if (wrap64 (bt x0 x1)) ≥ 192 then (ndjqref01_Decode.j1 k x0 x1 (wrap64 (bt x0 x1)) (decide ((wrap64 (bt x0 x1)) < 224))) else (ndjqref01_Decode.j1 k x0 x1 (wrap64 (bt x0 x1)) false))) else (none)) else (none))
def ndjqref01_Decode.j3 : Nat → ByteArray → Int → Int → Int → Option (Int × Int × Bool)
 | 0, _, _, _, _ => none
 | k + 1, x0, x1, x8, x9 => if x8 > (wrap64 ((x0.size : Int) - x1)) then (some (0, 0, false)) else (ndjqref01_Decode.l0 k x0 x1 x8 x9 1)
def ndjqref01_Decode.l0 : Nat → ByteArray → Int → Int → Int → Int → Option (Int × Int × Bool)
 | 0, _, _, _, _, _ => none
 | k + 1, x0, x1, x8, x9, x10 => if x10 < x8 then (if 0 ≤ (wrap64 (x1 + x10)) then (if (wrap64 (x1 + x10)) < (x0.size : Int) then (if (wrap64 (bt x0 (wrap64 (x1 + x10)))) < 128 then (some (0, 0, false)) else (if (wrap64 (bt x0 (wrap64 (x1 + x10)))) ≥ 192 then (some (0, 0, false)) else (ndjqref01_Decode.l0 k x0 x1 x8 (Go.bits .or .i64 (wrap64 (x9 * 64)) (Go.bits .and .i64 (wrap64 (bt x0 (wrap64 (x1 + x10)))) 63)) (wrap64 (x10 + 1))))) else (none)) else (none)) else ((ndjqref01_size.f k x9).bind fun t136 => (if t136 = x8 then (some (x9, x8, true)) else (some (0, 0, false))))
def ndjqref01_Decode.j1 : Nat → ByteArray → Int → Int → Bool → Option (Int × Int × Bool)
 | 0, _, _, _, _ => none
 | k + 1, x0, x1, x7, x28 => if x28 = true then (ndjqref01_Decode.j3 k x0 x1 2 (Go.bits .and .i64 x7 31)) else (if x7 ≥ 224 then (ndjqref01_Decode.j2 k x0 x1 x7 (decide (x7 < 240))) else (ndjqref01_Decode.j2 k x0 x1 x7 false))
def ndjqref01_Decode.j2 : Nat → ByteArray → Int → Int → Bool → Option (Int × Int × Bool)
 | 0, _, _, _, _ => none
 | k + 1, x0, x1, x7, x37 => if x37 = true then (ndjqref01_Decode.j3 k x0 x1 3 (Go.bits .and .i64 x7 15)) else (if x7 ≥ 240 then (if x7 < 248 then (ndjqref01_Decode.j3 k x0 x1 4 (Go.bits .and .i64 x7 7)) else (some (0, 0, false))) else (some (0, 0, false)))
end
def ndjqref01_Decode.f (k : Nat) (a0 : ByteArray) (a1 : Int) : Option (Int × Int × Bool) := if a1 < 0 then (ndjqref01_Decode.j0 k a0 a1 true) else (ndjqref01_Decode.j0 k a0 a1 (decide (a1 ≥ (a0.size : Int))))
theorem ndjqref01_Decode.mono_l : ∀ k, (∀ y0 y1 y2, LeO (ndjqref01_Decode.j0 k y0 y1 y2) (ndjqref01_Decode.j0 (k + 1) y0 y1 y2)) ∧ (∀ y0 y1 y2 y3, LeO (ndjqref01_Decode.j3 k y0 y1 y2 y3) (ndjqref01_Decode.j3 (k + 1) y0 y1 y2 y3)) ∧ (∀ y0 y1 y2 y3 y4, LeO (ndjqref01_Decode.l0 k y0 y1 y2 y3 y4) (ndjqref01_Decode.l0 (k + 1) y0 y1 y2 y3 y4)) ∧ (∀ y0 y1 y2 y3, LeO (ndjqref01_Decode.j1 k y0 y1 y2 y3) (ndjqref01_Decode.j1 (k + 1) y0 y1 y2 y3)) ∧ (∀ y0 y1 y2 y3, LeO (ndjqref01_Decode.j2 k y0 y1 y2 y3) (ndjqref01_Decode.j2 (k + 1) y0 y1 y2 y3))
 | 0 => ⟨fun _ _ _ r h => by simp [ndjqref01_Decode.j0] at h, fun _ _ _ _ r h => by simp [ndjqref01_Decode.j3] at h, fun _ _ _ _ _ r h => by simp [ndjqref01_Decode.l0] at h, fun _ _ _ _ r h => by simp [ndjqref01_Decode.j1] at h, fun _ _ _ _ r h => by simp [ndjqref01_Decode.j2] at h⟩
 | k + 1 => by
  obtain ⟨ih0, ih1, ih2, ih3, ih4⟩ := ndjqref01_Decode.mono_l k
  refine ⟨?_, ?_, ?_, ?_, ?_⟩
  ·intro y0 y1 y2
   unfold ndjqref01_Decode.j0
   repeat' first
   | (with_reducible exact ih0 _ _ _)
   | (with_reducible exact ih1 _ _ _ _)
   | (with_reducible exact ih2 _ _ _ _ _)
   | (with_reducible exact ih3 _ _ _ _)
   | (with_reducible exact ih4 _ _ _ _)
   | (with_reducible exact ndjqref01_size.mono _ _)
   | (with_reducible exact LeO.refl _)
   | (with_reducible exact LeO.none _)
   | (with_reducible refine LeO.ite ?_ ?_)
   | (with_reducible refine LeO.bind ?_ (fun _ => ?_))
   | exact ih0 _ _ _
   | exact ih1 _ _ _ _
   | exact ih2 _ _ _ _ _
   | exact ih3 _ _ _ _
   | exact ih4 _ _ _ _
   | exact ndjqref01_size.mono _ _
   | exact LeO.none _
   | refine LeO.ite ?_ ?_
   | refine LeO.bind ?_ (fun _ => ?_)
  ·intro y0 y1 y2 y3
   unfold ndjqref01_Decode.j3
   repeat' first
   | (with_reducible exact ih0 _ _ _)
   | (with_reducible exact ih1 _ _ _ _)
   | (with_reducible exact ih2 _ _ _ _ _)
   | (with_reducible exact ih3 _ _ _ _)
   | (with_reducible exact ih4 _ _ _ _)
   | (with_reducible exact ndjqref01_size.mono _ _)
   | (with_reducible exact LeO.refl _)
   | (with_reducible exact LeO.none _)
   | (with_reducible refine LeO.ite ?_ ?_)
   | (with_reducible refine LeO.bind ?_ (fun _ => ?_))
   | exact ih0 _ _ _
   | exact ih1 _ _ _ _
   | exact ih2 _ _ _ _ _
   | exact ih3 _ _ _ _
   | exact ih4 _ _ _ _
   | exact ndjqref01_size.mono _ _
   | exact LeO.none _
   | refine LeO.ite ?_ ?_
   | refine LeO.bind ?_ (fun _ => ?_)
  ·intro y0 y1 y2 y3 y4
   unfold ndjqref01_Decode.l0
   repeat' first
   | (with_reducible exact ih0 _ _ _)
   | (with_reducible exact ih1 _ _ _ _)
   | (with_reducible exact ih2 _ _ _ _ _)
   | (with_reducible exact ih3 _ _ _ _)
   | (with_reducible exact ih4 _ _ _ _)
   | (with_reducible exact ndjqref01_size.mono _ _)
   | (with_reducible exact LeO.refl _)
   | (with_reducible exact LeO.none _)
   | (with_reducible refine LeO.ite ?_ ?_)
   | (with_reducible refine LeO.bind ?_ (fun _ => ?_))
   | exact ih0 _ _ _
   | exact ih1 _ _ _ _
   | exact ih2 _ _ _ _ _
   | exact ih3 _ _ _ _
   | exact ih4 _ _ _ _
   | exact ndjqref01_size.mono _ _
   | exact LeO.none _
   | refine LeO.ite ?_ ?_
   | refine LeO.bind ?_ (fun _ => ?_)
  ·intro y0 y1 y2 y3
   unfold ndjqref01_Decode.j1
   repeat' first
   | (with_reducible exact ih0 _ _ _)
   | (with_reducible exact ih1 _ _ _ _)
   | (with_reducible exact ih2 _ _ _ _ _)
   | (with_reducible exact ih3 _ _ _ _)
   | (with_reducible exact ih4 _ _ _ _)
   | (with_reducible exact ndjqref01_size.mono _ _)
   | (with_reducible exact LeO.refl _)
   | (with_reducible exact LeO.none _)
   | (with_reducible refine LeO.ite ?_ ?_)
   | (with_reducible refine LeO.bind ?_ (fun _ => ?_))
   | exact ih0 _ _ _
   | exact ih1 _ _ _ _
   | exact ih2 _ _ _ _ _
   | exact ih3 _ _ _ _
   | exact ih4 _ _ _ _
   | exact ndjqref01_size.mono _ _
   | exact LeO.none _
   | refine LeO.ite ?_ ?_
   | refine LeO.bind ?_ (fun _ => ?_)
  ·intro y0 y1 y2 y3
   unfold ndjqref01_Decode.j2
   repeat' first
   | (with_reducible exact ih0 _ _ _)
   | (with_reducible exact ih1 _ _ _ _)
   | (with_reducible exact ih2 _ _ _ _ _)
   | (with_reducible exact ih3 _ _ _ _)
   | (with_reducible exact ih4 _ _ _ _)
   | (with_reducible exact ndjqref01_size.mono _ _)
   | (with_reducible exact LeO.refl _)
   | (with_reducible exact LeO.none _)
   | (with_reducible refine LeO.ite ?_ ?_)
   | (with_reducible refine LeO.bind ?_ (fun _ => ?_))
   | exact ih0 _ _ _
   | exact ih1 _ _ _ _
   | exact ih2 _ _ _ _ _
   | exact ih3 _ _ _ _
   | exact ih4 _ _ _ _
   | exact ndjqref01_size.mono _ _
   | exact LeO.none _
   | refine LeO.ite ?_ ?_
   | refine LeO.bind ?_ (fun _ => ?_)
theorem ndjqref01_Decode.mono : ∀ a0 a1 k, LeO (ndjqref01_Decode.f k a0 a1) (ndjqref01_Decode.f (k + 1) a0 a1) := by
 intro a0 a1 k
 obtain ⟨ih0, ih1, ih2, ih3, ih4⟩ := ndjqref01_Decode.mono_l k
 unfold ndjqref01_Decode.f
 repeat' first
   | (with_reducible exact ih0 _ _ _)
   | (with_reducible exact ih1 _ _ _ _)
   | (with_reducible exact ih2 _ _ _ _ _)
   | (with_reducible exact ih3 _ _ _ _)
   | (with_reducible exact ih4 _ _ _ _)
   | (with_reducible exact ndjqref01_size.mono _ _)
   | (with_reducible exact LeO.refl _)
   | (with_reducible exact LeO.none _)
   | (with_reducible refine LeO.ite ?_ ?_)
   | (with_reducible refine LeO.bind ?_ (fun _ => ?_))
   | exact ih0 _ _ _
   | exact ih1 _ _ _ _
   | exact ih2 _ _ _ _ _
   | exact ih3 _ _ _ _
   | exact ih4 _ _ _ _
   | exact ndjqref01_size.mono _ _
   | exact LeO.none _
   | refine LeO.ite ?_ ?_
   | refine LeO.bind ?_ (fun _ => ?_)
set_option maxHeartbeats 8000000 in
set_option maxRecDepth 100000 in
theorem ndjqref01_Decode.calls (k : Nat) (a0 : ByteArray) (a1 : Int) (r1 : Int) (r2 : Int) (r3 : Bool) (w : World) (h : ndjqref01_Decode.f k a0 a1 = some (r1, r2, r3)) :
  Calls Try.prog 84 #[.string a0, .int .i64 a1] w fun e w' => e = .returned (.tuple #[.int .i64 r1, .int .i64 r2, .bool r3]) ∧ Drawn0 w w' := by
 have H : (if a1 < 0 then (ndjqref01_Decode.j0 k a0 a1 true) else (ndjqref01_Decode.j0 k a0 a1 (decide (a1 ≥ (a0.size : Int))))) = some (r1, r2, r3) := h
 clear h
 have HC3 := Aside0.mk H
 clear H
 go_enter Try.func84, Try.ntmps84
 go_upto_region 1 with (fail)
 go_cut [19] (fun v19 wc => ∃ (kq : Nat) (x19_2 : Bool), v19 = .bool x19_2 ∧ Aside0 (ndjqref01_Decode.j0 kq a0 a1 x19_2 = some (r1, r2, r3)) ∧ Aside0 (kq ≤ k) ∧ Drawn0 w wc)
 case first =>
  have H := HC3.out
  clear HC3
  by_cases c4 : a1 < 0
  ·rw [if_pos c4] at H
   have c4b0 : decide (a1 < 0) = true := decide_eq_true c4
   clear c4
   (first | rw [c4b0] | (simp only [i64_w, i32_w]; rw [c4b0]) | skip)
   have H' := Aside0.mk H
   clear H
   go_wp2
   go_meet
   case rel => exact ⟨_, (true), (by first | rfl | (simp; done) | (simp [*]; done)), H', ⟨by first | omega | exact Nat.le_refl _⟩, by repeat (first | exact Drawn0.refl _ | apply Drawn0.step)⟩
  ·rw [if_neg c4] at H
   have c4b0 : decide (a1 < 0) = false := decide_eq_false c4
   clear c4
   (first | rw [c4b0] | (simp only [i64_w, i32_w]; rw [c4b0]) | skip)
   have H' := Aside0.mk H
   clear H
   go_wp2
   go_meet
   case rel => exact ⟨_, (decide (a1 ≥ (a0.size : Int))), (by first | rfl | (simp; done) | (simp [*]; done)), H', ⟨by first | omega | exact Nat.le_refl _⟩, by repeat (first | exact Drawn0.refl _ | apply Drawn0.step)⟩
 case rest =>
  clear HC3
  (try clear p2); (try clear c4); (try clear c4b0)
  obtain ⟨kq, x19_2, rfl, HA, HJ2, ⟨mc2, rfl⟩⟩ := hcut
  cases kq with
  | zero => exact absurd HA.out (by simp [ndjqref01_Decode.j0])
  | succ kj2 =>
   have H := HA.out
   clear HA
   simp only [ndjqref01_Decode.j0] at H
   by_cases c5 : x19_2 = true
   ·subst c5
    have H1 : (some (0, 0, false)) = some (r1, r2, r3) := by rw [if_pos rfl] at H; exact H
    clear H; have H := H1; clear H1
    simp only [Option.some.injEq, Prod.mk.injEq] at H
    obtain ⟨rfl, rfl, rfl⟩ := H
    go_wp2
    go_ret3
    exact ⟨by first | rfl | (simp; done) | (simp [*]; done), by repeat (first | exact Drawn0.refl _ | apply Drawn0.step)⟩
   ·replace c5 := Bool.eq_false_iff.mpr c5
    subst c5
    have H1 : (if 0 ≤ a1 then (if a1 < (a0.size : Int) then (if (wrap64 (bt a0 a1)) < 128 then (some (wrap64 (bt a0 a1), 1, true)) else (if (wrap64 (bt a0 a1)) ≥ 192 then (ndjqref01_Decode.j1 kj2 a0 a1 (wrap64 (bt a0 a1)) (decide ((wrap64 (bt a0 a1)) < 224))) else (ndjqref01_Decode.j1 kj2 a0 a1 (wrap64 (bt a0 a1)) false))) else (none)) else (none)) = some (r1, r2, r3) := by rw [if_neg (show ¬ (false = true) by decide)] at H; exact H
    clear H; have H := H1; clear H1
    by_cases c6 : 0 ≤ a1
    ·rw [if_pos c6] at H
     have c6b0 : decide (0 ≤ a1) = true := decide_eq_true c6
     clear c6
     by_cases c7 : a1 < (a0.size : Int)
     ·rw [if_pos c7] at H
      have c7b0 : decide (a1 < (a0.size : Int)) = true := decide_eq_true c7
      clear c7
      have HC9 := Aside0.mk H
      clear H
      have p8 : 0 ≤ (a1 : Int) := of_decide_eq_true (by first | (with_reducible assumption) | assumption)
      have q8 : a1 < (a0.size : Int) := of_decide_eq_true (by first | (with_reducible assumption) | assumption)
      have hx8 := bt_at a0 a1
      replace p8 := eq_true p8; replace q8 := eq_true q8
      go_upto_block 0 with (fail)
      go_cut [8, 9] (fun v8 v9 wc => ∃ (kq : Nat) (x8_8 : Int) (x9_8 : Int), v8 = .int .i64 x8_8 ∧ v9 = .int .i64 x9_8 ∧ Aside0 (ndjqref01_Decode.j3 kq a0 a1 x8_8 x9_8 = some (r1, r2, r3)) ∧ Aside0 (kq ≤ kj2) ∧ Drawn0 w wc)
      case first =>
       have H := HC9.out
       clear HC9
       by_cases c10 : (wrap64 (bt a0 a1)) < 128
       ·rw [if_pos c10] at H
        have c10b0 : decide ((wrap64 (bt a0 a1)) < 128) = true := decide_eq_true c10
        clear c10
        (first | rw [c10b0] | (simp only [i64_w, i32_w]; rw [c10b0]) | skip)
        simp only [Option.some.injEq, Prod.mk.injEq] at H
        obtain ⟨rfl, rfl, rfl⟩ := H
        go_wp2
        go_ret3
        exact ⟨by first | rfl | (simp; done) | (simp [*]; done), by repeat (first | exact Drawn0.refl _ | apply Drawn0.step)⟩
       ·rw [if_neg c10] at H
        have c10b0 : decide ((wrap64 (bt a0 a1)) < 128) = false := decide_eq_false c10
        clear c10
        (first | rw [c10b0] | (simp only [i64_w, i32_w]; rw [c10b0]) | skip)
        have HC11 := Aside0.mk H
        clear H
        go_upto_region 8 with (fail)
        go_cut [28] (fun v28 wc => ∃ (kq : Nat) (x28_10 : Bool), v28 = .bool x28_10 ∧ Aside0 (ndjqref01_Decode.j1 kq a0 a1 (wrap64 (bt a0 a1)) x28_10 = some (r1, r2, r3)) ∧ Aside0 (kq ≤ kj2) ∧ Drawn0 w wc)
        case first =>
         have H := HC11.out
         clear HC11
         by_cases c12 : (wrap64 (bt a0 a1)) ≥ 192
         ·rw [if_pos c12] at H
          have c12b0 : decide (192 ≤ (wrap64 (bt a0 a1))) = true := decide_eq_true c12
          clear c12
          (first | rw [c12b0] | (simp only [i64_w, i32_w]; rw [c12b0]) | skip)
          have H' := Aside0.mk H
          clear H
          go_wp2
          go_meet
          case rel => exact ⟨_, (decide ((wrap64 (bt a0 a1)) < 224)), (by first | rfl | (simp; done) | (simp [*]; done)), H', ⟨by have := HJ2.out; first | omega | exact Nat.le_refl _⟩, by repeat (first | exact Drawn0.refl _ | apply Drawn0.step)⟩
         ·rw [if_neg c12] at H
          have c12b0 : decide (192 ≤ (wrap64 (bt a0 a1))) = false := decide_eq_false c12
          clear c12
          (first | rw [c12b0] | (simp only [i64_w, i32_w]; rw [c12b0]) | skip)
          have H' := Aside0.mk H
          clear H
          go_wp2
          go_meet
          case rel => exact ⟨_, (false), (by first | rfl | (simp; done) | (simp [*]; done)), H', ⟨by have := HJ2.out; first | omega | exact Nat.le_refl _⟩, by repeat (first | exact Drawn0.refl _ | apply Drawn0.step)⟩
        case rest =>
         clear HC11
         (try clear c1); (try clear c2); (try clear c5); (try clear c6); (try clear c6b0); (try clear p6); (try clear c7); (try clear c7b0); (try clear c8); (try clear p8); (try clear q8); (try clear hx8); (try clear c10); (try clear c10b0); (try clear c12); (try clear c12b0)
         obtain ⟨kq, x28_10, rfl, HA, HJ10, ⟨mc10, rfl⟩⟩ := hcut
         cases kq with
         | zero => exact absurd HA.out (by simp [ndjqref01_Decode.j1])
         | succ kj10 =>
          have H := HA.out
          clear HA
          simp only [ndjqref01_Decode.j1] at H
          by_cases c13 : x28_10 = true
          ·subst c13
           have H1 : (ndjqref01_Decode.j3 kj10 a0 a1 2 (Go.bits .and .i64 (wrap64 (bt a0 a1)) 31)) = some (r1, r2, r3) := by rw [if_pos rfl] at H; exact H
           clear H; have H := H1; clear H1
           have H' := Aside0.mk H
           clear H
           go_wp2
           go_meet
           case rel => exact ⟨_, (2), (Go.bits .and .i64 (wrap64 (bt a0 a1)) 31), (by first | rfl | (simp; done) | (simp [*]; done)), (by first | rfl | (simp; done) | (simp [*]; done)), H', ⟨by have := HJ2.out; have := HJ10.out; first | omega | exact Nat.le_refl _⟩, by repeat (first | exact Drawn0.refl _ | apply Drawn0.step)⟩
          ·replace c13 := Bool.eq_false_iff.mpr c13
           subst c13
           have H1 : (if (wrap64 (bt a0 a1)) ≥ 224 then (ndjqref01_Decode.j2 kj10 a0 a1 (wrap64 (bt a0 a1)) (decide ((wrap64 (bt a0 a1)) < 240))) else (ndjqref01_Decode.j2 kj10 a0 a1 (wrap64 (bt a0 a1)) false)) = some (r1, r2, r3) := by rw [if_neg (show ¬ (false = true) by decide)] at H; exact H
           clear H; have H := H1; clear H1
           have HC14 := Aside0.mk H
           clear H
           go_upto_region 10 with (fail)
           go_cut [37] (fun v37 wc => ∃ (kq : Nat) (x37_13 : Bool), v37 = .bool x37_13 ∧ Aside0 (ndjqref01_Decode.j2 kq a0 a1 (wrap64 (bt a0 a1)) x37_13 = some (r1, r2, r3)) ∧ Aside0 (kq ≤ kj10) ∧ Drawn0 w wc)
           case first =>
            have H := HC14.out
            clear HC14
            by_cases c15 : (wrap64 (bt a0 a1)) ≥ 224
            ·rw [if_pos c15] at H
             have c15b0 : decide (224 ≤ (wrap64 (bt a0 a1))) = true := decide_eq_true c15
             clear c15
             (first | rw [c15b0] | (simp only [i64_w, i32_w]; rw [c15b0]) | skip)
             have H' := Aside0.mk H
             clear H
             go_wp2
             go_meet
             case rel => exact ⟨_, (decide ((wrap64 (bt a0 a1)) < 240)), (by first | rfl | (simp; done) | (simp [*]; done)), H', ⟨by have := HJ2.out; have := HJ10.out; first | omega | exact Nat.le_refl _⟩, by repeat (first | exact Drawn0.refl _ | apply Drawn0.step)⟩
            ·rw [if_neg c15] at H
             have c15b0 : decide (224 ≤ (wrap64 (bt a0 a1))) = false := decide_eq_false c15
             clear c15
             (first | rw [c15b0] | (simp only [i64_w, i32_w]; rw [c15b0]) | skip)
             have H' := Aside0.mk H
             clear H
             go_wp2
             go_meet
             case rel => exact ⟨_, (false), (by first | rfl | (simp; done) | (simp [*]; done)), H', ⟨by have := HJ2.out; have := HJ10.out; first | omega | exact Nat.le_refl _⟩, by repeat (first | exact Drawn0.refl _ | apply Drawn0.step)⟩
           case rest =>
            clear HC14
            (try clear c13); (try clear c15); (try clear c15b0)
            obtain ⟨kq, x37_13, rfl, HA, HJ13, ⟨mc13, rfl⟩⟩ := hcut
            cases kq with
            | zero => exact absurd HA.out (by simp [ndjqref01_Decode.j2])
            | succ kj13 =>
             have H := HA.out
             clear HA
             simp only [ndjqref01_Decode.j2] at H
             by_cases c16 : x37_13 = true
             ·subst c16
              have H1 : (ndjqref01_Decode.j3 kj13 a0 a1 3 (Go.bits .and .i64 (wrap64 (bt a0 a1)) 15)) = some (r1, r2, r3) := by rw [if_pos rfl] at H; exact H
              clear H; have H := H1; clear H1
              have H' := Aside0.mk H
              clear H
              go_wp2
              go_meet
              case rel => exact ⟨_, (3), (Go.bits .and .i64 (wrap64 (bt a0 a1)) 15), (by first | rfl | (simp; done) | (simp [*]; done)), (by first | rfl | (simp; done) | (simp [*]; done)), H', ⟨by have := HJ2.out; have := HJ10.out; have := HJ13.out; first | omega | exact Nat.le_refl _⟩, by repeat (first | exact Drawn0.refl _ | apply Drawn0.step)⟩
             ·replace c16 := Bool.eq_false_iff.mpr c16
              subst c16
              have H1 : (if (wrap64 (bt a0 a1)) ≥ 240 then (if (wrap64 (bt a0 a1)) < 248 then (ndjqref01_Decode.j3 kj13 a0 a1 4 (Go.bits .and .i64 (wrap64 (bt a0 a1)) 7)) else (some (0, 0, false))) else (some (0, 0, false))) = some (r1, r2, r3) := by rw [if_neg (show ¬ (false = true) by decide)] at H; exact H
              clear H; have H := H1; clear H1
              by_cases c17 : (wrap64 (bt a0 a1)) ≥ 240
              ·rw [if_pos c17] at H
               have c17b0 : decide (240 ≤ (wrap64 (bt a0 a1))) = true := decide_eq_true c17
               clear c17
               by_cases c18 : (wrap64 (bt a0 a1)) < 248
               ·rw [if_pos c18] at H
                have c18b0 : decide ((wrap64 (bt a0 a1)) < 248) = true := decide_eq_true c18
                clear c18
                have H' := Aside0.mk H
                clear H
                go_wp2
                go_meet
                case rel => exact ⟨_, (4), (Go.bits .and .i64 (wrap64 (bt a0 a1)) 7), (by first | rfl | (simp; done) | (simp [*]; done)), (by first | rfl | (simp; done) | (simp [*]; done)), H', ⟨by have := HJ2.out; have := HJ10.out; have := HJ13.out; first | omega | exact Nat.le_refl _⟩, by repeat (first | exact Drawn0.refl _ | apply Drawn0.step)⟩
               ·rw [if_neg c18] at H
                have c18b0 : decide ((wrap64 (bt a0 a1)) < 248) = false := decide_eq_false c18
                clear c18
                simp only [Option.some.injEq, Prod.mk.injEq] at H
                obtain ⟨rfl, rfl, rfl⟩ := H
                go_wp2
                go_ret3
                exact ⟨by first | rfl | (simp; done) | (simp [*]; done), by repeat (first | exact Drawn0.refl _ | apply Drawn0.step)⟩
              ·rw [if_neg c17] at H
               have c17b0 : decide (240 ≤ (wrap64 (bt a0 a1))) = false := decide_eq_false c17
               clear c17
               simp only [Option.some.injEq, Prod.mk.injEq] at H
               obtain ⟨rfl, rfl, rfl⟩ := H
               go_wp2
               go_ret3
               exact ⟨by first | rfl | (simp; done) | (simp [*]; done), by repeat (first | exact Drawn0.refl _ | apply Drawn0.step)⟩
      case rest =>
       clear HC9
       (try clear c1); (try clear c2); (try clear c5); (try clear c6); (try clear c6b0); (try clear p6); (try clear c7); (try clear c7b0); (try clear c8); (try clear p8); (try clear q8); (try clear hx8); (try clear c10); (try clear c10b0); (try clear c12); (try clear c12b0); (try clear c13); (try clear c15); (try clear c15b0); (try clear c16); (try clear c17); (try clear c17b0); (try clear c18); (try clear c18b0)
       obtain ⟨kq, x8_8, x9_8, rfl, rfl, HA, HJ8, ⟨mc8, rfl⟩⟩ := hcut
       cases kq with
       | zero => exact absurd HA.out (by simp [ndjqref01_Decode.j3])
       | succ kj8 =>
        have H := HA.out
        clear HA
        simp only [ndjqref01_Decode.j3] at H
        by_cases c19 : x8_8 > (wrap64 ((a0.size : Int) - a1))
        ·rw [if_pos c19] at H
         have c19b0 : decide ((wrap64 ((a0.size : Int) - a1)) < x8_8) = true := decide_eq_true c19
         clear c19
         simp only [Option.some.injEq, Prod.mk.injEq] at H
         obtain ⟨rfl, rfl, rfl⟩ := H
         go_wp2
         go_ret3
         exact ⟨by first | rfl | (simp; done) | (simp [*]; done), by repeat (first | exact Drawn0.refl _ | apply Drawn0.step)⟩
        ·rw [if_neg c19] at H
         have c19b0 : decide ((wrap64 ((a0.size : Int) - a1)) < x8_8) = false := decide_eq_false c19
         clear c19
         have H' := Aside0.mk H
         clear H
         go_wp2
         go_loopg [9, 10] kj8 (fun kq v9 v10 w' => ∃ (x9_3 : Int) (x10_3 : Int), v9 = .int .i64 x9_3 ∧ v10 = .int .i64 x10_3 ∧ Aside0 (ndjqref01_Decode.l0 kq a0 a1 x8_8 x9_3 x10_3 = some (r1, r2, r3)) ∧ Aside0 (kq ≤ kj8) ∧ Drawn0 w w')
         case atStart => exact ⟨(x9_8), (1), (by first | rfl | (simp; done) | (simp [*]; done)), (by first | rfl | (simp; done) | (simp [*]; done)), H', ⟨Nat.le_refl _⟩, by repeat (first | exact Drawn0.refl _ | apply Drawn0.step)⟩
         case round =>
          clear H'
          (try clear c19); (try clear c19b0)
          obtain ⟨x9_3, x10_3, rfl, rfl, HA, HK3, ⟨m3, rfl⟩⟩ := hrel
          cases gk with
          | zero => exact absurd HA.out (by simp [ndjqref01_Decode.l0])
          | succ k3 =>
           have H := HA.out
           clear HA
           simp only [ndjqref01_Decode.l0] at H
           by_cases c20 : x10_3 < x8_8
           ·rw [if_pos c20] at H
            have c20b0 : decide (x10_3 < x8_8) = true := decide_eq_true c20
            clear c20
            obtain ⟨ji21, hji21⟩ : ∃ j_ : Int, (wrap64 (a1 + x10_3)) = j_ := ⟨_, rfl⟩
            replace H : (if 0 ≤ (ji21) then (if (ji21) < (a0.size : Int) then (if (wrap64 (bt a0 (ji21))) < 128 then (some (0, 0, false)) else (if (wrap64 (bt a0 (ji21))) ≥ 192 then (some (0, 0, false)) else (ndjqref01_Decode.l0 k3 a0 a1 x8_8 (Go.bits .or .i64 (wrap64 (x9_3 * 64)) (Go.bits .and .i64 (wrap64 (bt a0 (ji21))) 63)) (wrap64 (x10_3 + 1))))) else (none)) else (none)) = some (r1, r2, r3) := by first | (rw [hji21] at H; exact H) | (simp only [hji21] at H ⊢; exact H)
            have hji21w : (IntKind.i64.wrap (a1 + x10_3)) = ji21 := (i64_w _).trans hji21
            by_cases c22 : 0 ≤ (ji21)
            ·rw [if_pos c22] at H
             have c22b0 : decide (0 ≤ (ji21)) = true := decide_eq_true c22
             clear c22
             by_cases c23 : (ji21) < (a0.size : Int)
             ·rw [if_pos c23] at H
              have c23b0 : decide ((ji21) < (a0.size : Int)) = true := decide_eq_true c23
              clear c23
              by_cases c25 : (wrap64 (bt a0 (ji21))) < 128
              ·rw [if_pos c25] at H
               have c25b0 : decide ((wrap64 (bt a0 (ji21))) < 128) = true := decide_eq_true c25
               clear c25
               simp only [Option.some.injEq, Prod.mk.injEq] at H
               obtain ⟨rfl, rfl, rfl⟩ := H
               have p24 : 0 ≤ ((ji21) : Int) := of_decide_eq_true (by first | (with_reducible assumption) | assumption)
               have q24 : (ji21) < (a0.size : Int) := of_decide_eq_true (by first | (with_reducible assumption) | assumption)
               have hx24 := bt_at a0 (ji21)
               replace p24 := eq_true p24; replace q24 := eq_true q24
               go_wp2
               go_ret3
               exact ⟨by first | rfl | (simp; done) | (simp only [← hji21] <;> (first | rfl | (simp; done))) | (simp [*]; done), by repeat (first | exact Drawn0.refl _ | apply Drawn0.step)⟩
              ·rw [if_neg c25] at H
               have c25b0 : decide ((wrap64 (bt a0 (ji21))) < 128) = false := decide_eq_false c25
               clear c25
               by_cases c26 : (wrap64 (bt a0 (ji21))) ≥ 192
               ·rw [if_pos c26] at H
                have c26b0 : decide (192 ≤ (wrap64 (bt a0 (ji21)))) = true := decide_eq_true c26
                clear c26
                simp only [Option.some.injEq, Prod.mk.injEq] at H
                obtain ⟨rfl, rfl, rfl⟩ := H
                have p24 : 0 ≤ ((ji21) : Int) := of_decide_eq_true (by first | (with_reducible assumption) | assumption)
                have q24 : (ji21) < (a0.size : Int) := of_decide_eq_true (by first | (with_reducible assumption) | assumption)
                have hx24 := bt_at a0 (ji21)
                replace p24 := eq_true p24; replace q24 := eq_true q24
                go_wp2
                go_ret3
                exact ⟨by first | rfl | (simp; done) | (simp only [← hji21] <;> (first | rfl | (simp; done))) | (simp [*]; done), by repeat (first | exact Drawn0.refl _ | apply Drawn0.step)⟩
               ·rw [if_neg c26] at H
                have c26b0 : decide (192 ≤ (wrap64 (bt a0 (ji21)))) = false := decide_eq_false c26
                clear c26
                have H' := Aside0.mk H
                clear H
                have p24 : 0 ≤ ((ji21) : Int) := of_decide_eq_true (by first | (with_reducible assumption) | assumption)
                have q24 : (ji21) < (a0.size : Int) := of_decide_eq_true (by first | (with_reducible assumption) | assumption)
                have hx24 := bt_at a0 (ji21)
                replace p24 := eq_true p24; replace q24 := eq_true q24
                go_wp2
                go_roundg k3
                case measure => have := HJ2.out; have := HJ8.out; have := HK3.out; omega
                case rel => exact ⟨(Go.bits .or .i64 (wrap64 (x9_3 * 64)) (Go.bits .and .i64 (wrap64 (bt a0 (ji21))) 63)), (wrap64 (x10_3 + 1)), (by first | rfl | (simp; done) | (simp only [← hji21] <;> (first | rfl | (simp; done))) | (simp [*]; done)), (by first | rfl | (simp; done) | (simp [*]; done)), H', ⟨by have := HJ2.out; have := HJ8.out; have := HK3.out; omega⟩, by repeat (first | exact Drawn0.refl _ | apply Drawn0.step)⟩
             ·rw [if_neg c23] at H
              exact absurd H (by simp)
            ·rw [if_neg c22] at H
             exact absurd H (by simp)
           ·rw [if_neg c20] at H
            have c20b0 : decide (x10_3 < x8_8) = false := decide_eq_false c20
            clear c20
            replace H := Option.bind_eq_some_iff.mp H
            obtain ⟨t136, A270, H⟩ := H
            replace H : (if t136 = x8_8 then (some (x9_3, x8_8, true)) else (some (0, 0, false))) = some (r1, r2, r3) := H
            have A27 := Aside0.mk A270
            clear A270
            by_cases c28 : t136 = x8_8
            ·rw [if_pos c28] at H
             have c28b0 : (t136 == x8_8) = true := beq_iff_eq.mpr c28
             have c28b1 : (t136 != x8_8) = false := bne_eq_false_iff_eq.mpr c28
             clear c28
             simp only [Option.some.injEq, Prod.mk.injEq] at H
             obtain ⟨rfl, rfl, rfl⟩ := H
             go_wp2_with (first | ((with_reducible refine gate_callee (f := 92) rfl ?_); refine goesL_ (some 84) rfl rfl Try.func92 (by kernel_rfl) rfl #[.int .i64 x9_3] rfl (by (try simp only [List.map_toArray, List.map_cons, List.map_nil]); first | done | rfl | (simp only [List.length_drop, List.length_take]; rfl)) ?_; (with_reducible refine (ndjqref01_size.calls k3 x9_3 t136 _ A27.out).mono ?_); rintro e w' ⟨rfl, ⟨nd, rfl⟩⟩; refine ⟨_, rfl, ?_⟩))
             go_ret3
             exact ⟨by first | rfl | (simp; done) | (simp [*]; done), by repeat (first | exact Drawn0.refl _ | apply Drawn0.step)⟩
            ·rw [if_neg c28] at H
             have c28b0 : (t136 == x8_8) = false := beq_eq_false_iff_ne.mpr c28
             have c28b1 : (t136 != x8_8) = true := bne_iff_ne.mpr c28
             simp only [Option.some.injEq, Prod.mk.injEq] at H
             obtain ⟨rfl, rfl, rfl⟩ := H
             go_wp2_with (first | ((with_reducible refine gate_callee (f := 92) rfl ?_); refine goesL_ (some 84) rfl rfl Try.func92 (by kernel_rfl) rfl #[.int .i64 x9_3] rfl (by (try simp only [List.map_toArray, List.map_cons, List.map_nil]); first | done | rfl | (simp only [List.length_drop, List.length_take]; rfl)) ?_; (with_reducible refine (ndjqref01_size.calls k3 x9_3 t136 _ A27.out).mono ?_); rintro e w' ⟨rfl, ⟨nd, rfl⟩⟩; refine ⟨_, rfl, ?_⟩))
             go_ret3
             exact ⟨by first | rfl | (simp; done) | (simp [*]; done), by repeat (first | exact Drawn0.refl _ | apply Drawn0.step)⟩
     ·rw [if_neg c7] at H
      exact absurd H (by simp)
    ·rw [if_neg c6] at H
     exact absurd H (by simp)

end Go.Proofs.Ytgpjkojnmeaoiaa.QV
