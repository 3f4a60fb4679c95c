import Derived.Test.YtccgcljkgjboaaaR4
import Derived.Deep.LoopGhost
import Derived.Deep.CutBlock
/- RingCredits, by hand. -/
namespace Go.Proofs.Ytccgcljkgjboaaa.Rg
open Go.RowKit Go.Proofs.YtccgcljkgjboaaaW.PrintWords Go.Proofs.YtccgcljkgjboaaaW.PrintLast Go.Proofs.YtccgcljkgjboaaaW.PrintMore Go.Proofs.Ytccgcljkgjboaaa.PRingSteps
set_option linter.unusedVariables false
set_option linter.unusedSimpArgs false
attribute [local go_sem] max2_int min2_int max_two min_two max_three min_three max_four min_four
set_option maxRecDepth 100000
set_option maxHeartbeats 4000000
theorem heldNil (w : World) : Calls Try.prog 14 #[.pointer none] w fun e w' => e = .returned (.slice none 0 0) ∧ Drawn0 w w' := by
  go_enter Try.func14, Try.ntmps14
  go_wp2
  go_loopg [3, 4] 0 (fun kq v3 v4 w' => v3 = .slice none 0 0 ∧ Drawn0 w w')
  case atStart => exact ⟨rfl, Drawn0.refl _⟩
  case round =>
    obtain ⟨rfl, ⟨nd, rfl⟩⟩ := hrel
    go_wp2
    repeat (go_quiet (fail); try go_wp2)
    go_ret
    exact ⟨rfl, ⟨_, rfl⟩⟩
theorem creditsI (w : World) (g s cap next cr : Nat) (f : Nat → Option Res) (h : IsQ w g s cap next cr f) (V : Int) (hV : (cr : Int) = V) : Calls Try.prog 22 #[P g] w fun e w' => e = .returned (.int .i64 V) ∧ Drawn0 w w' := by
  subst hV
  exact credits w g s cap next cr f h
theorem all_none {f : Nat → Option Res} (h : ∀ k, f k = none) (q : Nat) (x : Option Res) : ∀ k, put (put f q x) q none k = none := by
  intro k
  unfold put
  split
  · rfl
  · exact h k
theorem modN (a : Int) (m : Nat) (h0 : 0 < m) (h1 : m ≤ 1000) : ∃ r : Nat, r < m ∧ ndjqkeep_Mod.f a m = some (r : Int) := by
  unfold ndjqkeep_Mod.f
  rw [if_neg (by omega)]
  have hb := Int.emod_nonneg a (show (m : Int) ≠ 0 by omega)
  have hc := Int.emod_lt_of_pos a (show (0 : Int) < m by omega)
  have ht : Int.tmod a m = a % m ∨ Int.tmod a m = a % m - m ∧ a % m ≠ 0 := by
    rcases Int.le_total 0 a with h | h
    · exact .inl (Int.tmod_eq_emod_of_nonneg h)
    · rw [Int.tmod_eq_emod]
      split
      · exact .inl (by omega)
      · rename_i hn
        rw [show ((m : Int).natAbs : Int) = m by simp]
        refine .inr ⟨rfl, fun h0 => hn (.inr (Int.dvd_of_emod_eq_zero h0))⟩
  obtain ⟨r, hr⟩ : ∃ r : Nat, (r : Int) = a % m := ⟨(a % m).toNat, by omega⟩
  refine ⟨r, by omega, ?_⟩
  rcases ht with ht | ⟨ht, hne⟩
  · rw [if_neg (by omega), ht, hr]
  · rw [if_pos (by omega), ht]
    unfold wrap64
    congr 1
    omega
theorem ringCredits (cap0 n0 : Int) (w : World) : Calls Try.prog 6 #[.int .i64 cap0, .int .i64 n0] w fun e w' => e = .returned (.bool true) ∧ Below w.heap.size w w' := by
  have HB := Aside0.mk (Below.refl w.heap.size w)
  obtain ⟨m, hm, hmod⟩ := modN cap0 64 (by omega) (by omega)
  obtain ⟨r, hr, hmod2⟩ := modN n0 (m + 1 + 1) (by omega) (by omega)
  have HM := Aside0.mk (show ndjqkeep_Mod.f cap0 64 = some (m : Int) from hmod)
  have HM2 := Aside0.mk (show ndjqkeep_Mod.f n0 ((m : Int) + 1 + 1) = some (r : Int) from hmod2)
  have hw1 : IntKind.i64.wrap ((m : Int) + 1) = (m : Int) + 1 := by rw [i64_w]; unfold Go.RowKit.wrap64; omega
  have hw2 : IntKind.i64.wrap ((m : Int) + 1 + 1) = (m : Int) + 1 + 1 := by rw [i64_w]; unfold Go.RowKit.wrap64; omega
  have HN := Aside0.mk (fun w => new_ w ((m : Int) + 1) (m + 1) rfl (by omega) (by omega))
  clear hmod hmod2
  go_enter Try.func6, Try.ntmps6
  go_upto_region 2 with (go_at_call 7; (with_reducible refine (ndjqkeep_Mod.calls _ _ _ _ HM.out).mono ?_); rintro e w_ ⟨rfl, hd⟩; have HB2 := Aside0.mk (below_D HB.out hd); clear HB; have HB := HB2; clear HB2 hd)
  go_upto_region 4 with (first | (go_at_call 7; (with_reducible refine (ndjqkeep_Mod.calls _ _ _ _ HM2.out).mono ?_); rintro e w_ ⟨rfl, hd⟩; have HB2 := Aside0.mk (below_D HB.out hd); clear HB; have HB := HB2; clear HB2 hd) | (go_at_call 8; (with_reducible refine (HN.out _).mono ?_); rintro e w1 ⟨g, s, rfl, hQ, hb, hg, hs⟩; have HQ := Aside0.mk hQ; have HL := Aside0.mk (And.intro (Nat.le_trans HB.out.size hg) (Nat.le_trans HB.out.size hs)); have HB2 := Aside0.mk (below_step HB.out hb); clear HB HN hQ hb hg hs; have HB := HB2; clear HB2))
  have HP := Aside0.mk (creditsI _ g s _ _ _ _ HQ.out ((m : Int) + 1) (by omega))
  go_wp2_with (go_at_call 22; (with_reducible refine (HP.out).mono ?_); rintro e w_ ⟨rfl, hd⟩; have HQ2 := Aside0.mk (HQ.out.below (below0 hd)); have HB2 := Aside0.mk (below_D HB.out hd); clear HP HQ HB hd; have HQ := HQ2; have HB := HB2; clear HQ2 HB2)
  go_loopg [7] r (fun kq v7 w' => ∃ i : Nat, kq + i = r ∧ v7 = .int .i64 (i : Int) ∧ Aside0 (IsQ w' g s (m + 1) 1 (m + 1 - i) (fun _ => none)) ∧ Aside0 (Below w.heap.size w w'))
  case atStart => exact ⟨0, by omega, rfl, HQ, HB⟩
  case round =>
    clear HQ HB
    obtain ⟨i, hi, rfl, HQ, HB⟩ := hrel
    by_cases c : i < r
    · have c0 : decide ((i : Int) < (r : Int)) = true := decide_eq_true (by omega)
      obtain ⟨k1, rfl⟩ : ∃ k1, gk = k1 + 1 := ⟨gk - 1, by omega⟩
      have hw3 : IntKind.i64.wrap ((m : Int) + 1 - (i : Int)) = (m : Int) + 1 - (i : Int) := by rw [i64_w]; unfold Go.RowKit.wrap64; omega
      have hw4 : IntKind.i64.wrap ((m : Int) + 1 - (i : Int) - 1) = (m : Int) + 1 - (i : Int) - 1 := by rw [i64_w]; unfold Go.RowKit.wrap64; omega
      have HP := Aside0.mk (acquire _ g s _ _ _ _ HQ.out (by omega))
      go_wp2_with (go_at_call 20; (with_reducible refine (HP.out).mono ?_); rintro e w_ ⟨rfl, hQ, hF⟩; have HB2 := Aside0.mk (hF.below HB.out HL.out.1 HL.out.2 HB.out.size); clear HP HQ HB; have HQ := Aside0.mk hQ; have HB := HB2; clear HB2 hQ hF)
      have HP := Aside0.mk (creditsI _ g s _ _ _ _ HQ.out ((m : Int) + 1 - (i : Int) - 1) (by omega))
      go_wp2_with (go_at_call 22; (with_reducible refine (HP.out).mono ?_); rintro e w_ ⟨rfl, hd⟩; have HQ2 := Aside0.mk (HQ.out.below (below0 hd)); have HB2 := Aside0.mk (below_D HB.out hd); clear HP HQ HB hd; have HQ := HQ2; have HB := HB2; clear HQ2 HB2)
      go_roundg k1
      case measure => omega
      case rel => exact ⟨i + 1, by omega, by first | rfl | (congr 1; unfold wrap64; omega), ⟨by have h := HQ.out; rw [show m + 1 - i - 1 = m + 1 - (i + 1) by omega] at h; exact h⟩, HB⟩
    · obtain rfl : i = r := by omega
      clear c
      by_cases heq : i = m + 1
      · have hb : ((i : Int) == (m : Int) + 1) = true := by rw [beq_iff_eq]; omega
        have HP := Aside0.mk (acquireNone _ g s _ _ _ (by have h := HQ.out; rw [show m + 1 - i = 0 by omega] at h; exact h))
        have HE := Aside0.mk heq
        clear heq
        go_wp2_with (go_at_call 20; (with_reducible refine (HP.out).mono ?_); rintro e w_ ⟨rfl, hd⟩; have HQ2 := Aside0.mk (HQ.out.below (below0 hd)); have HB2 := Aside0.mk (below_D HB.out hd); clear HP HQ HB hd; have HQ := HQ2; have HB := HB2; clear HQ2 HB2)
        go_loopg [8] (i + 1) (fun kq v8 w' => ∃ (j : Nat) (f : Nat → Option Res), kq + j = i + 1 ∧ v8 = .int .i64 (j : Int) ∧ Aside0 (IsQ w' g s (m + 1) (j + 1) (min (m + 1 - i + j) (m + 1)) f ∧ ∀ k, f k = none) ∧ Aside0 (Below w.heap.size w w'))
        case atStart => exact ⟨0, _, by omega, rfl, ⟨by have h := HQ.out; rw [show min (m + 1 - i + 0) (m + 1) = m + 1 - i by omega]; exact h, fun _ => rfl⟩, HB⟩
        case round =>
          clear HQ HB
          obtain ⟨j, f, hj, rfl, HQ0, HB⟩ := hrel
          have HQ := Aside0.mk HQ0.out.1
          have HFn := Aside0.mk HQ0.out.2
          clear HQ0
          by_cases c : j ≤ i
          · have c0 : decide ((j : Int) ≤ (i : Int)) = true := decide_eq_true (by omega)
            obtain ⟨k1, rfl⟩ : ∃ k1, gk = k1 + 1 := ⟨gk - 1, by omega⟩
            have hwj : IntKind.i64.wrap ((j : Int) + 1) = (j : Int) + 1 := by rw [i64_w]; unfold Go.RowKit.wrap64; omega
            have hwa : IntKind.i64.wrap ((m : Int) + 1 - (i : Int)) = (m : Int) + 1 - (i : Int) := by rw [i64_w]; unfold Go.RowKit.wrap64; omega
            have hwb : IntKind.i64.wrap ((m : Int) + 1 - (i : Int) + (j : Int)) = (m : Int) + 1 - (i : Int) + (j : Int) := by rw [i64_w]; unfold Go.RowKit.wrap64; omega
            have hwc : IntKind.i64.wrap ((m : Int) + 1 - (i : Int) + (j : Int) + 1) = (m : Int) + 1 - (i : Int) + (j : Int) + 1 := by rw [i64_w]; unfold Go.RowKit.wrap64; omega
            have HP := Aside0.mk (put_ _ g s _ _ _ _ HQ.out ((j : Int) + 1) (j + 1) rfl (by omega) (by omega) (HFn.out _) none 0 0 ⟨[], 0, 0⟩ (ReadsInt.nil _ _) (fun _ => ⟨rfl, rfl⟩) (by omega))
            go_upto_region 17 with (go_at_call 11; refine (HP.out).mono ?_; rintro e w_ ⟨rfl, hQ, hF⟩; have HB2 := Aside0.mk (hF.below HB.out HL.out.1 HL.out.2 HB.out.size); clear HP HQ HB; have HQ := Aside0.mk hQ; have HB := HB2; clear HB2 hQ hF)
            have HP := Aside0.mk (take_ _ g s _ _ _ _ HQ.out ⟨[], 0, 0⟩ (by simp [put]) (by omega))
            go_upto_region 18 with (go_at_call 16; refine (HP.out).mono ?_; rintro e w_ ⟨A, cc, rfl, hcc, hrr, hQ, hF⟩; clear hcc hrr; have HB2 := Aside0.mk (hF.below HB.out HL.out.1 HL.out.2 HB.out.size); clear HP HQ HB; have HQ := Aside0.mk hQ; have HB := HB2; clear HB2 hQ hF)
            have ha := (Below.refl w_.heap.size w_).alloc (Nat.le_refl _) (.cells #[.slice A 0 cc, .int .i64 0, .int .i64 0] 33)
            have HQ2 := Aside0.mk (HQ.out.below ha)
            have HB2 := Aside0.mk (below_step HB.out ha)
            clear HQ HB ha
            have HQ := HQ2
            have HB := HB2
            clear HQ2 HB2
            have HP := Aside0.mk (creditsI _ g s _ _ _ _ HQ.out (if (m : Int) + 1 - (i : Int) + (j : Int) + 1 < (m : Int) + 1 then (m : Int) + 1 - (i : Int) + (j : Int) + 1 else (m : Int) + 1) (by split <;> omega))
            go_wp2_with (go_at_call 22; (with_reducible refine (HP.out).mono ?_); rintro e w_ ⟨rfl, hd⟩; have HQ2 := Aside0.mk (HQ.out.below (below0 hd)); have HB2 := Aside0.mk (below_D HB.out hd); clear HP HQ HB hd; have HQ := HQ2; have HB := HB2; clear HQ2 HB2)
            all_goals (go_roundg k1; (case measure => omega); (case rel => exact ⟨j + 1, _, by omega, by first | rfl | (congr 1; unfold wrap64; omega), ⟨⟨by have h := HQ.out; rw [show min (min (m + 1 - i + j) (m + 1) + 1) (m + 1) = min (m + 1 - i + (j + 1)) (m + 1) by omega] at h; exact h, all_none HFn.out _ _⟩⟩, HB⟩))
          · have c0 : decide ((j : Int) ≤ (i : Int)) = false := decide_eq_false (by omega)
            go_wp2_with (first | (go_at_call 17; (with_reducible refine (nextNil _).mono ?_); rintro e w_ ⟨rfl, hd⟩; have HB2 := Aside0.mk (below_D (HB.out.alloc HB.out.size _) hd); clear HB hd; have HB := HB2; clear HB2) | (go_at_call 22; (with_reducible refine (creditsNil _).mono ?_); rintro e w_ ⟨rfl, hd⟩; have HB2 := Aside0.mk (below_D HB.out hd); clear HB hd; have HB := HB2; clear HB2) | (go_at_call 15; (with_reducible refine (readyNil _).mono ?_); rintro e w_ ⟨rfl, hd⟩; have HB2 := Aside0.mk (below_D HB.out hd); clear HB hd; have HB := HB2; clear HB2) | (go_at_call 14; (with_reducible refine (heldNil _).mono ?_); rintro e w_ ⟨rfl, hd⟩; have HB2 := Aside0.mk (below_D HB.out hd); clear HB hd; have HB := HB2; clear HB2) | (go_at_call 20; (with_reducible refine (acquireNil _).mono ?_); rintro e w_ ⟨rfl, hd⟩; have HB2 := Aside0.mk (below_D HB.out hd); clear HB hd; have HB := HB2; clear HB2) | (go_at_call 11; (with_reducible refine (putNil _ _ _ _ _).mono ?_); rintro e w_ ⟨rfl, hd⟩; have HB2 := Aside0.mk (below_step HB.out hd); clear HB hd; have HB := HB2; clear HB2) | (go_at_call 16; (with_reducible refine (takeNil _).mono ?_); rintro e w_ ⟨rfl, hd⟩; have HB2 := Aside0.mk (below_step HB.out hd); clear HB hd; have HB := HB2; clear HB2) | (go_at_call 9; (with_reducible refine (awake _).mono ?_); rintro e w_ ⟨rfl, hd⟩; have HB2 := Aside0.mk (below_step HB.out hd); clear HB hd; have HB := HB2; clear HB2))
            go_ret
            exact ⟨rfl, HB.out⟩
      · have hb : ((i : Int) == (m : Int) + 1) = false := by rw [beq_eq_false_iff_ne]; omega
        clear heq
        go_wp2
        go_loopg [8] (i + 1) (fun kq v8 w' => ∃ (j : Nat) (f : Nat → Option Res), kq + j = i + 1 ∧ v8 = .int .i64 (j : Int) ∧ Aside0 (IsQ w' g s (m + 1) (j + 1) (min (m + 1 - i + j) (m + 1)) f ∧ ∀ k, f k = none) ∧ Aside0 (Below w.heap.size w w'))
        case atStart => exact ⟨0, _, by omega, rfl, ⟨by have h := HQ.out; rw [show min (m + 1 - i + 0) (m + 1) = m + 1 - i by omega]; exact h, fun _ => rfl⟩, HB⟩
        case round =>
          clear HQ HB
          obtain ⟨j, f, hj, rfl, HQ0, HB⟩ := hrel
          have HQ := Aside0.mk HQ0.out.1
          have HFn := Aside0.mk HQ0.out.2
          clear HQ0
          by_cases c : j ≤ i
          · have c0 : decide ((j : Int) ≤ (i : Int)) = true := decide_eq_true (by omega)
            obtain ⟨k1, rfl⟩ : ∃ k1, gk = k1 + 1 := ⟨gk - 1, by omega⟩
            have hwj : IntKind.i64.wrap ((j : Int) + 1) = (j : Int) + 1 := by rw [i64_w]; unfold Go.RowKit.wrap64; omega
            have hwa : IntKind.i64.wrap ((m : Int) + 1 - (i : Int)) = (m : Int) + 1 - (i : Int) := by rw [i64_w]; unfold Go.RowKit.wrap64; omega
            have hwb : IntKind.i64.wrap ((m : Int) + 1 - (i : Int) + (j : Int)) = (m : Int) + 1 - (i : Int) + (j : Int) := by rw [i64_w]; unfold Go.RowKit.wrap64; omega
            have hwc : IntKind.i64.wrap ((m : Int) + 1 - (i : Int) + (j : Int) + 1) = (m : Int) + 1 - (i : Int) + (j : Int) + 1 := by rw [i64_w]; unfold Go.RowKit.wrap64; omega
            have HP := Aside0.mk (put_ _ g s _ _ _ _ HQ.out ((j : Int) + 1) (j + 1) rfl (by omega) (by omega) (HFn.out _) none 0 0 ⟨[], 0, 0⟩ (ReadsInt.nil _ _) (fun _ => ⟨rfl, rfl⟩) (by omega))
            go_upto_region 17 with (go_at_call 11; refine (HP.out).mono ?_; rintro e w_ ⟨rfl, hQ, hF⟩; have HB2 := Aside0.mk (hF.below HB.out HL.out.1 HL.out.2 HB.out.size); clear HP HQ HB; have HQ := Aside0.mk hQ; have HB := HB2; clear HB2 hQ hF)
            have HP := Aside0.mk (take_ _ g s _ _ _ _ HQ.out ⟨[], 0, 0⟩ (by simp [put]) (by omega))
            go_upto_region 18 with (go_at_call 16; refine (HP.out).mono ?_; rintro e w_ ⟨A, cc, rfl, hcc, hrr, hQ, hF⟩; clear hcc hrr; have HB2 := Aside0.mk (hF.below HB.out HL.out.1 HL.out.2 HB.out.size); clear HP HQ HB; have HQ := Aside0.mk hQ; have HB := HB2; clear HB2 hQ hF)
            have ha := (Below.refl w_.heap.size w_).alloc (Nat.le_refl _) (.cells #[.slice A 0 cc, .int .i64 0, .int .i64 0] 33)
            have HQ2 := Aside0.mk (HQ.out.below ha)
            have HB2 := Aside0.mk (below_step HB.out ha)
            clear HQ HB ha
            have HQ := HQ2
            have HB := HB2
            clear HQ2 HB2
            have HP := Aside0.mk (creditsI _ g s _ _ _ _ HQ.out (if (m : Int) + 1 - (i : Int) + (j : Int) + 1 < (m : Int) + 1 then (m : Int) + 1 - (i : Int) + (j : Int) + 1 else (m : Int) + 1) (by split <;> omega))
            go_wp2_with (go_at_call 22; (with_reducible refine (HP.out).mono ?_); rintro e w_ ⟨rfl, hd⟩; have HQ2 := Aside0.mk (HQ.out.below (below0 hd)); have HB2 := Aside0.mk (below_D HB.out hd); clear HP HQ HB hd; have HQ := HQ2; have HB := HB2; clear HQ2 HB2)
            all_goals (go_roundg k1; (case measure => omega); (case rel => exact ⟨j + 1, _, by omega, by first | rfl | (congr 1; unfold wrap64; omega), ⟨⟨by have h := HQ.out; rw [show min (min (m + 1 - i + j) (m + 1) + 1) (m + 1) = min (m + 1 - i + (j + 1)) (m + 1) by omega] at h; exact h, all_none HFn.out _ _⟩⟩, HB⟩))
          · have c0 : decide ((j : Int) ≤ (i : Int)) = false := decide_eq_false (by omega)
            go_wp2_with (first | (go_at_call 17; (with_reducible refine (nextNil _).mono ?_); rintro e w_ ⟨rfl, hd⟩; have HB2 := Aside0.mk (below_D (HB.out.alloc HB.out.size _) hd); clear HB hd; have HB := HB2; clear HB2) | (go_at_call 22; (with_reducible refine (creditsNil _).mono ?_); rintro e w_ ⟨rfl, hd⟩; have HB2 := Aside0.mk (below_D HB.out hd); clear HB hd; have HB := HB2; clear HB2) | (go_at_call 15; (with_reducible refine (readyNil _).mono ?_); rintro e w_ ⟨rfl, hd⟩; have HB2 := Aside0.mk (below_D HB.out hd); clear HB hd; have HB := HB2; clear HB2) | (go_at_call 14; (with_reducible refine (heldNil _).mono ?_); rintro e w_ ⟨rfl, hd⟩; have HB2 := Aside0.mk (below_D HB.out hd); clear HB hd; have HB := HB2; clear HB2) | (go_at_call 20; (with_reducible refine (acquireNil _).mono ?_); rintro e w_ ⟨rfl, hd⟩; have HB2 := Aside0.mk (below_D HB.out hd); clear HB hd; have HB := HB2; clear HB2) | (go_at_call 11; (with_reducible refine (putNil _ _ _ _ _).mono ?_); rintro e w_ ⟨rfl, hd⟩; have HB2 := Aside0.mk (below_step HB.out hd); clear HB hd; have HB := HB2; clear HB2) | (go_at_call 16; (with_reducible refine (takeNil _).mono ?_); rintro e w_ ⟨rfl, hd⟩; have HB2 := Aside0.mk (below_step HB.out hd); clear HB hd; have HB := HB2; clear HB2) | (go_at_call 9; (with_reducible refine (awake _).mono ?_); rintro e w_ ⟨rfl, hd⟩; have HB2 := Aside0.mk (below_step HB.out hd); clear HB hd; have HB := HB2; clear HB2))
            go_ret
            exact ⟨rfl, HB.out⟩
end Go.Proofs.Ytccgcljkgjboaaa.Rg
