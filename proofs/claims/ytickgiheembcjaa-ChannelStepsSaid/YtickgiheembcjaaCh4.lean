import Derived.Test.YtickgiheembcjaaCh3
/- ChannelClosed, by hand. -/
namespace Go.Proofs.Ytickgiheembcjaa.Ch
open Go.RowKit Go.Proofs.YtickgiheembcjaaW.PrintWords Go.Proofs.YtickgiheembcjaaW.PrintLast Go.Proofs.YtickgiheembcjaaW.PrintMore Go.Proofs.Ytickgiheembcjaa.PChannelSteps
set_option linter.unusedVariables false
set_option linter.unusedSimpArgs false
set_option maxRecDepth 100000
set_option maxHeartbeats 4000000
theorem itemsNil (w : World) : Calls Try.prog 13 #[.pointer none] w fun e w' => e = .returned (.slice none 0 0) ∧ Drawn0 w w' := by
  go_enter Try.func13, Try.ntmps13
  go_wp2
  go_loopg [3, 4] 0 (fun kq v3 v4 w' => v3 = .slice none 0 0 ∧ Drawn0 w w')
  case atStart => exact ⟨rfl, Drawn0.refl _⟩
  case round =>
    obtain ⟨rfl, ⟨nd, rfl⟩⟩ := hrel
    go_wp2
    repeat (go_quiet (fail); try go_wp2)
    go_ret
    exact ⟨rfl, ⟨⟨_, rfl⟩⟩⟩
theorem drainedB (w : World) (g : Nat) (ring : Nat → Int) (fr n cap : Nat) (cl b : Bool) (h : IsC w g ring fr n cap cl) (hb : (cl && (n : Int) == 0) = b) :
    Calls Try.prog 21 #[P g] w fun e w' => e = .returned (.bool b) ∧ Drawn0 w w' := by
  subst hb
  exact drained w g ring fr n cap cl h
theorem modN (a : Int) (m : Nat) (h0 : 0 < m) (h1 : m ≤ 1000) : ∃ r : Nat, r < m ∧ ndjqkeep_Mod.f a m = some (r : Int) := by
  unfold ndjqkeep_Mod.f
  rw [if_neg (by omega)]
  have hb := Int.emod_nonneg a (show (m : Int) ≠ 0 by omega)
  have hc := Int.emod_lt_of_pos a (show (0 : Int) < m by omega)
  have ht : Int.tmod a m = a % m ∨ Int.tmod a m = a % m - m ∧ a % m ≠ 0 := by
    rcases Int.le_total 0 a with h | h
    · exact .inl (Int.tmod_eq_emod_of_nonneg h)
    · rw [Int.tmod_eq_emod]
      split
      · exact .inl (by omega)
      · rename_i hn
        rw [show ((m : Int).natAbs : Int) = m by simp]
        refine .inr ⟨rfl, fun h0 => hn (.inr (Int.dvd_of_emod_eq_zero h0))⟩
  obtain ⟨r, hr⟩ : ∃ r : Nat, (r : Int) = a % m := ⟨(a % m).toNat, by omega⟩
  refine ⟨r, by omega, ?_⟩
  rcases ht with ht | ⟨ht, hne⟩
  · rw [if_neg (by omega), ht, hr]
  · rw [if_pos (by omega), ht]
    unfold wrap64
    congr 1
    omega
theorem channelClosed (n : Int) (w : World) : Calls Try.prog 5 #[.int .i64 n] w fun e w' => e = .returned (.bool true) ∧ Below w.heap.size w w' := by
  have HB := Aside0.mk (Below.refl w.heap.size w)
  obtain ⟨m, hm, hmod⟩ := modN n 65 (by omega) (by omega)
  have HM := Aside0.mk (show ndjqkeep_Mod.f n 65 = some (m : Int) from hmod)
  have HN := Aside0.mk (fun w => new' w 64 64 rfl (by omega) (by omega))
  clear hmod
  go_enter Try.func5, Try.ntmps5
  go_wp2_with (first | (go_at_call 7; (with_reducible refine (ndjqkeep_Mod.calls _ _ _ _ HM.out).mono ?_); rintro e w_ ⟨rfl, hd⟩; have HB2 := Aside0.mk (below_0 HB.out hd); clear HB HM; have HB := HB2; clear HB2 hd) | (go_at_call 6; (with_reducible refine (HN.out _).mono ?_); rintro e w1 ⟨g, rfl, hC, hg, hle⟩; have HC := Aside0.mk hC; have HL := Aside0.mk (Nat.le_trans (below_size HB.out) hle); have HB2 := Aside0.mk (below_n HB.out (below_size HB.out) hg); clear HB; have HB := HB2; clear HB2 hC hg hle HN))
  go_loopg [5] m (fun kq v5 w' => ∃ i : Nat, kq + i = m ∧ v5 = .int .i64 (i : Int) ∧ Aside0 (∃ ring : Nat → Int, IsC w' g ring 0 i 64 false ∧ ∀ j, j < i → ring j = j) ∧ Aside0 (Below w.heap.size w w'))
  case atStart => exact ⟨0, rfl, rfl, ⟨_, HC.out, fun j h => by omega⟩, HB⟩
  case round =>
    clear HC HB
    obtain ⟨i, hi, rfl, ⟨⟨ring, hC, hr⟩⟩, HB⟩ := hrel
    have HC := Aside0.mk hC
    have HR := Aside0.mk hr
    clear hC hr
    by_cases c : i < m
    · have c0 : decide ((i : Int) < (m : Int)) = true := decide_eq_true (by omega)
      obtain ⟨k1, rfl⟩ : ∃ k1, gk = k1 + 1 := ⟨gk - 1, by omega⟩
      have HN := Aside0.mk (show i < 64 by omega)
      clear c
      go_wp2_with (first | (go_at_call 10; (with_reducible refine (send _ g _ _ _ _ HC.out HN.out _).mono ?_); rintro e w_ ⟨rfl, hC, hg⟩; have HB2 := Aside0.mk (below_g HB.out (below_size HB.out) hg HL.out); clear HC HB; have HC := Aside0.mk hC; have HB := HB2; clear HB2 hC hg))
      go_roundg k1
      case measure => omega
      case rel => exact ⟨i + 1, by omega, by first | rfl | (simp; done), ⟨_, HC.out, fun j hj => by
        have := HN.out
        rw [put]
        split
        · omega
        · exact HR.out j (by omega)⟩, HB⟩
    · have c0 : decide ((i : Int) < (m : Int)) = false := decide_eq_false (by omega)
      obtain rfl : i = m := by omega
      clear c
      have HF := Aside0.mk (show (!true && decide ((i : Int) < ((64 : Nat) : Int))) = false by simp)
      obtain ⟨b, hb⟩ : ∃ b, ((i : Int) == 0) = b := ⟨_, rfl⟩
      have HD := Aside0.mk (show (true && (i : Int) == 0) = b by simpa using hb)
      go_wp2_with (first | (go_at_call 17; (with_reducible refine (close _ g _ _ _ _ HC.out).mono ?_); rintro e w_ ⟨rfl, hC, hg⟩; have HB2 := Aside0.mk (below_g HB.out (below_size HB.out) hg HL.out); clear HC HB; have HC := Aside0.mk hC; have HB := HB2; clear HB2 hC hg) | (go_at_call 17; (with_reducible refine (close2 _ g _ _ _ _ HC.out).mono ?_); rintro e w_ ⟨rfl, hd⟩; have HB2 := Aside0.mk (below_0 HB.out hd); have HC2 := Aside0.mk (HC.out.grown (grown0 hd none) (by simp)); clear HC HB; have HC := HC2; have HB := HB2; clear HB2 HC2 hd) | (go_at_call 10; (with_reducible refine (sendFull _ g _ _ _ _ _ HC.out HF.out _).mono ?_); rintro e w_ ⟨rfl, hd⟩; have HB2 := Aside0.mk (below_0 HB.out hd); have HC2 := Aside0.mk (HC.out.grown (grown0 hd none) (by simp)); clear HC HB; have HC := HC2; have HB := HB2; clear HB2 HC2 hd) | (go_at_call 9; (with_reducible refine (canSendB _ g _ _ _ _ _ _ HC.out HF.out).mono ?_); rintro e w_ ⟨rfl, hd⟩; have HB2 := Aside0.mk (below_0 HB.out hd); have HC2 := Aside0.mk (HC.out.grown (grown0 hd none) (by simp)); clear HC HB; have HC := HC2; have HB := HB2; clear HB2 HC2 hd) | (go_at_call 20; (with_reducible refine (closed _ g _ _ _ _ _ HC.out).mono ?_); rintro e w_ ⟨rfl, hd⟩; have HB2 := Aside0.mk (below_0 HB.out hd); have HC2 := Aside0.mk (HC.out.grown (grown0 hd none) (by simp)); clear HC HB; have HC := HC2; have HB := HB2; clear HB2 HC2 hd) | (go_at_call 21; (with_reducible refine (drainedB _ g _ _ _ _ _ _ HC.out HD.out).mono ?_); rintro e w_ ⟨rfl, hd⟩; have HB2 := Aside0.mk (below_0 HB.out hd); have HC2 := Aside0.mk (HC.out.grown (grown0 hd none) (by simp)); clear HC HB; have HC := HC2; have HB := HB2; clear HB2 HC2 hd))
      have HR2 := HR
      go_loopg [6] i (fun kq v6 w' => ∃ j fr : Nat, kq + j = i ∧ v6 = .int .i64 (j : Int) ∧ Aside0 (IsC w' g ring fr (i - j) 64 true ∧ (j < i → fr = j)) ∧ Aside0 (Below w.heap.size w w'))
      case atStart => exact ⟨0, 0, rfl, rfl, ⟨HC.out, fun _ => rfl⟩, HB⟩
      case round =>
        clear HC HB
        obtain ⟨j, fr, hj, rfl, ⟨hC, hfr⟩, HB⟩ := hrel
        have HC := Aside0.mk hC
        clear hC
        by_cases c : j < i
        · have c0 : decide ((j : Int) < (i : Int)) = true := decide_eq_true (by omega)
          obtain ⟨k1, rfl⟩ : ∃ k1, gk = k1 + 1 := ⟨gk - 1, by omega⟩
          obtain rfl := hfr c
          have hrv : ring fr = (fr : Int) := HR.out fr c
          have HP := Aside0.mk (show 0 < i - fr by omega)
          have HI := Aside0.mk c
          clear c hfr
          go_wp2_with (first | (go_at_call 12; (with_reducible refine (receive _ g _ _ _ _ _ HC.out HP.out).mono ?_); rintro e w_ ⟨rfl, hC, hg⟩; have HB2 := Aside0.mk (below_g HB.out (below_size HB.out) hg HL.out); clear HC HB; have HC := Aside0.mk hC; have HB := HB2; clear HB2 hC hg))
          go_roundg k1
          case measure => omega
          case rel => exact ⟨fr + 1, (fr + 1) % 64, by omega, by first | rfl | (simp; done), ⟨by have h := HC.out; rw [show i - fr - 1 = i - (fr + 1) by omega] at h; exact h, fun h => by omega⟩, HB⟩
        · have c0 : decide ((j : Int) < (i : Int)) = false := decide_eq_false (by omega)
          obtain rfl : j = i := by omega
          have hC0 : IsC wr g ring fr 0 64 true := by have h := HC.out; rw [Nat.sub_self] at h; exact h
          clear c HC HD hfr
          have HC := Aside0.mk hC0
          clear hC0
          have HD := Aside0.mk (show (true && ((0 : Nat) : Int) == 0) = true by rfl)
          go_wp2_with (first | (go_at_call 12; (with_reducible refine (receiveNone _ g _ _ _ HC.out).mono ?_); rintro e w_ ⟨rfl, hd⟩; have HB2 := Aside0.mk (below_0 HB.out hd); have HC2 := Aside0.mk (HC.out.grown (grown0 hd none) (by simp)); clear HC HB; have HC := HC2; have HB := HB2; clear HB2 HC2 hd) | (go_at_call 12; (with_reducible refine (receiveNil _).mono ?_); rintro e w_ ⟨rfl, hd⟩; have HB2 := Aside0.mk (below_0 HB.out hd); have HC2 := Aside0.mk (HC.out.grown (grown0 hd none) (by simp)); clear HC HB; have HC := HC2; have HB := HB2; clear HB2 HC2 hd) | (go_at_call 21; (with_reducible refine (drainedB _ g _ _ _ _ _ _ HC.out HD.out).mono ?_); rintro e w_ ⟨rfl, hd⟩; have HB2 := Aside0.mk (below_0 HB.out hd); have HC2 := Aside0.mk (HC.out.grown (grown0 hd none) (by simp)); clear HC HB; have HC := HC2; have HB := HB2; clear HB2 HC2 hd) | (go_at_call 20; (with_reducible refine (closedNil _).mono ?_); rintro e w_ ⟨rfl, hd⟩; have HB2 := Aside0.mk (below_0 HB.out hd); have HC2 := Aside0.mk (HC.out.grown (grown0 hd none) (by simp)); clear HC HB; have HC := HC2; have HB := HB2; clear HB2 HC2 hd) | (go_at_call 21; (with_reducible refine (drainedNil _).mono ?_); rintro e w_ ⟨rfl, hd⟩; have HB2 := Aside0.mk (below_0 HB.out hd); have HC2 := Aside0.mk (HC.out.grown (grown0 hd none) (by simp)); clear HC HB; have HC := HC2; have HB := HB2; clear HB2 HC2 hd) | (go_at_call 9; (with_reducible refine (canSendNil _).mono ?_); rintro e w_ ⟨rfl, hd⟩; have HB2 := Aside0.mk (below_0 HB.out hd); have HC2 := Aside0.mk (HC.out.grown (grown0 hd none) (by simp)); clear HC HB; have HC := HC2; have HB := HB2; clear HB2 HC2 hd) | (go_at_call 11; (with_reducible refine (canReceiveNil _).mono ?_); rintro e w_ ⟨rfl, hd⟩; have HB2 := Aside0.mk (below_0 HB.out hd); have HC2 := Aside0.mk (HC.out.grown (grown0 hd none) (by simp)); clear HC HB; have HC := HC2; have HB := HB2; clear HB2 HC2 hd) | (go_at_call 13; (with_reducible refine (itemsNil _).mono ?_); rintro e w_ ⟨rfl, hd⟩; have HB2 := Aside0.mk (below_0 HB.out hd); have HC2 := Aside0.mk (HC.out.grown (grown0 hd none) (by simp)); clear HC HB; have HC := HC2; have HB := HB2; clear HB2 HC2 hd) | (go_at_call 10; (with_reducible refine (sendNil _ _).mono ?_); rintro e w_ ⟨rfl, hd⟩; have HB2 := Aside0.mk (below_0 HB.out hd); have HC2 := Aside0.mk (HC.out.grown (grown0 hd none) (by simp)); clear HC HB; have HC := HC2; have HB := HB2; clear HB2 HC2 hd) | (go_at_call 17; (with_reducible refine (closeNil _).mono ?_); rintro e w_ ⟨rfl, hd⟩; have HB2 := Aside0.mk (below_0 HB.out hd); have HC2 := Aside0.mk (HC.out.grown (grown0 hd none) (by simp)); clear HC HB; have HC := HC2; have HB := HB2; clear HB2 HC2 hd) | (go_at_call 8; (with_reducible refine (awake _).mono ?_); rintro e w_ ⟨rfl, hb⟩; have HB2 := Aside0.mk (below_step HB.out hb); clear HB; have HB := HB2; clear HB2 hb))
          go_ret
          exact ⟨by first | rfl | (simp; done) | (simp [*]; done), HB.out⟩
end Go.Proofs.Ytickgiheembcjaa.Ch
