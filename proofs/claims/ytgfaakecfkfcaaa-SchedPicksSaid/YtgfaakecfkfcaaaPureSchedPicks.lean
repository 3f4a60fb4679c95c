/- SchedPicks' pure law: Round and Mix are as specified for arbitrary arguments. No further condition. -/
import Derived.Test.YtgfaakecfkfcaaaQSchedPicksx2
import Derived.Laws.BitsLemmas
import Derived.OpenShut
namespace Go.Proofs.Ytgfaakecfkfcaaa.Pure
open Go.RowKit Go.Proofs.Ytgfaakecfkfcaaa.QSchedPicks Go.Proofs.YtgfaakecfkfcaaaW.PrintWords Go.Proofs.YtgfaakecfkfcaaaW.PrintLast
set_option linter.unusedVariables false
set_option linter.unusedSimpArgs false
/-! ### numbers and the list of a string's bytes -/
theorem wrap_id (n : Int) (h : -9223372036854775808 ≤ n) (h' : n ≤ 9223372036854775807) : wrap64 n = n := by unfold wrap64; omega
theorem wrap_nat (a b c : Nat) (h : a + b = c) (hc : c ≤ 4611686018427387904) : wrap64 ((a : Int) + (b : Int)) = (c : Int) := by rw [wrap_id _ (by omega) (by omega)]; omega
theorem wrap_succ (a : Nat) (hc : a ≤ 4611686018427387904) : wrap64 ((a : Int) + 1) = ((a + 1 : Nat) : Int) := by rw [wrap_id _ (by omega) (by omega)]; omega
def nm (s : ByteArray) : List Int := s.data.toList.map fun c => (c.toNat : Int)
theorem nm_bytesOf (s : ByteArray) : bytesOf s = nm s := rfl
theorem nm_len (s : ByteArray) : (nm s).length = s.size := by unfold nm; rw [List.length_map, Array.length_toList]; rfl
theorem nm_get (s : ByteArray) (j : Nat) (h : j < s.size) : (nm s)[j]? = some (bt s (j : Int)) := by
  have h' : j < s.data.toList.length := by rw [Array.length_toList]; exact h
  unfold nm bt
  rw [List.getElem?_map, List.getElem?_eq_getElem h', dif_pos (show ((j : Int)).toNat < s.size from h)]
  rfl
theorem nm_drop (s : ByteArray) (j : Nat) (h : j < s.size) : (nm s).drop j = bt s (j : Int) :: (nm s).drop (j + 1) := by
  have hl := nm_len s
  rw [List.drop_eq_getElem_cons (by omega)]
  congr 1
  have := nm_get s j h
  rw [List.getElem?_eq_getElem (by omega)] at this
  exact Option.some.inj this
theorem nm_range (s : ByteArray) : ∀ c ∈ nm s, 0 ≤ c ∧ c ≤ 255 := by
  intro c hc
  unfold nm at hc
  obtain ⟨u, _, rfl⟩ := List.mem_map.1 hc
  have := u.toNat_lt
  omega
theorem nm_inj {s t : ByteArray} (h : nm s = nm t) : s = t := by
  unfold nm at h
  have := (List.map_inj_right (fun (x y : UInt8) e => UInt8.toNat_inj.1 (by omega))).1 h
  have h2 : s.data = t.data := Array.toList_inj.1 this
  cases s; cases t; simp_all
theorem nm_strOf (l : List Int) (h : ∀ c ∈ l, 0 ≤ c ∧ c ≤ 255) : nm (strOfNums l) = l := by
  unfold nm
  rw [strOfNums_data, List.map_map]
  conv => rhs; rw [← List.map_id l]
  apply List.map_congr_left
  intro c hc
  have := h c hc
  simp only [Function.comp, id]
  rw [UInt8.toNat_ofNat']
  omega
theorem nm_extract (s : ByteArray) (a b : Nat) : nm (s.extract a b) = ((nm s).take b).drop a := by
  unfold nm
  have e : (s.extract a b).data.toList = (s.data.toList.take b).drop a := by
    rw [ByteArray.data_extract, Array.toList_extract, List.extract_eq_take_drop, List.drop_take]
  rw [e, List.map_drop, List.map_take]
theorem nm_append (s t : ByteArray) : nm (s ++ t) = nm s ++ nm t := by unfold nm; rw [ByteArray.data_append, Array.toList_append, List.map_append]
theorem rd_drop (xs : List Int) (j : Nat) (h : j < xs.length) : xs.drop j = rd xs (j : Int) :: xs.drop (j + 1) := by
  rw [List.drop_eq_getElem_cons h]
  congr 1
  unfold rd
  rw [Int.toNat_natCast, List.getD_eq_getElem?_getD, List.getElem?_eq_getElem h]
  rfl
/-! ### keep.Ints: a list is the same as itself -/
theorem ints_loop (l : List Int) (hl : l.length ≤ 4611686018427387904) : ∀ (d : Nat) (i : Int) (k : Nat), 0 ≤ i → (l.length : Int) - i ≤ d → d < k → i ≤ l.length → ndjqkeep_Ints.l0 k l l i = some true
  | 0, i, k, h0, hd, hk, hi => by
    obtain ⟨k, rfl⟩ : ∃ j, k = j + 1 := ⟨k - 1, by omega⟩
    simp only [ndjqkeep_Ints.l0]
    rw [if_neg (by omega)]
  | d + 1, i, k, h0, hd, hk, hi => by
    obtain ⟨k, rfl⟩ : ∃ j, k = j + 1 := ⟨k - 1, by omega⟩
    simp only [ndjqkeep_Ints.l0]
    by_cases c : i < (l.length : Int)
    · rw [if_pos c, if_pos h0, if_pos c, if_pos trivial, wrap_id (i + 1) (by omega) (by omega)]
      exact ints_loop l hl d (i + 1) k (by omega) (by omega) (by omega) (by omega)
    · rw [if_neg c]
theorem ints_same (l : List Int) (hl : l.length ≤ 4611686018427387904) (k : Nat) (hk : l.length < k) : ndjqkeep_Ints.f k l l = some true := by
  unfold ndjqkeep_Ints.f
  rw [if_pos rfl]
  exact ints_loop l hl l.length 0 k (by omega) (by omega) hk (by omega)
/-! ### Index, Choose -/
theorem index_at (n p : Int) (hn : 1 ≤ n) (hn2 : n ≤ 9223372036854775807) : sched_Index.f n p = some (p % n) := by
  have e := Int.tmod_eq_emod (a := p) (b := n)
  have h1 := Int.emod_nonneg p (show n ≠ 0 by omega)
  have h2 := Int.emod_lt_of_pos p (show 0 < n by omega)
  unfold sched_Index.f
  rw [if_neg (by omega), if_neg (by omega)]
  by_cases hd : 0 ≤ p ∨ n ∣ p
  · rw [if_pos hd] at e
    rw [if_neg (by omega)]
    congr 1; omega
  · rw [if_neg hd] at e
    have en : ((n.natAbs : Nat) : Int) = n := by omega
    rw [if_pos (by omega), wrap_id _ (by omega) (by omega)]
    congr 1; omega
theorem choose_at (l : List Int) (p : Int) (h : 1 ≤ l.length) (h2 : l.length ≤ 17592186044416) : sched_Choose.f l p = some (rd l (p % (l.length : Int)), true) := by
  have e := Int.emod_nonneg p (show (l.length : Int) ≠ 0 by omega)
  have e2 := Int.emod_lt_of_pos p (show 0 < (l.length : Int) by omega)
  unfold sched_Choose.f
  rw [if_neg (by omega), index_at _ _ (by omega) (by omega)]
  simp only [Option.bind_some]
  rw [if_pos e, if_pos e2]
theorem choose_none (l : List Int) (p : Int) (h : l.length = 0) : sched_Choose.f l p = some (0, false) := by
  unfold sched_Choose.f
  rw [if_pos (by omega)]
theorem awake_9 : ndjqlaw24_awake.f 9 = some true := by decide +kernel
theorem awake_at : ∀ (d k : Nat), k = 9 + d → ndjqlaw24_awake.f k = some true
  | 0, k, h => by rw [show k = 9 by omega]; exact awake_9
  | d + 1, k, h => by
    obtain ⟨k, rfl⟩ : ∃ j, k = j + 1 := ⟨k - 1, by omega⟩
    exact ndjqlaw24_awake.mono k true (awake_at d k (by omega))
theorem awake_in (k : Nat) (h : 9 ≤ k) : ((ndjqlaw24_awake.f k).bind fun t => (some t)) = some true := by rw [awake_at (k - 9) k (by omega)]; rfl
theorem rouS_at (n : Int) (hn : 1 ≤ n) : ∀ j : Nat, rouS n j = (j : Int) % n
  | 0 => by simp [rouS]
  | j + 1 => by rw [rouS, rouS_at n hn j, Int.emod_add_emod]; rfl
theorem round_loop (n s : Int) (hn : 1 ≤ n) (hs : s ≤ 1048576) : ∀ (d i k : Nat), (i : Int) + d = s → d < k → ndjqref24_Round.l0 k n s (rouL n i) i = some (rouL n s.toNat)
  | 0, i, k, hi, hk => by
    obtain ⟨k, rfl⟩ : ∃ j, k = j + 1 := ⟨k - 1, by omega⟩
    simp only [ndjqref24_Round.l0]
    rw [if_neg (by omega), show s.toNat = i by omega]
  | d + 1, i, k, hi, hk => by
    obtain ⟨k, rfl⟩ : ∃ j, k = j + 1 := ⟨k - 1, by omega⟩
    have e : Int.tmod (i : Int) n = rouS n i := by rw [rouS_at n hn, Int.tmod_eq_emod_of_nonneg (by omega)]
    simp only [ndjqref24_Round.l0]
    rw [if_pos (by omega), if_neg (by omega), if_pos (by rw [rouL_len]; omega), wrap_succ i (by omega), e]
    exact round_loop n s hn hs d (i + 1) k (by omega) (by omega)
theorem round_both (n s : Int) (hn : n ≤ 9223372036854775807) (k : Nat) (hk : s ≤ 1048576 → s.toNat + 5 < k) (hk0 : 0 < k) : ∃ r, sched_Round.f n s = some r ∧ ndjqref24_Round.f k n s = some r ∧ r.length ≤ 1048576 ∧ (s ≤ 1048576 → r.length < k) := by
  obtain ⟨k, rfl⟩ : ∃ j, k = j + 1 := ⟨k - 1, by omega⟩
  have bad : ndjqref24_Round.j0 (k + 1) n s true = some [] := by rw [ndjqref24_Round.j0, if_pos rfl]
  unfold sched_Round.f ndjqref24_Round.f
  by_cases c0 : n < 1
  · rw [if_pos c0, if_pos c0, bad]; exact ⟨_, rfl, rfl, by simp, fun _ => by simp⟩
  by_cases c1 : s < 1
  · rw [if_neg c0, if_pos c1, if_neg c0, if_pos c1, bad]; exact ⟨_, rfl, rfl, by simp, fun _ => by simp⟩
  by_cases c2 : s > 1048576
  · rw [if_neg c0, if_neg c1, if_pos c2, if_neg c0, if_neg c1, decide_eq_true c2, bad]; exact ⟨_, rfl, rfl, by simp, fun _ => by simp⟩
  have := hk (by omega)
  rw [if_neg c0, if_neg c1, if_neg c2, if_pos hn, if_neg c0, if_neg c1, decide_eq_false c2, ndjqref24_Round.j0, if_neg (by simp)]
  have h := round_loop n s (by omega) (by omega) s.toNat 0 k (by omega) (by omega)
  exact ⟨_, rfl, h, by rw [rouL_len]; omega, fun _ => by rw [rouL_len]; omega⟩
theorem mix_loop (x s : Int) (hs : s ≤ 1048576) : ∀ (d i k : Nat), (i : Int) + d = s → d < k → ndjqref24_Mix.l0 k (mixS x i) s (mixL x i) i = some (mixL x s.toNat)
  | 0, i, k, hi, hk => by
    obtain ⟨k, rfl⟩ : ∃ j, k = j + 1 := ⟨k - 1, by omega⟩
    simp only [ndjqref24_Mix.l0]
    rw [if_neg (by omega), show s.toNat = i by omega]
  | d + 1, i, k, hi, hk => by
    obtain ⟨k, rfl⟩ : ∃ j, k = j + 1 := ⟨k - 1, by omega⟩
    simp only [ndjqref24_Mix.l0]
    rw [if_pos (by omega), if_pos (by rw [mixL_len]; omega), wrap_succ i (by omega)]
    exact mix_loop x s hs d (i + 1) k (by omega) (by omega)
theorem mix_both (x s : Int) (k : Nat) (hk : s ≤ 1048576 → s.toNat + 5 < k) (hk0 : 0 < k) : ∃ r, sched_Mix.f x s = some r ∧ ndjqref24_Mix.f k x s = some r ∧ r.length ≤ 1048576 ∧ (s ≤ 1048576 → r.length < k) := by
  obtain ⟨k, rfl⟩ : ∃ j, k = j + 1 := ⟨k - 1, by omega⟩
  have bad : ndjqref24_Mix.j0 (k + 1) x s true = some [] := by rw [ndjqref24_Mix.j0, if_pos rfl]
  unfold sched_Mix.f ndjqref24_Mix.f
  by_cases c1 : s < 1
  · rw [if_pos c1, if_pos c1, bad]; exact ⟨_, rfl, rfl, by simp, fun _ => by simp⟩
  by_cases c2 : s > 1048576
  · rw [if_neg c1, if_pos c2, if_neg c1, decide_eq_true c2, bad]; exact ⟨_, rfl, rfl, by simp, fun _ => by simp⟩
  have := hk (by omega)
  rw [if_neg c1, if_neg c2, if_neg c1, decide_eq_false c2, ndjqref24_Mix.j0, if_neg (by simp)]
  have h := mix_loop x s (by omega) s.toNat 0 k (by omega) (by omega)
  exact ⟨_, rfl, h, by rw [mixL_len]; omega, fun _ => by rw [mixL_len]; omega⟩
theorem SchedPicks : ndjqlaw24_SchedPicks.Pure := by
  intro n x s hn _ hs
  have bn := bounds_i64 hn
  have main : ∀ t : Int, t ≤ 300 ∨ t > 1048576 → ndjqlaw24_SchedPicks.j1 1100001 n x t = some true := by
    intro t ht
    obtain ⟨r, h1, h2, h3, h4⟩ := round_both n t bn.2 1100000 (fun _ => by omega) (by omega)
    obtain ⟨q, g1, g2, g3, g4⟩ := mix_both x t 1100000 (fun _ => by omega) (by omega)
    rw [ndjqlaw24_SchedPicks.j1, h1, h2]
    simp only [Option.bind_some]
    rw [ints_same r (by omega) _ (by omega), g1, g2]
    simp only [Option.bind_some, if_true]
    rw [ints_same q (by omega) _ (by omega)]
    simp only [Option.bind_some, if_true]
    exact awake_in _ (by omega)
  refine ⟨1100002, ?_⟩
  unfold ndjqlaw24_SchedPicks.f
  by_cases c : s > 300
  · rw [if_pos c]
    by_cases c2 : s ≤ 1048576
    · rw [decide_eq_true c2, ndjqlaw24_SchedPicks.j0, if_pos rfl]
      exact main _ (.inl (by rw [Int.tmod_eq_emod_of_nonneg (by omega)]; omega))
    · rw [decide_eq_false c2, ndjqlaw24_SchedPicks.j0, if_neg (by simp)]
      exact main _ (.inr (by omega))
  · rw [if_neg c, ndjqlaw24_SchedPicks.j0, if_neg (by simp)]
    exact main _ (.inl (by omega))

end Go.Proofs.Ytgfaakecfkfcaaa.Pure
