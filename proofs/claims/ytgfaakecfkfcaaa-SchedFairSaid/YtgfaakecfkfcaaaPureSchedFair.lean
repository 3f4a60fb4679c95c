/- SchedFair's pure law: every machine is chosen by the pick with its index, and picks that differ by the number of machines choose the same one; lists without an element or of more than 50 meet the sanity check alone. No further condition. -/
import Derived.Test.YtgfaakecfkfcaaaQSchedFairx2
import Derived.Laws.BitsLemmas
import Derived.OpenShut
namespace Go.Proofs.Ytgfaakecfkfcaaa.Pure
open Go.RowKit Go.Proofs.Ytgfaakecfkfcaaa.QSchedFair Go.Proofs.YtgfaakecfkfcaaaW.PrintWords Go.Proofs.YtgfaakecfkfcaaaW.PrintLast
set_option linter.unusedVariables false
set_option linter.unusedSimpArgs false
/-! ### numbers and the list of a string's bytes -/
theorem wrap_id (n : Int) (h : -9223372036854775808 ≤ n) (h' : n ≤ 9223372036854775807) : wrap64 n = n := by unfold wrap64; omega
theorem wrap_nat (a b c : Nat) (h : a + b = c) (hc : c ≤ 4611686018427387904) : wrap64 ((a : Int) + (b : Int)) = (c : Int) := by rw [wrap_id _ (by omega) (by omega)]; omega
theorem wrap_succ (a : Nat) (hc : a ≤ 4611686018427387904) : wrap64 ((a : Int) + 1) = ((a + 1 : Nat) : Int) := by rw [wrap_id _ (by omega) (by omega)]; omega
def nm (s : ByteArray) : List Int := s.data.toList.map fun c => (c.toNat : Int)
theorem nm_bytesOf (s : ByteArray) : bytesOf s = nm s := rfl
theorem nm_len (s : ByteArray) : (nm s).length = s.size := by unfold nm; rw [List.length_map, Array.length_toList]; rfl
theorem nm_get (s : ByteArray) (j : Nat) (h : j < s.size) : (nm s)[j]? = some (bt s (j : Int)) := by
  have h' : j < s.data.toList.length := by rw [Array.length_toList]; exact h
  unfold nm bt
  rw [List.getElem?_map, List.getElem?_eq_getElem h', dif_pos (show ((j : Int)).toNat < s.size from h)]
  rfl
theorem nm_drop (s : ByteArray) (j : Nat) (h : j < s.size) : (nm s).drop j = bt s (j : Int) :: (nm s).drop (j + 1) := by
  have hl := nm_len s
  rw [List.drop_eq_getElem_cons (by omega)]
  congr 1
  have := nm_get s j h
  rw [List.getElem?_eq_getElem (by omega)] at this
  exact Option.some.inj this
theorem nm_range (s : ByteArray) : ∀ c ∈ nm s, 0 ≤ c ∧ c ≤ 255 := by
  intro c hc
  unfold nm at hc
  obtain ⟨u, _, rfl⟩ := List.mem_map.1 hc
  have := u.toNat_lt
  omega
theorem nm_inj {s t : ByteArray} (h : nm s = nm t) : s = t := by
  unfold nm at h
  have := (List.map_inj_right (fun (x y : UInt8) e => UInt8.toNat_inj.1 (by omega))).1 h
  have h2 : s.data = t.data := Array.toList_inj.1 this
  cases s; cases t; simp_all
theorem nm_strOf (l : List Int) (h : ∀ c ∈ l, 0 ≤ c ∧ c ≤ 255) : nm (strOfNums l) = l := by
  unfold nm
  rw [strOfNums_data, List.map_map]
  conv => rhs; rw [← List.map_id l]
  apply List.map_congr_left
  intro c hc
  have := h c hc
  simp only [Function.comp, id]
  rw [UInt8.toNat_ofNat']
  omega
theorem nm_extract (s : ByteArray) (a b : Nat) : nm (s.extract a b) = ((nm s).take b).drop a := by
  unfold nm
  have e : (s.extract a b).data.toList = (s.data.toList.take b).drop a := by
    rw [ByteArray.data_extract, Array.toList_extract, List.extract_eq_take_drop, List.drop_take]
  rw [e, List.map_drop, List.map_take]
theorem nm_append (s t : ByteArray) : nm (s ++ t) = nm s ++ nm t := by unfold nm; rw [ByteArray.data_append, Array.toList_append, List.map_append]
theorem rd_drop (xs : List Int) (j : Nat) (h : j < xs.length) : xs.drop j = rd xs (j : Int) :: xs.drop (j + 1) := by
  rw [List.drop_eq_getElem_cons h]
  congr 1
  unfold rd
  rw [Int.toNat_natCast, List.getD_eq_getElem?_getD, List.getElem?_eq_getElem h]
  rfl
/-! ### keep.Mod -/
theorem mod_at (a m : Int) (h : 0 < m) (hm : m ≤ 4611686018427387904) : ∃ r, ndjqkeep_Mod.f a m = some r ∧ 0 ≤ r ∧ r < m ∧ r = a % m := by
  have e := Int.tmod_eq_emod (a := a) (b := m)
  have h1 := Int.emod_nonneg a (show m ≠ 0 by omega)
  have h2 := Int.emod_lt_of_pos a h
  unfold ndjqkeep_Mod.f
  rw [if_neg (by omega)]
  by_cases hd : 0 ≤ a ∨ m ∣ a
  · rw [if_pos hd] at e
    rw [if_neg (by omega)]
    exact ⟨_, rfl, by omega, by omega, by omega⟩
  · rw [if_neg hd] at e
    have en : ((m.natAbs : Nat) : Int) = m := by omega
    rw [if_pos (by omega), wrap_id _ (by omega) (by omega)]
    exact ⟨_, rfl, by omega, by omega, by omega⟩
/-! ### Index, Choose -/
theorem index_at (n p : Int) (hn : 1 ≤ n) (hn2 : n ≤ 9223372036854775807) : sched_Index.f n p = some (p % n) := by
  have e := Int.tmod_eq_emod (a := p) (b := n)
  have h1 := Int.emod_nonneg p (show n ≠ 0 by omega)
  have h2 := Int.emod_lt_of_pos p (show 0 < n by omega)
  unfold sched_Index.f
  rw [if_neg (by omega), if_neg (by omega)]
  by_cases hd : 0 ≤ p ∨ n ∣ p
  · rw [if_pos hd] at e
    rw [if_neg (by omega)]
    congr 1; omega
  · rw [if_neg hd] at e
    have en : ((n.natAbs : Nat) : Int) = n := by omega
    rw [if_pos (by omega), wrap_id _ (by omega) (by omega)]
    congr 1; omega
theorem choose_at (l : List Int) (p : Int) (h : 1 ≤ l.length) (h2 : l.length ≤ 17592186044416) : sched_Choose.f l p = some (rd l (p % (l.length : Int)), true) := by
  have e := Int.emod_nonneg p (show (l.length : Int) ≠ 0 by omega)
  have e2 := Int.emod_lt_of_pos p (show 0 < (l.length : Int) by omega)
  unfold sched_Choose.f
  rw [if_neg (by omega), index_at _ _ (by omega) (by omega)]
  simp only [Option.bind_some]
  rw [if_pos e, if_pos e2]
theorem choose_none (l : List Int) (p : Int) (h : l.length = 0) : sched_Choose.f l p = some (0, false) := by
  unfold sched_Choose.f
  rw [if_pos (by omega)]
theorem awake_9 : ndjqlaw24_awake.f 9 = some true := by decide +kernel
theorem awake_at : ∀ (d k : Nat), k = 9 + d → ndjqlaw24_awake.f k = some true
  | 0, k, h => by rw [show k = 9 by omega]; exact awake_9
  | d + 1, k, h => by
    obtain ⟨k, rfl⟩ : ∃ j, k = j + 1 := ⟨k - 1, by omega⟩
    exact ndjqlaw24_awake.mono k true (awake_at d k (by omega))
theorem awake_in (k : Nat) (h : 9 ≤ k) : ((ndjqlaw24_awake.f k).bind fun t => (some t)) = some true := by rw [awake_at (k - 9) k (by omega)]; rfl
theorem SchedFair : ndjqlaw24_SchedFair.Pure := by
  intro l p t hl _ _ hp ht
  have bt := bounds_i32 ht
  refine ⟨21, ?_⟩
  have bad : ndjqlaw24_SchedFair.j0 21 l p t (l.length : Int) true = some true := by
    rw [ndjqlaw24_SchedFair.j0, if_pos rfl, choose_none [] p rfl]
    simp only [Option.bind_some]
    rw [if_neg (by simp)]
    exact awake_in _ (by omega)
  unfold ndjqlaw24_SchedFair.f
  by_cases c : (l.length : Int) = 0
  · rw [if_pos c]; exact bad
  rw [if_neg c]
  by_cases c2 : (l.length : Int) > 50
  · rw [decide_eq_true c2]; exact bad
  rw [decide_eq_false c2, ndjqlaw24_SchedFair.j0, if_neg (by simp)]
  obtain ⟨r, hr, h0, h1, _⟩ := mod_at p (l.length : Int) (by omega) (by omega)
  obtain ⟨q, hq⟩ : ∃ q, (l.length : Int) * t = q := ⟨_, rfl⟩
  have hb : -(110000000000 : Int) ≤ q ∧ q ≤ 110000000000 := by
    rw [← hq]
    constructor
    · exact Int.le_trans (by omega : (-(110000000000) : Int) ≤ 50 * (-2147483648)) (by
        rcases Int.le_total 0 t with h | h
        · exact Int.le_trans (by omega) (Int.mul_nonneg (by omega) h)
        · exact Int.le_trans (Int.mul_le_mul_of_nonneg_left bt.1 (by omega)) (Int.mul_le_mul_of_nonpos_right (by omega) h))
    · rcases Int.le_total 0 t with h | h
      · exact Int.le_trans (Int.mul_le_mul (by omega : (l.length : Int) ≤ 50) bt.2 h (by omega)) (by omega)
      · exact Int.le_trans (Int.mul_nonpos_of_nonneg_of_nonpos (by omega) h) (by omega)
  rw [hr]
  simp only [Option.bind_some]
  rw [wrap_id t (by omega) (by omega), hq, wrap_id q (by omega) (by omega), wrap_id (r + q) (by omega) (by omega), choose_at l r (by omega) (by omega), choose_at l (r + q) (by omega) (by omega)]
  have e1 : r % (l.length : Int) = r := Int.emod_eq_of_lt h0 h1
  have e2 : (r + q) % (l.length : Int) = r := by rw [← hq, Int.add_mul_emod_self_left]; exact e1
  simp only [Option.bind_some]
  rw [e1, e2, if_pos trivial, if_pos trivial, if_pos h0, if_pos h1, if_pos rfl, if_pos rfl]
  exact awake_in _ (by omega)

end Go.Proofs.Ytgfaakecfkfcaaa.Pure
