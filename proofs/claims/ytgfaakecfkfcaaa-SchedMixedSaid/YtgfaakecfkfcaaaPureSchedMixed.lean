/- SchedMixed's pure law: Mix continues: its picks for more steps begin with those for fewer, and the picks are not negative. No further condition. -/
import Derived.Test.YtgfaakecfkfcaaaQSchedMixedx2
import Derived.Laws.BitsLemmas
import Derived.OpenShut
namespace Go.Proofs.Ytgfaakecfkfcaaa.Pure
open Go.RowKit Go.Proofs.Ytgfaakecfkfcaaa.QSchedMixed Go.Proofs.YtgfaakecfkfcaaaW.PrintWords Go.Proofs.YtgfaakecfkfcaaaW.PrintLast
set_option linter.unusedVariables false
set_option linter.unusedSimpArgs false
/-! ### numbers and the list of a string's bytes -/
theorem wrap_id (n : Int) (h : -9223372036854775808 ≤ n) (h' : n ≤ 9223372036854775807) : wrap64 n = n := by unfold wrap64; omega
theorem wrap_nat (a b c : Nat) (h : a + b = c) (hc : c ≤ 4611686018427387904) : wrap64 ((a : Int) + (b : Int)) = (c : Int) := by rw [wrap_id _ (by omega) (by omega)]; omega
theorem wrap_succ (a : Nat) (hc : a ≤ 4611686018427387904) : wrap64 ((a : Int) + 1) = ((a + 1 : Nat) : Int) := by rw [wrap_id _ (by omega) (by omega)]; omega
def nm (s : ByteArray) : List Int := s.data.toList.map fun c => (c.toNat : Int)
theorem nm_bytesOf (s : ByteArray) : bytesOf s = nm s := rfl
theorem nm_len (s : ByteArray) : (nm s).length = s.size := by unfold nm; rw [List.length_map, Array.length_toList]; rfl
theorem nm_get (s : ByteArray) (j : Nat) (h : j < s.size) : (nm s)[j]? = some (bt s (j : Int)) := by
  have h' : j < s.data.toList.length := by rw [Array.length_toList]; exact h
  unfold nm bt
  rw [List.getElem?_map, List.getElem?_eq_getElem h', dif_pos (show ((j : Int)).toNat < s.size from h)]
  rfl
theorem nm_drop (s : ByteArray) (j : Nat) (h : j < s.size) : (nm s).drop j = bt s (j : Int) :: (nm s).drop (j + 1) := by
  have hl := nm_len s
  rw [List.drop_eq_getElem_cons (by omega)]
  congr 1
  have := nm_get s j h
  rw [List.getElem?_eq_getElem (by omega)] at this
  exact Option.some.inj this
theorem nm_range (s : ByteArray) : ∀ c ∈ nm s, 0 ≤ c ∧ c ≤ 255 := by
  intro c hc
  unfold nm at hc
  obtain ⟨u, _, rfl⟩ := List.mem_map.1 hc
  have := u.toNat_lt
  omega
theorem nm_inj {s t : ByteArray} (h : nm s = nm t) : s = t := by
  unfold nm at h
  have := (List.map_inj_right (fun (x y : UInt8) e => UInt8.toNat_inj.1 (by omega))).1 h
  have h2 : s.data = t.data := Array.toList_inj.1 this
  cases s; cases t; simp_all
theorem nm_strOf (l : List Int) (h : ∀ c ∈ l, 0 ≤ c ∧ c ≤ 255) : nm (strOfNums l) = l := by
  unfold nm
  rw [strOfNums_data, List.map_map]
  conv => rhs; rw [← List.map_id l]
  apply List.map_congr_left
  intro c hc
  have := h c hc
  simp only [Function.comp, id]
  rw [UInt8.toNat_ofNat']
  omega
theorem nm_extract (s : ByteArray) (a b : Nat) : nm (s.extract a b) = ((nm s).take b).drop a := by
  unfold nm
  have e : (s.extract a b).data.toList = (s.data.toList.take b).drop a := by
    rw [ByteArray.data_extract, Array.toList_extract, List.extract_eq_take_drop, List.drop_take]
  rw [e, List.map_drop, List.map_take]
theorem nm_append (s t : ByteArray) : nm (s ++ t) = nm s ++ nm t := by unfold nm; rw [ByteArray.data_append, Array.toList_append, List.map_append]
theorem rd_drop (xs : List Int) (j : Nat) (h : j < xs.length) : xs.drop j = rd xs (j : Int) :: xs.drop (j + 1) := by
  rw [List.drop_eq_getElem_cons h]
  congr 1
  unfold rd
  rw [Int.toNat_natCast, List.getD_eq_getElem?_getD, List.getElem?_eq_getElem h]
  rfl
/-! ### keep.Mod -/
theorem mod_at (a m : Int) (h : 0 < m) (hm : m ≤ 4611686018427387904) : ∃ r, ndjqkeep_Mod.f a m = some r ∧ 0 ≤ r ∧ r < m ∧ r = a % m := by
  have e := Int.tmod_eq_emod (a := a) (b := m)
  have h1 := Int.emod_nonneg a (show m ≠ 0 by omega)
  have h2 := Int.emod_lt_of_pos a h
  unfold ndjqkeep_Mod.f
  rw [if_neg (by omega)]
  by_cases hd : 0 ≤ a ∨ m ∣ a
  · rw [if_pos hd] at e
    rw [if_neg (by omega)]
    exact ⟨_, rfl, by omega, by omega, by omega⟩
  · rw [if_neg hd] at e
    have en : ((m.natAbs : Nat) : Int) = m := by omega
    rw [if_pos (by omega), wrap_id _ (by omega) (by omega)]
    exact ⟨_, rfl, by omega, by omega, by omega⟩
/-! ### keep.Ints: a list is the same as itself -/
theorem ints_loop (l : List Int) (hl : l.length ≤ 4611686018427387904) : ∀ (d : Nat) (i : Int) (k : Nat), 0 ≤ i → (l.length : Int) - i ≤ d → d < k → i ≤ l.length → ndjqkeep_Ints.l0 k l l i = some true
  | 0, i, k, h0, hd, hk, hi => by
    obtain ⟨k, rfl⟩ : ∃ j, k = j + 1 := ⟨k - 1, by omega⟩
    simp only [ndjqkeep_Ints.l0]
    rw [if_neg (by omega)]
  | d + 1, i, k, h0, hd, hk, hi => by
    obtain ⟨k, rfl⟩ : ∃ j, k = j + 1 := ⟨k - 1, by omega⟩
    simp only [ndjqkeep_Ints.l0]
    by_cases c : i < (l.length : Int)
    · rw [if_pos c, if_pos h0, if_pos c, if_pos trivial, wrap_id (i + 1) (by omega) (by omega)]
      exact ints_loop l hl d (i + 1) k (by omega) (by omega) (by omega) (by omega)
    · rw [if_neg c]
theorem ints_same (l : List Int) (hl : l.length ≤ 4611686018427387904) (k : Nat) (hk : l.length < k) : ndjqkeep_Ints.f k l l = some true := by
  unfold ndjqkeep_Ints.f
  rw [if_pos rfl]
  exact ints_loop l hl l.length 0 k (by omega) (by omega) hk (by omega)
/-! ### Index, Choose -/
theorem index_at (n p : Int) (hn : 1 ≤ n) (hn2 : n ≤ 9223372036854775807) : sched_Index.f n p = some (p % n) := by
  have e := Int.tmod_eq_emod (a := p) (b := n)
  have h1 := Int.emod_nonneg p (show n ≠ 0 by omega)
  have h2 := Int.emod_lt_of_pos p (show 0 < n by omega)
  unfold sched_Index.f
  rw [if_neg (by omega), if_neg (by omega)]
  by_cases hd : 0 ≤ p ∨ n ∣ p
  · rw [if_pos hd] at e
    rw [if_neg (by omega)]
    congr 1; omega
  · rw [if_neg hd] at e
    have en : ((n.natAbs : Nat) : Int) = n := by omega
    rw [if_pos (by omega), wrap_id _ (by omega) (by omega)]
    congr 1; omega
theorem choose_at (l : List Int) (p : Int) (h : 1 ≤ l.length) (h2 : l.length ≤ 17592186044416) : sched_Choose.f l p = some (rd l (p % (l.length : Int)), true) := by
  have e := Int.emod_nonneg p (show (l.length : Int) ≠ 0 by omega)
  have e2 := Int.emod_lt_of_pos p (show 0 < (l.length : Int) by omega)
  unfold sched_Choose.f
  rw [if_neg (by omega), index_at _ _ (by omega) (by omega)]
  simp only [Option.bind_some]
  rw [if_pos e, if_pos e2]
theorem choose_none (l : List Int) (p : Int) (h : l.length = 0) : sched_Choose.f l p = some (0, false) := by
  unfold sched_Choose.f
  rw [if_pos (by omega)]
theorem awake_9 : ndjqlaw24_awake.f 9 = some true := by decide +kernel
theorem awake_at : ∀ (d k : Nat), k = 9 + d → ndjqlaw24_awake.f k = some true
  | 0, k, h => by rw [show k = 9 by omega]; exact awake_9
  | d + 1, k, h => by
    obtain ⟨k, rfl⟩ : ∃ j, k = j + 1 := ⟨k - 1, by omega⟩
    exact ndjqlaw24_awake.mono k true (awake_at d k (by omega))
theorem awake_in (k : Nat) (h : 9 ≤ k) : ((ndjqlaw24_awake.f k).bind fun t => (some t)) = some true := by rw [awake_at (k - 9) k (by omega)]; rfl
theorem u64_range (z : Int) : 0 ≤ IntKind.u64.wrap z ∧ IntKind.u64.wrap z < 18446744073709551616 := by
  have e : IntKind.u64.wrap z = z % 18446744073709551616 := rfl
  rw [e]; omega
theorem mix_mem (x : Int) : ∀ (j : Nat), ∀ y ∈ mixL x j, 0 ≤ y ∧ y < 2147483648
  | 0, y, hy => by simp [mixL] at hy
  | j + 1, y, hy => by
    rw [mixL, List.mem_append, List.mem_singleton] at hy
    rcases hy with hy | rfl
    · exact mix_mem x j y hy
    · have h := u64_range (IntKind.u64.wrap (mixS x j * 6364136223846793005) + 1442695040888963407)
      rw [mixS]
      obtain ⟨z, hz⟩ : ∃ z, IntKind.u64.wrap (IntKind.u64.wrap (mixS x j * 6364136223846793005) + 1442695040888963407) = z := ⟨_, rfl⟩
      rw [hz] at h ⊢
      rw [wrap_id _ (by omega) (by omega)]
      omega
theorem mix_take (x : Int) : ∀ (b a : Nat), a ≤ b → (mixL x b).take a = mixL x a
  | 0, a, h => by obtain rfl : a = 0 := by omega
                  rfl
  | b + 1, a, h => by
    by_cases c : a = b + 1
    · subst c; exact List.take_of_length_le (by rw [mixL_len]; exact Nat.le_refl _)
    · rw [mixL, List.take_append_of_le_length (by rw [mixL_len]; omega)]
      exact mix_take x b a (by omega)
theorem mixed_loop (x b : Int) (hb : 1 ≤ b ∧ b ≤ 200) : ∀ (d i k : Nat), (i : Int) + d = b → d + 20 < k → ndjqlaw24_SchedMixed.l0 k b (mixL x b.toNat) i = some true
  | 0, i, k, hi, hk => by
    obtain ⟨k, rfl⟩ : ∃ j, k = j + 1 := ⟨k - 1, by omega⟩
    simp only [ndjqlaw24_SchedMixed.l0]
    rw [if_neg (by omega)]
    exact awake_in _ (by omega)
  | d + 1, i, k, hi, hk => by
    obtain ⟨k, rfl⟩ : ∃ j, k = j + 1 := ⟨k - 1, by omega⟩
    have hl := mixL_len x b.toNat
    have hm := mix_mem x b.toNat (rd (mixL x b.toNat) (i : Int)) (List.mem_of_mem_drop (by rw [rd_drop _ i (by omega)]; exact List.mem_cons_self ..))
    simp only [ndjqlaw24_SchedMixed.l0]
    rw [if_pos (by omega), if_pos (by omega), if_pos (by omega), if_neg (by omega), if_neg (by omega), wrap_succ i (by omega)]
    exact mixed_loop x b hb d (i + 1) k (by omega) (by omega)
theorem mixed_two (x a b : Int) (ha : 1 ≤ a) (hab : a ≤ b) (hb : b ≤ 200) : ndjqlaw24_SchedMixed.j0 1000 x a b = some true := by
  have h : ∀ c : Int, 1 ≤ c → c ≤ 200 → sched_Mix.f x c = some (mixL x c.toNat) := fun c h1 h2 => by unfold sched_Mix.f; rw [if_neg (by omega), if_neg (by omega)]
  have la := mixL_len x a.toNat
  have lb := mixL_len x b.toNat
  rw [ndjqlaw24_SchedMixed.j0, h a ha (by omega), h b (by omega) hb]
  simp only [Option.bind_some]
  rw [if_pos (by omega), if_pos (by omega), if_pos (by omega), if_pos (by omega), mix_take x b.toNat a.toNat (by omega), ints_same _ (by omega) _ (by omega)]
  simp only [Option.bind_some]
  rw [show (!true) = false from rfl, ndjqlaw24_SchedMixed.j1, if_neg (by simp)]
  exact mixed_loop x b (by omega) b.toNat 0 998 (by omega) (by omega)
theorem SchedMixed : ndjqlaw24_SchedMixed.Pure := by
  intro x a b _ _ _
  refine ⟨1000, ?_⟩
  unfold ndjqlaw24_SchedMixed.f
  obtain ⟨r, hr, r0, r1, _⟩ := mod_at a 200 (by omega) (by omega)
  obtain ⟨q, hq, q0, q1, _⟩ := mod_at b 200 (by omega) (by omega)
  rw [hr, hq]
  simp only [Option.bind_some]
  rw [wrap_id (r + 1) (by omega) (by omega), wrap_id (q + 1) (by omega) (by omega)]
  by_cases c : r + 1 > q + 1
  · rw [if_pos c]; exact mixed_two x _ _ (by omega) (by omega) (by omega)
  · rw [if_neg c]; exact mixed_two x _ _ (by omega) (by omega) (by omega)

end Go.Proofs.Ytgfaakecfkfcaaa.Pure
