/- AutomatonBytes's pure law: reading a string byte by byte leads to the exits and finds the line feeds of its summary, for every string of at most 200 bytes and every state; longer ones meet the sanity check alone. No further condition. -/
import Derived.Test.YtjejjhpmiinanaaDoorQAutomatonBytesx5
import Derived.Laws.BitsLemmas
import Derived.Laws.BitsLemmas
import Derived.Laws.BitsLemmas
namespace Go.Proofs.YtjejjhpmiinanaaDoor.Pure
open Go.RowKit Go.Proofs.YtjejjhpmiinanaaDoor.QAutomatonBytes Go.Proofs.YtjejjhpmiinanaaDoorW.PrintWords Go.Proofs.YtjejjhpmiinanaaDoorW.PrintLast
set_option linter.unusedVariables false
set_option linter.unusedSimpArgs false
/-! ### numbers and the list of a string's bytes -/
theorem wrap_id (n : Int) (h : -9223372036854775808 ≤ n) (h' : n ≤ 9223372036854775807) : wrap64 n = n := by unfold wrap64; omega
theorem wrap_nat (a b c : Nat) (h : a + b = c) (hc : c ≤ 4611686018427387904) : wrap64 ((a : Int) + (b : Int)) = (c : Int) := by rw [wrap_id _ (by omega) (by omega)]; omega
theorem wrap_succ (a : Nat) (hc : a ≤ 4611686018427387904) : wrap64 ((a : Int) + 1) = ((a + 1 : Nat) : Int) := by rw [wrap_id _ (by omega) (by omega)]; omega
def nm (s : ByteArray) : List Int := s.data.toList.map fun c => (c.toNat : Int)
theorem nm_bytesOf (s : ByteArray) : bytesOf s = nm s := rfl
theorem nm_len (s : ByteArray) : (nm s).length = s.size := by unfold nm; rw [List.length_map, Array.length_toList]; rfl
theorem nm_get (s : ByteArray) (j : Nat) (h : j < s.size) : (nm s)[j]? = some (bt s (j : Int)) := by
  have h' : j < s.data.toList.length := by rw [Array.length_toList]; exact h
  unfold nm bt
  rw [List.getElem?_map, List.getElem?_eq_getElem h', dif_pos (show ((j : Int)).toNat < s.size from h)]
  rfl
theorem nm_drop (s : ByteArray) (j : Nat) (h : j < s.size) : (nm s).drop j = bt s (j : Int) :: (nm s).drop (j + 1) := by
  have hl := nm_len s
  rw [List.drop_eq_getElem_cons (by omega)]
  congr 1
  have := nm_get s j h
  rw [List.getElem?_eq_getElem (by omega)] at this
  exact Option.some.inj this
theorem nm_range (s : ByteArray) : ∀ c ∈ nm s, 0 ≤ c ∧ c ≤ 255 := by
  intro c hc
  unfold nm at hc
  obtain ⟨u, _, rfl⟩ := List.mem_map.1 hc
  have := u.toNat_lt
  omega
theorem nm_inj {s t : ByteArray} (h : nm s = nm t) : s = t := by
  unfold nm at h
  have := (List.map_inj_right (fun (x y : UInt8) e => UInt8.toNat_inj.1 (by omega))).1 h
  have h2 : s.data = t.data := Array.toList_inj.1 this
  cases s; cases t; simp_all
theorem nm_strOf (l : List Int) (h : ∀ c ∈ l, 0 ≤ c ∧ c ≤ 255) : nm (strOfNums l) = l := by
  unfold nm
  rw [strOfNums_data, List.map_map]
  conv => rhs; rw [← List.map_id l]
  apply List.map_congr_left
  intro c hc
  have := h c hc
  simp only [Function.comp, id]
  rw [UInt8.toNat_ofNat']
  omega
theorem nm_extract (s : ByteArray) (a b : Nat) : nm (s.extract a b) = ((nm s).take b).drop a := by
  unfold nm
  have e : (s.extract a b).data.toList = (s.data.toList.take b).drop a := by
    rw [ByteArray.data_extract, Array.toList_extract, List.extract_eq_take_drop, List.drop_take]
  rw [e, List.map_drop, List.map_take]
theorem nm_append (s t : ByteArray) : nm (s ++ t) = nm s ++ nm t := by unfold nm; rw [ByteArray.data_append, Array.toList_append, List.map_append]
theorem rd_drop (xs : List Int) (j : Nat) (h : j < xs.length) : xs.drop j = rd xs (j : Int) :: xs.drop (j + 1) := by
  rw [List.drop_eq_getElem_cons h]
  congr 1
  unfold rd
  rw [Int.toNat_natCast, List.getD_eq_getElem?_getD, List.getElem?_eq_getElem h]
  rfl
/-! ### the automaton over a list of bytes -/
def stp (s b : Int) : Int × Bool := if s = 0 then (if b = 34 then (1, false) else if b = 10 then (0, true) else (0, false)) else if s = 1 then (if b = 34 then (0, false) else if b = 92 then (2, false) else (1, false)) else if s = 2 then (1, false) else (0, false)
/-- The state behind a list of bytes, and the offsets of the line feeds that end a record; the first byte has the offset 'at'. -/
def scanL : Int → Nat → List Int → Int × List Int
  | st, _, [] => (st, [])
  | st, i, b :: t => ((scanL (stp st b).1 (i + 1) t).1, if (stp st b).2 = true then (i : Int) :: (scanL (stp st b).1 (i + 1) t).2 else (scanL (stp st b).1 (i + 1) t).2)
theorem step_at (s b : Int) : automaton_Step.f s b = some (stp s b) := by
  unfold automaton_Step.f stp
  repeat' split
  all_goals rfl
theorem scanL_len : ∀ (l : List Int) (st : Int) (i : Nat), (scanL st i l).2.length ≤ l.length
  | [], _, _ => by simp [scanL]
  | b :: t, st, i => by
    have := scanL_len t (stp st b).1 (i + 1)
    simp only [scanL, List.length_cons]
    split
    · rw [List.length_cons]; omega
    · omega
/-- Where a line feed ends a record: in the list, behind the one before. -/
theorem scanL_mem : ∀ (l : List Int) (st : Int) (i : Nat), ∀ x ∈ (scanL st i l).2, (i : Int) ≤ x ∧ x < (i : Int) + l.length
  | [], _, _ => by simp [scanL]
  | b :: t, st, i => by
    intro x hx
    have ih := scanL_mem t (stp st b).1 (i + 1)
    simp only [scanL] at hx
    rw [List.length_cons]
    split at hx
    · rcases List.mem_cons.1 hx with rfl | hx
      · omega
      · have := ih x hx; omega
    · have := ih x hx; omega
/-! ### Summarize: each state is read through the string -/
theorem stp_range (s b : Int) : 0 ≤ (stp s b).1 ∧ (stp s b).1 ≤ 2 := by
  unfold stp
  repeat' split
  all_goals constructor <;> decide
theorem scanL_range : ∀ (l : List Int) (st : Int) (i : Nat), 0 ≤ st → st ≤ 2 → 0 ≤ (scanL st i l).1 ∧ (scanL st i l).1 ≤ 2
  | [], st, i, h0, h2 => by simp only [scanL]; exact ⟨h0, h2⟩
  | b :: t, st, i, h0, h2 => by simp only [scanL]; exact scanL_range t _ _ (stp_range st b).1 (stp_range st b).2
theorem sum0 (s : ByteArray) (hs : s.size ≤ 1048576) (o n e1 e2 : Int) (L1 L2 : List Int) (k : Nat) : ∀ (m i : Nat) (e0 : Int) (L0 : List Int) (f : Nat), i + m = s.size → L0.length ≤ i → f = k + m + 1 →
    automaton_Summarize.l1 f s 0 o (s.size : Int) (i : Int) n e0 e1 e2 L0 L1 L2 = automaton_Summarize.l0 k s (wrap64 (o + 1)) n (scanL e0 i ((nm s).drop i)).1 e1 e2 (L0 ++ (scanL e0 i ((nm s).drop i)).2) L1 L2
  | 0, i, e0, L0, f, hi, hL, hf => by
    obtain ⟨f, rfl⟩ : ∃ g, f = g + 1 := ⟨f - 1, by omega⟩
    obtain rfl : f = k := by omega
    rw [automaton_Summarize.l1]
    rw [if_neg (by omega), List.drop_eq_nil_of_le (by rw [nm_len]; omega)]
    simp only [scanL, List.append_nil]
  | m + 1, i, e0, L0, f, hi, hL, hf => by
    obtain ⟨f, rfl⟩ : ∃ g, f = g + 1 := ⟨f - 1, by omega⟩
    have hlt : i < s.size := by omega
    rw [automaton_Summarize.l1]
    rw [if_pos (by omega), if_pos rfl, if_pos (by omega), if_pos (by omega), step_at, Option.bind_some, nm_drop s i hlt]
    by_cases c : (stp e0 (bt s (i : Int))).2 = true
    · rw [if_pos c, if_pos (by omega), wrap_succ i (by omega)]
      rw [sum0 s hs o n e1 e2 L1 L2 k m (i + 1) _ (L0 ++ [(i : Int)]) f (by omega) (by rw [List.length_append, List.length_singleton]; omega) (by omega)]
      simp only [scanL]
      rw [if_pos c, List.append_assoc]
      rfl
    · rw [if_neg c, wrap_succ i (by omega)]
      rw [sum0 s hs o n e1 e2 L1 L2 k m (i + 1) _ L0 f (by omega) (by omega) (by omega)]
      simp only [scanL]
      rw [if_neg c]
theorem sum1 (s : ByteArray) (hs : s.size ≤ 1048576) (o n e0 e2 : Int) (L0 L2 : List Int) (k : Nat) : ∀ (m i : Nat) (e1 : Int) (L1 : List Int) (f : Nat), i + m = s.size → L1.length ≤ i → f = k + m + 1 →
    automaton_Summarize.l1 f s 1 o (s.size : Int) (i : Int) n e0 e1 e2 L0 L1 L2 = automaton_Summarize.l0 k s (wrap64 (o + 1)) n e0 (scanL e1 i ((nm s).drop i)).1 e2 L0 (L1 ++ (scanL e1 i ((nm s).drop i)).2) L2
  | 0, i, e1, L1, f, hi, hL, hf => by
    obtain ⟨f, rfl⟩ : ∃ g, f = g + 1 := ⟨f - 1, by omega⟩
    obtain rfl : f = k := by omega
    rw [automaton_Summarize.l1]
    rw [if_neg (by omega), List.drop_eq_nil_of_le (by rw [nm_len]; omega)]
    simp only [scanL, List.append_nil]
  | m + 1, i, e1, L1, f, hi, hL, hf => by
    obtain ⟨f, rfl⟩ : ∃ g, f = g + 1 := ⟨f - 1, by omega⟩
    have hlt : i < s.size := by omega
    rw [automaton_Summarize.l1]
    rw [if_pos (by omega), if_neg (by decide), if_pos rfl, if_pos (by omega), if_pos (by omega), step_at, Option.bind_some, nm_drop s i hlt]
    by_cases c : (stp e1 (bt s (i : Int))).2 = true
    · rw [if_pos c, if_pos (by omega), wrap_succ i (by omega)]
      rw [sum1 s hs o n e0 e2 L0 L2 k m (i + 1) _ (L1 ++ [(i : Int)]) f (by omega) (by rw [List.length_append, List.length_singleton]; omega) (by omega)]
      simp only [scanL]
      rw [if_pos c, List.append_assoc]
      rfl
    · rw [if_neg c, wrap_succ i (by omega)]
      rw [sum1 s hs o n e0 e2 L0 L2 k m (i + 1) _ L1 f (by omega) (by omega) (by omega)]
      simp only [scanL]
      rw [if_neg c]
theorem sum2 (s : ByteArray) (hs : s.size ≤ 1048576) (o n e0 e1 : Int) (L0 L1 : List Int) (k : Nat) : ∀ (m i : Nat) (e2 : Int) (L2 : List Int) (f : Nat), i + m = s.size → L2.length ≤ i → f = k + m + 1 →
    automaton_Summarize.l1 f s 2 o (s.size : Int) (i : Int) n e0 e1 e2 L0 L1 L2 = automaton_Summarize.l0 k s (wrap64 (o + 1)) n e0 e1 (scanL e2 i ((nm s).drop i)).1 L0 L1 (L2 ++ (scanL e2 i ((nm s).drop i)).2)
  | 0, i, e2, L2, f, hi, hL, hf => by
    obtain ⟨f, rfl⟩ : ∃ g, f = g + 1 := ⟨f - 1, by omega⟩
    obtain rfl : f = k := by omega
    rw [automaton_Summarize.l1]
    rw [if_neg (by omega), List.drop_eq_nil_of_le (by rw [nm_len]; omega)]
    simp only [scanL, List.append_nil]
  | m + 1, i, e2, L2, f, hi, hL, hf => by
    obtain ⟨f, rfl⟩ : ∃ g, f = g + 1 := ⟨f - 1, by omega⟩
    have hlt : i < s.size := by omega
    rw [automaton_Summarize.l1]
    rw [if_pos (by omega), if_neg (by decide), if_neg (by decide), if_pos rfl, if_pos (by omega), if_pos (by omega), step_at, Option.bind_some, nm_drop s i hlt]
    by_cases c : (stp e2 (bt s (i : Int))).2 = true
    · rw [if_pos c, if_pos (by omega), wrap_succ i (by omega)]
      rw [sum2 s hs o n e0 e1 L0 L1 k m (i + 1) _ (L2 ++ [(i : Int)]) f (by omega) (by rw [List.length_append, List.length_singleton]; omega) (by omega)]
      simp only [scanL]
      rw [if_pos c, List.append_assoc]
      rfl
    · rw [if_neg c, wrap_succ i (by omega)]
      rw [sum2 s hs o n e0 e1 L0 L1 k m (i + 1) _ L2 f (by omega) (by omega) (by omega)]
      simp only [scanL]
      rw [if_neg c]
theorem summarize_at (s : ByteArray) (hs : s.size ≤ 1048576) (k : Nat) (hk : 3 * s.size + 10 ≤ k) : automaton_Summarize.f k s = some ((s.size : Int), (scanL 0 0 (nm s)).1, (scanL 1 0 (nm s)).1, (scanL 2 0 (nm s)).1, (scanL 0 0 (nm s)).2, (scanL 1 0 (nm s)).2, (scanL 2 0 (nm s)).2, 0) := by
  obtain ⟨r, rfl⟩ : ∃ r, k = r + 1 + s.size + 1 + 1 + s.size + 1 + 1 + s.size + 1 + 1 := ⟨k - (3 * s.size + 7), by omega⟩
  unfold automaton_Summarize.f
  rw [if_neg (by omega), automaton_Empty.f, Option.bind_some]
  have z : ((0 : Nat) : Int) = 0 := rfl
  have s0 := fun (k : Nat) => sum0 s hs 0 (s.size : Int) 1 2 [] [] k s.size 0 0 [] (k + s.size + 1) (by omega) (by simp) rfl
  have s1 := fun (e0 : Int) (L0 : List Int) (k : Nat) => sum1 s hs 1 (s.size : Int) e0 2 L0 [] k s.size 0 1 [] (k + s.size + 1) (by omega) (by simp) rfl
  have s2 := fun (e0 e1 : Int) (L0 L1 : List Int) (k : Nat) => sum2 s hs 2 (s.size : Int) e0 e1 L0 L1 k s.size 0 2 [] (k + s.size + 1) (by omega) (by simp) rfl
  simp only [z, List.drop_zero, List.nil_append] at s0 s1 s2
  rw [automaton_Summarize.l0, if_pos (by decide), s0, show wrap64 (0 + 1) = 1 by decide +kernel]
  rw [automaton_Summarize.l0, if_pos (by decide), s1, show wrap64 (1 + 1) = 2 by decide +kernel]
  rw [automaton_Summarize.l0, if_pos (by decide), s2, show wrap64 (2 + 1) = 3 by decide +kernel]
  rw [automaton_Summarize.l0, if_neg (by decide)]
theorem summarize_long (s : ByteArray) (hs : 1048576 < s.size) (k : Nat) : automaton_Summarize.f k s = some (0, 0, 0, 0, [], [], [], 2) := by
  unfold automaton_Summarize.f
  rw [if_pos (by omega)]
/-! ### keep.Ints: a list is the same as itself -/
theorem ints_loop (l : List Int) (hl : l.length ≤ 4611686018427387904) : ∀ (d : Nat) (i : Int) (k : Nat), 0 ≤ i → (l.length : Int) - i ≤ d → d < k → i ≤ l.length → ndjqkeep_Ints.l0 k l l i = some true
  | 0, i, k, h0, hd, hk, hi => by
    obtain ⟨k, rfl⟩ : ∃ j, k = j + 1 := ⟨k - 1, by omega⟩
    simp only [ndjqkeep_Ints.l0]
    rw [if_neg (by omega)]
  | d + 1, i, k, h0, hd, hk, hi => by
    obtain ⟨k, rfl⟩ : ∃ j, k = j + 1 := ⟨k - 1, by omega⟩
    simp only [ndjqkeep_Ints.l0]
    by_cases c : i < (l.length : Int)
    · rw [if_pos c, if_pos h0, if_pos c, if_pos trivial, wrap_id (i + 1) (by omega) (by omega)]
      exact ints_loop l hl d (i + 1) k (by omega) (by omega) (by omega) (by omega)
    · rw [if_neg c]
theorem ints_same (l : List Int) (hl : l.length ≤ 4611686018427387904) (k : Nat) (hk : l.length < k) : ndjqkeep_Ints.f k l l = some true := by
  unfold ndjqkeep_Ints.f
  rw [if_pos rfl]
  exact ints_loop l hl l.length 0 k (by omega) (by omega) hk (by omega)
/-! ### the sanity check -/
theorem awake_at (k : Nat) (hk : 40 ≤ k) : ndjqlaw18_awake.f k = some true := by
  unfold ndjqlaw18_awake.f
  have z : (⟨#[97, 34, 10]⟩ : ByteArray).size = 3 := rfl
  rw [summarize_at _ (by rw [z]; omega) k (by rw [z]; omega)]
  have e0 : scanL 0 0 (nm (⟨#[97, 34, 10]⟩ : ByteArray)) = (1, []) := by decide +kernel
  have e1 : scanL 1 0 (nm (⟨#[97, 34, 10]⟩ : ByteArray)) = (0, [2]) := by decide +kernel
  have e2 : scanL 2 0 (nm (⟨#[97, 34, 10]⟩ : ByteArray)) = (0, [2]) := by decide +kernel
  rw [e0, e1, e2, z, Option.bind_some]
  have i2 := ints_same [2] (by simp) k (by simp; omega)
  simp only [i2, Option.bind_some, if_true]
  rfl
/-! ### keep.Mod -/
theorem mod_at (a m : Int) (h : 0 < m) (hm : m ≤ 4611686018427387904) : ∃ r, ndjqkeep_Mod.f a m = some r ∧ 0 ≤ r ∧ r < m ∧ r = a % m := by
  have e := Int.tmod_eq_emod (a := a) (b := m)
  have h1 := Int.emod_nonneg a (show m ≠ 0 by omega)
  have h2 := Int.emod_lt_of_pos a h
  unfold ndjqkeep_Mod.f
  rw [if_neg (by omega)]
  by_cases hd : 0 ≤ a ∨ m ∣ a
  · rw [if_pos hd] at e
    rw [if_neg (by omega)]
    exact ⟨_, rfl, by omega, by omega, by omega⟩
  · rw [if_neg hd] at e
    have en : ((m.natAbs : Nat) : Int) = m := by omega
    rw [if_pos (by omega), wrap_id _ (by omega) (by omega)]
    exact ⟨_, rfl, by omega, by omega, by omega⟩
theorem scanL_snoc : ∀ (l : List Int) (st b : Int) (i : Nat), scanL st i (l ++ [b]) = ((stp (scanL st i l).1 b).1, (scanL st i l).2 ++ (if (stp (scanL st i l).1 b).2 = true then [((i + l.length : Nat) : Int)] else []))
  | [], st, b, i => by
    simp only [List.nil_append, scanL, List.length_nil, Nat.add_zero]
    split <;> simp_all
  | x :: t, st, b, i => by
    have ih := scanL_snoc t (stp st x).1 b (i + 1)
    rw [show i + 1 + t.length = i + (t.length + 1) by omega] at ih
    simp only [List.cons_append, scanL, ih, List.length_cons]
    by_cases c : (stp st x).2 = true
    · rw [if_pos c, if_pos c, List.cons_append]; congr
    · rw [if_neg c, if_neg c]; congr
theorem stp_end (s b : Int) : (stp s b).2 = (if s = 0 then b == 10 else false) := by
  unfold stp
  by_cases h0 : s = 0
  · rw [if_pos h0, if_pos h0]
    by_cases h1 : b = 34
    · simp [h1]
    · by_cases h2 : b = 10 <;> simp [h1, h2]
  · rw [if_neg h0, if_neg h0]
    repeat' split
    all_goals rfl
theorem bytes_loop (s : ByteArray) (hs : s.size ≤ 200) (st : Int) (h0 : 0 ≤ st) (h3 : st < 3) (n : Nat) (hn : 3 * s.size + 100 ≤ n) : ∀ (m i : Nat) (x : Int) (acc : List Int) (f : Nat), i + m = s.size → acc.length ≤ i → x = (scanL st 0 ((nm s).take i)).1 → acc = (scanL st 0 ((nm s).take i)).2 → f = n + m + 1 →
    ndjqlaw18_AutomatonBytes.l0 f s st x acc (i : Int) (s.size : Int) (scanL 0 0 (nm s)).1 (scanL 1 0 (nm s)).1 (scanL 2 0 (nm s)).1 (scanL 0 0 (nm s)).2 (scanL 1 0 (nm s)).2 (scanL 2 0 (nm s)).2 = some true
  | 0, i, x, acc, f, hi, hc, hx, he, hf => by
    obtain ⟨f, rfl⟩ : ∃ g, f = g + 1 := ⟨f - 1, by omega⟩
    have hl := nm_len s
    rw [List.take_of_length_le (by omega)] at hx he
    have hlen := scanL_len (nm s) st 0
    subst hx he
    rw [ndjqlaw18_AutomatonBytes.l0, if_neg (by omega), if_pos rfl]
    have fin : ∀ q : Int, ((ndjqkeep_Ints.f f (scanL q 0 (nm s)).2 (scanL q 0 (nm s)).2).bind fun t => if t = true then (ndjqlaw18_awake.f f).bind fun u => some u else some false) = some true := by
      intro q
      have := scanL_len (nm s) q 0
      rw [ints_same _ (by omega) f (by omega), Option.bind_some, if_pos rfl, awake_at f (by omega)]
      rfl
    rcases (show st = 0 ∨ st = 1 ∨ st = 2 by omega) with rfl | rfl | rfl
    · rw [if_pos rfl, if_pos rfl]; exact fin 0
    · rw [if_neg (by decide), if_pos rfl, if_pos rfl]; exact fin 1
    · rw [if_neg (by decide), if_neg (by decide), if_pos rfl, if_pos rfl]; exact fin 2
  | m + 1, i, x, acc, f, hi, hc, hx, he, hf => by
    obtain ⟨f, rfl⟩ : ∃ g, f = g + 1 := ⟨f - 1, by omega⟩
    have hlt : i < s.size := by omega
    have hl := nm_len s
    have ht : (nm s).take (i + 1) = (nm s).take i ++ [bt s (i : Int)] := by
      rw [List.take_add_one, nm_get s i hlt]; rfl
    have sn := scanL_snoc ((nm s).take i) st (bt s (i : Int)) 0
    rw [← ht, ← hx, ← he, List.length_take, Nat.min_eq_left (by omega), Nat.zero_add] at sn
    have r := stp_range x (bt s (i : Int))
    have en := stp_end x (bt s (i : Int))
    rw [ndjqlaw18_AutomatonBytes.l0, if_pos (by omega), if_pos (by omega), step_at, Option.bind_some, wrap_succ i (by omega)]
    by_cases c : (stp x (bt s (i : Int))).2 = true
    · rw [if_pos c, if_pos (by omega)]
      rw [if_pos c] at sn
      have go := bytes_loop s hs st h0 h3 n hn m (i + 1) (stp x (bt s (i : Int))).1 (acc ++ [(i : Int)]) f (by omega) (by rw [List.length_append, List.length_singleton]; omega) (by rw [sn]) (by rw [sn]) (by omega)
      by_cases c0 : x = 0
      · rw [if_pos c0] at en
        rw [if_pos c0, en, if_neg (by simp), if_neg (by omega), if_neg (by omega)]
        exact go
      · rw [if_neg c0] at en
        exact absurd (c.symm.trans en) (by decide)
    · rw [if_neg c]
      rw [if_neg c, List.append_nil] at sn
      have go := bytes_loop s hs st h0 h3 n hn m (i + 1) (stp x (bt s (i : Int))).1 acc f (by omega) (by omega) (by rw [sn]) (by rw [sn]) (by omega)
      by_cases c0 : x = 0
      · rw [if_pos c0] at en
        rw [if_pos c0, en, if_neg (by simp), if_neg (by omega), if_neg (by omega)]
        exact go
      · rw [if_neg c0, if_neg (by omega), if_neg (by omega)]
        exact go
theorem AutomatonBytes : ndjqlaw18_AutomatonBytes.Pure := by
  intro s a _ _
  obtain ⟨n, hn⟩ : ∃ n, 3 * s.size + 100 ≤ n := ⟨_, Nat.le_refl _⟩
  refine ⟨n + s.size + 1 + 1, ?_⟩
  unfold ndjqlaw18_AutomatonBytes.f
  obtain ⟨st, e, h0, h3, _⟩ := mod_at a 3 (by decide) (by decide)
  rw [e, Option.bind_some]
  have aw : ∀ k, 40 ≤ k → ((ndjqlaw18_awake.f k).bind fun t => some t) = some true := fun k hk => by rw [awake_at k hk]; rfl
  by_cases c : (s.size : Int) > 200
  · by_cases d : s.size ≤ 1048576
    · rw [summarize_at s d _ (by omega), Option.bind_some, if_pos c, ndjqlaw18_AutomatonBytes.j0, if_pos rfl]
      exact aw _ (by omega)
    · rw [summarize_long s (by omega), Option.bind_some, if_pos c, ndjqlaw18_AutomatonBytes.j0, if_pos rfl]
      exact aw _ (by omega)
  · rw [summarize_at s (by omega) _ (by omega), Option.bind_some, if_neg c, show (((0 : Int) != 0)) = false by decide, ndjqlaw18_AutomatonBytes.j0, if_neg (by decide)]
    have := bytes_loop s (by omega) st h0 h3 n hn s.size 0 st [] _ (by omega) (by simp) (by simp [scanL]) (by simp [scanL]) rfl
    rw [show ((0 : Nat) : Int) = 0 from rfl] at this
    exact this

end Go.Proofs.YtjejjhpmiinanaaDoor.Pure
