/- ScanCarry's pure law: resolving the pieces of an input one after another, wherever it is cut, yields the records that end in them, and the last one is what remains; for at most 150 bytes and 20 cuts, others meet the sanity check alone. No further condition. -/
import Derived.Test.YtkhnifehcnlpjaaDoorQScanCarryx8
import Derived.Laws.BitsLemmas
import Derived.OpenShut
namespace Go.Proofs.YtkhnifehcnlpjaaDoor.Pure
open Go.RowKit Go.Proofs.YtkhnifehcnlpjaaDoor.QScanCarry Go.Proofs.YtkhnifehcnlpjaaDoorW.PrintWords Go.Proofs.YtkhnifehcnlpjaaDoorW.PrintLast
set_option linter.unusedVariables false
set_option linter.unusedSimpArgs false
/-! ### numbers and the list of a string's bytes -/
theorem wrap_id (n : Int) (h : -9223372036854775808 ≤ n) (h' : n ≤ 9223372036854775807) : wrap64 n = n := by unfold wrap64; omega
theorem wrap_nat (a b c : Nat) (h : a + b = c) (hc : c ≤ 4611686018427387904) : wrap64 ((a : Int) + (b : Int)) = (c : Int) := by rw [wrap_id _ (by omega) (by omega)]; omega
theorem wrap_succ (a : Nat) (hc : a ≤ 4611686018427387904) : wrap64 ((a : Int) + 1) = ((a + 1 : Nat) : Int) := by rw [wrap_id _ (by omega) (by omega)]; omega
def nm (s : ByteArray) : List Int := s.data.toList.map fun c => (c.toNat : Int)
theorem nm_bytesOf (s : ByteArray) : bytesOf s = nm s := rfl
theorem nm_len (s : ByteArray) : (nm s).length = s.size := by unfold nm; rw [List.length_map, Array.length_toList]; rfl
theorem nm_get (s : ByteArray) (j : Nat) (h : j < s.size) : (nm s)[j]? = some (bt s (j : Int)) := by
  have h' : j < s.data.toList.length := by rw [Array.length_toList]; exact h
  unfold nm bt
  rw [List.getElem?_map, List.getElem?_eq_getElem h', dif_pos (show ((j : Int)).toNat < s.size from h)]
  rfl
theorem nm_drop (s : ByteArray) (j : Nat) (h : j < s.size) : (nm s).drop j = bt s (j : Int) :: (nm s).drop (j + 1) := by
  have hl := nm_len s
  rw [List.drop_eq_getElem_cons (by omega)]
  congr 1
  have := nm_get s j h
  rw [List.getElem?_eq_getElem (by omega)] at this
  exact Option.some.inj this
theorem nm_range (s : ByteArray) : ∀ c ∈ nm s, 0 ≤ c ∧ c ≤ 255 := by
  intro c hc
  unfold nm at hc
  obtain ⟨u, _, rfl⟩ := List.mem_map.1 hc
  have := u.toNat_lt
  omega
theorem nm_inj {s t : ByteArray} (h : nm s = nm t) : s = t := by
  unfold nm at h
  have := (List.map_inj_right (fun (x y : UInt8) e => UInt8.toNat_inj.1 (by omega))).1 h
  have h2 : s.data = t.data := Array.toList_inj.1 this
  cases s; cases t; simp_all
theorem nm_strOf (l : List Int) (h : ∀ c ∈ l, 0 ≤ c ∧ c ≤ 255) : nm (strOfNums l) = l := by
  unfold nm
  rw [strOfNums_data, List.map_map]
  conv => rhs; rw [← List.map_id l]
  apply List.map_congr_left
  intro c hc
  have := h c hc
  simp only [Function.comp, id]
  rw [UInt8.toNat_ofNat']
  omega
theorem nm_extract (s : ByteArray) (a b : Nat) : nm (s.extract a b) = ((nm s).take b).drop a := by
  unfold nm
  have e : (s.extract a b).data.toList = (s.data.toList.take b).drop a := by
    rw [ByteArray.data_extract, Array.toList_extract, List.extract_eq_take_drop, List.drop_take]
  rw [e, List.map_drop, List.map_take]
theorem nm_append (s t : ByteArray) : nm (s ++ t) = nm s ++ nm t := by unfold nm; rw [ByteArray.data_append, Array.toList_append, List.map_append]
theorem rd_drop (xs : List Int) (j : Nat) (h : j < xs.length) : xs.drop j = rd xs (j : Int) :: xs.drop (j + 1) := by
  rw [List.drop_eq_getElem_cons h]
  congr 1
  unfold rd
  rw [Int.toNat_natCast, List.getD_eq_getElem?_getD, List.getElem?_eq_getElem h]
  rfl
/-! ### the automaton over a list of bytes -/
def stp (s b : Int) : Int × Bool := if s = 0 then (if b = 34 then (1, false) else if b = 10 then (0, true) else (0, false)) else if s = 1 then (if b = 34 then (0, false) else if b = 92 then (2, false) else (1, false)) else if s = 2 then (1, false) else (0, false)
/-- The state behind a list of bytes, and the offsets of the line feeds that end a record; the first byte has the offset 'at'. -/
def scanL : Int → Nat → List Int → Int × List Int
  | st, _, [] => (st, [])
  | st, i, b :: t => ((scanL (stp st b).1 (i + 1) t).1, if (stp st b).2 = true then (i : Int) :: (scanL (stp st b).1 (i + 1) t).2 else (scanL (stp st b).1 (i + 1) t).2)
theorem step_at (s b : Int) : automaton_Step.f s b = some (stp s b) := by
  unfold automaton_Step.f stp
  repeat' split
  all_goals rfl
theorem scanL_len : ∀ (l : List Int) (st : Int) (i : Nat), (scanL st i l).2.length ≤ l.length
  | [], _, _ => by simp [scanL]
  | b :: t, st, i => by
    have := scanL_len t (stp st b).1 (i + 1)
    simp only [scanL, List.length_cons]
    split
    · rw [List.length_cons]; omega
    · omega
/-- Where a line feed ends a record: in the list, behind the one before. -/
theorem scanL_mem : ∀ (l : List Int) (st : Int) (i : Nat), ∀ x ∈ (scanL st i l).2, (i : Int) ≤ x ∧ x < (i : Int) + l.length
  | [], _, _ => by simp [scanL]
  | b :: t, st, i => by
    intro x hx
    have ih := scanL_mem t (stp st b).1 (i + 1)
    simp only [scanL] at hx
    rw [List.length_cons]
    split at hx
    · rcases List.mem_cons.1 hx with rfl | hx
      · omega
      · have := ih x hx; omega
    · have := ih x hx; omega
/-! ### Summarize: each state is read through the string -/
theorem stp_range (s b : Int) : 0 ≤ (stp s b).1 ∧ (stp s b).1 ≤ 2 := by
  unfold stp
  repeat' split
  all_goals constructor <;> decide
theorem scanL_range : ∀ (l : List Int) (st : Int) (i : Nat), 0 ≤ st → st ≤ 2 → 0 ≤ (scanL st i l).1 ∧ (scanL st i l).1 ≤ 2
  | [], st, i, h0, h2 => by simp only [scanL]; exact ⟨h0, h2⟩
  | b :: t, st, i, h0, h2 => by simp only [scanL]; exact scanL_range t _ _ (stp_range st b).1 (stp_range st b).2
theorem sum0 (s : ByteArray) (hs : s.size ≤ 1048576) (o n e1 e2 : Int) (L1 L2 : List Int) (k : Nat) : ∀ (m i : Nat) (e0 : Int) (L0 : List Int) (f : Nat), i + m = s.size → L0.length ≤ i → f = k + m + 1 →
    automaton_Summarize.l1 f s 0 o (s.size : Int) (i : Int) n e0 e1 e2 L0 L1 L2 = automaton_Summarize.l0 k s (wrap64 (o + 1)) n (scanL e0 i ((nm s).drop i)).1 e1 e2 (L0 ++ (scanL e0 i ((nm s).drop i)).2) L1 L2
  | 0, i, e0, L0, f, hi, hL, hf => by
    obtain ⟨f, rfl⟩ : ∃ g, f = g + 1 := ⟨f - 1, by omega⟩
    obtain rfl : f = k := by omega
    rw [automaton_Summarize.l1]
    rw [if_neg (by omega), List.drop_eq_nil_of_le (by rw [nm_len]; omega)]
    simp only [scanL, List.append_nil]
  | m + 1, i, e0, L0, f, hi, hL, hf => by
    obtain ⟨f, rfl⟩ : ∃ g, f = g + 1 := ⟨f - 1, by omega⟩
    have hlt : i < s.size := by omega
    rw [automaton_Summarize.l1]
    rw [if_pos (by omega), if_pos rfl, if_pos (by omega), if_pos (by omega), step_at, Option.bind_some, nm_drop s i hlt]
    by_cases c : (stp e0 (bt s (i : Int))).2 = true
    · rw [if_pos c, if_pos (by omega), wrap_succ i (by omega)]
      rw [sum0 s hs o n e1 e2 L1 L2 k m (i + 1) _ (L0 ++ [(i : Int)]) f (by omega) (by rw [List.length_append, List.length_singleton]; omega) (by omega)]
      simp only [scanL]
      rw [if_pos c, List.append_assoc]
      rfl
    · rw [if_neg c, wrap_succ i (by omega)]
      rw [sum0 s hs o n e1 e2 L1 L2 k m (i + 1) _ L0 f (by omega) (by omega) (by omega)]
      simp only [scanL]
      rw [if_neg c]
theorem sum1 (s : ByteArray) (hs : s.size ≤ 1048576) (o n e0 e2 : Int) (L0 L2 : List Int) (k : Nat) : ∀ (m i : Nat) (e1 : Int) (L1 : List Int) (f : Nat), i + m = s.size → L1.length ≤ i → f = k + m + 1 →
    automaton_Summarize.l1 f s 1 o (s.size : Int) (i : Int) n e0 e1 e2 L0 L1 L2 = automaton_Summarize.l0 k s (wrap64 (o + 1)) n e0 (scanL e1 i ((nm s).drop i)).1 e2 L0 (L1 ++ (scanL e1 i ((nm s).drop i)).2) L2
  | 0, i, e1, L1, f, hi, hL, hf => by
    obtain ⟨f, rfl⟩ : ∃ g, f = g + 1 := ⟨f - 1, by omega⟩
    obtain rfl : f = k := by omega
    rw [automaton_Summarize.l1]
    rw [if_neg (by omega), List.drop_eq_nil_of_le (by rw [nm_len]; omega)]
    simp only [scanL, List.append_nil]
  | m + 1, i, e1, L1, f, hi, hL, hf => by
    obtain ⟨f, rfl⟩ : ∃ g, f = g + 1 := ⟨f - 1, by omega⟩
    have hlt : i < s.size := by omega
    rw [automaton_Summarize.l1]
    rw [if_pos (by omega), if_neg (by decide), if_pos rfl, if_pos (by omega), if_pos (by omega), step_at, Option.bind_some, nm_drop s i hlt]
    by_cases c : (stp e1 (bt s (i : Int))).2 = true
    · rw [if_pos c, if_pos (by omega), wrap_succ i (by omega)]
      rw [sum1 s hs o n e0 e2 L0 L2 k m (i + 1) _ (L1 ++ [(i : Int)]) f (by omega) (by rw [List.length_append, List.length_singleton]; omega) (by omega)]
      simp only [scanL]
      rw [if_pos c, List.append_assoc]
      rfl
    · rw [if_neg c, wrap_succ i (by omega)]
      rw [sum1 s hs o n e0 e2 L0 L2 k m (i + 1) _ L1 f (by omega) (by omega) (by omega)]
      simp only [scanL]
      rw [if_neg c]
theorem sum2 (s : ByteArray) (hs : s.size ≤ 1048576) (o n e0 e1 : Int) (L0 L1 : List Int) (k : Nat) : ∀ (m i : Nat) (e2 : Int) (L2 : List Int) (f : Nat), i + m = s.size → L2.length ≤ i → f = k + m + 1 →
    automaton_Summarize.l1 f s 2 o (s.size : Int) (i : Int) n e0 e1 e2 L0 L1 L2 = automaton_Summarize.l0 k s (wrap64 (o + 1)) n e0 e1 (scanL e2 i ((nm s).drop i)).1 L0 L1 (L2 ++ (scanL e2 i ((nm s).drop i)).2)
  | 0, i, e2, L2, f, hi, hL, hf => by
    obtain ⟨f, rfl⟩ : ∃ g, f = g + 1 := ⟨f - 1, by omega⟩
    obtain rfl : f = k := by omega
    rw [automaton_Summarize.l1]
    rw [if_neg (by omega), List.drop_eq_nil_of_le (by rw [nm_len]; omega)]
    simp only [scanL, List.append_nil]
  | m + 1, i, e2, L2, f, hi, hL, hf => by
    obtain ⟨f, rfl⟩ : ∃ g, f = g + 1 := ⟨f - 1, by omega⟩
    have hlt : i < s.size := by omega
    rw [automaton_Summarize.l1]
    rw [if_pos (by omega), if_neg (by decide), if_neg (by decide), if_pos rfl, if_pos (by omega), if_pos (by omega), step_at, Option.bind_some, nm_drop s i hlt]
    by_cases c : (stp e2 (bt s (i : Int))).2 = true
    · rw [if_pos c, if_pos (by omega), wrap_succ i (by omega)]
      rw [sum2 s hs o n e0 e1 L0 L1 k m (i + 1) _ (L2 ++ [(i : Int)]) f (by omega) (by rw [List.length_append, List.length_singleton]; omega) (by omega)]
      simp only [scanL]
      rw [if_pos c, List.append_assoc]
      rfl
    · rw [if_neg c, wrap_succ i (by omega)]
      rw [sum2 s hs o n e0 e1 L0 L1 k m (i + 1) _ L2 f (by omega) (by omega) (by omega)]
      simp only [scanL]
      rw [if_neg c]
theorem summarize_at (s : ByteArray) (hs : s.size ≤ 1048576) (k : Nat) (hk : 3 * s.size + 10 ≤ k) : automaton_Summarize.f k s = some ((s.size : Int), (scanL 0 0 (nm s)).1, (scanL 1 0 (nm s)).1, (scanL 2 0 (nm s)).1, (scanL 0 0 (nm s)).2, (scanL 1 0 (nm s)).2, (scanL 2 0 (nm s)).2, 0) := by
  obtain ⟨r, rfl⟩ : ∃ r, k = r + 1 + s.size + 1 + 1 + s.size + 1 + 1 + s.size + 1 + 1 := ⟨k - (3 * s.size + 7), by omega⟩
  unfold automaton_Summarize.f
  rw [if_neg (by omega), automaton_Empty.f, Option.bind_some]
  have z : ((0 : Nat) : Int) = 0 := rfl
  have s0 := fun (k : Nat) => sum0 s hs 0 (s.size : Int) 1 2 [] [] k s.size 0 0 [] (k + s.size + 1) (by omega) (by simp) rfl
  have s1 := fun (e0 : Int) (L0 : List Int) (k : Nat) => sum1 s hs 1 (s.size : Int) e0 2 L0 [] k s.size 0 1 [] (k + s.size + 1) (by omega) (by simp) rfl
  have s2 := fun (e0 e1 : Int) (L0 L1 : List Int) (k : Nat) => sum2 s hs 2 (s.size : Int) e0 e1 L0 L1 k s.size 0 2 [] (k + s.size + 1) (by omega) (by simp) rfl
  simp only [z, List.drop_zero, List.nil_append] at s0 s1 s2
  rw [automaton_Summarize.l0, if_pos (by decide), s0, show wrap64 (0 + 1) = 1 by decide +kernel]
  rw [automaton_Summarize.l0, if_pos (by decide), s1, show wrap64 (1 + 1) = 2 by decide +kernel]
  rw [automaton_Summarize.l0, if_pos (by decide), s2, show wrap64 (2 + 1) = 3 by decide +kernel]
  rw [automaton_Summarize.l0, if_neg (by decide)]
theorem summarize_long (s : ByteArray) (hs : 1048576 < s.size) (k : Nat) : automaton_Summarize.f k s = some (0, 0, 0, 0, [], [], [], 2) := by
  unfold automaton_Summarize.f
  rw [if_pos (by omega)]
/-! ### keep.Spans: a list is the same as itself -/
theorem spans_loop (l : List S51) (hl : l.length ≤ 4611686018427387904) : ∀ (d i : Nat) (k : Nat), l.length - i ≤ d → d < k → i ≤ l.length → ndjqkeep_Spans.l0 k l l i = some true
  | 0, i, k, hd, hk, hi => by
    obtain ⟨k, rfl⟩ : ∃ j, k = j + 1 := ⟨k - 1, by omega⟩
    simp only [ndjqkeep_Spans.l0]
    rw [if_neg (by omega)]
  | d + 1, i, k, hd, hk, hi => by
    obtain ⟨k, rfl⟩ : ∃ j, k = j + 1 := ⟨k - 1, by omega⟩
    simp only [ndjqkeep_Spans.l0]
    by_cases c : i < l.length
    · rw [if_pos (by omega), if_pos (by omega), if_pos (by omega)]
      simp only [beq_self_eq_true, Bool.not_true, Bool.or_self]
      rw [if_neg (by decide), wrap_succ i (by omega)]
      exact spans_loop l hl d (i + 1) k (by omega) (by omega) (by omega)
    · rw [if_neg (by omega)]
theorem spans_same (l : List S51) (hl : l.length ≤ 4611686018427387904) (k : Nat) (hk : l.length < k) : ndjqkeep_Spans.f k l l = some true := by
  unfold ndjqkeep_Spans.f
  rw [if_pos rfl]
  have := spans_loop l hl l.length 0 k (by omega) hk (by omega)
  rw [show ((0 : Nat) : Int) = 0 from rfl] at this
  exact this
/-! ### keep.Mod -/
theorem mod_at (a m : Int) (h : 0 < m) (hm : m ≤ 4611686018427387904) : ∃ r, ndjqkeep_Mod.f a m = some r ∧ 0 ≤ r ∧ r < m ∧ r = a % m := by
  have e := Int.tmod_eq_emod (a := a) (b := m)
  have h1 := Int.emod_nonneg a (show m ≠ 0 by omega)
  have h2 := Int.emod_lt_of_pos a h
  unfold ndjqkeep_Mod.f
  rw [if_neg (by omega)]
  by_cases hd : 0 ≤ a ∨ m ∣ a
  · rw [if_pos hd] at e
    rw [if_neg (by omega)]
    exact ⟨_, rfl, by omega, by omega, by omega⟩
  · rw [if_neg hd] at e
    have en : ((m.natAbs : Nat) : Int) = m := by omega
    rw [if_pos (by omega), wrap_id _ (by omega) (by omega)]
    exact ⟨_, rfl, by omega, by omega, by omega⟩
/-! ### split.Lines -/
theorem lines_loop (L : List Int) (hL : L.length ≤ 1048576) : ∀ (d i : Nat) (st : Int) (acc : List Int) (k : Nat), i ≤ L.length → L.length - i ≤ d → d < k → acc.length ≤ i →
    split_Lines.l0 k acc st L L.length i = some (acc ++ (scanL st i (L.drop i)).2, (scanL st i (L.drop i)).1, 0)
  | 0, i, st, acc, k, hi, hd, hk, ha => by
    obtain ⟨k, rfl⟩ : ∃ j, k = j + 1 := ⟨k - 1, by omega⟩
    simp only [split_Lines.l0]
    rw [if_neg (by omega), List.drop_eq_nil_of_le (by omega)]
    simp [scanL]
  | d + 1, i, st, acc, k, hi, hd, hk, ha => by
    obtain ⟨k, rfl⟩ : ∃ j, k = j + 1 := ⟨k - 1, by omega⟩
    simp only [split_Lines.l0]
    by_cases c : i < L.length
    · rw [if_pos (by omega), if_pos (by omega), if_pos (by omega), step_at, rd_drop L i c]
      simp only [Option.bind_some, scanL]
      by_cases e : (stp st (rd L (i : Int))).2 = true
      · rw [if_pos e, if_pos (by omega), if_pos e, wrap_succ i (by omega)]
        rw [lines_loop L hL d (i + 1) (stp st (rd L (i : Int))).1 (acc ++ [(i : Int)]) k (by omega) (by omega) (by omega) (by rw [List.length_append, List.length_singleton]; omega)]
        simp
      · rw [if_neg e, if_neg e, wrap_succ i (by omega)]
        rw [lines_loop L hL d (i + 1) (stp st (rd L (i : Int))).1 acc k (by omega) (by omega) (by omega) (by omega)]
    · rw [if_neg (by omega), List.drop_eq_nil_of_le (by omega)]
      simp [scanL]
theorem lines_at (s : ByteArray) (hs : s.size ≤ 1048576) (k : Nat) (hk : s.size < k) : split_Lines.f k s = some ((scanL 0 0 (nm s)).2, (scanL 0 0 (nm s)).1, 0) := by
  unfold split_Lines.f
  have hl := nm_len s
  rw [if_neg (by omega), if_pos (by omega), nm_bytesOf]
  simp only [Option.bind_some]
  have := lines_loop (nm s) (by omega) s.size 0 0 [] k (by omega) (by omega) hk (by simp)
  rw [show ((0 : Nat) : Int) = 0 from rfl] at this
  rw [this]
  simp
theorem lines_big (s : ByteArray) (hs : 1048576 < s.size) (k : Nat) : split_Lines.f k s = some ([], 0, 2) := by
  unfold split_Lines.f
  rw [if_pos (by omega)]
/-! ### the records between line feeds -/
/-- The records between line feeds; n: the input's length. -/
def spansOf (n : Int) : Int → List Int → List S51
  | b, [] => if b < n then [⟨b, n⟩] else []
  | b, x :: t => ⟨b, x⟩ :: spansOf n (x + 1) t
theorem spansOf_len (n : Int) : ∀ (l : List Int) (b : Int), (spansOf n b l).length ≤ l.length + 1
  | [], b => by unfold spansOf; split <;> simp
  | x :: t, b => by
    have := spansOf_len n t (x + 1)
    simp only [spansOf, List.length_cons]
    omega
/-! ### split.Records -/
theorem records_loop (s : ByteArray) (L : List Int) (hL : L.length ≤ 1048576) (hx : ∀ x ∈ L, 0 ≤ x ∧ x ≤ 1048576) : ∀ (d i : Nat) (acc : List S51) (b : Int) (k : Nat), i ≤ L.length → L.length - i ≤ d → d < k → acc.length ≤ i →
    split_Records.l0 k s acc b L L.length i = some (acc ++ spansOf s.size b (L.drop i), 0)
  | 0, i, acc, b, k, hi, hd, hk, ha => by
    obtain ⟨k, rfl⟩ : ∃ j, k = j + 1 := ⟨k - 1, by omega⟩
    simp only [split_Records.l0]
    rw [if_neg (by omega), List.drop_eq_nil_of_le (by omega)]
    unfold spansOf
    by_cases c : b < (s.size : Int)
    · rw [if_pos c, if_pos (by omega), if_pos c]
    · rw [if_neg c, if_neg c, List.append_nil]
  | d + 1, i, acc, b, k, hi, hd, hk, ha => by
    by_cases c : i < L.length
    · obtain ⟨k, rfl⟩ : ∃ j, k = j + 1 := ⟨k - 1, by omega⟩
      have e := rd_drop L i c
      have hm : rd L (i : Int) ∈ L := List.mem_of_mem_drop (by rw [e]; exact List.mem_cons_self ..)
      have hr := hx _ hm
      simp only [split_Records.l0]
      rw [if_pos (by omega), if_pos (by omega), if_pos (by omega), if_pos (by omega), wrap_succ i (by omega), wrap_id (rd L (i : Int) + 1) (by omega) (by omega)]
      rw [records_loop s L hL hx d (i + 1) _ _ k (by omega) (by omega) (by omega) (by rw [List.length_append, List.length_singleton]; omega), e]
      simp [spansOf]
    · exact records_loop s L hL hx 0 i acc b k hi (by omega) (by omega) ha
theorem records_at (s : ByteArray) (hs : s.size ≤ 1048576) (k : Nat) (hk : s.size + 1 < k) : split_Records.f k s = some (spansOf s.size 0 (scanL 0 0 (nm s)).2, 0) := by
  unfold split_Records.f
  rw [lines_at s hs k (by omega)]
  simp only [Option.bind_some]
  rw [if_pos trivial]
  have hl := nm_len s
  have h1 := scanL_len (nm s) 0 0
  have := records_loop s (scanL 0 0 (nm s)).2 (by omega) (fun x hx => by have := scanL_mem (nm s) 0 0 x hx; omega) (scanL 0 0 (nm s)).2.length 0 [] 0 k (by omega) (by omega) (by omega) (by simp)
  rw [show ((0 : Nat) : Int) = 0 from rfl] at this
  rw [this]
  simp
theorem records_big (s : ByteArray) (hs : 1048576 < s.size) (k : Nat) : split_Records.f k s = some ([], 2) := by
  unfold split_Records.f
  rw [lines_big s hs k]
  rfl
/-! ### reading on: two pieces; offsets grow strictly -/
theorem scanL_append : ∀ (l r : List Int) (st : Int) (i : Nat), scanL st i (l ++ r) = ((scanL (scanL st i l).1 (i + l.length) r).1, (scanL st i l).2 ++ (scanL (scanL st i l).1 (i + l.length) r).2)
  | [], r, st, i => by simp only [List.nil_append, scanL, List.length_nil, Nat.add_zero]
  | b :: t, r, st, i => by
    have ih := scanL_append t r (stp st b).1 (i + 1)
    rw [show i + 1 + t.length = i + (t.length + 1) by omega] at ih
    simp only [List.cons_append, scanL, ih, List.length_cons]
    by_cases c : (stp st b).2 = true
    · rw [if_pos c, if_pos c, List.cons_append]
    · rw [if_neg c, if_neg c]
theorem scanL_shift : ∀ (l : List Int) (st : Int) (i d : Nat), scanL st (d + i) l = ((scanL st i l).1, (scanL st i l).2.map (fun x => (d : Int) + x))
  | [], st, i, d => by simp only [scanL, List.map_nil]
  | b :: t, st, i, d => by
    have ih := scanL_shift t (stp st b).1 (i + 1) d
    rw [show d + (i + 1) = d + i + 1 by omega] at ih
    simp only [scanL, ih]
    by_cases c : (stp st b).2 = true
    · rw [if_pos c, if_pos c, List.map_cons, show ((d + i : Nat) : Int) = (d : Int) + (i : Int) by omega]
    · rw [if_neg c, if_neg c]
/-- Strictly growing, behind 'last', below n. -/
def inc : Int → Int → List Int → Prop
  | _, _, [] => True
  | last, n, x :: t => last < x ∧ x < n ∧ inc x n t
theorem inc_weak : ∀ (l : List Int) (a b n : Int), a ≤ b → inc b n l → inc a n l
  | [], _, _, _, _, _ => trivial
  | x :: t, a, b, n, h, hi => ⟨by have := hi.1; omega, hi.2.1, hi.2.2⟩
theorem scanL_inc : ∀ (l : List Int) (st : Int) (i : Nat), inc ((i : Int) - 1) ((i : Int) + l.length) (scanL st i l).2
  | [], _, _ => trivial
  | b :: t, st, i => by
    have ih := scanL_inc t (stp st b).1 (i + 1)
    rw [show (((i + 1 : Nat) : Int) - 1) = (i : Int) by omega, show (((i + 1 : Nat) : Int) + (t.length : Int)) = (i : Int) + ((t.length + 1 : Nat) : Int) by omega] at ih
    simp only [scanL, List.length_cons]
    by_cases c : (stp st b).2 = true
    · rw [if_pos c]; exact ⟨by omega, by omega, ih⟩
    · rw [if_neg c]; exact inc_weak _ _ _ _ (by omega) ih
theorem inc_nonneg : ∀ (l : List Int) (a n : Int), -1 ≤ a → inc a n l → ∀ x ∈ l, 0 ≤ x ∧ x < n
  | [], _, _, _, _ => by simp
  | y :: t, a, n, h, hi => by
    intro x hx
    rcases List.mem_cons.1 hx with rfl | hx
    · exact ⟨by have := hi.1; omega, hi.2.1⟩
    · exact inc_nonneg t y n (by have := hi.1; omega) hi.2.2 x hx
/-! ### Valid -/
theorem known_at (e : Int) (h0 : 0 ≤ e) (h2 : e ≤ 2) : automaton_known.f e = some true := by
  unfold automaton_known.f
  rw [if_pos (by omega), decide_eq_true h2]
theorem valid_loop0 (n e0 e1 e2 : Int) (L0 L1 L2 M P0 P1 P2 : List Int) (hM : M.length ≤ 4611686018427387904) (h0 : 0 ≤ e0) (h2 : e0 ≤ 2) (k : Nat) : ∀ (m i : Nat) (last : Int) (f : Nat), i + m = M.length → inc last n (M.drop i) → f = k + m + 1 →
    automaton_Valid.l1 f last M (M.length : Int) (i : Int) n e0 e1 e2 L0 L1 L2 P0 P1 P2 = automaton_Valid.l0 k 1 n e0 e1 e2 L0 L1 L2 P0 P1 P2
  | 0, i, last, f, hi, hc, hf => by
    obtain ⟨f, rfl⟩ : ∃ g, f = g + 1 := ⟨f - 1, by omega⟩
    obtain rfl : f = k := by omega
    rw [automaton_Valid.l1, if_neg (by omega), known_at _ h0 h2, Option.bind_some, if_pos rfl]
  | m + 1, i, last, f, hi, hc, hf => by
    obtain ⟨f, rfl⟩ : ∃ g, f = g + 1 := ⟨f - 1, by omega⟩
    have hlt : i < M.length := by omega
    rw [rd_drop M i hlt] at hc
    obtain ⟨c1, c2, c3⟩ := hc
    rw [automaton_Valid.l1, if_pos (by omega), if_pos (by omega), if_pos (by omega), if_neg (by omega), if_neg (by omega), wrap_succ i (by omega)]
    exact valid_loop0 n e0 e1 e2 L0 L1 L2 M P0 P1 P2 hM h0 h2 k m (i + 1) _ f (by omega) c3 (by omega)
theorem valid_loop1 (n e0 e1 e2 : Int) (L0 L1 L2 M P0 P1 P2 : List Int) (hM : M.length ≤ 4611686018427387904) (h0 : 0 ≤ e1) (h2 : e1 ≤ 2) (k : Nat) : ∀ (m i : Nat) (last : Int) (f : Nat), i + m = M.length → inc last n (M.drop i) → f = k + m + 1 →
    automaton_Valid.l101 f last M (M.length : Int) (i : Int) n e0 e1 e2 L0 L1 L2 P0 P1 P2 = automaton_Valid.l0 k 2 n e0 e1 e2 L0 L1 L2 P0 P1 P2
  | 0, i, last, f, hi, hc, hf => by
    obtain ⟨f, rfl⟩ : ∃ g, f = g + 1 := ⟨f - 1, by omega⟩
    obtain rfl : f = k := by omega
    rw [automaton_Valid.l101, if_neg (by omega), known_at _ h0 h2, Option.bind_some, if_pos rfl]
  | m + 1, i, last, f, hi, hc, hf => by
    obtain ⟨f, rfl⟩ : ∃ g, f = g + 1 := ⟨f - 1, by omega⟩
    have hlt : i < M.length := by omega
    rw [rd_drop M i hlt] at hc
    obtain ⟨c1, c2, c3⟩ := hc
    rw [automaton_Valid.l101, if_pos (by omega), if_pos (by omega), if_pos (by omega), if_neg (by omega), if_neg (by omega), wrap_succ i (by omega)]
    exact valid_loop1 n e0 e1 e2 L0 L1 L2 M P0 P1 P2 hM h0 h2 k m (i + 1) _ f (by omega) c3 (by omega)
theorem valid_loop2 (n e0 e1 e2 : Int) (L0 L1 L2 M P0 P1 P2 : List Int) (hM : M.length ≤ 4611686018427387904) (h0 : 0 ≤ e2) (h2 : e2 ≤ 2) (k : Nat) : ∀ (m i : Nat) (last : Int) (f : Nat), i + m = M.length → inc last n (M.drop i) → f = k + m + 1 →
    automaton_Valid.l201 f last M (M.length : Int) (i : Int) n e0 e1 e2 L0 L1 L2 P0 P1 P2 = automaton_Valid.l0 k 3 n e0 e1 e2 L0 L1 L2 P0 P1 P2
  | 0, i, last, f, hi, hc, hf => by
    obtain ⟨f, rfl⟩ : ∃ g, f = g + 1 := ⟨f - 1, by omega⟩
    obtain rfl : f = k := by omega
    rw [automaton_Valid.l201, if_neg (by omega), known_at _ h0 h2, Option.bind_some, if_pos rfl]
  | m + 1, i, last, f, hi, hc, hf => by
    obtain ⟨f, rfl⟩ : ∃ g, f = g + 1 := ⟨f - 1, by omega⟩
    have hlt : i < M.length := by omega
    rw [rd_drop M i hlt] at hc
    obtain ⟨c1, c2, c3⟩ := hc
    rw [automaton_Valid.l201, if_pos (by omega), if_pos (by omega), if_pos (by omega), if_neg (by omega), if_neg (by omega), wrap_succ i (by omega)]
    exact valid_loop2 n e0 e1 e2 L0 L1 L2 M P0 P1 P2 hM h0 h2 k m (i + 1) _ f (by omega) c3 (by omega)
theorem valid_at (n e0 e1 e2 : Int) (L0 L1 L2 : List Int) (hn : 0 ≤ n) (hn2 : n ≤ 1048576) (a0 : 0 ≤ e0 ∧ e0 ≤ 2) (a1 : 0 ≤ e1 ∧ e1 ≤ 2) (a2 : 0 ≤ e2 ∧ e2 ≤ 2) (i0 : inc (-1) n L0) (i1 : inc (-1) n L1) (i2 : inc (-1) n L2)
    (l0 : L0.length ≤ 4611686018427387904) (l1 : L1.length ≤ 4611686018427387904) (l2 : L2.length ≤ 4611686018427387904) (k : Nat) (hk : L0.length + L1.length + L2.length + 20 ≤ k) : automaton_Valid.f k n e0 e1 e2 L0 L1 L2 = some true := by
  obtain ⟨r, rfl⟩ : ∃ r, k = (r + 1 + L2.length + 1 + 1 + L1.length + 1 + 1 + L0.length + 1) + 1 + 1 := ⟨k - (L0.length + L1.length + L2.length + 8), by omega⟩
  unfold automaton_Valid.f
  rw [if_neg (by omega), decide_eq_false (by omega), automaton_Valid.j0, if_neg (by decide)]
  have z : ((0 : Nat) : Int) = 0 := rfl
  have v0 := fun (k : Nat) => valid_loop0 n e0 e1 e2 L0 L1 L2 L0 L0 L1 L2 (by omega) a0.1 a0.2 k L0.length 0 (-1) (k + L0.length + 1) (by omega) i0 rfl
  have v1 := fun (k : Nat) => valid_loop1 n e0 e1 e2 L0 L1 L2 L1 L0 L1 L2 (by omega) a1.1 a1.2 k L1.length 0 (-1) (k + L1.length + 1) (by omega) i1 rfl
  have v2 := fun (k : Nat) => valid_loop2 n e0 e1 e2 L0 L1 L2 L2 L0 L1 L2 (by omega) a2.1 a2.2 k L2.length 0 (-1) (k + L2.length + 1) (by omega) i2 rfl
  simp only [z] at v0 v1 v2
  rw [automaton_Valid.l0, if_pos (by decide), if_pos rfl, v0]
  rw [automaton_Valid.l0, if_pos (by decide), if_neg (by decide), if_pos rfl, v1]
  rw [automaton_Valid.l0, if_pos (by decide), if_neg (by decide), if_neg (by decide), if_pos rfl, v2]
  rw [automaton_Valid.l0, if_neg (by decide)]
/-! ### scan.Resolve -/
/-- The records that end in a piece: its line feeds, from 'at' on. -/
def spanL (a : Int) : Int → List Int → List S51
  | _, [] => []
  | b, x :: t => ⟨b, a + x⟩ :: spanL a (a + x + 1) t
/-- Where the record behind a piece begins. -/
def endB (a : Int) : Int → List Int → Int
  | b, [] => b
  | _, x :: t => endB a (a + x + 1) t
theorem spanL_len (a : Int) : ∀ (l : List Int) (b : Int), (spanL a b l).length = l.length
  | [], _ => rfl
  | x :: t, b => by simp only [spanL, List.length_cons, spanL_len a t]
theorem spansOf_app (n a : Int) (r : List Int) : ∀ (l : List Int) (b : Int), spansOf n b (l.map (fun x => a + x) ++ r) = spanL a b l ++ spansOf n (endB a b l) r
  | [], b => by simp only [List.map_nil, List.nil_append, spanL, endB]
  | x :: t, b => by simp only [List.map_cons, List.cons_append, spansOf, spanL, endB, spansOf_app n a r t]
theorem endB_range (a n : Int) : ∀ (l : List Int) (b lo : Int), inc lo n l → b ≤ a + lo + 1 → lo + 1 ≤ n → b ≤ endB a b l ∧ endB a b l ≤ a + n
  | [], b, lo, _, h, h1 => by simp only [endB]; omega
  | x :: t, b, lo, hi, h, h1 => by
    obtain ⟨h2, h3, h4⟩ := hi
    have := endB_range a n t (a + x + 1) x h4 (by omega) (by omega)
    simp only [endB]
    omega
def pick {α : Type} (st : Int) (x y z : α) : α := if st = 0 then x else if st = 1 then y else z
section
variable (a n e0 e1 e2 : Int) (L0 L1 L2 M : List Int) (hM : M.length ≤ 1048576) (ha : 0 ≤ a ∧ a ≤ 1048576) (hx : ∀ x ∈ M, 0 ≤ x ∧ x ≤ 1048576)
include hM ha hx
theorem res_loop0 : ∀ (d i : Nat) (b : Int) (acc : List S51) (k : Nat), i + d = M.length → d < k → acc.length ≤ i →
    scan_Resolve.l0 k a b acc M M.length i n e0 e1 e2 L0 L1 L2 = some (acc ++ spanL a b (M.drop i), e0, endB a b (M.drop i), 0)
  | 0, i, b, acc, k, hi, hk, hacc => by
    obtain ⟨k, rfl⟩ : ∃ j, k = j + 1 := ⟨k - 1, by omega⟩
    simp only [scan_Resolve.l0]
    rw [if_neg (by omega), List.drop_eq_nil_of_le (by omega)]
    simp only [spanL, endB, List.append_nil]
  | d + 1, i, b, acc, k, hi, hk, hacc => by
    obtain ⟨k, rfl⟩ : ∃ j, k = j + 1 := ⟨k - 1, by omega⟩
    have e := rd_drop M i (by omega)
    have hm : rd M (i : Int) ∈ M := List.mem_of_mem_drop (by rw [e]; exact List.mem_cons_self ..)
    have hr := hx _ hm
    simp only [scan_Resolve.l0]
    rw [if_pos (by omega), if_pos (by omega), if_pos (by omega), if_pos (by omega), wrap_succ i (by omega), wrap_id (a + rd M (i : Int)) (by omega) (by omega), wrap_id (a + rd M (i : Int) + 1) (by omega) (by omega)]
    rw [res_loop0 d (i + 1) _ _ k (by omega) (by omega) (by rw [List.length_append, List.length_singleton]; omega), e]
    simp only [spanL, endB, List.append_assoc, List.singleton_append]
theorem res_loop1 : ∀ (d i : Nat) (b : Int) (acc : List S51) (k : Nat), i + d = M.length → d < k → acc.length ≤ i →
    scan_Resolve.l100 k a b acc M M.length i n e0 e1 e2 L0 L1 L2 = some (acc ++ spanL a b (M.drop i), e1, endB a b (M.drop i), 0)
  | 0, i, b, acc, k, hi, hk, hacc => by
    obtain ⟨k, rfl⟩ : ∃ j, k = j + 1 := ⟨k - 1, by omega⟩
    simp only [scan_Resolve.l100]
    rw [if_neg (by omega), List.drop_eq_nil_of_le (by omega)]
    simp only [spanL, endB, List.append_nil]
  | d + 1, i, b, acc, k, hi, hk, hacc => by
    obtain ⟨k, rfl⟩ : ∃ j, k = j + 1 := ⟨k - 1, by omega⟩
    have e := rd_drop M i (by omega)
    have hm : rd M (i : Int) ∈ M := List.mem_of_mem_drop (by rw [e]; exact List.mem_cons_self ..)
    have hr := hx _ hm
    simp only [scan_Resolve.l100]
    rw [if_pos (by omega), if_pos (by omega), if_pos (by omega), if_pos (by omega), wrap_succ i (by omega), wrap_id (a + rd M (i : Int)) (by omega) (by omega), wrap_id (a + rd M (i : Int) + 1) (by omega) (by omega)]
    rw [res_loop1 d (i + 1) _ _ k (by omega) (by omega) (by rw [List.length_append, List.length_singleton]; omega), e]
    simp only [spanL, endB, List.append_assoc, List.singleton_append]
theorem res_loop2 : ∀ (d i : Nat) (b : Int) (acc : List S51) (k : Nat), i + d = M.length → d < k → acc.length ≤ i →
    scan_Resolve.l200 k a b acc M M.length i n e0 e1 e2 L0 L1 L2 = some (acc ++ spanL a b (M.drop i), e2, endB a b (M.drop i), 0)
  | 0, i, b, acc, k, hi, hk, hacc => by
    obtain ⟨k, rfl⟩ : ∃ j, k = j + 1 := ⟨k - 1, by omega⟩
    simp only [scan_Resolve.l200]
    rw [if_neg (by omega), List.drop_eq_nil_of_le (by omega)]
    simp only [spanL, endB, List.append_nil]
  | d + 1, i, b, acc, k, hi, hk, hacc => by
    obtain ⟨k, rfl⟩ : ∃ j, k = j + 1 := ⟨k - 1, by omega⟩
    have e := rd_drop M i (by omega)
    have hm : rd M (i : Int) ∈ M := List.mem_of_mem_drop (by rw [e]; exact List.mem_cons_self ..)
    have hr := hx _ hm
    simp only [scan_Resolve.l200]
    rw [if_pos (by omega), if_pos (by omega), if_pos (by omega), if_pos (by omega), wrap_succ i (by omega), wrap_id (a + rd M (i : Int)) (by omega) (by omega), wrap_id (a + rd M (i : Int) + 1) (by omega) (by omega)]
    rw [res_loop2 d (i + 1) _ _ k (by omega) (by omega) (by rw [List.length_append, List.length_singleton]; omega), e]
    simp only [spanL, endB, List.append_assoc, List.singleton_append]
end
theorem resolve_at (a st b n e0 e1 e2 : Int) (L0 L1 L2 : List Int) (hb : 0 ≤ b ∧ b ≤ a) (hst : 0 ≤ st ∧ st ≤ 2) (hn : 0 ≤ n) (han : a + n ≤ 1048576) (k : Nat) (hv : automaton_Valid.f k n e0 e1 e2 L0 L1 L2 = some true)
    (l0 : L0.length ≤ 1048576 ∧ ∀ x ∈ L0, 0 ≤ x ∧ x ≤ 1048576) (l1 : L1.length ≤ 1048576 ∧ ∀ x ∈ L1, 0 ≤ x ∧ x ≤ 1048576) (l2 : L2.length ≤ 1048576 ∧ ∀ x ∈ L2, 0 ≤ x ∧ x ≤ 1048576) (hk : L0.length + L1.length + L2.length < k) :
    scan_Resolve.f (k + 1) a st b n e0 e1 e2 L0 L1 L2 = some (spanL a b (pick st L0 L1 L2), pick st e0 e1 e2, endB a b (pick st L0 L1 L2), 0) := by
  unfold scan_Resolve.f
  rw [if_neg (by omega), if_neg (by omega), if_neg (by omega), if_neg (by omega), show decide (st > 2) = false from decide_eq_false (by omega)]
  simp only [scan_Resolve.j0, hv, Option.bind_some]
  rw [if_neg (by simp), if_pos trivial, wrap_id (1048576 - n) (by omega) (by omega), if_neg (by omega)]
  by_cases c0 : st = 0
  · rw [if_pos c0]
    have := res_loop0 a n e0 e1 e2 L0 L1 L2 L0 l0.1 (by omega) l0.2 L0.length 0 b [] k (by omega) (by omega) (by simp)
    rw [show ((0 : Nat) : Int) = 0 from rfl] at this
    rw [this]
    simp [pick, c0]
  · rw [if_neg c0]
    by_cases c1 : st = 1
    · rw [if_pos c1]
      have := res_loop1 a n e0 e1 e2 L0 L1 L2 L1 l1.1 (by omega) l1.2 L1.length 0 b [] k (by omega) (by omega) (by simp)
      rw [show ((0 : Nat) : Int) = 0 from rfl] at this
      rw [this]
      simp [pick, c1]
    · rw [if_neg c1, if_pos (by omega)]
      have := res_loop2 a n e0 e1 e2 L0 L1 L2 L2 l2.1 (by omega) l2.2 L2.length 0 b [] k (by omega) (by omega) (by simp)
      rw [show ((0 : Nat) : Int) = 0 from rfl] at this
      rw [this]
      simp [pick, c0, c1]
/-! ### a piece of the input, between two cuts -/
/-- What is read of the piece from a to t in the state st: the state behind it, its line feeds. -/
def pc (s : ByteArray) (a t : Nat) (st : Int) : Int × List Int := scanL st 0 (nm (s.extract a t))
theorem piece_nm (s : ByteArray) (a t : Nat) (hat : a ≤ t) (hts : t ≤ s.size) : nm (s.extract a t) = ((nm s).drop a).take (t - a) := by rw [nm_extract, List.drop_take]
theorem piece_size (s : ByteArray) (a t : Nat) (hat : a ≤ t) (hts : t ≤ s.size) : (s.extract a t).size = t - a := by
  rw [← nm_len, piece_nm s a t hat hts, List.length_take, List.length_drop, nm_len]
  omega
theorem piece_step (s : ByteArray) (a t : Nat) (hat : a ≤ t) (hts : t ≤ s.size) (st b : Int) :
    spansOf s.size b (scanL st a ((nm s).drop a)).2 = spanL a b (pc s a t st).2 ++ spansOf s.size (endB a b (pc s a t st).2) (scanL (pc s a t st).1 t ((nm s).drop t)).2 := by
  have hl := nm_len s
  have e : (nm s).drop a = nm (s.extract a t) ++ (nm s).drop t := by
    rw [piece_nm s a t hat hts]
    have := (List.take_append_drop (t - a) ((nm s).drop a)).symm
    rw [List.drop_drop, show a + (t - a) = t by omega] at this
    exact this
  have hz := piece_size s a t hat hts
  have hq := nm_len (s.extract a t)
  rw [e, scanL_append, show scanL st a (nm (s.extract a t)) = _ from scanL_shift (nm (s.extract a t)) st 0 a, spansOf_app]
  simp only [pc]
  rw [show a + (nm (s.extract a t)).length = t by omega]
theorem piece_facts (s : ByteArray) (a t : Nat) (hat : a ≤ t) (hts : t ≤ s.size) (st : Int) (hst : 0 ≤ st ∧ st ≤ 2) :
    (0 ≤ (pc s a t st).1 ∧ (pc s a t st).1 ≤ 2) ∧ inc (-1) ((t : Int) - a) (pc s a t st).2 ∧ (pc s a t st).2.length ≤ t - a := by
  have hz := piece_size s a t hat hts
  have hq := nm_len (s.extract a t)
  have h1 := scanL_inc (nm (s.extract a t)) st 0
  have h2 := scanL_len (nm (s.extract a t)) st 0
  refine ⟨scanL_range _ _ _ hst.1 hst.2, ?_, by simp only [pc]; omega⟩
  simp only [pc]
  rw [show (((0 : Nat) : Int) + ((nm (s.extract a t)).length : Int)) = (t : Int) - a by omega] at h1
  exact h1
theorem piece_sum (s : ByteArray) (a t : Nat) (hat : a ≤ t) (hts : t ≤ s.size) (hs : s.size ≤ 1048576) (k : Nat) (hk : 3 * s.size + 10 ≤ k) :
    automaton_Summarize.f k (s.extract a t) = some ((t : Int) - a, (pc s a t 0).1, (pc s a t 1).1, (pc s a t 2).1, (pc s a t 0).2, (pc s a t 1).2, (pc s a t 2).2, 0) := by
  have hz := piece_size s a t hat hts
  rw [summarize_at _ (by omega) k (by omega), hz, show ((t - a : Nat) : Int) = (t : Int) - a by omega]
  rfl
theorem piece_resolve (s : ByteArray) (a t : Nat) (hat : a ≤ t) (hts : t ≤ s.size) (hs : s.size ≤ 1048576) (st b : Int) (hst : 0 ≤ st ∧ st ≤ 2) (hb : 0 ≤ b ∧ b ≤ a) (k : Nat) (hk : 3 * s.size + 30 ≤ k) :
    scan_Resolve.f k a st b ((t : Int) - a) (pc s a t 0).1 (pc s a t 1).1 (pc s a t 2).1 (pc s a t 0).2 (pc s a t 1).2 (pc s a t 2).2 = some (spanL a b (pc s a t st).2, (pc s a t st).1, endB a b (pc s a t st).2, 0) := by
  obtain ⟨r0, i0, l0⟩ := piece_facts s a t hat hts 0 (by omega)
  obtain ⟨r1, i1, l1⟩ := piece_facts s a t hat hts 1 (by omega)
  obtain ⟨r2, i2, l2⟩ := piece_facts s a t hat hts 2 (by omega)
  obtain ⟨k, rfl⟩ : ∃ j, k = j + 1 := ⟨k - 1, by omega⟩
  have hv := valid_at ((t : Int) - a) _ _ _ _ _ _ (by omega) (by omega) r0 r1 r2 i0 i1 i2 (by omega) (by omega) (by omega) k (by omega)
  have q : ∀ l, inc (-1) ((t : Int) - a) l → ∀ x ∈ l, 0 ≤ x ∧ x ≤ 1048576 := fun l hl x hx => by have := inc_nonneg l (-1) _ (by omega) hl x hx; omega
  rw [resolve_at a st b _ _ _ _ _ _ _ hb hst (by omega) (by omega) k hv ⟨by omega, q _ i0⟩ ⟨by omega, q _ i1⟩ ⟨by omega, q _ i2⟩ (by omega)]
  rcases (show st = 0 ∨ st = 1 ∨ st = 2 by omega) with rfl | rfl | rfl <;> simp [pick]
theorem piece_end (s : ByteArray) (a t : Nat) (hat : a ≤ t) (hts : t ≤ s.size) (st b : Int) (hst : 0 ≤ st ∧ st ≤ 2) (hb : 0 ≤ b ∧ b ≤ a) : b ≤ endB a b (pc s a t st).2 ∧ endB a b (pc s a t st).2 ≤ t := by
  obtain ⟨_, i, _⟩ := piece_facts s a t hat hts st hst
  have := endB_range a ((t : Int) - a) _ b (-1) i (by omega) (by omega)
  omega
/-! ### the sanity check -/
theorem awake_60 : ndjqlaw20_awake.f 60 = some true := by decide +kernel
theorem awake_at : ∀ (d k : Nat), k = 60 + d → ndjqlaw20_awake.f k = some true
  | 0, k, h => by rw [show k = 60 by omega]; exact awake_60
  | d + 1, k, h => by
    obtain ⟨k, rfl⟩ : ∃ j, k = j + 1 := ⟨k - 1, by omega⟩
    exact ndjqlaw20_awake.mono k true (awake_at d k (by omega))
theorem carry_loop (s : ByteArray) (hs : s.size ≤ 150) (L : List Int) (hL : L.length ≤ 20) : ∀ (d i a : Nat) (st b : Int) (acc : List S51) (k : Nat), i + d = L.length + 1 → 2 * d + 1000 ≤ k → a ≤ s.size → (d = 0 → a = s.size) →
    (0 ≤ b ∧ b ≤ a) → (0 ≤ st ∧ st ≤ 2) → spansOf s.size 0 (scanL 0 0 (nm s)).2 = acc ++ spansOf s.size b (scanL st a ((nm s).drop a)).2 → ndjqlaw20_ScanCarry.l0 k s L a st b acc i = some true
  | 0, i, a, st, b, acc, k, hi, hk, ha, hd, hb, hst, hacc => by
    obtain ⟨k, rfl⟩ : ∃ j, k = j + 1 := ⟨k - 1, by omega⟩
    obtain rfl := hd rfl
    have hl := nm_len s
    have h1 := scanL_len (nm s) 0 0
    have hs1 := spansOf_len s.size (scanL 0 0 (nm s)).2 0
    rw [List.drop_eq_nil_of_le (by omega)] at hacc
    simp only [scanL, spansOf] at hacc
    have ho := congrArg List.length hacc
    rw [List.length_append] at ho
    simp only [ndjqlaw20_ScanCarry.l0]
    rw [if_neg (by omega)]
    have hr := records_at s (by omega) k (by omega)
    by_cases c : b < (s.size : Int)
    · rw [if_pos c] at hacc
      rw [if_pos c, if_pos (by omega), hr]
      simp only [Option.bind_some]
      rw [if_pos trivial, ← hacc, spans_same _ (by omega) k (by omega)]
      simp only [Option.bind_some, if_true]
      rw [awake_at (k - 60) k (by omega)]
      rfl
    · rw [if_neg c, List.append_nil] at hacc
      rw [if_neg c, hr]
      simp only [Option.bind_some]
      rw [if_pos trivial, ← hacc, spans_same _ (by omega) k (by omega)]
      simp only [Option.bind_some, if_true]
      rw [awake_at (k - 60) k (by omega)]
      rfl
  | d + 1, i, a, st, b, acc, k, hi, hk, ha, hd, hb, hst, hacc => by
    obtain ⟨k, rfl⟩ : ∃ j, k = j + 1 := ⟨k - 1, by omega⟩
    obtain ⟨k, rfl⟩ : ∃ j, k = j + 1 := ⟨k - 1, by omega⟩
    have go : ∀ t : Nat, a ≤ t → t ≤ s.size → (d = 0 → t = s.size) → ndjqlaw20_ScanCarry.j2 (k + 1) s L a st b acc i t = some true := by
      intro t hat hts ht
      simp only [ndjqlaw20_ScanCarry.j2]
      rw [if_pos (by omega), if_pos (by omega), if_pos (by omega), Int.toNat_natCast, Int.toNat_natCast, piece_sum s a t hat hts (by omega) k (by omega)]
      simp only [Option.bind_some]
      rw [piece_resolve s a t hat hts (by omega) st b hst hb k (by omega)]
      simp only [Option.bind_some]
      have he := piece_end s a t hat hts st b hst hb
      have hf := piece_facts s a t hat hts st hst
      have hq := hacc
      rw [piece_step s a t hat hts st b, ← List.append_assoc] at hq
      have hl := nm_len s
      have h1 := scanL_len (nm s) 0 0
      have hs1 := spansOf_len s.size (scanL 0 0 (nm s)).2 0
      have ho := congrArg List.length hq
      rw [List.length_append, List.length_append] at ho
      rw [if_pos trivial, if_pos trivial, if_neg (by omega), if_neg (by omega), if_neg (by omega), if_neg (by omega), if_pos (by omega), wrap_succ i (by omega)]
      exact carry_loop s hs L hL d (i + 1) t _ _ _ k (by omega) (by omega) hts ht (by omega) hf.1 hq
    simp only [ndjqlaw20_ScanCarry.l0]
    rw [if_pos (by omega)]
    by_cases c : (i : Int) < (L.length : Int)
    · rw [if_pos c, if_pos (by omega), wrap_id ((s.size : Int) - a) (by omega) (by omega), wrap_id ((s.size : Int) - a + 1) (by omega) (by omega)]
      obtain ⟨r, hr, h0, h1, _⟩ := mod_at (rd L i) ((s.size : Int) - a + 1) (by omega) (by omega)
      rw [hr]
      simp only [Option.bind_some]
      rw [wrap_id ((a : Int) + r) (by omega) (by omega), show (a : Int) + r = ((a + r.toNat : Nat) : Int) by omega]
      exact go _ (by omega) (by omega) (by omega)
    · rw [if_neg c]
      exact go _ (by omega) (by omega) (fun _ => rfl)
theorem ScanCarry : ndjqlaw20_ScanCarry.Pure := by
  intro s L hs _ _ hw
  refine ⟨1100 + 1, ?_⟩
  unfold ndjqlaw20_ScanCarry.f
  have ha : ∀ k, 60 ≤ k → ((ndjqlaw20_awake.f k).bind fun t => (some t)) = some true := fun k hk => by rw [awake_at (k - 60) k (by omega)]; rfl
  by_cases c : (s.size : Int) > 150
  · rw [if_pos c]
    simp only [ndjqlaw20_ScanCarry.j0, if_true]
    exact ha 1100 (by omega)
  · rw [if_neg c]
    by_cases c1 : (L.length : Int) > 20
    · rw [show decide ((L.length : Int) > 20) = true from decide_eq_true c1]
      simp only [ndjqlaw20_ScanCarry.j0, if_true]
      exact ha 1100 (by omega)
    · rw [show decide ((L.length : Int) > 20) = false from decide_eq_false c1]
      simp only [ndjqlaw20_ScanCarry.j0]
      rw [if_neg (by simp)]
      exact carry_loop s (by omega) L (by omega) (L.length + 1) 0 0 0 0 [] 1100 (by omega) (by omega) (by omega) (by omega) (by omega) (by omega) (by simp)

end Go.Proofs.YtkhnifehcnlpjaaDoor.Pure
