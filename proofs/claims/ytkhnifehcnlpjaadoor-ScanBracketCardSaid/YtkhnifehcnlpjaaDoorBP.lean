/- Summaries in plain words: valid ones, their composition, what examine and sound answer. -/
import Derived.Test.YtkhnifehcnlpjaaDoorB2
import Derived.Test.YtkhnifehcnlpjaaDoorQBx9
import Derived.Test.YtkhnifehcnlpjaaDoorQBx12
import Derived.Laws.BitsLemmas
import Derived.OpenShut
namespace Go.Proofs.YtkhnifehcnlpjaaDoor.Pl
open Go.RowKit Go.Proofs.YtkhnifehcnlpjaaDoor.QB Go.Proofs.YtkhnifehcnlpjaaDoorW.PrintWords Go.Proofs.YtkhnifehcnlpjaaDoorW.PrintLast
set_option linter.unusedVariables false
set_option linter.unusedSimpArgs false
/-! ### numbers and the list of a string's bytes -/
theorem wrap_id (n : Int) (h : -9223372036854775808 ≤ n) (h' : n ≤ 9223372036854775807) : wrap64 n = n := by unfold wrap64; omega
theorem wrap_nat (a b c : Nat) (h : a + b = c) (hc : c ≤ 4611686018427387904) : wrap64 ((a : Int) + (b : Int)) = (c : Int) := by rw [wrap_id _ (by omega) (by omega)]; omega
theorem wrap_succ (a : Nat) (hc : a ≤ 4611686018427387904) : wrap64 ((a : Int) + 1) = ((a + 1 : Nat) : Int) := by rw [wrap_id _ (by omega) (by omega)]; omega
def nm (s : ByteArray) : List Int := s.data.toList.map fun c => (c.toNat : Int)
theorem nm_bytesOf (s : ByteArray) : bytesOf s = nm s := rfl
theorem nm_len (s : ByteArray) : (nm s).length = s.size := by unfold nm; rw [List.length_map, Array.length_toList]; rfl
theorem nm_get (s : ByteArray) (j : Nat) (h : j < s.size) : (nm s)[j]? = some (bt s (j : Int)) := by
  have h' : j < s.data.toList.length := by rw [Array.length_toList]; exact h
  unfold nm bt
  rw [List.getElem?_map, List.getElem?_eq_getElem h', dif_pos (show ((j : Int)).toNat < s.size from h)]
  rfl
theorem nm_drop (s : ByteArray) (j : Nat) (h : j < s.size) : (nm s).drop j = bt s (j : Int) :: (nm s).drop (j + 1) := by
  have hl := nm_len s
  rw [List.drop_eq_getElem_cons (by omega)]
  congr 1
  have := nm_get s j h
  rw [List.getElem?_eq_getElem (by omega)] at this
  exact Option.some.inj this
theorem nm_range (s : ByteArray) : ∀ c ∈ nm s, 0 ≤ c ∧ c ≤ 255 := by
  intro c hc
  unfold nm at hc
  obtain ⟨u, _, rfl⟩ := List.mem_map.1 hc
  have := u.toNat_lt
  omega
theorem nm_inj {s t : ByteArray} (h : nm s = nm t) : s = t := by
  unfold nm at h
  have := (List.map_inj_right (fun (x y : UInt8) e => UInt8.toNat_inj.1 (by omega))).1 h
  have h2 : s.data = t.data := Array.toList_inj.1 this
  cases s; cases t; simp_all
theorem nm_strOf (l : List Int) (h : ∀ c ∈ l, 0 ≤ c ∧ c ≤ 255) : nm (strOfNums l) = l := by
  unfold nm
  rw [strOfNums_data, List.map_map]
  conv => rhs; rw [← List.map_id l]
  apply List.map_congr_left
  intro c hc
  have := h c hc
  simp only [Function.comp, id]
  rw [UInt8.toNat_ofNat']
  omega
theorem nm_extract (s : ByteArray) (a b : Nat) : nm (s.extract a b) = ((nm s).take b).drop a := by
  unfold nm
  have e : (s.extract a b).data.toList = (s.data.toList.take b).drop a := by
    rw [ByteArray.data_extract, Array.toList_extract, List.extract_eq_take_drop, List.drop_take]
  rw [e, List.map_drop, List.map_take]
theorem nm_append (s t : ByteArray) : nm (s ++ t) = nm s ++ nm t := by unfold nm; rw [ByteArray.data_append, Array.toList_append, List.map_append]
theorem rd_drop (xs : List Int) (j : Nat) (h : j < xs.length) : xs.drop j = rd xs (j : Int) :: xs.drop (j + 1) := by
  rw [List.drop_eq_getElem_cons h]
  congr 1
  unfold rd
  rw [Int.toNat_natCast, List.getD_eq_getElem?_getD, List.getElem?_eq_getElem h]
  rfl
/-! ### the automaton over a list of bytes -/
def stp (s b : Int) : Int × Bool := if s = 0 then (if b = 34 then (1, false) else if b = 10 then (0, true) else (0, false)) else if s = 1 then (if b = 34 then (0, false) else if b = 92 then (2, false) else (1, false)) else if s = 2 then (1, false) else (0, false)
/-- The state behind a list of bytes, and the offsets of the line feeds that end a record; the first byte has the offset 'at'. -/
def scanL : Int → Nat → List Int → Int × List Int
  | st, _, [] => (st, [])
  | st, i, b :: t => ((scanL (stp st b).1 (i + 1) t).1, if (stp st b).2 = true then (i : Int) :: (scanL (stp st b).1 (i + 1) t).2 else (scanL (stp st b).1 (i + 1) t).2)
theorem step_at (s b : Int) : automaton_Step.f s b = some (stp s b) := by
  unfold automaton_Step.f stp
  repeat' split
  all_goals rfl
theorem scanL_len : ∀ (l : List Int) (st : Int) (i : Nat), (scanL st i l).2.length ≤ l.length
  | [], _, _ => by simp [scanL]
  | b :: t, st, i => by
    have := scanL_len t (stp st b).1 (i + 1)
    simp only [scanL, List.length_cons]
    split
    · rw [List.length_cons]; omega
    · omega
/-- Where a line feed ends a record: in the list, behind the one before. -/
theorem scanL_mem : ∀ (l : List Int) (st : Int) (i : Nat), ∀ x ∈ (scanL st i l).2, (i : Int) ≤ x ∧ x < (i : Int) + l.length
  | [], _, _ => by simp [scanL]
  | b :: t, st, i => by
    intro x hx
    have ih := scanL_mem t (stp st b).1 (i + 1)
    simp only [scanL] at hx
    rw [List.length_cons]
    split at hx
    · rcases List.mem_cons.1 hx with rfl | hx
      · omega
      · have := ih x hx; omega
    · have := ih x hx; omega
/-! ### Summarize: each state is read through the string -/
theorem stp_range (s b : Int) : 0 ≤ (stp s b).1 ∧ (stp s b).1 ≤ 2 := by
  unfold stp
  repeat' split
  all_goals constructor <;> decide
theorem scanL_range : ∀ (l : List Int) (st : Int) (i : Nat), 0 ≤ st → st ≤ 2 → 0 ≤ (scanL st i l).1 ∧ (scanL st i l).1 ≤ 2
  | [], st, i, h0, h2 => by simp only [scanL]; exact ⟨h0, h2⟩
  | b :: t, st, i, h0, h2 => by simp only [scanL]; exact scanL_range t _ _ (stp_range st b).1 (stp_range st b).2
theorem sum0 (s : ByteArray) (hs : s.size ≤ 1048576) (o n e1 e2 : Int) (L1 L2 : List Int) (k : Nat) : ∀ (m i : Nat) (e0 : Int) (L0 : List Int) (f : Nat), i + m = s.size → L0.length ≤ i → f = k + m + 1 →
    automaton_Summarize.l1 f s 0 o (s.size : Int) (i : Int) n e0 e1 e2 L0 L1 L2 = automaton_Summarize.l0 k s (wrap64 (o + 1)) n (scanL e0 i ((nm s).drop i)).1 e1 e2 (L0 ++ (scanL e0 i ((nm s).drop i)).2) L1 L2
  | 0, i, e0, L0, f, hi, hL, hf => by
    obtain ⟨f, rfl⟩ : ∃ g, f = g + 1 := ⟨f - 1, by omega⟩
    obtain rfl : f = k := by omega
    rw [automaton_Summarize.l1]
    rw [if_neg (by omega), List.drop_eq_nil_of_le (by rw [nm_len]; omega)]
    simp only [scanL, List.append_nil]
  | m + 1, i, e0, L0, f, hi, hL, hf => by
    obtain ⟨f, rfl⟩ : ∃ g, f = g + 1 := ⟨f - 1, by omega⟩
    have hlt : i < s.size := by omega
    rw [automaton_Summarize.l1]
    rw [if_pos (by omega), if_pos rfl, if_pos (by omega), if_pos (by omega), step_at, Option.bind_some, nm_drop s i hlt]
    by_cases c : (stp e0 (bt s (i : Int))).2 = true
    · rw [if_pos c, if_pos (by omega), wrap_succ i (by omega)]
      rw [sum0 s hs o n e1 e2 L1 L2 k m (i + 1) _ (L0 ++ [(i : Int)]) f (by omega) (by rw [List.length_append, List.length_singleton]; omega) (by omega)]
      simp only [scanL]
      rw [if_pos c, List.append_assoc]
      rfl
    · rw [if_neg c, wrap_succ i (by omega)]
      rw [sum0 s hs o n e1 e2 L1 L2 k m (i + 1) _ L0 f (by omega) (by omega) (by omega)]
      simp only [scanL]
      rw [if_neg c]
theorem sum1 (s : ByteArray) (hs : s.size ≤ 1048576) (o n e0 e2 : Int) (L0 L2 : List Int) (k : Nat) : ∀ (m i : Nat) (e1 : Int) (L1 : List Int) (f : Nat), i + m = s.size → L1.length ≤ i → f = k + m + 1 →
    automaton_Summarize.l1 f s 1 o (s.size : Int) (i : Int) n e0 e1 e2 L0 L1 L2 = automaton_Summarize.l0 k s (wrap64 (o + 1)) n e0 (scanL e1 i ((nm s).drop i)).1 e2 L0 (L1 ++ (scanL e1 i ((nm s).drop i)).2) L2
  | 0, i, e1, L1, f, hi, hL, hf => by
    obtain ⟨f, rfl⟩ : ∃ g, f = g + 1 := ⟨f - 1, by omega⟩
    obtain rfl : f = k := by omega
    rw [automaton_Summarize.l1]
    rw [if_neg (by omega), List.drop_eq_nil_of_le (by rw [nm_len]; omega)]
    simp only [scanL, List.append_nil]
  | m + 1, i, e1, L1, f, hi, hL, hf => by
    obtain ⟨f, rfl⟩ : ∃ g, f = g + 1 := ⟨f - 1, by omega⟩
    have hlt : i < s.size := by omega
    rw [automaton_Summarize.l1]
    rw [if_pos (by omega), if_neg (by decide), if_pos rfl, if_pos (by omega), if_pos (by omega), step_at, Option.bind_some, nm_drop s i hlt]
    by_cases c : (stp e1 (bt s (i : Int))).2 = true
    · rw [if_pos c, if_pos (by omega), wrap_succ i (by omega)]
      rw [sum1 s hs o n e0 e2 L0 L2 k m (i + 1) _ (L1 ++ [(i : Int)]) f (by omega) (by rw [List.length_append, List.length_singleton]; omega) (by omega)]
      simp only [scanL]
      rw [if_pos c, List.append_assoc]
      rfl
    · rw [if_neg c, wrap_succ i (by omega)]
      rw [sum1 s hs o n e0 e2 L0 L2 k m (i + 1) _ L1 f (by omega) (by omega) (by omega)]
      simp only [scanL]
      rw [if_neg c]
theorem sum2 (s : ByteArray) (hs : s.size ≤ 1048576) (o n e0 e1 : Int) (L0 L1 : List Int) (k : Nat) : ∀ (m i : Nat) (e2 : Int) (L2 : List Int) (f : Nat), i + m = s.size → L2.length ≤ i → f = k + m + 1 →
    automaton_Summarize.l1 f s 2 o (s.size : Int) (i : Int) n e0 e1 e2 L0 L1 L2 = automaton_Summarize.l0 k s (wrap64 (o + 1)) n e0 e1 (scanL e2 i ((nm s).drop i)).1 L0 L1 (L2 ++ (scanL e2 i ((nm s).drop i)).2)
  | 0, i, e2, L2, f, hi, hL, hf => by
    obtain ⟨f, rfl⟩ : ∃ g, f = g + 1 := ⟨f - 1, by omega⟩
    obtain rfl : f = k := by omega
    rw [automaton_Summarize.l1]
    rw [if_neg (by omega), List.drop_eq_nil_of_le (by rw [nm_len]; omega)]
    simp only [scanL, List.append_nil]
  | m + 1, i, e2, L2, f, hi, hL, hf => by
    obtain ⟨f, rfl⟩ : ∃ g, f = g + 1 := ⟨f - 1, by omega⟩
    have hlt : i < s.size := by omega
    rw [automaton_Summarize.l1]
    rw [if_pos (by omega), if_neg (by decide), if_neg (by decide), if_pos rfl, if_pos (by omega), if_pos (by omega), step_at, Option.bind_some, nm_drop s i hlt]
    by_cases c : (stp e2 (bt s (i : Int))).2 = true
    · rw [if_pos c, if_pos (by omega), wrap_succ i (by omega)]
      rw [sum2 s hs o n e0 e1 L0 L1 k m (i + 1) _ (L2 ++ [(i : Int)]) f (by omega) (by rw [List.length_append, List.length_singleton]; omega) (by omega)]
      simp only [scanL]
      rw [if_pos c, List.append_assoc]
      rfl
    · rw [if_neg c, wrap_succ i (by omega)]
      rw [sum2 s hs o n e0 e1 L0 L1 k m (i + 1) _ L2 f (by omega) (by omega) (by omega)]
      simp only [scanL]
      rw [if_neg c]
theorem summarize_at (s : ByteArray) (hs : s.size ≤ 1048576) (k : Nat) (hk : 3 * s.size + 10 ≤ k) : automaton_Summarize.f k s = some ((s.size : Int), (scanL 0 0 (nm s)).1, (scanL 1 0 (nm s)).1, (scanL 2 0 (nm s)).1, (scanL 0 0 (nm s)).2, (scanL 1 0 (nm s)).2, (scanL 2 0 (nm s)).2, 0) := by
  obtain ⟨r, rfl⟩ : ∃ r, k = r + 1 + s.size + 1 + 1 + s.size + 1 + 1 + s.size + 1 + 1 := ⟨k - (3 * s.size + 7), by omega⟩
  unfold automaton_Summarize.f
  rw [if_neg (by omega), automaton_Empty.f, Option.bind_some]
  have z : ((0 : Nat) : Int) = 0 := rfl
  have s0 := fun (k : Nat) => sum0 s hs 0 (s.size : Int) 1 2 [] [] k s.size 0 0 [] (k + s.size + 1) (by omega) (by simp) rfl
  have s1 := fun (e0 : Int) (L0 : List Int) (k : Nat) => sum1 s hs 1 (s.size : Int) e0 2 L0 [] k s.size 0 1 [] (k + s.size + 1) (by omega) (by simp) rfl
  have s2 := fun (e0 e1 : Int) (L0 L1 : List Int) (k : Nat) => sum2 s hs 2 (s.size : Int) e0 e1 L0 L1 k s.size 0 2 [] (k + s.size + 1) (by omega) (by simp) rfl
  simp only [z, List.drop_zero, List.nil_append] at s0 s1 s2
  rw [automaton_Summarize.l0, if_pos (by decide), s0, show wrap64 (0 + 1) = 1 by decide +kernel]
  rw [automaton_Summarize.l0, if_pos (by decide), s1, show wrap64 (1 + 1) = 2 by decide +kernel]
  rw [automaton_Summarize.l0, if_pos (by decide), s2, show wrap64 (2 + 1) = 3 by decide +kernel]
  rw [automaton_Summarize.l0, if_neg (by decide)]
theorem summarize_long (s : ByteArray) (hs : 1048576 < s.size) (k : Nat) : automaton_Summarize.f k s = some (0, 0, 0, 0, [], [], [], 2) := by
  unfold automaton_Summarize.f
  rw [if_pos (by omega)]
/-! ### keep.Ints: a list is the same as itself -/
theorem ints_loop (l : List Int) (hl : l.length ≤ 4611686018427387904) : ∀ (d : Nat) (i : Int) (k : Nat), 0 ≤ i → (l.length : Int) - i ≤ d → d < k → i ≤ l.length → ndjqkeep_Ints.l0 k l l i = some true
  | 0, i, k, h0, hd, hk, hi => by
    obtain ⟨k, rfl⟩ : ∃ j, k = j + 1 := ⟨k - 1, by omega⟩
    simp only [ndjqkeep_Ints.l0]
    rw [if_neg (by omega)]
  | d + 1, i, k, h0, hd, hk, hi => by
    obtain ⟨k, rfl⟩ : ∃ j, k = j + 1 := ⟨k - 1, by omega⟩
    simp only [ndjqkeep_Ints.l0]
    by_cases c : i < (l.length : Int)
    · rw [if_pos c, if_pos h0, if_pos c, if_pos trivial, wrap_id (i + 1) (by omega) (by omega)]
      exact ints_loop l hl d (i + 1) k (by omega) (by omega) (by omega) (by omega)
    · rw [if_neg c]
theorem ints_same (l : List Int) (hl : l.length ≤ 4611686018427387904) (k : Nat) (hk : l.length < k) : ndjqkeep_Ints.f k l l = some true := by
  unfold ndjqkeep_Ints.f
  rw [if_pos rfl]
  exact ints_loop l hl l.length 0 k (by omega) (by omega) hk (by omega)
/-! ### keep.Summaries: a summary is the same as itself -/
theorem summaries_same (n e0 e1 e2 : Int) (L0 L1 L2 : List Int) (h0 : L0.length ≤ 4611686018427387904) (h1 : L1.length ≤ 4611686018427387904) (h2 : L2.length ≤ 4611686018427387904) (k : Nat) (k0 : L0.length + 10 < k) (k1 : L1.length + 10 < k) (k2 : L2.length + 10 < k) :
    ndjqkeep_Summaries.f k n e0 e1 e2 L0 L1 L2 n e0 e1 e2 L0 L1 L2 = some true := by
  obtain ⟨k, rfl⟩ : ∃ r, k = r + 1 + 1 + 1 + 1 + 1 := ⟨k - 5, by omega⟩
  unfold ndjqkeep_Summaries.f
  rw [if_pos rfl, show (!(e0 == e0) || (!(e1 == e1) || (!(e2 == e2)))) = false by simp, ndjqkeep_Summaries.j0, if_neg (by decide)]
  rw [ndjqkeep_Summaries.l0, if_pos (by decide), if_pos rfl, ints_same L0 h0 _ (by omega), Option.bind_some, if_pos rfl]
  rw [ndjqkeep_Summaries.l0, if_pos (by decide), if_neg (by decide), if_pos rfl, ints_same L1 h1 _ (by omega), Option.bind_some, if_pos rfl]
  rw [ndjqkeep_Summaries.l0, if_pos (by decide), if_neg (by decide), if_neg (by decide), if_pos rfl, ints_same L2 h2 _ (by omega), Option.bind_some, if_pos rfl]
  rw [ndjqkeep_Summaries.l0, if_neg (by decide)]
/-! ### reading on: two pieces; offsets grow strictly -/
theorem scanL_append : ∀ (l r : List Int) (st : Int) (i : Nat), scanL st i (l ++ r) = ((scanL (scanL st i l).1 (i + l.length) r).1, (scanL st i l).2 ++ (scanL (scanL st i l).1 (i + l.length) r).2)
  | [], r, st, i => by simp only [List.nil_append, scanL, List.length_nil, Nat.add_zero]
  | b :: t, r, st, i => by
    have ih := scanL_append t r (stp st b).1 (i + 1)
    rw [show i + 1 + t.length = i + (t.length + 1) by omega] at ih
    simp only [List.cons_append, scanL, ih, List.length_cons]
    by_cases c : (stp st b).2 = true
    · rw [if_pos c, if_pos c, List.cons_append]
    · rw [if_neg c, if_neg c]
theorem scanL_shift : ∀ (l : List Int) (st : Int) (i d : Nat), scanL st (d + i) l = ((scanL st i l).1, (scanL st i l).2.map (fun x => (d : Int) + x))
  | [], st, i, d => by simp only [scanL, List.map_nil]
  | b :: t, st, i, d => by
    have ih := scanL_shift t (stp st b).1 (i + 1) d
    rw [show d + (i + 1) = d + i + 1 by omega] at ih
    simp only [scanL, ih]
    by_cases c : (stp st b).2 = true
    · rw [if_pos c, if_pos c, List.map_cons, show ((d + i : Nat) : Int) = (d : Int) + (i : Int) by omega]
    · rw [if_neg c, if_neg c]
/-- Strictly growing, behind 'last', below n. -/
def inc : Int → Int → List Int → Prop
  | _, _, [] => True
  | last, n, x :: t => last < x ∧ x < n ∧ inc x n t
theorem inc_weak : ∀ (l : List Int) (a b n : Int), a ≤ b → inc b n l → inc a n l
  | [], _, _, _, _, _ => trivial
  | x :: t, a, b, n, h, hi => ⟨by have := hi.1; omega, hi.2.1, hi.2.2⟩
theorem scanL_inc : ∀ (l : List Int) (st : Int) (i : Nat), inc ((i : Int) - 1) ((i : Int) + l.length) (scanL st i l).2
  | [], _, _ => trivial
  | b :: t, st, i => by
    have ih := scanL_inc t (stp st b).1 (i + 1)
    rw [show (((i + 1 : Nat) : Int) - 1) = (i : Int) by omega, show (((i + 1 : Nat) : Int) + (t.length : Int)) = (i : Int) + ((t.length + 1 : Nat) : Int) by omega] at ih
    simp only [scanL, List.length_cons]
    by_cases c : (stp st b).2 = true
    · rw [if_pos c]; exact ⟨by omega, by omega, ih⟩
    · rw [if_neg c]; exact inc_weak _ _ _ _ (by omega) ih
theorem inc_nonneg : ∀ (l : List Int) (a n : Int), -1 ≤ a → inc a n l → ∀ x ∈ l, 0 ≤ x ∧ x < n
  | [], _, _, _, _ => by simp
  | y :: t, a, n, h, hi => by
    intro x hx
    rcases List.mem_cons.1 hx with rfl | hx
    · exact ⟨by have := hi.1; omega, hi.2.1⟩
    · exact inc_nonneg t y n (by have := hi.1; omega) hi.2.2 x hx
/-! ### Valid -/
theorem known_at (e : Int) (h0 : 0 ≤ e) (h2 : e ≤ 2) : automaton_known.f e = some true := by
  unfold automaton_known.f
  rw [if_pos (by omega), decide_eq_true h2]
theorem valid_loop0 (n e0 e1 e2 : Int) (L0 L1 L2 M P0 P1 P2 : List Int) (hM : M.length ≤ 4611686018427387904) (h0 : 0 ≤ e0) (h2 : e0 ≤ 2) (k : Nat) : ∀ (m i : Nat) (last : Int) (f : Nat), i + m = M.length → inc last n (M.drop i) → f = k + m + 1 →
    automaton_Valid.l1 f last M (M.length : Int) (i : Int) n e0 e1 e2 L0 L1 L2 P0 P1 P2 = automaton_Valid.l0 k 1 n e0 e1 e2 L0 L1 L2 P0 P1 P2
  | 0, i, last, f, hi, hc, hf => by
    obtain ⟨f, rfl⟩ : ∃ g, f = g + 1 := ⟨f - 1, by omega⟩
    obtain rfl : f = k := by omega
    rw [automaton_Valid.l1, if_neg (by omega), known_at _ h0 h2, Option.bind_some, if_pos rfl]
  | m + 1, i, last, f, hi, hc, hf => by
    obtain ⟨f, rfl⟩ : ∃ g, f = g + 1 := ⟨f - 1, by omega⟩
    have hlt : i < M.length := by omega
    rw [rd_drop M i hlt] at hc
    obtain ⟨c1, c2, c3⟩ := hc
    rw [automaton_Valid.l1, if_pos (by omega), if_pos (by omega), if_pos (by omega), if_neg (by omega), if_neg (by omega), wrap_succ i (by omega)]
    exact valid_loop0 n e0 e1 e2 L0 L1 L2 M P0 P1 P2 hM h0 h2 k m (i + 1) _ f (by omega) c3 (by omega)
theorem valid_loop1 (n e0 e1 e2 : Int) (L0 L1 L2 M P0 P1 P2 : List Int) (hM : M.length ≤ 4611686018427387904) (h0 : 0 ≤ e1) (h2 : e1 ≤ 2) (k : Nat) : ∀ (m i : Nat) (last : Int) (f : Nat), i + m = M.length → inc last n (M.drop i) → f = k + m + 1 →
    automaton_Valid.l101 f last M (M.length : Int) (i : Int) n e0 e1 e2 L0 L1 L2 P0 P1 P2 = automaton_Valid.l0 k 2 n e0 e1 e2 L0 L1 L2 P0 P1 P2
  | 0, i, last, f, hi, hc, hf => by
    obtain ⟨f, rfl⟩ : ∃ g, f = g + 1 := ⟨f - 1, by omega⟩
    obtain rfl : f = k := by omega
    rw [automaton_Valid.l101, if_neg (by omega), known_at _ h0 h2, Option.bind_some, if_pos rfl]
  | m + 1, i, last, f, hi, hc, hf => by
    obtain ⟨f, rfl⟩ : ∃ g, f = g + 1 := ⟨f - 1, by omega⟩
    have hlt : i < M.length := by omega
    rw [rd_drop M i hlt] at hc
    obtain ⟨c1, c2, c3⟩ := hc
    rw [automaton_Valid.l101, if_pos (by omega), if_pos (by omega), if_pos (by omega), if_neg (by omega), if_neg (by omega), wrap_succ i (by omega)]
    exact valid_loop1 n e0 e1 e2 L0 L1 L2 M P0 P1 P2 hM h0 h2 k m (i + 1) _ f (by omega) c3 (by omega)
theorem valid_loop2 (n e0 e1 e2 : Int) (L0 L1 L2 M P0 P1 P2 : List Int) (hM : M.length ≤ 4611686018427387904) (h0 : 0 ≤ e2) (h2 : e2 ≤ 2) (k : Nat) : ∀ (m i : Nat) (last : Int) (f : Nat), i + m = M.length → inc last n (M.drop i) → f = k + m + 1 →
    automaton_Valid.l201 f last M (M.length : Int) (i : Int) n e0 e1 e2 L0 L1 L2 P0 P1 P2 = automaton_Valid.l0 k 3 n e0 e1 e2 L0 L1 L2 P0 P1 P2
  | 0, i, last, f, hi, hc, hf => by
    obtain ⟨f, rfl⟩ : ∃ g, f = g + 1 := ⟨f - 1, by omega⟩
    obtain rfl : f = k := by omega
    rw [automaton_Valid.l201, if_neg (by omega), known_at _ h0 h2, Option.bind_some, if_pos rfl]
  | m + 1, i, last, f, hi, hc, hf => by
    obtain ⟨f, rfl⟩ : ∃ g, f = g + 1 := ⟨f - 1, by omega⟩
    have hlt : i < M.length := by omega
    rw [rd_drop M i hlt] at hc
    obtain ⟨c1, c2, c3⟩ := hc
    rw [automaton_Valid.l201, if_pos (by omega), if_pos (by omega), if_pos (by omega), if_neg (by omega), if_neg (by omega), wrap_succ i (by omega)]
    exact valid_loop2 n e0 e1 e2 L0 L1 L2 M P0 P1 P2 hM h0 h2 k m (i + 1) _ f (by omega) c3 (by omega)
theorem valid_at (n e0 e1 e2 : Int) (L0 L1 L2 : List Int) (hn : 0 ≤ n) (hn2 : n ≤ 1048576) (a0 : 0 ≤ e0 ∧ e0 ≤ 2) (a1 : 0 ≤ e1 ∧ e1 ≤ 2) (a2 : 0 ≤ e2 ∧ e2 ≤ 2) (i0 : inc (-1) n L0) (i1 : inc (-1) n L1) (i2 : inc (-1) n L2)
    (l0 : L0.length ≤ 4611686018427387904) (l1 : L1.length ≤ 4611686018427387904) (l2 : L2.length ≤ 4611686018427387904) (k : Nat) (hk : L0.length + L1.length + L2.length + 20 ≤ k) : automaton_Valid.f k n e0 e1 e2 L0 L1 L2 = some true := by
  obtain ⟨r, rfl⟩ : ∃ r, k = (r + 1 + L2.length + 1 + 1 + L1.length + 1 + 1 + L0.length + 1) + 1 + 1 := ⟨k - (L0.length + L1.length + L2.length + 8), by omega⟩
  unfold automaton_Valid.f
  rw [if_neg (by omega), decide_eq_false (by omega), automaton_Valid.j0, if_neg (by decide)]
  have z : ((0 : Nat) : Int) = 0 := rfl
  have v0 := fun (k : Nat) => valid_loop0 n e0 e1 e2 L0 L1 L2 L0 L0 L1 L2 (by omega) a0.1 a0.2 k L0.length 0 (-1) (k + L0.length + 1) (by omega) i0 rfl
  have v1 := fun (k : Nat) => valid_loop1 n e0 e1 e2 L0 L1 L2 L1 L0 L1 L2 (by omega) a1.1 a1.2 k L1.length 0 (-1) (k + L1.length + 1) (by omega) i1 rfl
  have v2 := fun (k : Nat) => valid_loop2 n e0 e1 e2 L0 L1 L2 L2 L0 L1 L2 (by omega) a2.1 a2.2 k L2.length 0 (-1) (k + L2.length + 1) (by omega) i2 rfl
  simp only [z] at v0 v1 v2
  rw [automaton_Valid.l0, if_pos (by decide), if_pos rfl, v0]
  rw [automaton_Valid.l0, if_pos (by decide), if_neg (by decide), if_pos rfl, v1]
  rw [automaton_Valid.l0, if_pos (by decide), if_neg (by decide), if_neg (by decide), if_pos rfl, v2]
  rw [automaton_Valid.l0, if_neg (by decide)]
/-! ### Valid of whatever summary -/
theorem known_no (e : Int) (h : ¬ (0 ≤ e ∧ e ≤ 2)) : automaton_known.f e = some false := by
  unfold automaton_known.f
  by_cases c : e ≥ 0
  · rw [if_pos c, decide_eq_false (fun x => h ⟨c, x⟩)]
  · rw [if_neg c]
theorem vl0 (n e0 e1 e2 : Int) (L0 L1 L2 M P0 P1 P2 : List Int) (hM : M.length ≤ 4611686018427387904) (k : Nat) : ∀ (m i : Nat) (last : Int) (f : Nat), i + m = M.length → f = k + m + 1 →
    (automaton_Valid.l1 f last M (M.length : Int) (i : Int) n e0 e1 e2 L0 L1 L2 P0 P1 P2 = automaton_Valid.l0 k 1 n e0 e1 e2 L0 L1 L2 P0 P1 P2 ∧ inc last n (M.drop i) ∧ 0 ≤ e0 ∧ e0 ≤ 2) ∨ automaton_Valid.l1 f last M (M.length : Int) (i : Int) n e0 e1 e2 L0 L1 L2 P0 P1 P2 = some false
  | 0, i, last, f, hi, hf => by
    obtain ⟨f, rfl⟩ : ∃ g, f = g + 1 := ⟨f - 1, by omega⟩
    obtain rfl : f = k := by omega
    have hd : M.drop i = [] := List.drop_eq_nil_of_le (by omega)
    rw [automaton_Valid.l1, if_neg (by omega), hd]
    by_cases c : 0 ≤ e0 ∧ e0 ≤ 2
    · rw [known_at _ c.1 c.2, Option.bind_some, if_pos rfl]; exact .inl ⟨rfl, trivial, c⟩
    · rw [known_no _ c, Option.bind_some, if_neg (by decide)]; exact .inr rfl
  | m + 1, i, last, f, hi, hf => by
    obtain ⟨f, rfl⟩ : ∃ g, f = g + 1 := ⟨f - 1, by omega⟩
    have hlt : i < M.length := by omega
    rw [rd_drop M i hlt, automaton_Valid.l1, if_pos (by omega), if_pos (by omega), if_pos (by omega)]
    by_cases c1 : rd M (i : Int) ≤ last
    · rw [if_pos c1]; exact .inr rfl
    by_cases c2 : rd M (i : Int) ≥ n
    · rw [if_neg c1, if_pos c2]; exact .inr rfl
    rw [if_neg c1, if_neg c2, wrap_succ i (by omega)]
    rcases vl0 n e0 e1 e2 L0 L1 L2 M P0 P1 P2 hM k m (i + 1) (rd M (i : Int)) f (by omega) (by omega) with h | h
    · exact .inl ⟨h.1, ⟨by omega, by omega, h.2.1⟩, h.2.2⟩
    · exact .inr h
theorem vl1 (n e0 e1 e2 : Int) (L0 L1 L2 M P0 P1 P2 : List Int) (hM : M.length ≤ 4611686018427387904) (k : Nat) : ∀ (m i : Nat) (last : Int) (f : Nat), i + m = M.length → f = k + m + 1 →
    (automaton_Valid.l101 f last M (M.length : Int) (i : Int) n e0 e1 e2 L0 L1 L2 P0 P1 P2 = automaton_Valid.l0 k 2 n e0 e1 e2 L0 L1 L2 P0 P1 P2 ∧ inc last n (M.drop i) ∧ 0 ≤ e1 ∧ e1 ≤ 2) ∨ automaton_Valid.l101 f last M (M.length : Int) (i : Int) n e0 e1 e2 L0 L1 L2 P0 P1 P2 = some false
  | 0, i, last, f, hi, hf => by
    obtain ⟨f, rfl⟩ : ∃ g, f = g + 1 := ⟨f - 1, by omega⟩
    obtain rfl : f = k := by omega
    have hd : M.drop i = [] := List.drop_eq_nil_of_le (by omega)
    rw [automaton_Valid.l101, if_neg (by omega), hd]
    by_cases c : 0 ≤ e1 ∧ e1 ≤ 2
    · rw [known_at _ c.1 c.2, Option.bind_some, if_pos rfl]; exact .inl ⟨rfl, trivial, c⟩
    · rw [known_no _ c, Option.bind_some, if_neg (by decide)]; exact .inr rfl
  | m + 1, i, last, f, hi, hf => by
    obtain ⟨f, rfl⟩ : ∃ g, f = g + 1 := ⟨f - 1, by omega⟩
    have hlt : i < M.length := by omega
    rw [rd_drop M i hlt, automaton_Valid.l101, if_pos (by omega), if_pos (by omega), if_pos (by omega)]
    by_cases c1 : rd M (i : Int) ≤ last
    · rw [if_pos c1]; exact .inr rfl
    by_cases c2 : rd M (i : Int) ≥ n
    · rw [if_neg c1, if_pos c2]; exact .inr rfl
    rw [if_neg c1, if_neg c2, wrap_succ i (by omega)]
    rcases vl1 n e0 e1 e2 L0 L1 L2 M P0 P1 P2 hM k m (i + 1) (rd M (i : Int)) f (by omega) (by omega) with h | h
    · exact .inl ⟨h.1, ⟨by omega, by omega, h.2.1⟩, h.2.2⟩
    · exact .inr h
theorem vl2 (n e0 e1 e2 : Int) (L0 L1 L2 M P0 P1 P2 : List Int) (hM : M.length ≤ 4611686018427387904) (k : Nat) : ∀ (m i : Nat) (last : Int) (f : Nat), i + m = M.length → f = k + m + 1 →
    (automaton_Valid.l201 f last M (M.length : Int) (i : Int) n e0 e1 e2 L0 L1 L2 P0 P1 P2 = automaton_Valid.l0 k 3 n e0 e1 e2 L0 L1 L2 P0 P1 P2 ∧ inc last n (M.drop i) ∧ 0 ≤ e2 ∧ e2 ≤ 2) ∨ automaton_Valid.l201 f last M (M.length : Int) (i : Int) n e0 e1 e2 L0 L1 L2 P0 P1 P2 = some false
  | 0, i, last, f, hi, hf => by
    obtain ⟨f, rfl⟩ : ∃ g, f = g + 1 := ⟨f - 1, by omega⟩
    obtain rfl : f = k := by omega
    have hd : M.drop i = [] := List.drop_eq_nil_of_le (by omega)
    rw [automaton_Valid.l201, if_neg (by omega), hd]
    by_cases c : 0 ≤ e2 ∧ e2 ≤ 2
    · rw [known_at _ c.1 c.2, Option.bind_some, if_pos rfl]; exact .inl ⟨rfl, trivial, c⟩
    · rw [known_no _ c, Option.bind_some, if_neg (by decide)]; exact .inr rfl
  | m + 1, i, last, f, hi, hf => by
    obtain ⟨f, rfl⟩ : ∃ g, f = g + 1 := ⟨f - 1, by omega⟩
    have hlt : i < M.length := by omega
    rw [rd_drop M i hlt, automaton_Valid.l201, if_pos (by omega), if_pos (by omega), if_pos (by omega)]
    by_cases c1 : rd M (i : Int) ≤ last
    · rw [if_pos c1]; exact .inr rfl
    by_cases c2 : rd M (i : Int) ≥ n
    · rw [if_neg c1, if_pos c2]; exact .inr rfl
    rw [if_neg c1, if_neg c2, wrap_succ i (by omega)]
    rcases vl2 n e0 e1 e2 L0 L1 L2 M P0 P1 P2 hM k m (i + 1) (rd M (i : Int)) f (by omega) (by omega) with h | h
    · exact .inl ⟨h.1, ⟨by omega, by omega, h.2.1⟩, h.2.2⟩
    · exact .inr h
def vld (n e0 e1 e2 : Int) (L0 L1 L2 : List Int) : Prop := (0 ≤ n ∧ n ≤ 1048576) ∧ (0 ≤ e0 ∧ e0 ≤ 2) ∧ (0 ≤ e1 ∧ e1 ≤ 2) ∧ (0 ≤ e2 ∧ e2 ≤ 2) ∧ inc (-1) n L0 ∧ inc (-1) n L1 ∧ inc (-1) n L2
theorem valid_any (n e0 e1 e2 : Int) (L0 L1 L2 : List Int) (l0 : L0.length ≤ 4611686018427387904) (l1 : L1.length ≤ 4611686018427387904) (l2 : L2.length ≤ 4611686018427387904) (k : Nat) (hk : L0.length + L1.length + L2.length + 20 ≤ k) : (automaton_Valid.f k n e0 e1 e2 L0 L1 L2 = some true ∧ vld n e0 e1 e2 L0 L1 L2) ∨ automaton_Valid.f k n e0 e1 e2 L0 L1 L2 = some false := by
  obtain ⟨r, rfl⟩ : ∃ r, k = (r + 1 + L2.length + 1 + 1 + L1.length + 1 + 1 + L0.length + 1) + 1 + 1 := ⟨k - (L0.length + L1.length + L2.length + 8), by omega⟩
  unfold automaton_Valid.f
  by_cases c0 : n < 0
  · rw [if_pos c0, automaton_Valid.j0, if_pos rfl]; exact .inr rfl
  by_cases c1 : n > 1048576
  · rw [if_neg c0, decide_eq_true c1, automaton_Valid.j0, if_pos rfl]; exact .inr rfl
  rw [if_neg c0, decide_eq_false c1, automaton_Valid.j0, if_neg (by decide)]
  have z : ((0 : Nat) : Int) = 0 := rfl
  have v0 := fun (k : Nat) => vl0 n e0 e1 e2 L0 L1 L2 L0 L0 L1 L2 (by omega) k L0.length 0 (-1) (k + L0.length + 1) (by omega) rfl
  have v1 := fun (k : Nat) => vl1 n e0 e1 e2 L0 L1 L2 L1 L0 L1 L2 (by omega) k L1.length 0 (-1) (k + L1.length + 1) (by omega) rfl
  have v2 := fun (k : Nat) => vl2 n e0 e1 e2 L0 L1 L2 L2 L0 L1 L2 (by omega) k L2.length 0 (-1) (k + L2.length + 1) (by omega) rfl
  simp only [z, List.drop_zero] at v0 v1 v2
  rw [automaton_Valid.l0, if_pos (by decide), if_pos rfl]
  rcases v0 (r + 1 + L2.length + 1 + 1 + L1.length + 1 + 1) with ⟨h, i0, s0⟩ | h
  rotate_left
  · rw [h]; exact .inr rfl
  rw [h, automaton_Valid.l0, if_pos (by decide), if_neg (by decide), if_pos rfl]
  rcases v1 (r + 1 + L2.length + 1 + 1) with ⟨h, i1, s1⟩ | h
  rotate_left
  · rw [h]; exact .inr rfl
  rw [h, automaton_Valid.l0, if_pos (by decide), if_neg (by decide), if_neg (by decide), if_pos rfl]
  rcases v2 (r + 1) with ⟨h, i2, s2⟩ | h
  rotate_left
  · rw [h]; exact .inr rfl
  rw [h, automaton_Valid.l0, if_neg (by decide)]
  exact .inl ⟨rfl, ⟨by omega, by omega⟩, s0, s1, s2, i0, i1, i2⟩
def sel {α : Type} (m : Int) (x y z : α) : α := if m = 0 then x else if m = 1 then y else z
/-! ### the composition of summaries -/
def tupS (x : S26) (e : Int) : Int × Int × Int × Int × List Int × List Int × List Int × Int := (x.f0, x.f1.f0, x.f1.f1, x.f1.f2, x.f2.f0, x.f2.f1, x.f2.f2, e)
def vldS (x : S26) : Prop := vld x.f0 x.f1.f0 x.f1.f1 x.f1.f2 x.f2.f0 x.f2.f1 x.f2.f2
def comp (x y : S26) : S26 := ⟨x.f0 + y.f0, ⟨sel x.f1.f0 y.f1.f0 y.f1.f1 y.f1.f2, sel x.f1.f1 y.f1.f0 y.f1.f1 y.f1.f2, sel x.f1.f2 y.f1.f0 y.f1.f1 y.f1.f2⟩,
  ⟨x.f2.f0 ++ (sel x.f1.f0 y.f2.f0 y.f2.f1 y.f2.f2).map (fun z => x.f0 + z), x.f2.f1 ++ (sel x.f1.f1 y.f2.f0 y.f2.f1 y.f2.f2).map (fun z => x.f0 + z), x.f2.f2 ++ (sel x.f1.f2 y.f2.f0 y.f2.f1 y.f2.f2).map (fun z => x.f0 + z)⟩⟩
def noS : S26 := ⟨0, ⟨0, 0, 0⟩, ⟨[], [], []⟩⟩
def emptyS : S26 := ⟨0, ⟨0, 1, 2⟩, ⟨[], [], []⟩⟩
theorem inc_shift (c : Int) : ∀ (l : List Int) (a n : Int), inc a n l → inc (c + a) (c + n) (l.map (fun z => c + z))
  | [], _, _, _ => trivial
  | x :: t, a, n, h => by
    obtain ⟨h1, h2, h3⟩ := h
    exact ⟨by show c + a < c + x; omega, by show c + x < c + n; omega, inc_shift c t x n h3⟩
theorem inc_app (n m : Int) (hm : 0 ≤ m) (B : List Int) (hB : inc (-1) m B) : ∀ (A : List Int) (a : Int), a < n → inc a n A → inc a (n + m) (A ++ B.map (fun z => n + z))
  | [], a, ha, _ => by
    rw [List.nil_append]
    exact inc_weak _ _ _ _ (by omega) (inc_shift n B (-1) m hB)
  | x :: t, a, ha, h => by
    obtain ⟨h1, h2, h3⟩ := h
    exact ⟨h1, by omega, inc_app n m hm B hB t x h2 h3⟩
theorem inc_len : ∀ (l : List Int) (a n : Int), a < n → inc a n l → (l.length : Int) ≤ n - a - 1
  | [], a, n, h, _ => by simp; omega
  | x :: t, a, n, h, hi => by
    obtain ⟨h1, h2, h3⟩ := hi
    have := inc_len t x n h2 h3
    simp only [List.length_cons]; omega
theorem vldS_len {x : S26} (h : vldS x) : x.f2.f0.length ≤ 1048576 ∧ x.f2.f1.length ≤ 1048576 ∧ x.f2.f2.length ≤ 1048576 := by
  obtain ⟨hn, _, _, _, i0, i1, i2⟩ := h
  have := inc_len _ _ _ (by omega) i0
  have := inc_len _ _ _ (by omega) i1
  have := inc_len _ _ _ (by omega) i2
  omega
theorem sel_range {m a b c : Int} (h0 : 0 ≤ a ∧ a ≤ 2) (h1 : 0 ≤ b ∧ b ≤ 2) (h2 : 0 ≤ c ∧ c ≤ 2) : 0 ≤ sel m a b c ∧ sel m a b c ≤ 2 := by
  unfold sel
  split
  · exact h0
  · split
    · exact h1
    · exact h2
theorem sel_inc {m n : Int} {A B C : List Int} (h0 : inc (-1) n A) (h1 : inc (-1) n B) (h2 : inc (-1) n C) : inc (-1) n (sel m A B C) := by
  unfold sel
  split
  · exact h0
  · split
    · exact h1
    · exact h2
theorem comp_vld {x y : S26} (hx : vldS x) (hy : vldS y) (hn : x.f0 + y.f0 ≤ 1048576) : vldS (comp x y) := by
  obtain ⟨nx, a0, a1, a2, i0, i1, i2⟩ := hx
  obtain ⟨ny, b0, b1, b2, j0, j1, j2⟩ := hy
  exact ⟨⟨by show 0 ≤ x.f0 + y.f0; omega, hn⟩, sel_range b0 b1 b2, sel_range b0 b1 b2, sel_range b0 b1 b2, inc_app _ _ ny.1 _ (sel_inc j0 j1 j2) _ _ (by omega) i0, inc_app _ _ ny.1 _ (sel_inc j0 j1 j2) _ _ (by omega) i1, inc_app _ _ ny.1 _ (sel_inc j0 j1 j2) _ _ (by omega) i2⟩
theorem sel_map {α β : Type} (f : α → β) (m : Int) (x y z : α) : sel m (f x) (f y) (f z) = f (sel m x y z) := by
  unfold sel
  split
  · rfl
  · split <;> rfl
theorem sel_app (m : Int) (A B C A' B' C' : List Int) : sel m (A ++ A') (B ++ B') (C ++ C') = sel m A B C ++ sel m A' B' C' := by
  unfold sel
  split
  · rfl
  · split <;> rfl
theorem sel_sel {α : Type} (m : Int) (hm : 0 ≤ m ∧ m ≤ 2) (b0 b1 b2 : Int) (x y z : α) : sel (sel m b0 b1 b2) x y z = sel m (sel b0 x y z) (sel b1 x y z) (sel b2 x y z) := by
  unfold sel
  by_cases c0 : m = 0
  · simp only [if_pos c0]
  · by_cases c1 : m = 1
    · simp only [if_neg c0, if_pos c1]
    · simp only [if_neg c0, if_neg c1]
theorem comp_assoc (x y z : S26) (hx : vldS x) : comp (comp x y) z = comp x (comp y z) := by
  obtain ⟨_, a0, a1, a2, _⟩ := hx
  have hl : ∀ (m : Int) (hm : 0 ≤ m ∧ m ≤ 2) (L : List Int), (L ++ (sel m y.f2.f0 y.f2.f1 y.f2.f2).map (fun z => x.f0 + z)) ++ (sel (sel m y.f1.f0 y.f1.f1 y.f1.f2) z.f2.f0 z.f2.f1 z.f2.f2).map (fun w => x.f0 + y.f0 + w) =
      L ++ (sel m (y.f2.f0 ++ (sel y.f1.f0 z.f2.f0 z.f2.f1 z.f2.f2).map (fun w => y.f0 + w)) (y.f2.f1 ++ (sel y.f1.f1 z.f2.f0 z.f2.f1 z.f2.f2).map (fun w => y.f0 + w)) (y.f2.f2 ++ (sel y.f1.f2 z.f2.f0 z.f2.f1 z.f2.f2).map (fun w => y.f0 + w))).map (fun w => x.f0 + w) := by
    intro m hm L
    rw [sel_app, sel_map (List.map (fun w => y.f0 + w)), List.map_append, List.map_map, List.append_assoc, sel_sel m hm]
    congr 3
    funext w
    show x.f0 + y.f0 + w = x.f0 + (y.f0 + w)
    omega
  simp only [comp]
  rw [hl _ a0, hl _ a1, hl _ a2, sel_sel _ a0, sel_sel _ a1, sel_sel _ a2, Int.add_assoc]
theorem comp_empty_l (x : S26) : comp emptyS x = x := by
  have e : ∀ L : List Int, L.map (fun z => (0 : Int) + z) = L := fun L => by rw [show (fun z : Int => (0 : Int) + z) = id from funext fun z => Int.zero_add z, List.map_id]
  simp only [comp, emptyS, List.nil_append, e]
  rw [Int.zero_add]
  rfl
theorem sel_id {m : Int} (hm : 0 ≤ m ∧ m ≤ 2) : sel m 0 1 2 = m := by
  unfold sel
  split
  · omega
  · split <;> omega
theorem comp_empty_r (x : S26) (hx : vldS x) : comp x emptyS = x := by
  obtain ⟨_, a0, a1, a2, _⟩ := hx
  have e : ∀ m : Int, sel m ([] : List Int) [] [] = [] := fun m => by
    unfold sel
    split
    · rfl
    · split <;> rfl
  simp only [comp, emptyS, e, List.map_nil, List.append_nil, Int.add_zero, sel_id a0, sel_id a1, sel_id a2]
theorem empty_vld : vldS emptyS := ⟨⟨by decide, by decide⟩, ⟨by decide, by decide⟩, ⟨by decide, by decide⟩, ⟨by decide, by decide⟩, trivial, trivial, trivial⟩
/-! ### the reference's Valid of whatever summary -/
theorem rv0 (n e0 e1 e2 : Int) (L0 L1 L2 M : List Int) (hM : M.length ≤ 4611686018427387904) (k : Nat) : ∀ (m i : Nat) (prev : Int) (f : Nat), i + m = M.length → f = k + m + 1 → -1 ≤ prev → (i = 0 → prev = -1) → (0 < i → prev = rd M ((i : Int) - 1)) →
    (ndjqref18_Valid.l1 f M (i : Int) n e0 e1 e2 L0 L1 L2 = ndjqref18_Valid.l0 k 1 n e0 e1 e2 L0 L1 L2 ∧ inc prev n (M.drop i)) ∨ (ndjqref18_Valid.l1 f M (i : Int) n e0 e1 e2 L0 L1 L2 = some false ∧ ¬ inc prev n (M.drop i))
  | 0, i, prev, f, hi, hf, _, _, _ => by
    obtain ⟨f, rfl⟩ : ∃ g, f = g + 1 := ⟨f - 1, by omega⟩
    obtain rfl : f = k := by omega
    have hd : M.drop i = [] := List.drop_eq_nil_of_le (by omega)
    rw [ndjqref18_Valid.l1, if_neg (by omega), hd]
    exact .inl ⟨rfl, trivial⟩
  | m + 1, i, prev, f, hi, hf, hp, hp0, hp1 => by
    obtain ⟨f, rfl⟩ : ∃ g, f = g + 1 := ⟨f - 1, by omega⟩
    have hlt : i < M.length := by omega
    rw [rd_drop M i hlt, ndjqref18_Valid.l1, if_pos (by omega), if_pos (by omega)]
    by_cases c0 : rd M (i : Int) < 0
    · rw [if_pos c0]; exact .inr ⟨rfl, fun h => by have := h.1; omega⟩
    by_cases c2 : rd M (i : Int) ≥ n
    · rw [if_neg c0, if_pos c2]; exact .inr ⟨rfl, fun h => by have := h.2.1; omega⟩
    rw [if_neg c0, if_neg c2]
    have go : prev < rd M (i : Int) → (ndjqref18_Valid.l1 f M ((i + 1 : Nat) : Int) n e0 e1 e2 L0 L1 L2 = ndjqref18_Valid.l0 k 1 n e0 e1 e2 L0 L1 L2 ∧ inc prev n (rd M (i : Int) :: M.drop (i + 1))) ∨ (ndjqref18_Valid.l1 f M ((i + 1 : Nat) : Int) n e0 e1 e2 L0 L1 L2 = some false ∧ ¬ inc prev n (rd M (i : Int) :: M.drop (i + 1))) := by
      intro hlt2
      rcases rv0 n e0 e1 e2 L0 L1 L2 M hM k m (i + 1) (rd M (i : Int)) f (by omega) (by omega) (by omega) (by omega) (fun _ => by congr 1; omega) with h | h
      · exact .inl ⟨h.1, by omega, by omega, h.2⟩
      · exact .inr ⟨h.1, fun q => h.2 q.2.2⟩
    by_cases ci : i = 0
    · rw [if_neg (by omega), wrap_succ i (by omega)]
      exact go (by have := hp0 ci; omega)
    · rw [if_pos (by omega), wrap_id ((i : Int) - 1) (by omega) (by omega), if_pos (by omega), if_pos (by omega), ← hp1 (by omega), wrap_succ i (by omega)]
      by_cases c3 : prev ≥ rd M (i : Int)
      · rw [if_pos c3]; exact .inr ⟨rfl, fun h => by have := h.1; omega⟩
      · rw [if_neg c3]; exact go (by omega)
theorem rv1 (n e0 e1 e2 : Int) (L0 L1 L2 M : List Int) (hM : M.length ≤ 4611686018427387904) (k : Nat) : ∀ (m i : Nat) (prev : Int) (f : Nat), i + m = M.length → f = k + m + 1 → -1 ≤ prev → (i = 0 → prev = -1) → (0 < i → prev = rd M ((i : Int) - 1)) →
    (ndjqref18_Valid.l101 f M (i : Int) n e0 e1 e2 L0 L1 L2 = ndjqref18_Valid.l0 k 2 n e0 e1 e2 L0 L1 L2 ∧ inc prev n (M.drop i)) ∨ (ndjqref18_Valid.l101 f M (i : Int) n e0 e1 e2 L0 L1 L2 = some false ∧ ¬ inc prev n (M.drop i))
  | 0, i, prev, f, hi, hf, _, _, _ => by
    obtain ⟨f, rfl⟩ : ∃ g, f = g + 1 := ⟨f - 1, by omega⟩
    obtain rfl : f = k := by omega
    have hd : M.drop i = [] := List.drop_eq_nil_of_le (by omega)
    rw [ndjqref18_Valid.l101, if_neg (by omega), hd]
    exact .inl ⟨rfl, trivial⟩
  | m + 1, i, prev, f, hi, hf, hp, hp0, hp1 => by
    obtain ⟨f, rfl⟩ : ∃ g, f = g + 1 := ⟨f - 1, by omega⟩
    have hlt : i < M.length := by omega
    rw [rd_drop M i hlt, ndjqref18_Valid.l101, if_pos (by omega), if_pos (by omega)]
    by_cases c0 : rd M (i : Int) < 0
    · rw [if_pos c0]; exact .inr ⟨rfl, fun h => by have := h.1; omega⟩
    by_cases c2 : rd M (i : Int) ≥ n
    · rw [if_neg c0, if_pos c2]; exact .inr ⟨rfl, fun h => by have := h.2.1; omega⟩
    rw [if_neg c0, if_neg c2]
    have go : prev < rd M (i : Int) → (ndjqref18_Valid.l101 f M ((i + 1 : Nat) : Int) n e0 e1 e2 L0 L1 L2 = ndjqref18_Valid.l0 k 2 n e0 e1 e2 L0 L1 L2 ∧ inc prev n (rd M (i : Int) :: M.drop (i + 1))) ∨ (ndjqref18_Valid.l101 f M ((i + 1 : Nat) : Int) n e0 e1 e2 L0 L1 L2 = some false ∧ ¬ inc prev n (rd M (i : Int) :: M.drop (i + 1))) := by
      intro hlt2
      rcases rv1 n e0 e1 e2 L0 L1 L2 M hM k m (i + 1) (rd M (i : Int)) f (by omega) (by omega) (by omega) (by omega) (fun _ => by congr 1; omega) with h | h
      · exact .inl ⟨h.1, by omega, by omega, h.2⟩
      · exact .inr ⟨h.1, fun q => h.2 q.2.2⟩
    by_cases ci : i = 0
    · rw [if_neg (by omega), wrap_succ i (by omega)]
      exact go (by have := hp0 ci; omega)
    · rw [if_pos (by omega), wrap_id ((i : Int) - 1) (by omega) (by omega), if_pos (by omega), if_pos (by omega), ← hp1 (by omega), wrap_succ i (by omega)]
      by_cases c3 : prev ≥ rd M (i : Int)
      · rw [if_pos c3]; exact .inr ⟨rfl, fun h => by have := h.1; omega⟩
      · rw [if_neg c3]; exact go (by omega)
theorem rv2 (n e0 e1 e2 : Int) (L0 L1 L2 M : List Int) (hM : M.length ≤ 4611686018427387904) (k : Nat) : ∀ (m i : Nat) (prev : Int) (f : Nat), i + m = M.length → f = k + m + 1 → -1 ≤ prev → (i = 0 → prev = -1) → (0 < i → prev = rd M ((i : Int) - 1)) →
    (ndjqref18_Valid.l201 f M (i : Int) n e0 e1 e2 L0 L1 L2 = ndjqref18_Valid.l0 k 3 n e0 e1 e2 L0 L1 L2 ∧ inc prev n (M.drop i)) ∨ (ndjqref18_Valid.l201 f M (i : Int) n e0 e1 e2 L0 L1 L2 = some false ∧ ¬ inc prev n (M.drop i))
  | 0, i, prev, f, hi, hf, _, _, _ => by
    obtain ⟨f, rfl⟩ : ∃ g, f = g + 1 := ⟨f - 1, by omega⟩
    obtain rfl : f = k := by omega
    have hd : M.drop i = [] := List.drop_eq_nil_of_le (by omega)
    rw [ndjqref18_Valid.l201, if_neg (by omega), hd]
    exact .inl ⟨rfl, trivial⟩
  | m + 1, i, prev, f, hi, hf, hp, hp0, hp1 => by
    obtain ⟨f, rfl⟩ : ∃ g, f = g + 1 := ⟨f - 1, by omega⟩
    have hlt : i < M.length := by omega
    rw [rd_drop M i hlt, ndjqref18_Valid.l201, if_pos (by omega), if_pos (by omega)]
    by_cases c0 : rd M (i : Int) < 0
    · rw [if_pos c0]; exact .inr ⟨rfl, fun h => by have := h.1; omega⟩
    by_cases c2 : rd M (i : Int) ≥ n
    · rw [if_neg c0, if_pos c2]; exact .inr ⟨rfl, fun h => by have := h.2.1; omega⟩
    rw [if_neg c0, if_neg c2]
    have go : prev < rd M (i : Int) → (ndjqref18_Valid.l201 f M ((i + 1 : Nat) : Int) n e0 e1 e2 L0 L1 L2 = ndjqref18_Valid.l0 k 3 n e0 e1 e2 L0 L1 L2 ∧ inc prev n (rd M (i : Int) :: M.drop (i + 1))) ∨ (ndjqref18_Valid.l201 f M ((i + 1 : Nat) : Int) n e0 e1 e2 L0 L1 L2 = some false ∧ ¬ inc prev n (rd M (i : Int) :: M.drop (i + 1))) := by
      intro hlt2
      rcases rv2 n e0 e1 e2 L0 L1 L2 M hM k m (i + 1) (rd M (i : Int)) f (by omega) (by omega) (by omega) (by omega) (fun _ => by congr 1; omega) with h | h
      · exact .inl ⟨h.1, by omega, by omega, h.2⟩
      · exact .inr ⟨h.1, fun q => h.2 q.2.2⟩
    by_cases ci : i = 0
    · rw [if_neg (by omega), wrap_succ i (by omega)]
      exact go (by have := hp0 ci; omega)
    · rw [if_pos (by omega), wrap_id ((i : Int) - 1) (by omega) (by omega), if_pos (by omega), if_pos (by omega), ← hp1 (by omega), wrap_succ i (by omega)]
      by_cases c3 : prev ≥ rd M (i : Int)
      · rw [if_pos c3]; exact .inr ⟨rfl, fun h => by have := h.1; omega⟩
      · rw [if_neg c3]; exact go (by omega)
theorem ref_valid_any (n e0 e1 e2 : Int) (L0 L1 L2 : List Int) (l0 : L0.length ≤ 4611686018427387904) (l1 : L1.length ≤ 4611686018427387904) (l2 : L2.length ≤ 4611686018427387904) (k : Nat) (hk : L0.length + L1.length + L2.length + 20 ≤ k) :
    (ndjqref18_Valid.f k n e0 e1 e2 L0 L1 L2 = some true ∧ vld n e0 e1 e2 L0 L1 L2) ∨ (ndjqref18_Valid.f k n e0 e1 e2 L0 L1 L2 = some false ∧ ¬ vld n e0 e1 e2 L0 L1 L2) := by
  obtain ⟨r, rfl⟩ : ∃ r, k = (r + 1 + L2.length + 1 + 1 + 1 + L1.length + 1 + 1 + 1 + L0.length + 1) + 1 + 1 + 1 := ⟨k - (L0.length + L1.length + L2.length + 11), by omega⟩
  unfold ndjqref18_Valid.f
  by_cases c0 : n < 0
  · rw [if_pos c0, ndjqref18_Valid.j0, if_pos rfl]; exact .inr ⟨rfl, fun h => by have := h.1.1; omega⟩
  by_cases c1 : n > 1048576
  · rw [if_neg c0, decide_eq_true c1, ndjqref18_Valid.j0, if_pos rfl]; exact .inr ⟨rfl, fun h => by have := h.1.2; omega⟩
  rw [if_neg c0, decide_eq_false c1, ndjqref18_Valid.j0, if_neg (by decide)]
  have z : ((0 : Nat) : Int) = 0 := rfl
  have v0 := fun (k : Nat) => rv0 n e0 e1 e2 L0 L1 L2 L0 (by omega) k L0.length 0 (-1) (k + L0.length + 1) (by omega) rfl (by omega) (fun _ => rfl) (by omega)
  have v1 := fun (k : Nat) => rv1 n e0 e1 e2 L0 L1 L2 L1 (by omega) k L1.length 0 (-1) (k + L1.length + 1) (by omega) rfl (by omega) (fun _ => rfl) (by omega)
  have v2 := fun (k : Nat) => rv2 n e0 e1 e2 L0 L1 L2 L2 (by omega) k L2.length 0 (-1) (k + L2.length + 1) (by omega) rfl (by omega) (fun _ => rfl) (by omega)
  simp only [z, List.drop_zero] at v0 v1 v2
  rw [ndjqref18_Valid.l0, if_pos (by decide), if_pos rfl]
  by_cases d0 : e0 < 0
  · rw [if_pos d0, ndjqref18_Valid.j2, if_pos rfl]; exact .inr ⟨rfl, fun h => by have := h.2.1; omega⟩
  rw [if_neg d0]
  by_cases d1 : e0 > 2
  · rw [decide_eq_true d1, ndjqref18_Valid.j2, if_pos rfl]; exact .inr ⟨rfl, fun h => by have := h.2.1; omega⟩
  rw [decide_eq_false d1, ndjqref18_Valid.j2, if_neg (by decide), if_pos rfl]
  rcases v0 (r + 1 + L2.length + 1 + 1 + 1 + L1.length + 1 + 1 + 1) with ⟨h, i0⟩ | ⟨h, i0⟩
  rotate_left
  · rw [h]; exact .inr ⟨rfl, fun q => i0 q.2.2.2.2.1⟩
  rw [h, ndjqref18_Valid.l0, if_pos (by decide), if_neg (by decide), if_pos rfl]
  by_cases d2 : e1 < 0
  · rw [if_pos d2, ndjqref18_Valid.j2, if_pos rfl]; exact .inr ⟨rfl, fun h => by have := h.2.2.1; omega⟩
  rw [if_neg d2]
  by_cases d3 : e1 > 2
  · rw [decide_eq_true d3, ndjqref18_Valid.j2, if_pos rfl]; exact .inr ⟨rfl, fun h => by have := h.2.2.1; omega⟩
  rw [decide_eq_false d3, ndjqref18_Valid.j2, if_neg (by decide), if_neg (by decide), if_pos rfl]
  rcases v1 (r + 1 + L2.length + 1 + 1 + 1) with ⟨h, i1⟩ | ⟨h, i1⟩
  rotate_left
  · rw [h]; exact .inr ⟨rfl, fun q => i1 q.2.2.2.2.2.1⟩
  rw [h, ndjqref18_Valid.l0, if_pos (by decide), if_neg (by decide), if_neg (by decide), if_pos rfl]
  by_cases d4 : e2 < 0
  · rw [if_pos d4, ndjqref18_Valid.j2, if_pos rfl]; exact .inr ⟨rfl, fun h => by have := h.2.2.2.1; omega⟩
  rw [if_neg d4]
  by_cases d5 : e2 > 2
  · rw [decide_eq_true d5, ndjqref18_Valid.j2, if_pos rfl]; exact .inr ⟨rfl, fun h => by have := h.2.2.2.1; omega⟩
  rw [decide_eq_false d5, ndjqref18_Valid.j2, if_neg (by decide), if_neg (by decide), if_neg (by decide), if_pos rfl]
  rcases v2 (r + 1) with ⟨h, i2⟩ | ⟨h, i2⟩
  rotate_left
  · rw [h]; exact .inr ⟨rfl, fun q => i2 q.2.2.2.2.2.2⟩
  rw [h, ndjqref18_Valid.l0, if_neg (by decide)]
  exact .inl ⟨rfl, ⟨by omega, by omega⟩, ⟨by omega, by omega⟩, ⟨by omega, by omega⟩, ⟨by omega, by omega⟩, i0, i1, i2⟩
/-- Both tell the same. -/
theorem both_valid (n e0 e1 e2 : Int) (L0 L1 L2 : List Int) (l0 : L0.length ≤ 4611686018427387904) (l1 : L1.length ≤ 4611686018427387904) (l2 : L2.length ≤ 4611686018427387904) (k k' : Nat) (hk : L0.length + L1.length + L2.length + 20 ≤ k) (hk' : L0.length + L1.length + L2.length + 20 ≤ k') :
    (automaton_Valid.f k n e0 e1 e2 L0 L1 L2 = some true ∧ ndjqref18_Valid.f k' n e0 e1 e2 L0 L1 L2 = some true ∧ vld n e0 e1 e2 L0 L1 L2) ∨ (automaton_Valid.f k n e0 e1 e2 L0 L1 L2 = some false ∧ ndjqref18_Valid.f k' n e0 e1 e2 L0 L1 L2 = some false ∧ ¬ vld n e0 e1 e2 L0 L1 L2) := by
  rcases ref_valid_any n e0 e1 e2 L0 L1 L2 l0 l1 l2 k' hk' with ⟨h, v⟩ | ⟨h, v⟩ <;> rcases valid_any n e0 e1 e2 L0 L1 L2 l0 l1 l2 k hk with ⟨h2, v2⟩ | h2
  · exact .inl ⟨h2, h, v⟩
  · obtain ⟨a, b0, b1, b2, i0, i1, i2⟩ := v
    have := valid_at n e0 e1 e2 L0 L1 L2 a.1 a.2 b0 b1 b2 i0 i1 i2 l0 l1 l2 k (by omega)
    rw [this] at h2
    cases h2
  · exact absurd v2 v
  · exact .inr ⟨h2, h, v⟩
theorem rdS_drop (xs : List S26) (j : Nat) (h : j < xs.length) : xs.drop j = rd_T26 xs (j : Int) :: xs.drop (j + 1) := by
  rw [List.drop_eq_getElem_cons h]
  unfold rd_T26
  rw [Int.toNat_natCast, List.getD_eq_getElem?_getD, List.getElem?_eq_getElem h]
  rfl
/-! ### scan.examine and the reference's sound; Entries -/
def lensS (x : S26) : Nat := x.f2.f0.length + x.f2.f1.length + x.f2.f2.length
def totS : List S26 → Int
  | [] => 0
  | x :: l => x.f0 + totS l
theorem totS_nonneg : ∀ (l : List S26), (∀ x ∈ l, vldS x) → 0 ≤ totS l
  | [], _ => by simp [totS]
  | x :: l, h => by
    have := totS_nonneg l (fun y hy => h y (List.mem_cons_of_mem _ hy))
    have h1 := (h x List.mem_cons_self).1.1
    simp only [totS]; omega
section
variable (l : List S26) (hl : l.length ≤ 1048576) (B : Nat) (hB : ∀ x ∈ l, lensS x ≤ B ∧ lensS x ≤ 52776558133248)
include hl hB
omit hl in
theorem valid_in (i : Nat) (hi : i < l.length) (k : Nat) (hk : B + 30 ≤ k) (x : S26) (hx : x = rd_T26 l (i : Int)) :
    (automaton_Valid.f k x.f0 x.f1.f0 x.f1.f1 x.f1.f2 x.f2.f0 x.f2.f1 x.f2.f2 = some true ∧ ndjqref18_Valid.f k x.f0 x.f1.f0 x.f1.f1 x.f1.f2 x.f2.f0 x.f2.f1 x.f2.f2 = some true ∧ vldS x) ∨
    (automaton_Valid.f k x.f0 x.f1.f0 x.f1.f1 x.f1.f2 x.f2.f0 x.f2.f1 x.f2.f2 = some false ∧ ndjqref18_Valid.f k x.f0 x.f1.f0 x.f1.f1 x.f1.f2 x.f2.f0 x.f2.f1 x.f2.f2 = some false ∧ ¬ vldS x) := by
  have hm : x ∈ l := by rw [hx]; exact List.mem_of_mem_drop (by rw [rdS_drop l i hi]; exact List.mem_cons_self ..)
  obtain ⟨h1, h2⟩ := hB x hm
  unfold lensS at h1 h2
  exact both_valid _ _ _ _ _ _ _ (by omega) (by omega) (by omega) k k (by omega) (by omega)
theorem ex_loop : ∀ (d i : Nat) (t : Int) (k : Nat), i + d = l.length → B + 30 + d < k → 0 ≤ t → t ≤ 1048577 →
    (scan_examine.l0 k t l l.length i = some 1 ∧ ∃ x ∈ l.drop i, ¬ vldS x) ∨ ((∀ x ∈ l.drop i, vldS x) ∧ scan_examine.l0 k t l l.length i = some (if t + totS (l.drop i) > 1048576 then 2 else 0))
  | 0, i, t, k, hi, hk, h0, h1 => by
    obtain ⟨k, rfl⟩ : ∃ j, k = j + 1 := ⟨k - 1, by omega⟩
    refine .inr ⟨by rw [List.drop_eq_nil_of_le (by omega)]; simp, ?_⟩
    simp only [scan_examine.l0]
    rw [if_neg (by omega), List.drop_eq_nil_of_le (by omega)]
    simp only [totS, Int.add_zero]
    split <;> rfl
  | d + 1, i, t, k, hi, hk, h0, h1 => by
    obtain ⟨k, rfl⟩ : ∃ j, k = j + 1 := ⟨k - 1, by omega⟩
    simp only [scan_examine.l0]
    rw [if_pos (by omega), if_pos (by omega), if_pos (by omega), rdS_drop l i (by omega)]
    rcases valid_in l B hB i (by omega) k (by omega) _ rfl with ⟨v, _, hv⟩ | ⟨v, _, hv⟩
    · rw [v]
      simp only [Option.bind_some]
      have hn := hv.1
      obtain ⟨t', ht'⟩ : ∃ t', t' = mn (wrap64 (t + (rd_T26 l (i : Int)).f0)) 1048577 := ⟨_, rfl⟩
      have e : wrap64 (t + (rd_T26 l (i : Int)).f0) = t + (rd_T26 l (i : Int)).f0 := wrap_id _ (by omega) (by omega)
      rw [if_pos trivial, wrap_succ i (by omega), ← ht']
      rw [e] at ht'
      have hb : 0 ≤ t' ∧ t' ≤ 1048577 := by rw [ht']; unfold mn; split <;> omega
      rcases ex_loop d (i + 1) t' k (by omega) (by omega) hb.1 hb.2 with ⟨h, x, hx, hx2⟩ | ⟨h, h2⟩
      · exact .inl ⟨h, x, List.mem_cons_of_mem _ hx, hx2⟩
      · refine .inr ⟨fun x hx => ?_, ?_⟩
        · rcases List.mem_cons.1 hx with rfl | hx
          · exact hv
          · exact h x hx
        · rw [h2]
          have hnn := totS_nonneg _ h
          have e2 : totS (rd_T26 l (i : Int) :: l.drop (i + 1)) = (rd_T26 l (i : Int)).f0 + totS (l.drop (i + 1)) := rfl
          have : (t' + totS (l.drop (i + 1)) > 1048576) ↔ (t + totS (rd_T26 l (i : Int) :: l.drop (i + 1)) > 1048576) := by
            rw [ht', e2]; unfold mn; split <;> omega
          by_cases q : t' + totS (l.drop (i + 1)) > 1048576
          · rw [if_pos q, if_pos (this.1 q)]
          · rw [if_neg q, if_neg (fun z => q (this.2 z))]
    · rw [v]
      simp only [Option.bind_some]
      rw [if_neg (by simp)]
      exact .inl ⟨rfl, _, List.mem_cons_self, hv⟩
theorem so_loop : ∀ (d i : Nat) (k : Nat), i + d = l.length → B + 30 + d < k →
    (ndjqref20_sound.l0 k l 0 i = some 1 ∧ ∃ x ∈ l.drop i, ¬ vldS x) ∨ ((∀ x ∈ l.drop i, vldS x) ∧ ∃ k', k ≤ k' + d + 1 ∧ ndjqref20_sound.l0 k l 0 i = ndjqref20_sound.l1 k' l 0 0)
  | 0, i, k, hi, hk => by
    obtain ⟨k, rfl⟩ : ∃ j, k = j + 1 := ⟨k - 1, by omega⟩
    refine .inr ⟨by rw [List.drop_eq_nil_of_le (by omega)]; simp, k, by omega, ?_⟩
    simp only [ndjqref20_sound.l0]
    rw [if_neg (by omega)]
  | d + 1, i, k, hi, hk => by
    obtain ⟨k, rfl⟩ : ∃ j, k = j + 1 := ⟨k - 1, by omega⟩
    simp only [ndjqref20_sound.l0]
    rw [if_pos (by omega), if_pos (by omega), rdS_drop l i (by omega)]
    rcases valid_in l B hB i (by omega) k (by omega) _ rfl with ⟨_, v, hv⟩ | ⟨_, v, hv⟩
    · rw [v]
      simp only [Option.bind_some]
      rw [if_pos trivial, wrap_succ i (by omega)]
      rcases so_loop d (i + 1) k (by omega) (by omega) with ⟨h, x, hx, hx2⟩ | ⟨h, k', hk', h2⟩
      · exact .inl ⟨h, x, List.mem_cons_of_mem _ hx, hx2⟩
      · refine .inr ⟨fun x hx => ?_, k', by omega, h2⟩
        rcases List.mem_cons.1 hx with rfl | hx
        · exact hv
        · exact h x hx
    · rw [v]
      simp only [Option.bind_some]
      rw [if_neg (by simp)]
      exact .inl ⟨rfl, _, List.mem_cons_self, hv⟩
omit hB in
theorem so_loop2 : ∀ (d i : Nat) (t : Int) (k : Nat), i + d = l.length → d < k → 0 ≤ t → t ≤ 1048576 → (∀ x ∈ l.drop i, vldS x) →
    ndjqref20_sound.l1 k l t i = some (if t + totS (l.drop i) > 1048576 then 2 else 0)
  | 0, i, t, k, hi, hk, h0, h1, hv => by
    obtain ⟨k, rfl⟩ : ∃ j, k = j + 1 := ⟨k - 1, by omega⟩
    simp only [ndjqref20_sound.l1]
    rw [if_neg (by omega), List.drop_eq_nil_of_le (by omega)]
    simp only [totS, Int.add_zero]
    rw [if_neg (by omega)]
  | d + 1, i, t, k, hi, hk, h0, h1, hv => by
    obtain ⟨k, rfl⟩ : ∃ j, k = j + 1 := ⟨k - 1, by omega⟩
    rw [rdS_drop l i (by omega)] at hv ⊢
    have hn := (hv _ List.mem_cons_self).1
    have hr : ∀ x ∈ l.drop (i + 1), vldS x := fun x hx => hv x (List.mem_cons_of_mem _ hx)
    have hnn := totS_nonneg _ hr
    have e2 : totS (rd_T26 l (i : Int) :: l.drop (i + 1)) = (rd_T26 l (i : Int)).f0 + totS (l.drop (i + 1)) := rfl
    simp only [ndjqref20_sound.l1]
    have e : wrap64 (t + (rd_T26 l (i : Int)).f0) = t + (rd_T26 l (i : Int)).f0 := wrap_id _ (by omega) (by omega)
    rw [if_pos (by omega), if_pos (by omega), e, wrap_succ i (by omega)]
    by_cases q : t + (rd_T26 l (i : Int)).f0 > 1048576
    · rw [if_pos q, if_pos (by rw [e2]; omega)]
    · rw [if_neg q, so_loop2 d (i + 1) _ k (by omega) (by omega) (by omega) (by omega) hr]
      by_cases q2 : t + (rd_T26 l (i : Int)).f0 + totS (l.drop (i + 1)) > 1048576
      · rw [if_pos q2, if_pos (by rw [e2]; omega)]
      · rw [if_neg q2, if_neg (by rw [e2]; omega)]
/-- Both tell the same; without an error, all are valid, and no more than an input's length in all. -/
theorem examine_both (k : Nat) (hk : B + 2 * l.length + 100 < k) : ∃ r, scan_examine.f k l = some r ∧ ndjqref20_sound.f k l = some r ∧ (r = 0 → (∀ x ∈ l, vldS x) ∧ totS l ≤ 1048576) := by
  have a := ex_loop l hl B hB l.length 0 0 k (by omega) (by omega) (by omega) (by omega)
  have b := so_loop l hl B hB l.length 0 k (by omega) (by omega)
  rw [show ((0 : Nat) : Int) = 0 from rfl, List.drop_zero] at a b
  unfold scan_examine.f ndjqref20_sound.f
  rcases b with ⟨b1, x, hx, hx2⟩ | ⟨b1, k', hk', b2⟩
  · rcases a with ⟨a1, _⟩ | ⟨a1, _⟩
    · exact ⟨1, a1, b1, fun h => absurd h (by decide)⟩
    · exact absurd (a1 x hx) hx2
  · rcases a with ⟨_, x, hx, hx2⟩ | ⟨_, a2⟩
    · exact absurd (b1 x hx) hx2
    · have c := so_loop2 l hl l.length 0 0 k' (by omega) (by omega) (by omega) (by omega) (by rw [List.drop_zero]; exact b1)
      rw [show ((0 : Nat) : Int) = 0 from rfl, List.drop_zero] at c
      refine ⟨_, a2, by rw [b2, c], fun h => ⟨b1, ?_⟩⟩
      by_cases q : 0 + totS l > 1048576
      · rw [if_pos q] at h; exact absurd h (by decide)
      · omega
end
/-! ### the sanity check -/
theorem awake_60 : ndjqlaw20_awake.f 60 = some true := by decide +kernel
theorem awake_at : ∀ (d k : Nat), k = 60 + d → ndjqlaw20_awake.f k = some true
  | 0, k, h => by rw [show k = 60 by omega]; exact awake_60
  | d + 1, k, h => by
    obtain ⟨k, rfl⟩ : ∃ j, k = j + 1 := ⟨k - 1, by omega⟩
    exact ndjqlaw20_awake.mono k true (awake_at d k (by omega))
end Go.Proofs.YtkhnifehcnlpjaaDoor.Pl
