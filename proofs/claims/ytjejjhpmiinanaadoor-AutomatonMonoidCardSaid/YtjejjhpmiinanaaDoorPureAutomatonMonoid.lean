/- AutomatonMonoid's pure law: Compose is associative for all valid summaries, also those of no string, and Empty is its unit; where a summary is not valid, or all their line feeds are more than 150, the sanity check alone remains. -/
import Derived.Test.YtjejjhpmiinanaaDoorQAutomatonMonoidx7
import Derived.Laws.BitsLemmas
import Derived.OpenShut
namespace Go.Proofs.YtjejjhpmiinanaaDoor.Pure
open Go.RowKit Go.Proofs.YtjejjhpmiinanaaDoor.QAutomatonMonoid Go.Proofs.YtjejjhpmiinanaaDoorW.PrintWords Go.Proofs.YtjejjhpmiinanaaDoorW.PrintLast
set_option linter.unusedVariables false
set_option linter.unusedSimpArgs false
/-! ### numbers and the list of a string's bytes -/
theorem wrap_id (n : Int) (h : -9223372036854775808 ≤ n) (h' : n ≤ 9223372036854775807) : wrap64 n = n := by unfold wrap64; omega
theorem wrap_nat (a b c : Nat) (h : a + b = c) (hc : c ≤ 4611686018427387904) : wrap64 ((a : Int) + (b : Int)) = (c : Int) := by rw [wrap_id _ (by omega) (by omega)]; omega
theorem wrap_succ (a : Nat) (hc : a ≤ 4611686018427387904) : wrap64 ((a : Int) + 1) = ((a + 1 : Nat) : Int) := by rw [wrap_id _ (by omega) (by omega)]; omega
def nm (s : ByteArray) : List Int := s.data.toList.map fun c => (c.toNat : Int)
theorem nm_bytesOf (s : ByteArray) : bytesOf s = nm s := rfl
theorem nm_len (s : ByteArray) : (nm s).length = s.size := by unfold nm; rw [List.length_map, Array.length_toList]; rfl
theorem nm_get (s : ByteArray) (j : Nat) (h : j < s.size) : (nm s)[j]? = some (bt s (j : Int)) := by
  have h' : j < s.data.toList.length := by rw [Array.length_toList]; exact h
  unfold nm bt
  rw [List.getElem?_map, List.getElem?_eq_getElem h', dif_pos (show ((j : Int)).toNat < s.size from h)]
  rfl
theorem nm_drop (s : ByteArray) (j : Nat) (h : j < s.size) : (nm s).drop j = bt s (j : Int) :: (nm s).drop (j + 1) := by
  have hl := nm_len s
  rw [List.drop_eq_getElem_cons (by omega)]
  congr 1
  have := nm_get s j h
  rw [List.getElem?_eq_getElem (by omega)] at this
  exact Option.some.inj this
theorem nm_range (s : ByteArray) : ∀ c ∈ nm s, 0 ≤ c ∧ c ≤ 255 := by
  intro c hc
  unfold nm at hc
  obtain ⟨u, _, rfl⟩ := List.mem_map.1 hc
  have := u.toNat_lt
  omega
theorem nm_inj {s t : ByteArray} (h : nm s = nm t) : s = t := by
  unfold nm at h
  have := (List.map_inj_right (fun (x y : UInt8) e => UInt8.toNat_inj.1 (by omega))).1 h
  have h2 : s.data = t.data := Array.toList_inj.1 this
  cases s; cases t; simp_all
theorem nm_strOf (l : List Int) (h : ∀ c ∈ l, 0 ≤ c ∧ c ≤ 255) : nm (strOfNums l) = l := by
  unfold nm
  rw [strOfNums_data, List.map_map]
  conv => rhs; rw [← List.map_id l]
  apply List.map_congr_left
  intro c hc
  have := h c hc
  simp only [Function.comp, id]
  rw [UInt8.toNat_ofNat']
  omega
theorem nm_extract (s : ByteArray) (a b : Nat) : nm (s.extract a b) = ((nm s).take b).drop a := by
  unfold nm
  have e : (s.extract a b).data.toList = (s.data.toList.take b).drop a := by
    rw [ByteArray.data_extract, Array.toList_extract, List.extract_eq_take_drop, List.drop_take]
  rw [e, List.map_drop, List.map_take]
theorem nm_append (s t : ByteArray) : nm (s ++ t) = nm s ++ nm t := by unfold nm; rw [ByteArray.data_append, Array.toList_append, List.map_append]
theorem rd_drop (xs : List Int) (j : Nat) (h : j < xs.length) : xs.drop j = rd xs (j : Int) :: xs.drop (j + 1) := by
  rw [List.drop_eq_getElem_cons h]
  congr 1
  unfold rd
  rw [Int.toNat_natCast, List.getD_eq_getElem?_getD, List.getElem?_eq_getElem h]
  rfl
/-! ### the automaton over a list of bytes -/
def stp (s b : Int) : Int × Bool := if s = 0 then (if b = 34 then (1, false) else if b = 10 then (0, true) else (0, false)) else if s = 1 then (if b = 34 then (0, false) else if b = 92 then (2, false) else (1, false)) else if s = 2 then (1, false) else (0, false)
/-- The state behind a list of bytes, and the offsets of the line feeds that end a record; the first byte has the offset 'at'. -/
def scanL : Int → Nat → List Int → Int × List Int
  | st, _, [] => (st, [])
  | st, i, b :: t => ((scanL (stp st b).1 (i + 1) t).1, if (stp st b).2 = true then (i : Int) :: (scanL (stp st b).1 (i + 1) t).2 else (scanL (stp st b).1 (i + 1) t).2)
theorem step_at (s b : Int) : automaton_Step.f s b = some (stp s b) := by
  unfold automaton_Step.f stp
  repeat' split
  all_goals rfl
theorem scanL_len : ∀ (l : List Int) (st : Int) (i : Nat), (scanL st i l).2.length ≤ l.length
  | [], _, _ => by simp [scanL]
  | b :: t, st, i => by
    have := scanL_len t (stp st b).1 (i + 1)
    simp only [scanL, List.length_cons]
    split
    · rw [List.length_cons]; omega
    · omega
/-- Where a line feed ends a record: in the list, behind the one before. -/
theorem scanL_mem : ∀ (l : List Int) (st : Int) (i : Nat), ∀ x ∈ (scanL st i l).2, (i : Int) ≤ x ∧ x < (i : Int) + l.length
  | [], _, _ => by simp [scanL]
  | b :: t, st, i => by
    intro x hx
    have ih := scanL_mem t (stp st b).1 (i + 1)
    simp only [scanL] at hx
    rw [List.length_cons]
    split at hx
    · rcases List.mem_cons.1 hx with rfl | hx
      · omega
      · have := ih x hx; omega
    · have := ih x hx; omega
/-! ### Summarize: each state is read through the string -/
theorem stp_range (s b : Int) : 0 ≤ (stp s b).1 ∧ (stp s b).1 ≤ 2 := by
  unfold stp
  repeat' split
  all_goals constructor <;> decide
theorem scanL_range : ∀ (l : List Int) (st : Int) (i : Nat), 0 ≤ st → st ≤ 2 → 0 ≤ (scanL st i l).1 ∧ (scanL st i l).1 ≤ 2
  | [], st, i, h0, h2 => by simp only [scanL]; exact ⟨h0, h2⟩
  | b :: t, st, i, h0, h2 => by simp only [scanL]; exact scanL_range t _ _ (stp_range st b).1 (stp_range st b).2
theorem sum0 (s : ByteArray) (hs : s.size ≤ 1048576) (o n e1 e2 : Int) (L1 L2 : List Int) (k : Nat) : ∀ (m i : Nat) (e0 : Int) (L0 : List Int) (f : Nat), i + m = s.size → L0.length ≤ i → f = k + m + 1 →
    automaton_Summarize.l1 f s 0 o (s.size : Int) (i : Int) n e0 e1 e2 L0 L1 L2 = automaton_Summarize.l0 k s (wrap64 (o + 1)) n (scanL e0 i ((nm s).drop i)).1 e1 e2 (L0 ++ (scanL e0 i ((nm s).drop i)).2) L1 L2
  | 0, i, e0, L0, f, hi, hL, hf => by
    obtain ⟨f, rfl⟩ : ∃ g, f = g + 1 := ⟨f - 1, by omega⟩
    obtain rfl : f = k := by omega
    rw [automaton_Summarize.l1]
    rw [if_neg (by omega), List.drop_eq_nil_of_le (by rw [nm_len]; omega)]
    simp only [scanL, List.append_nil]
  | m + 1, i, e0, L0, f, hi, hL, hf => by
    obtain ⟨f, rfl⟩ : ∃ g, f = g + 1 := ⟨f - 1, by omega⟩
    have hlt : i < s.size := by omega
    rw [automaton_Summarize.l1]
    rw [if_pos (by omega), if_pos rfl, if_pos (by omega), if_pos (by omega), step_at, Option.bind_some, nm_drop s i hlt]
    by_cases c : (stp e0 (bt s (i : Int))).2 = true
    · rw [if_pos c, if_pos (by omega), wrap_succ i (by omega)]
      rw [sum0 s hs o n e1 e2 L1 L2 k m (i + 1) _ (L0 ++ [(i : Int)]) f (by omega) (by rw [List.length_append, List.length_singleton]; omega) (by omega)]
      simp only [scanL]
      rw [if_pos c, List.append_assoc]
      rfl
    · rw [if_neg c, wrap_succ i (by omega)]
      rw [sum0 s hs o n e1 e2 L1 L2 k m (i + 1) _ L0 f (by omega) (by omega) (by omega)]
      simp only [scanL]
      rw [if_neg c]
theorem sum1 (s : ByteArray) (hs : s.size ≤ 1048576) (o n e0 e2 : Int) (L0 L2 : List Int) (k : Nat) : ∀ (m i : Nat) (e1 : Int) (L1 : List Int) (f : Nat), i + m = s.size → L1.length ≤ i → f = k + m + 1 →
    automaton_Summarize.l1 f s 1 o (s.size : Int) (i : Int) n e0 e1 e2 L0 L1 L2 = automaton_Summarize.l0 k s (wrap64 (o + 1)) n e0 (scanL e1 i ((nm s).drop i)).1 e2 L0 (L1 ++ (scanL e1 i ((nm s).drop i)).2) L2
  | 0, i, e1, L1, f, hi, hL, hf => by
    obtain ⟨f, rfl⟩ : ∃ g, f = g + 1 := ⟨f - 1, by omega⟩
    obtain rfl : f = k := by omega
    rw [automaton_Summarize.l1]
    rw [if_neg (by omega), List.drop_eq_nil_of_le (by rw [nm_len]; omega)]
    simp only [scanL, List.append_nil]
  | m + 1, i, e1, L1, f, hi, hL, hf => by
    obtain ⟨f, rfl⟩ : ∃ g, f = g + 1 := ⟨f - 1, by omega⟩
    have hlt : i < s.size := by omega
    rw [automaton_Summarize.l1]
    rw [if_pos (by omega), if_neg (by decide), if_pos rfl, if_pos (by omega), if_pos (by omega), step_at, Option.bind_some, nm_drop s i hlt]
    by_cases c : (stp e1 (bt s (i : Int))).2 = true
    · rw [if_pos c, if_pos (by omega), wrap_succ i (by omega)]
      rw [sum1 s hs o n e0 e2 L0 L2 k m (i + 1) _ (L1 ++ [(i : Int)]) f (by omega) (by rw [List.length_append, List.length_singleton]; omega) (by omega)]
      simp only [scanL]
      rw [if_pos c, List.append_assoc]
      rfl
    · rw [if_neg c, wrap_succ i (by omega)]
      rw [sum1 s hs o n e0 e2 L0 L2 k m (i + 1) _ L1 f (by omega) (by omega) (by omega)]
      simp only [scanL]
      rw [if_neg c]
theorem sum2 (s : ByteArray) (hs : s.size ≤ 1048576) (o n e0 e1 : Int) (L0 L1 : List Int) (k : Nat) : ∀ (m i : Nat) (e2 : Int) (L2 : List Int) (f : Nat), i + m = s.size → L2.length ≤ i → f = k + m + 1 →
    automaton_Summarize.l1 f s 2 o (s.size : Int) (i : Int) n e0 e1 e2 L0 L1 L2 = automaton_Summarize.l0 k s (wrap64 (o + 1)) n e0 e1 (scanL e2 i ((nm s).drop i)).1 L0 L1 (L2 ++ (scanL e2 i ((nm s).drop i)).2)
  | 0, i, e2, L2, f, hi, hL, hf => by
    obtain ⟨f, rfl⟩ : ∃ g, f = g + 1 := ⟨f - 1, by omega⟩
    obtain rfl : f = k := by omega
    rw [automaton_Summarize.l1]
    rw [if_neg (by omega), List.drop_eq_nil_of_le (by rw [nm_len]; omega)]
    simp only [scanL, List.append_nil]
  | m + 1, i, e2, L2, f, hi, hL, hf => by
    obtain ⟨f, rfl⟩ : ∃ g, f = g + 1 := ⟨f - 1, by omega⟩
    have hlt : i < s.size := by omega
    rw [automaton_Summarize.l1]
    rw [if_pos (by omega), if_neg (by decide), if_neg (by decide), if_pos rfl, if_pos (by omega), if_pos (by omega), step_at, Option.bind_some, nm_drop s i hlt]
    by_cases c : (stp e2 (bt s (i : Int))).2 = true
    · rw [if_pos c, if_pos (by omega), wrap_succ i (by omega)]
      rw [sum2 s hs o n e0 e1 L0 L1 k m (i + 1) _ (L2 ++ [(i : Int)]) f (by omega) (by rw [List.length_append, List.length_singleton]; omega) (by omega)]
      simp only [scanL]
      rw [if_pos c, List.append_assoc]
      rfl
    · rw [if_neg c, wrap_succ i (by omega)]
      rw [sum2 s hs o n e0 e1 L0 L1 k m (i + 1) _ L2 f (by omega) (by omega) (by omega)]
      simp only [scanL]
      rw [if_neg c]
theorem summarize_at (s : ByteArray) (hs : s.size ≤ 1048576) (k : Nat) (hk : 3 * s.size + 10 ≤ k) : automaton_Summarize.f k s = some ((s.size : Int), (scanL 0 0 (nm s)).1, (scanL 1 0 (nm s)).1, (scanL 2 0 (nm s)).1, (scanL 0 0 (nm s)).2, (scanL 1 0 (nm s)).2, (scanL 2 0 (nm s)).2, 0) := by
  obtain ⟨r, rfl⟩ : ∃ r, k = r + 1 + s.size + 1 + 1 + s.size + 1 + 1 + s.size + 1 + 1 := ⟨k - (3 * s.size + 7), by omega⟩
  unfold automaton_Summarize.f
  rw [if_neg (by omega), automaton_Empty.f, Option.bind_some]
  have z : ((0 : Nat) : Int) = 0 := rfl
  have s0 := fun (k : Nat) => sum0 s hs 0 (s.size : Int) 1 2 [] [] k s.size 0 0 [] (k + s.size + 1) (by omega) (by simp) rfl
  have s1 := fun (e0 : Int) (L0 : List Int) (k : Nat) => sum1 s hs 1 (s.size : Int) e0 2 L0 [] k s.size 0 1 [] (k + s.size + 1) (by omega) (by simp) rfl
  have s2 := fun (e0 e1 : Int) (L0 L1 : List Int) (k : Nat) => sum2 s hs 2 (s.size : Int) e0 e1 L0 L1 k s.size 0 2 [] (k + s.size + 1) (by omega) (by simp) rfl
  simp only [z, List.drop_zero, List.nil_append] at s0 s1 s2
  rw [automaton_Summarize.l0, if_pos (by decide), s0, show wrap64 (0 + 1) = 1 by decide +kernel]
  rw [automaton_Summarize.l0, if_pos (by decide), s1, show wrap64 (1 + 1) = 2 by decide +kernel]
  rw [automaton_Summarize.l0, if_pos (by decide), s2, show wrap64 (2 + 1) = 3 by decide +kernel]
  rw [automaton_Summarize.l0, if_neg (by decide)]
theorem summarize_long (s : ByteArray) (hs : 1048576 < s.size) (k : Nat) : automaton_Summarize.f k s = some (0, 0, 0, 0, [], [], [], 2) := by
  unfold automaton_Summarize.f
  rw [if_pos (by omega)]
/-! ### keep.Ints: a list is the same as itself -/
theorem ints_loop (l : List Int) (hl : l.length ≤ 4611686018427387904) : ∀ (d : Nat) (i : Int) (k : Nat), 0 ≤ i → (l.length : Int) - i ≤ d → d < k → i ≤ l.length → ndjqkeep_Ints.l0 k l l i = some true
  | 0, i, k, h0, hd, hk, hi => by
    obtain ⟨k, rfl⟩ : ∃ j, k = j + 1 := ⟨k - 1, by omega⟩
    simp only [ndjqkeep_Ints.l0]
    rw [if_neg (by omega)]
  | d + 1, i, k, h0, hd, hk, hi => by
    obtain ⟨k, rfl⟩ : ∃ j, k = j + 1 := ⟨k - 1, by omega⟩
    simp only [ndjqkeep_Ints.l0]
    by_cases c : i < (l.length : Int)
    · rw [if_pos c, if_pos h0, if_pos c, if_pos trivial, wrap_id (i + 1) (by omega) (by omega)]
      exact ints_loop l hl d (i + 1) k (by omega) (by omega) (by omega) (by omega)
    · rw [if_neg c]
theorem ints_same (l : List Int) (hl : l.length ≤ 4611686018427387904) (k : Nat) (hk : l.length < k) : ndjqkeep_Ints.f k l l = some true := by
  unfold ndjqkeep_Ints.f
  rw [if_pos rfl]
  exact ints_loop l hl l.length 0 k (by omega) (by omega) hk (by omega)
/-! ### keep.Summaries: a summary is the same as itself -/
theorem summaries_same (n e0 e1 e2 : Int) (L0 L1 L2 : List Int) (h0 : L0.length ≤ 4611686018427387904) (h1 : L1.length ≤ 4611686018427387904) (h2 : L2.length ≤ 4611686018427387904) (k : Nat) (k0 : L0.length + 10 < k) (k1 : L1.length + 10 < k) (k2 : L2.length + 10 < k) :
    ndjqkeep_Summaries.f k n e0 e1 e2 L0 L1 L2 n e0 e1 e2 L0 L1 L2 = some true := by
  obtain ⟨k, rfl⟩ : ∃ r, k = r + 1 + 1 + 1 + 1 + 1 := ⟨k - 5, by omega⟩
  unfold ndjqkeep_Summaries.f
  rw [if_pos rfl, show (!(e0 == e0) || (!(e1 == e1) || (!(e2 == e2)))) = false by simp, ndjqkeep_Summaries.j0, if_neg (by decide)]
  rw [ndjqkeep_Summaries.l0, if_pos (by decide), if_pos rfl, ints_same L0 h0 _ (by omega), Option.bind_some, if_pos rfl]
  rw [ndjqkeep_Summaries.l0, if_pos (by decide), if_neg (by decide), if_pos rfl, ints_same L1 h1 _ (by omega), Option.bind_some, if_pos rfl]
  rw [ndjqkeep_Summaries.l0, if_pos (by decide), if_neg (by decide), if_neg (by decide), if_pos rfl, ints_same L2 h2 _ (by omega), Option.bind_some, if_pos rfl]
  rw [ndjqkeep_Summaries.l0, if_neg (by decide)]
/-! ### reading on: two pieces; offsets grow strictly -/
theorem scanL_append : ∀ (l r : List Int) (st : Int) (i : Nat), scanL st i (l ++ r) = ((scanL (scanL st i l).1 (i + l.length) r).1, (scanL st i l).2 ++ (scanL (scanL st i l).1 (i + l.length) r).2)
  | [], r, st, i => by simp only [List.nil_append, scanL, List.length_nil, Nat.add_zero]
  | b :: t, r, st, i => by
    have ih := scanL_append t r (stp st b).1 (i + 1)
    rw [show i + 1 + t.length = i + (t.length + 1) by omega] at ih
    simp only [List.cons_append, scanL, ih, List.length_cons]
    by_cases c : (stp st b).2 = true
    · rw [if_pos c, if_pos c, List.cons_append]
    · rw [if_neg c, if_neg c]
theorem scanL_shift : ∀ (l : List Int) (st : Int) (i d : Nat), scanL st (d + i) l = ((scanL st i l).1, (scanL st i l).2.map (fun x => (d : Int) + x))
  | [], st, i, d => by simp only [scanL, List.map_nil]
  | b :: t, st, i, d => by
    have ih := scanL_shift t (stp st b).1 (i + 1) d
    rw [show d + (i + 1) = d + i + 1 by omega] at ih
    simp only [scanL, ih]
    by_cases c : (stp st b).2 = true
    · rw [if_pos c, if_pos c, List.map_cons, show ((d + i : Nat) : Int) = (d : Int) + (i : Int) by omega]
    · rw [if_neg c, if_neg c]
/-- Strictly growing, behind 'last', below n. -/
def inc : Int → Int → List Int → Prop
  | _, _, [] => True
  | last, n, x :: t => last < x ∧ x < n ∧ inc x n t
theorem inc_weak : ∀ (l : List Int) (a b n : Int), a ≤ b → inc b n l → inc a n l
  | [], _, _, _, _, _ => trivial
  | x :: t, a, b, n, h, hi => ⟨by have := hi.1; omega, hi.2.1, hi.2.2⟩
theorem scanL_inc : ∀ (l : List Int) (st : Int) (i : Nat), inc ((i : Int) - 1) ((i : Int) + l.length) (scanL st i l).2
  | [], _, _ => trivial
  | b :: t, st, i => by
    have ih := scanL_inc t (stp st b).1 (i + 1)
    rw [show (((i + 1 : Nat) : Int) - 1) = (i : Int) by omega, show (((i + 1 : Nat) : Int) + (t.length : Int)) = (i : Int) + ((t.length + 1 : Nat) : Int) by omega] at ih
    simp only [scanL, List.length_cons]
    by_cases c : (stp st b).2 = true
    · rw [if_pos c]; exact ⟨by omega, by omega, ih⟩
    · rw [if_neg c]; exact inc_weak _ _ _ _ (by omega) ih
theorem inc_nonneg : ∀ (l : List Int) (a n : Int), -1 ≤ a → inc a n l → ∀ x ∈ l, 0 ≤ x ∧ x < n
  | [], _, _, _, _ => by simp
  | y :: t, a, n, h, hi => by
    intro x hx
    rcases List.mem_cons.1 hx with rfl | hx
    · exact ⟨by have := hi.1; omega, hi.2.1⟩
    · exact inc_nonneg t y n (by have := hi.1; omega) hi.2.2 x hx
/-! ### Valid -/
theorem known_at (e : Int) (h0 : 0 ≤ e) (h2 : e ≤ 2) : automaton_known.f e = some true := by
  unfold automaton_known.f
  rw [if_pos (by omega), decide_eq_true h2]
theorem valid_loop0 (n e0 e1 e2 : Int) (L0 L1 L2 M P0 P1 P2 : List Int) (hM : M.length ≤ 4611686018427387904) (h0 : 0 ≤ e0) (h2 : e0 ≤ 2) (k : Nat) : ∀ (m i : Nat) (last : Int) (f : Nat), i + m = M.length → inc last n (M.drop i) → f = k + m + 1 →
    automaton_Valid.l1 f last M (M.length : Int) (i : Int) n e0 e1 e2 L0 L1 L2 P0 P1 P2 = automaton_Valid.l0 k 1 n e0 e1 e2 L0 L1 L2 P0 P1 P2
  | 0, i, last, f, hi, hc, hf => by
    obtain ⟨f, rfl⟩ : ∃ g, f = g + 1 := ⟨f - 1, by omega⟩
    obtain rfl : f = k := by omega
    rw [automaton_Valid.l1, if_neg (by omega), known_at _ h0 h2, Option.bind_some, if_pos rfl]
  | m + 1, i, last, f, hi, hc, hf => by
    obtain ⟨f, rfl⟩ : ∃ g, f = g + 1 := ⟨f - 1, by omega⟩
    have hlt : i < M.length := by omega
    rw [rd_drop M i hlt] at hc
    obtain ⟨c1, c2, c3⟩ := hc
    rw [automaton_Valid.l1, if_pos (by omega), if_pos (by omega), if_pos (by omega), if_neg (by omega), if_neg (by omega), wrap_succ i (by omega)]
    exact valid_loop0 n e0 e1 e2 L0 L1 L2 M P0 P1 P2 hM h0 h2 k m (i + 1) _ f (by omega) c3 (by omega)
theorem valid_loop1 (n e0 e1 e2 : Int) (L0 L1 L2 M P0 P1 P2 : List Int) (hM : M.length ≤ 4611686018427387904) (h0 : 0 ≤ e1) (h2 : e1 ≤ 2) (k : Nat) : ∀ (m i : Nat) (last : Int) (f : Nat), i + m = M.length → inc last n (M.drop i) → f = k + m + 1 →
    automaton_Valid.l101 f last M (M.length : Int) (i : Int) n e0 e1 e2 L0 L1 L2 P0 P1 P2 = automaton_Valid.l0 k 2 n e0 e1 e2 L0 L1 L2 P0 P1 P2
  | 0, i, last, f, hi, hc, hf => by
    obtain ⟨f, rfl⟩ : ∃ g, f = g + 1 := ⟨f - 1, by omega⟩
    obtain rfl : f = k := by omega
    rw [automaton_Valid.l101, if_neg (by omega), known_at _ h0 h2, Option.bind_some, if_pos rfl]
  | m + 1, i, last, f, hi, hc, hf => by
    obtain ⟨f, rfl⟩ : ∃ g, f = g + 1 := ⟨f - 1, by omega⟩
    have hlt : i < M.length := by omega
    rw [rd_drop M i hlt] at hc
    obtain ⟨c1, c2, c3⟩ := hc
    rw [automaton_Valid.l101, if_pos (by omega), if_pos (by omega), if_pos (by omega), if_neg (by omega), if_neg (by omega), wrap_succ i (by omega)]
    exact valid_loop1 n e0 e1 e2 L0 L1 L2 M P0 P1 P2 hM h0 h2 k m (i + 1) _ f (by omega) c3 (by omega)
theorem valid_loop2 (n e0 e1 e2 : Int) (L0 L1 L2 M P0 P1 P2 : List Int) (hM : M.length ≤ 4611686018427387904) (h0 : 0 ≤ e2) (h2 : e2 ≤ 2) (k : Nat) : ∀ (m i : Nat) (last : Int) (f : Nat), i + m = M.length → inc last n (M.drop i) → f = k + m + 1 →
    automaton_Valid.l201 f last M (M.length : Int) (i : Int) n e0 e1 e2 L0 L1 L2 P0 P1 P2 = automaton_Valid.l0 k 3 n e0 e1 e2 L0 L1 L2 P0 P1 P2
  | 0, i, last, f, hi, hc, hf => by
    obtain ⟨f, rfl⟩ : ∃ g, f = g + 1 := ⟨f - 1, by omega⟩
    obtain rfl : f = k := by omega
    rw [automaton_Valid.l201, if_neg (by omega), known_at _ h0 h2, Option.bind_some, if_pos rfl]
  | m + 1, i, last, f, hi, hc, hf => by
    obtain ⟨f, rfl⟩ : ∃ g, f = g + 1 := ⟨f - 1, by omega⟩
    have hlt : i < M.length := by omega
    rw [rd_drop M i hlt] at hc
    obtain ⟨c1, c2, c3⟩ := hc
    rw [automaton_Valid.l201, if_pos (by omega), if_pos (by omega), if_pos (by omega), if_neg (by omega), if_neg (by omega), wrap_succ i (by omega)]
    exact valid_loop2 n e0 e1 e2 L0 L1 L2 M P0 P1 P2 hM h0 h2 k m (i + 1) _ f (by omega) c3 (by omega)
theorem valid_at (n e0 e1 e2 : Int) (L0 L1 L2 : List Int) (hn : 0 ≤ n) (hn2 : n ≤ 1048576) (a0 : 0 ≤ e0 ∧ e0 ≤ 2) (a1 : 0 ≤ e1 ∧ e1 ≤ 2) (a2 : 0 ≤ e2 ∧ e2 ≤ 2) (i0 : inc (-1) n L0) (i1 : inc (-1) n L1) (i2 : inc (-1) n L2)
    (l0 : L0.length ≤ 4611686018427387904) (l1 : L1.length ≤ 4611686018427387904) (l2 : L2.length ≤ 4611686018427387904) (k : Nat) (hk : L0.length + L1.length + L2.length + 20 ≤ k) : automaton_Valid.f k n e0 e1 e2 L0 L1 L2 = some true := by
  obtain ⟨r, rfl⟩ : ∃ r, k = (r + 1 + L2.length + 1 + 1 + L1.length + 1 + 1 + L0.length + 1) + 1 + 1 := ⟨k - (L0.length + L1.length + L2.length + 8), by omega⟩
  unfold automaton_Valid.f
  rw [if_neg (by omega), decide_eq_false (by omega), automaton_Valid.j0, if_neg (by decide)]
  have z : ((0 : Nat) : Int) = 0 := rfl
  have v0 := fun (k : Nat) => valid_loop0 n e0 e1 e2 L0 L1 L2 L0 L0 L1 L2 (by omega) a0.1 a0.2 k L0.length 0 (-1) (k + L0.length + 1) (by omega) i0 rfl
  have v1 := fun (k : Nat) => valid_loop1 n e0 e1 e2 L0 L1 L2 L1 L0 L1 L2 (by omega) a1.1 a1.2 k L1.length 0 (-1) (k + L1.length + 1) (by omega) i1 rfl
  have v2 := fun (k : Nat) => valid_loop2 n e0 e1 e2 L0 L1 L2 L2 L0 L1 L2 (by omega) a2.1 a2.2 k L2.length 0 (-1) (k + L2.length + 1) (by omega) i2 rfl
  simp only [z] at v0 v1 v2
  rw [automaton_Valid.l0, if_pos (by decide), if_pos rfl, v0]
  rw [automaton_Valid.l0, if_pos (by decide), if_neg (by decide), if_pos rfl, v1]
  rw [automaton_Valid.l0, if_pos (by decide), if_neg (by decide), if_neg (by decide), if_pos rfl, v2]
  rw [automaton_Valid.l0, if_neg (by decide)]
/-! ### Compose -/
def sel {α : Type} (m : Int) (x y z : α) : α := if m = 0 then x else if m = 1 then y else z
theorem conc0 (a0 a1 a2 a3 : Int) (A0 A1 A2 : List Int) (b0 b1 b2 b3 : Int) (B0 B1 B2 : List Int) (ha : 0 ≤ a0) (ha2 : a0 ≤ 1048576) (M : List Int) (hM : M.length ≤ 1048576) (hx : ∀ x ∈ M, 0 ≤ x ∧ x ≤ 1048576) (o n e0 e1 e2 : Int) (L1 L2 : List Int) (p0 p1 p2 : Int) (k : Nat) : ∀ (m i : Nat) (L0 : List Int) (f : Nat), i + m = M.length → L0.length ≤ 1048576 + i → f = k + m + 1 →
    automaton_Compose.l1 f 0 o M (M.length : Int) (i : Int) a0 a1 a2 a3 A0 A1 A2 b0 b1 b2 b3 B0 B1 B2 n e0 e1 e2 L0 L1 L2 p0 p1 p2 = automaton_Compose.l0 k (wrap64 (o + 1)) a0 a1 a2 a3 A0 A1 A2 b0 b1 b2 b3 B0 B1 B2 n e0 e1 e2 (L0 ++ (M.drop i).map (fun x => a0 + x)) L1 L2 p0 p1 p2
  | 0, i, L0, f, hi, hL, hf => by
    obtain ⟨f, rfl⟩ : ∃ g, f = g + 1 := ⟨f - 1, by omega⟩
    obtain rfl : f = k := by omega
    rw [automaton_Compose.l1, if_neg (by omega), List.drop_eq_nil_of_le (by omega), List.map_nil, List.append_nil]
  | m + 1, i, L0, f, hi, hL, hf => by
    obtain ⟨f, rfl⟩ : ∃ g, f = g + 1 := ⟨f - 1, by omega⟩
    have hlt : i < M.length := by omega
    have e := rd_drop M i hlt
    have hm : rd M (i : Int) ∈ M := List.mem_of_mem_drop (by rw [e]; exact List.mem_cons_self ..)
    have hr := hx _ hm
    rw [automaton_Compose.l1, if_pos (by omega), if_pos (by omega), if_pos (by omega), if_pos rfl, if_pos (by omega), wrap_succ i (by omega), wrap_id (a0 + rd M (i : Int)) (by omega) (by omega)]
    rw [conc0 a0 a1 a2 a3 A0 A1 A2 b0 b1 b2 b3 B0 B1 B2 ha ha2 M hM hx o n e0 e1 e2 L1 L2 p0 p1 p2 k m (i + 1) (L0 ++ [a0 + rd M (i : Int)]) f (by omega) (by rw [List.length_append, List.length_singleton]; omega) (by omega)]
    rw [e, List.map_cons, List.append_assoc]
    rfl
theorem conc1 (a0 a1 a2 a3 : Int) (A0 A1 A2 : List Int) (b0 b1 b2 b3 : Int) (B0 B1 B2 : List Int) (ha : 0 ≤ a0) (ha2 : a0 ≤ 1048576) (M : List Int) (hM : M.length ≤ 1048576) (hx : ∀ x ∈ M, 0 ≤ x ∧ x ≤ 1048576) (o n e0 e1 e2 : Int) (L0 L2 : List Int) (p0 p1 p2 : Int) (k : Nat) : ∀ (m i : Nat) (L1 : List Int) (f : Nat), i + m = M.length → L1.length ≤ 1048576 + i → f = k + m + 1 →
    automaton_Compose.l1 f 1 o M (M.length : Int) (i : Int) a0 a1 a2 a3 A0 A1 A2 b0 b1 b2 b3 B0 B1 B2 n e0 e1 e2 L0 L1 L2 p0 p1 p2 = automaton_Compose.l0 k (wrap64 (o + 1)) a0 a1 a2 a3 A0 A1 A2 b0 b1 b2 b3 B0 B1 B2 n e0 e1 e2 L0 (L1 ++ (M.drop i).map (fun x => a0 + x)) L2 p0 p1 p2
  | 0, i, L1, f, hi, hL, hf => by
    obtain ⟨f, rfl⟩ : ∃ g, f = g + 1 := ⟨f - 1, by omega⟩
    obtain rfl : f = k := by omega
    rw [automaton_Compose.l1, if_neg (by omega), List.drop_eq_nil_of_le (by omega), List.map_nil, List.append_nil]
  | m + 1, i, L1, f, hi, hL, hf => by
    obtain ⟨f, rfl⟩ : ∃ g, f = g + 1 := ⟨f - 1, by omega⟩
    have hlt : i < M.length := by omega
    have e := rd_drop M i hlt
    have hm : rd M (i : Int) ∈ M := List.mem_of_mem_drop (by rw [e]; exact List.mem_cons_self ..)
    have hr := hx _ hm
    rw [automaton_Compose.l1, if_pos (by omega), if_pos (by omega), if_pos (by omega), if_neg (by decide), if_pos rfl, if_pos (by omega), wrap_succ i (by omega), wrap_id (a0 + rd M (i : Int)) (by omega) (by omega)]
    rw [conc1 a0 a1 a2 a3 A0 A1 A2 b0 b1 b2 b3 B0 B1 B2 ha ha2 M hM hx o n e0 e1 e2 L0 L2 p0 p1 p2 k m (i + 1) (L1 ++ [a0 + rd M (i : Int)]) f (by omega) (by rw [List.length_append, List.length_singleton]; omega) (by omega)]
    rw [e, List.map_cons, List.append_assoc]
    rfl
theorem conc2 (a0 a1 a2 a3 : Int) (A0 A1 A2 : List Int) (b0 b1 b2 b3 : Int) (B0 B1 B2 : List Int) (ha : 0 ≤ a0) (ha2 : a0 ≤ 1048576) (M : List Int) (hM : M.length ≤ 1048576) (hx : ∀ x ∈ M, 0 ≤ x ∧ x ≤ 1048576) (o n e0 e1 e2 : Int) (L0 L1 : List Int) (p0 p1 p2 : Int) (k : Nat) : ∀ (m i : Nat) (L2 : List Int) (f : Nat), i + m = M.length → L2.length ≤ 1048576 + i → f = k + m + 1 →
    automaton_Compose.l1 f 2 o M (M.length : Int) (i : Int) a0 a1 a2 a3 A0 A1 A2 b0 b1 b2 b3 B0 B1 B2 n e0 e1 e2 L0 L1 L2 p0 p1 p2 = automaton_Compose.l0 k (wrap64 (o + 1)) a0 a1 a2 a3 A0 A1 A2 b0 b1 b2 b3 B0 B1 B2 n e0 e1 e2 L0 L1 (L2 ++ (M.drop i).map (fun x => a0 + x)) p0 p1 p2
  | 0, i, L2, f, hi, hL, hf => by
    obtain ⟨f, rfl⟩ : ∃ g, f = g + 1 := ⟨f - 1, by omega⟩
    obtain rfl : f = k := by omega
    rw [automaton_Compose.l1, if_neg (by omega), List.drop_eq_nil_of_le (by omega), List.map_nil, List.append_nil]
  | m + 1, i, L2, f, hi, hL, hf => by
    obtain ⟨f, rfl⟩ : ∃ g, f = g + 1 := ⟨f - 1, by omega⟩
    have hlt : i < M.length := by omega
    have e := rd_drop M i hlt
    have hm : rd M (i : Int) ∈ M := List.mem_of_mem_drop (by rw [e]; exact List.mem_cons_self ..)
    have hr := hx _ hm
    rw [automaton_Compose.l1, if_pos (by omega), if_pos (by omega), if_pos (by omega), if_neg (by decide), if_neg (by decide), if_pos rfl, if_pos (by omega), wrap_succ i (by omega), wrap_id (a0 + rd M (i : Int)) (by omega) (by omega)]
    rw [conc2 a0 a1 a2 a3 A0 A1 A2 b0 b1 b2 b3 B0 B1 B2 ha ha2 M hM hx o n e0 e1 e2 L0 L1 p0 p1 p2 k m (i + 1) (L2 ++ [a0 + rd M (i : Int)]) f (by omega) (by rw [List.length_append, List.length_singleton]; omega) (by omega)]
    rw [e, List.map_cons, List.append_assoc]
    rfl
theorem round0 (a0 a1 a2 a3 : Int) (A0 A1 A2 : List Int) (b0 b1 b2 b3 : Int) (B0 B1 B2 : List Int) (ha : 0 ≤ a0) (ha2 : a0 ≤ 1048576) (hA : A0.length ≤ 1048576) (hB0 : B0.length ≤ 1048576) (hB1 : B1.length ≤ 1048576) (hB2 : B2.length ≤ 1048576) (hb0 : ∀ x ∈ B0, 0 ≤ x ∧ x ≤ 1048576) (hb1 : ∀ x ∈ B1, 0 ≤ x ∧ x ≤ 1048576) (hb2 : ∀ x ∈ B2, 0 ≤ x ∧ x ≤ 1048576)
    (n e0 e1 e2 : Int) (L0 L1 L2 : List Int) (p0 p1 p2 : Int) (hp : p0 = 0 ∨ p0 = 1 ∨ p0 = 2) (k f : Nat) (hf : f = k + (sel p0 B0 B1 B2).length + 6) :
    automaton_Compose.l0 f 0 a0 a1 a2 a3 A0 A1 A2 b0 b1 b2 b3 B0 B1 B2 n e0 e1 e2 L0 L1 L2 p0 p1 p2 = automaton_Compose.l0 k 1 a0 a1 a2 a3 A0 A1 A2 b0 b1 b2 b3 B0 B1 B2 n (sel p0 b1 b2 b3) e1 e2 (A0 ++ (sel p0 B0 B1 B2).map (fun x => a0 + x)) L1 L2 p0 p1 p2 := by
  rcases hp with rfl | rfl | rfl
  · simp only [sel, if_true, eq_self] at hf ⊢
    obtain ⟨f, rfl⟩ : ∃ g, f = g + 1 + 1 + 1 + 1 + 1 := ⟨f - 5, by omega⟩
    rw [automaton_Compose.l0, if_pos (by decide), if_pos rfl]
    rw [automaton_Compose.j2, if_pos rfl, if_pos rfl]
    rw [automaton_Compose.j3, if_pos rfl, if_pos (by rw [List.length_nil]; omega), List.nil_append]
    rw [automaton_Compose.j4, if_pos rfl]
    rw [automaton_Compose.j5]
    have c := conc0 a0 a1 a2 a3 A0 A1 A2 b0 b1 b2 b3 B0 B1 B2 ha ha2 B0 hB0 hb0 0 n b1 e1 e2 L1 L2 0 p1 p2 k B0.length 0 A0 f (by omega) (by omega) (by omega)
    rw [show ((0 : Nat) : Int) = 0 from rfl, List.drop_zero, show wrap64 (0 + 1) = 1 by decide +kernel] at c
    exact c
  · simp only [sel, if_true, show ((1 : Int) = 0) = False by decide, if_false] at hf ⊢
    obtain ⟨f, rfl⟩ : ∃ g, f = g + 1 + 1 + 1 + 1 + 1 := ⟨f - 5, by omega⟩
    rw [automaton_Compose.l0, if_pos (by decide), if_pos rfl]
    rw [automaton_Compose.j2, if_neg (by decide), if_pos rfl, if_pos rfl]
    rw [automaton_Compose.j3, if_pos rfl, if_pos (by rw [List.length_nil]; omega), List.nil_append]
    rw [automaton_Compose.j4, if_neg (by decide), if_pos rfl]
    rw [automaton_Compose.j5]
    have c := conc0 a0 a1 a2 a3 A0 A1 A2 b0 b1 b2 b3 B0 B1 B2 ha ha2 B1 hB1 hb1 0 n b2 e1 e2 L1 L2 1 p1 p2 k B1.length 0 A0 f (by omega) (by omega) (by omega)
    rw [show ((0 : Nat) : Int) = 0 from rfl, List.drop_zero, show wrap64 (0 + 1) = 1 by decide +kernel] at c
    exact c
  · simp only [sel, if_true, show ((2 : Int) = 0) = False by decide, show ((2 : Int) = 1) = False by decide, if_false] at hf ⊢
    obtain ⟨f, rfl⟩ : ∃ g, f = g + 1 + 1 + 1 + 1 + 1 := ⟨f - 5, by omega⟩
    rw [automaton_Compose.l0, if_pos (by decide), if_pos rfl]
    rw [automaton_Compose.j2, if_neg (by decide), if_neg (by decide), if_pos rfl, if_pos rfl]
    rw [automaton_Compose.j3, if_pos rfl, if_pos (by rw [List.length_nil]; omega), List.nil_append]
    rw [automaton_Compose.j4, if_neg (by decide), if_neg (by decide), if_pos rfl]
    rw [automaton_Compose.j5]
    have c := conc0 a0 a1 a2 a3 A0 A1 A2 b0 b1 b2 b3 B0 B1 B2 ha ha2 B2 hB2 hb2 0 n b3 e1 e2 L1 L2 2 p1 p2 k B2.length 0 A0 f (by omega) (by omega) (by omega)
    rw [show ((0 : Nat) : Int) = 0 from rfl, List.drop_zero, show wrap64 (0 + 1) = 1 by decide +kernel] at c
    exact c
theorem round1 (a0 a1 a2 a3 : Int) (A0 A1 A2 : List Int) (b0 b1 b2 b3 : Int) (B0 B1 B2 : List Int) (ha : 0 ≤ a0) (ha2 : a0 ≤ 1048576) (hA : A1.length ≤ 1048576) (hB0 : B0.length ≤ 1048576) (hB1 : B1.length ≤ 1048576) (hB2 : B2.length ≤ 1048576) (hb0 : ∀ x ∈ B0, 0 ≤ x ∧ x ≤ 1048576) (hb1 : ∀ x ∈ B1, 0 ≤ x ∧ x ≤ 1048576) (hb2 : ∀ x ∈ B2, 0 ≤ x ∧ x ≤ 1048576)
    (n e0 e1 e2 : Int) (L0 L1 L2 : List Int) (p0 p1 p2 : Int) (hp : p1 = 0 ∨ p1 = 1 ∨ p1 = 2) (k f : Nat) (hf : f = k + (sel p1 B0 B1 B2).length + 6) :
    automaton_Compose.l0 f 1 a0 a1 a2 a3 A0 A1 A2 b0 b1 b2 b3 B0 B1 B2 n e0 e1 e2 L0 L1 L2 p0 p1 p2 = automaton_Compose.l0 k 2 a0 a1 a2 a3 A0 A1 A2 b0 b1 b2 b3 B0 B1 B2 n e0 (sel p1 b1 b2 b3) e2 L0 (A1 ++ (sel p1 B0 B1 B2).map (fun x => a0 + x)) L2 p0 p1 p2 := by
  rcases hp with rfl | rfl | rfl
  · simp only [sel, if_true, eq_self] at hf ⊢
    obtain ⟨f, rfl⟩ : ∃ g, f = g + 1 + 1 + 1 + 1 + 1 := ⟨f - 5, by omega⟩
    rw [automaton_Compose.l0, if_pos (by decide), if_neg (by decide), if_pos rfl]
    rw [automaton_Compose.j2, if_pos rfl, if_neg (by decide), if_pos rfl]
    rw [automaton_Compose.j3, if_neg (by decide), if_pos rfl, if_pos (by rw [List.length_nil]; omega), List.nil_append]
    rw [automaton_Compose.j4, if_pos rfl]
    rw [automaton_Compose.j5]
    have c := conc1 a0 a1 a2 a3 A0 A1 A2 b0 b1 b2 b3 B0 B1 B2 ha ha2 B0 hB0 hb0 1 n e0 b1 e2 L0 L2 p0 0 p2 k B0.length 0 A1 f (by omega) (by omega) (by omega)
    rw [show ((0 : Nat) : Int) = 0 from rfl, List.drop_zero, show wrap64 (1 + 1) = 2 by decide +kernel] at c
    exact c
  · simp only [sel, if_true, show ((1 : Int) = 0) = False by decide, if_false] at hf ⊢
    obtain ⟨f, rfl⟩ : ∃ g, f = g + 1 + 1 + 1 + 1 + 1 := ⟨f - 5, by omega⟩
    rw [automaton_Compose.l0, if_pos (by decide), if_neg (by decide), if_pos rfl]
    rw [automaton_Compose.j2, if_neg (by decide), if_pos rfl, if_neg (by decide), if_pos rfl]
    rw [automaton_Compose.j3, if_neg (by decide), if_pos rfl, if_pos (by rw [List.length_nil]; omega), List.nil_append]
    rw [automaton_Compose.j4, if_neg (by decide), if_pos rfl]
    rw [automaton_Compose.j5]
    have c := conc1 a0 a1 a2 a3 A0 A1 A2 b0 b1 b2 b3 B0 B1 B2 ha ha2 B1 hB1 hb1 1 n e0 b2 e2 L0 L2 p0 1 p2 k B1.length 0 A1 f (by omega) (by omega) (by omega)
    rw [show ((0 : Nat) : Int) = 0 from rfl, List.drop_zero, show wrap64 (1 + 1) = 2 by decide +kernel] at c
    exact c
  · simp only [sel, if_true, show ((2 : Int) = 0) = False by decide, show ((2 : Int) = 1) = False by decide, if_false] at hf ⊢
    obtain ⟨f, rfl⟩ : ∃ g, f = g + 1 + 1 + 1 + 1 + 1 := ⟨f - 5, by omega⟩
    rw [automaton_Compose.l0, if_pos (by decide), if_neg (by decide), if_pos rfl]
    rw [automaton_Compose.j2, if_neg (by decide), if_neg (by decide), if_pos rfl, if_neg (by decide), if_pos rfl]
    rw [automaton_Compose.j3, if_neg (by decide), if_pos rfl, if_pos (by rw [List.length_nil]; omega), List.nil_append]
    rw [automaton_Compose.j4, if_neg (by decide), if_neg (by decide), if_pos rfl]
    rw [automaton_Compose.j5]
    have c := conc1 a0 a1 a2 a3 A0 A1 A2 b0 b1 b2 b3 B0 B1 B2 ha ha2 B2 hB2 hb2 1 n e0 b3 e2 L0 L2 p0 2 p2 k B2.length 0 A1 f (by omega) (by omega) (by omega)
    rw [show ((0 : Nat) : Int) = 0 from rfl, List.drop_zero, show wrap64 (1 + 1) = 2 by decide +kernel] at c
    exact c
theorem round2 (a0 a1 a2 a3 : Int) (A0 A1 A2 : List Int) (b0 b1 b2 b3 : Int) (B0 B1 B2 : List Int) (ha : 0 ≤ a0) (ha2 : a0 ≤ 1048576) (hA : A2.length ≤ 1048576) (hB0 : B0.length ≤ 1048576) (hB1 : B1.length ≤ 1048576) (hB2 : B2.length ≤ 1048576) (hb0 : ∀ x ∈ B0, 0 ≤ x ∧ x ≤ 1048576) (hb1 : ∀ x ∈ B1, 0 ≤ x ∧ x ≤ 1048576) (hb2 : ∀ x ∈ B2, 0 ≤ x ∧ x ≤ 1048576)
    (n e0 e1 e2 : Int) (L0 L1 L2 : List Int) (p0 p1 p2 : Int) (hp : p2 = 0 ∨ p2 = 1 ∨ p2 = 2) (k f : Nat) (hf : f = k + (sel p2 B0 B1 B2).length + 6) :
    automaton_Compose.l0 f 2 a0 a1 a2 a3 A0 A1 A2 b0 b1 b2 b3 B0 B1 B2 n e0 e1 e2 L0 L1 L2 p0 p1 p2 = automaton_Compose.l0 k 3 a0 a1 a2 a3 A0 A1 A2 b0 b1 b2 b3 B0 B1 B2 n e0 e1 (sel p2 b1 b2 b3) L0 L1 (A2 ++ (sel p2 B0 B1 B2).map (fun x => a0 + x)) p0 p1 p2 := by
  rcases hp with rfl | rfl | rfl
  · simp only [sel, if_true, eq_self] at hf ⊢
    obtain ⟨f, rfl⟩ : ∃ g, f = g + 1 + 1 + 1 + 1 + 1 := ⟨f - 5, by omega⟩
    rw [automaton_Compose.l0, if_pos (by decide), if_neg (by decide), if_neg (by decide), if_pos rfl]
    rw [automaton_Compose.j2, if_pos rfl, if_neg (by decide), if_neg (by decide), if_pos rfl]
    rw [automaton_Compose.j3, if_neg (by decide), if_neg (by decide), if_pos rfl, if_pos (by rw [List.length_nil]; omega), List.nil_append]
    rw [automaton_Compose.j4, if_pos rfl]
    rw [automaton_Compose.j5]
    have c := conc2 a0 a1 a2 a3 A0 A1 A2 b0 b1 b2 b3 B0 B1 B2 ha ha2 B0 hB0 hb0 2 n e0 e1 b1 L0 L1 p0 p1 0 k B0.length 0 A2 f (by omega) (by omega) (by omega)
    rw [show ((0 : Nat) : Int) = 0 from rfl, List.drop_zero, show wrap64 (2 + 1) = 3 by decide +kernel] at c
    exact c
  · simp only [sel, if_true, show ((1 : Int) = 0) = False by decide, if_false] at hf ⊢
    obtain ⟨f, rfl⟩ : ∃ g, f = g + 1 + 1 + 1 + 1 + 1 := ⟨f - 5, by omega⟩
    rw [automaton_Compose.l0, if_pos (by decide), if_neg (by decide), if_neg (by decide), if_pos rfl]
    rw [automaton_Compose.j2, if_neg (by decide), if_pos rfl, if_neg (by decide), if_neg (by decide), if_pos rfl]
    rw [automaton_Compose.j3, if_neg (by decide), if_neg (by decide), if_pos rfl, if_pos (by rw [List.length_nil]; omega), List.nil_append]
    rw [automaton_Compose.j4, if_neg (by decide), if_pos rfl]
    rw [automaton_Compose.j5]
    have c := conc2 a0 a1 a2 a3 A0 A1 A2 b0 b1 b2 b3 B0 B1 B2 ha ha2 B1 hB1 hb1 2 n e0 e1 b2 L0 L1 p0 p1 1 k B1.length 0 A2 f (by omega) (by omega) (by omega)
    rw [show ((0 : Nat) : Int) = 0 from rfl, List.drop_zero, show wrap64 (2 + 1) = 3 by decide +kernel] at c
    exact c
  · simp only [sel, if_true, show ((2 : Int) = 0) = False by decide, show ((2 : Int) = 1) = False by decide, if_false] at hf ⊢
    obtain ⟨f, rfl⟩ : ∃ g, f = g + 1 + 1 + 1 + 1 + 1 := ⟨f - 5, by omega⟩
    rw [automaton_Compose.l0, if_pos (by decide), if_neg (by decide), if_neg (by decide), if_pos rfl]
    rw [automaton_Compose.j2, if_neg (by decide), if_neg (by decide), if_pos rfl, if_neg (by decide), if_neg (by decide), if_pos rfl]
    rw [automaton_Compose.j3, if_neg (by decide), if_neg (by decide), if_pos rfl, if_pos (by rw [List.length_nil]; omega), List.nil_append]
    rw [automaton_Compose.j4, if_neg (by decide), if_neg (by decide), if_pos rfl]
    rw [automaton_Compose.j5]
    have c := conc2 a0 a1 a2 a3 A0 A1 A2 b0 b1 b2 b3 B0 B1 B2 ha ha2 B2 hB2 hb2 2 n e0 e1 b3 L0 L1 p0 p1 2 k B2.length 0 A2 f (by omega) (by omega) (by omega)
    rw [show ((0 : Nat) : Int) = 0 from rfl, List.drop_zero, show wrap64 (2 + 1) = 3 by decide +kernel] at c
    exact c
theorem compose_at (a0 a1 a2 a3 : Int) (A0 A1 A2 : List Int) (b0 b1 b2 b3 : Int) (B0 B1 B2 : List Int) (ha : 0 ≤ a0) (hab : a0 + b0 ≤ 1048576) (hb : 0 ≤ b0) (q1 : 0 ≤ a1 ∧ a1 ≤ 2) (q2 : 0 ≤ a2 ∧ a2 ≤ 2) (q3 : 0 ≤ a3 ∧ a3 ≤ 2) (r1 : 0 ≤ b1 ∧ b1 ≤ 2) (r2 : 0 ≤ b2 ∧ b2 ≤ 2) (r3 : 0 ≤ b3 ∧ b3 ≤ 2)
    (i0 : inc (-1) a0 A0) (i1 : inc (-1) a0 A1) (i2 : inc (-1) a0 A2) (j0 : inc (-1) b0 B0) (j1 : inc (-1) b0 B1) (j2 : inc (-1) b0 B2)
    (hA0 : A0.length ≤ 1048576) (hA1 : A1.length ≤ 1048576) (hA2 : A2.length ≤ 1048576) (hB0 : B0.length ≤ 1048576) (hB1 : B1.length ≤ 1048576) (hB2 : B2.length ≤ 1048576) (k : Nat) (hk : A0.length + A1.length + A2.length + 3 * (B0.length + B1.length + B2.length) + 100 ≤ k) :
    automaton_Compose.f k a0 a1 a2 a3 A0 A1 A2 b0 b1 b2 b3 B0 B1 B2 = some (a0 + b0, sel a1 b1 b2 b3, sel a2 b1 b2 b3, sel a3 b1 b2 b3, A0 ++ (sel a1 B0 B1 B2).map (fun x => a0 + x), A1 ++ (sel a2 B0 B1 B2).map (fun x => a0 + x), A2 ++ (sel a3 B0 B1 B2).map (fun x => a0 + x), 0) := by
  have hl : ∀ m : Int, (sel m B0 B1 B2).length ≤ B0.length + B1.length + B2.length := by
    intro m; unfold sel; repeat' split
    all_goals omega
  have l1 := hl a1
  have l2 := hl a2
  have l3 := hl a3
  have hb' : ∀ (M : List Int), inc (-1) b0 M → ∀ x ∈ M, 0 ≤ x ∧ x ≤ 1048576 := by
    intro M hM x hx
    have := inc_nonneg M (-1) b0 (by omega) hM x hx
    omega
  unfold automaton_Compose.f
  rw [valid_at a0 a1 a2 a3 A0 A1 A2 ha (by omega) q1 q2 q3 i0 i1 i2 (by omega) (by omega) (by omega) k (by omega), Option.bind_some, if_pos rfl]
  rw [valid_at b0 b1 b2 b3 B0 B1 B2 hb (by omega) r1 r2 r3 j0 j1 j2 (by omega) (by omega) (by omega) k (by omega), Option.bind_some]
  obtain ⟨r, rfl⟩ : ∃ r, k = r + 1 + (sel a3 B0 B1 B2).length + 6 + (sel a2 B0 B1 B2).length + 6 + (sel a1 B0 B1 B2).length + 6 + 1 := ⟨k - ((sel a3 B0 B1 B2).length + (sel a2 B0 B1 B2).length + (sel a1 B0 B1 B2).length + 20), by omega⟩
  rw [show (!true) = false from rfl, automaton_Compose.j0, if_neg (by decide), wrap_id (a0 + b0) (by omega) (by omega), if_neg (by omega)]
  rw [round0 a0 a1 a2 a3 A0 A1 A2 b0 b1 b2 b3 B0 B1 B2 ha (by omega) hA0 hB0 hB1 hB2 (hb' _ j0) (hb' _ j1) (hb' _ j2) (a0 + b0) 0 0 0 [] [] [] a1 a2 a3 (by omega) _ _ rfl]
  rw [round1 a0 a1 a2 a3 A0 A1 A2 b0 b1 b2 b3 B0 B1 B2 ha (by omega) hA1 hB0 hB1 hB2 (hb' _ j0) (hb' _ j1) (hb' _ j2) (a0 + b0) _ 0 0 _ [] [] a1 a2 a3 (by omega) _ _ rfl]
  rw [round2 a0 a1 a2 a3 A0 A1 A2 b0 b1 b2 b3 B0 B1 B2 ha (by omega) hA2 hB0 hB1 hB2 (hb' _ j0) (hb' _ j1) (hb' _ j2) (a0 + b0) _ _ 0 _ _ [] a1 a2 a3 (by omega) _ _ rfl]
  rw [automaton_Compose.l0, if_neg (by decide)]
/-! ### Valid of whatever summary -/
theorem known_no (e : Int) (h : ¬ (0 ≤ e ∧ e ≤ 2)) : automaton_known.f e = some false := by
  unfold automaton_known.f
  by_cases c : e ≥ 0
  · rw [if_pos c, decide_eq_false (fun x => h ⟨c, x⟩)]
  · rw [if_neg c]
theorem vl0 (n e0 e1 e2 : Int) (L0 L1 L2 M P0 P1 P2 : List Int) (hM : M.length ≤ 4611686018427387904) (k : Nat) : ∀ (m i : Nat) (last : Int) (f : Nat), i + m = M.length → f = k + m + 1 →
    (automaton_Valid.l1 f last M (M.length : Int) (i : Int) n e0 e1 e2 L0 L1 L2 P0 P1 P2 = automaton_Valid.l0 k 1 n e0 e1 e2 L0 L1 L2 P0 P1 P2 ∧ inc last n (M.drop i) ∧ 0 ≤ e0 ∧ e0 ≤ 2) ∨ automaton_Valid.l1 f last M (M.length : Int) (i : Int) n e0 e1 e2 L0 L1 L2 P0 P1 P2 = some false
  | 0, i, last, f, hi, hf => by
    obtain ⟨f, rfl⟩ : ∃ g, f = g + 1 := ⟨f - 1, by omega⟩
    obtain rfl : f = k := by omega
    have hd : M.drop i = [] := List.drop_eq_nil_of_le (by omega)
    rw [automaton_Valid.l1, if_neg (by omega), hd]
    by_cases c : 0 ≤ e0 ∧ e0 ≤ 2
    · rw [known_at _ c.1 c.2, Option.bind_some, if_pos rfl]; exact .inl ⟨rfl, trivial, c⟩
    · rw [known_no _ c, Option.bind_some, if_neg (by decide)]; exact .inr rfl
  | m + 1, i, last, f, hi, hf => by
    obtain ⟨f, rfl⟩ : ∃ g, f = g + 1 := ⟨f - 1, by omega⟩
    have hlt : i < M.length := by omega
    rw [rd_drop M i hlt, automaton_Valid.l1, if_pos (by omega), if_pos (by omega), if_pos (by omega)]
    by_cases c1 : rd M (i : Int) ≤ last
    · rw [if_pos c1]; exact .inr rfl
    by_cases c2 : rd M (i : Int) ≥ n
    · rw [if_neg c1, if_pos c2]; exact .inr rfl
    rw [if_neg c1, if_neg c2, wrap_succ i (by omega)]
    rcases vl0 n e0 e1 e2 L0 L1 L2 M P0 P1 P2 hM k m (i + 1) (rd M (i : Int)) f (by omega) (by omega) with h | h
    · exact .inl ⟨h.1, ⟨by omega, by omega, h.2.1⟩, h.2.2⟩
    · exact .inr h
theorem vl1 (n e0 e1 e2 : Int) (L0 L1 L2 M P0 P1 P2 : List Int) (hM : M.length ≤ 4611686018427387904) (k : Nat) : ∀ (m i : Nat) (last : Int) (f : Nat), i + m = M.length → f = k + m + 1 →
    (automaton_Valid.l101 f last M (M.length : Int) (i : Int) n e0 e1 e2 L0 L1 L2 P0 P1 P2 = automaton_Valid.l0 k 2 n e0 e1 e2 L0 L1 L2 P0 P1 P2 ∧ inc last n (M.drop i) ∧ 0 ≤ e1 ∧ e1 ≤ 2) ∨ automaton_Valid.l101 f last M (M.length : Int) (i : Int) n e0 e1 e2 L0 L1 L2 P0 P1 P2 = some false
  | 0, i, last, f, hi, hf => by
    obtain ⟨f, rfl⟩ : ∃ g, f = g + 1 := ⟨f - 1, by omega⟩
    obtain rfl : f = k := by omega
    have hd : M.drop i = [] := List.drop_eq_nil_of_le (by omega)
    rw [automaton_Valid.l101, if_neg (by omega), hd]
    by_cases c : 0 ≤ e1 ∧ e1 ≤ 2
    · rw [known_at _ c.1 c.2, Option.bind_some, if_pos rfl]; exact .inl ⟨rfl, trivial, c⟩
    · rw [known_no _ c, Option.bind_some, if_neg (by decide)]; exact .inr rfl
  | m + 1, i, last, f, hi, hf => by
    obtain ⟨f, rfl⟩ : ∃ g, f = g + 1 := ⟨f - 1, by omega⟩
    have hlt : i < M.length := by omega
    rw [rd_drop M i hlt, automaton_Valid.l101, if_pos (by omega), if_pos (by omega), if_pos (by omega)]
    by_cases c1 : rd M (i : Int) ≤ last
    · rw [if_pos c1]; exact .inr rfl
    by_cases c2 : rd M (i : Int) ≥ n
    · rw [if_neg c1, if_pos c2]; exact .inr rfl
    rw [if_neg c1, if_neg c2, wrap_succ i (by omega)]
    rcases vl1 n e0 e1 e2 L0 L1 L2 M P0 P1 P2 hM k m (i + 1) (rd M (i : Int)) f (by omega) (by omega) with h | h
    · exact .inl ⟨h.1, ⟨by omega, by omega, h.2.1⟩, h.2.2⟩
    · exact .inr h
theorem vl2 (n e0 e1 e2 : Int) (L0 L1 L2 M P0 P1 P2 : List Int) (hM : M.length ≤ 4611686018427387904) (k : Nat) : ∀ (m i : Nat) (last : Int) (f : Nat), i + m = M.length → f = k + m + 1 →
    (automaton_Valid.l201 f last M (M.length : Int) (i : Int) n e0 e1 e2 L0 L1 L2 P0 P1 P2 = automaton_Valid.l0 k 3 n e0 e1 e2 L0 L1 L2 P0 P1 P2 ∧ inc last n (M.drop i) ∧ 0 ≤ e2 ∧ e2 ≤ 2) ∨ automaton_Valid.l201 f last M (M.length : Int) (i : Int) n e0 e1 e2 L0 L1 L2 P0 P1 P2 = some false
  | 0, i, last, f, hi, hf => by
    obtain ⟨f, rfl⟩ : ∃ g, f = g + 1 := ⟨f - 1, by omega⟩
    obtain rfl : f = k := by omega
    have hd : M.drop i = [] := List.drop_eq_nil_of_le (by omega)
    rw [automaton_Valid.l201, if_neg (by omega), hd]
    by_cases c : 0 ≤ e2 ∧ e2 ≤ 2
    · rw [known_at _ c.1 c.2, Option.bind_some, if_pos rfl]; exact .inl ⟨rfl, trivial, c⟩
    · rw [known_no _ c, Option.bind_some, if_neg (by decide)]; exact .inr rfl
  | m + 1, i, last, f, hi, hf => by
    obtain ⟨f, rfl⟩ : ∃ g, f = g + 1 := ⟨f - 1, by omega⟩
    have hlt : i < M.length := by omega
    rw [rd_drop M i hlt, automaton_Valid.l201, if_pos (by omega), if_pos (by omega), if_pos (by omega)]
    by_cases c1 : rd M (i : Int) ≤ last
    · rw [if_pos c1]; exact .inr rfl
    by_cases c2 : rd M (i : Int) ≥ n
    · rw [if_neg c1, if_pos c2]; exact .inr rfl
    rw [if_neg c1, if_neg c2, wrap_succ i (by omega)]
    rcases vl2 n e0 e1 e2 L0 L1 L2 M P0 P1 P2 hM k m (i + 1) (rd M (i : Int)) f (by omega) (by omega) with h | h
    · exact .inl ⟨h.1, ⟨by omega, by omega, h.2.1⟩, h.2.2⟩
    · exact .inr h
def vld (n e0 e1 e2 : Int) (L0 L1 L2 : List Int) : Prop := (0 ≤ n ∧ n ≤ 1048576) ∧ (0 ≤ e0 ∧ e0 ≤ 2) ∧ (0 ≤ e1 ∧ e1 ≤ 2) ∧ (0 ≤ e2 ∧ e2 ≤ 2) ∧ inc (-1) n L0 ∧ inc (-1) n L1 ∧ inc (-1) n L2
theorem valid_any (n e0 e1 e2 : Int) (L0 L1 L2 : List Int) (l0 : L0.length ≤ 4611686018427387904) (l1 : L1.length ≤ 4611686018427387904) (l2 : L2.length ≤ 4611686018427387904) (k : Nat) (hk : L0.length + L1.length + L2.length + 20 ≤ k) : (automaton_Valid.f k n e0 e1 e2 L0 L1 L2 = some true ∧ vld n e0 e1 e2 L0 L1 L2) ∨ automaton_Valid.f k n e0 e1 e2 L0 L1 L2 = some false := by
  obtain ⟨r, rfl⟩ : ∃ r, k = (r + 1 + L2.length + 1 + 1 + L1.length + 1 + 1 + L0.length + 1) + 1 + 1 := ⟨k - (L0.length + L1.length + L2.length + 8), by omega⟩
  unfold automaton_Valid.f
  by_cases c0 : n < 0
  · rw [if_pos c0, automaton_Valid.j0, if_pos rfl]; exact .inr rfl
  by_cases c1 : n > 1048576
  · rw [if_neg c0, decide_eq_true c1, automaton_Valid.j0, if_pos rfl]; exact .inr rfl
  rw [if_neg c0, decide_eq_false c1, automaton_Valid.j0, if_neg (by decide)]
  have z : ((0 : Nat) : Int) = 0 := rfl
  have v0 := fun (k : Nat) => vl0 n e0 e1 e2 L0 L1 L2 L0 L0 L1 L2 (by omega) k L0.length 0 (-1) (k + L0.length + 1) (by omega) rfl
  have v1 := fun (k : Nat) => vl1 n e0 e1 e2 L0 L1 L2 L1 L0 L1 L2 (by omega) k L1.length 0 (-1) (k + L1.length + 1) (by omega) rfl
  have v2 := fun (k : Nat) => vl2 n e0 e1 e2 L0 L1 L2 L2 L0 L1 L2 (by omega) k L2.length 0 (-1) (k + L2.length + 1) (by omega) rfl
  simp only [z, List.drop_zero] at v0 v1 v2
  rw [automaton_Valid.l0, if_pos (by decide), if_pos rfl]
  rcases v0 (r + 1 + L2.length + 1 + 1 + L1.length + 1 + 1) with ⟨h, i0, s0⟩ | h
  rotate_left
  · rw [h]; exact .inr rfl
  rw [h, automaton_Valid.l0, if_pos (by decide), if_neg (by decide), if_pos rfl]
  rcases v1 (r + 1 + L2.length + 1 + 1) with ⟨h, i1, s1⟩ | h
  rotate_left
  · rw [h]; exact .inr rfl
  rw [h, automaton_Valid.l0, if_pos (by decide), if_neg (by decide), if_neg (by decide), if_pos rfl]
  rcases v2 (r + 1) with ⟨h, i2, s2⟩ | h
  rotate_left
  · rw [h]; exact .inr rfl
  rw [h, automaton_Valid.l0, if_neg (by decide)]
  exact .inl ⟨rfl, ⟨by omega, by omega⟩, s0, s1, s2, i0, i1, i2⟩
/-- Compose of whatever summaries: an error, or the composition of two valid ones. -/
theorem compose_any (a0 a1 a2 a3 : Int) (A0 A1 A2 : List Int) (b0 b1 b2 b3 : Int) (B0 B1 B2 : List Int) (ha : -9223372036854775808 ≤ a0 ∧ a0 ≤ 9223372036854775807)
    (hA0 : A0.length ≤ 1048576) (hA1 : A1.length ≤ 1048576) (hA2 : A2.length ≤ 1048576) (hB0 : B0.length ≤ 1048576) (hB1 : B1.length ≤ 1048576) (hB2 : B2.length ≤ 1048576) (k : Nat) (hk : A0.length + A1.length + A2.length + 3 * (B0.length + B1.length + B2.length) + 100 ≤ k) :
    (vld a0 a1 a2 a3 A0 A1 A2 ∧ vld b0 b1 b2 b3 B0 B1 B2 ∧ a0 + b0 ≤ 1048576 ∧ automaton_Compose.f k a0 a1 a2 a3 A0 A1 A2 b0 b1 b2 b3 B0 B1 B2 = some (a0 + b0, sel a1 b1 b2 b3, sel a2 b1 b2 b3, sel a3 b1 b2 b3, A0 ++ (sel a1 B0 B1 B2).map (fun x => a0 + x), A1 ++ (sel a2 B0 B1 B2).map (fun x => a0 + x), A2 ++ (sel a3 B0 B1 B2).map (fun x => a0 + x), 0))
    ∨ automaton_Compose.f k a0 a1 a2 a3 A0 A1 A2 b0 b1 b2 b3 B0 B1 B2 = some (0, 0, 0, 0, [], [], [], 1)
    ∨ (vld a0 a1 a2 a3 A0 A1 A2 ∧ vld b0 b1 b2 b3 B0 B1 B2 ∧ 1048576 < a0 + b0 ∧ automaton_Compose.f k a0 a1 a2 a3 A0 A1 A2 b0 b1 b2 b3 B0 B1 B2 = some (0, 0, 0, 0, [], [], [], 2)) := by
  obtain ⟨k', rfl⟩ : ∃ r, k = r + 1 := ⟨k - 1, by omega⟩
  rcases valid_any a0 a1 a2 a3 A0 A1 A2 (by omega) (by omega) (by omega) (k' + 1) (by omega) with ⟨va, wa⟩ | va
  rotate_left
  · refine .inr (.inl ?_)
    unfold automaton_Compose.f
    rw [va, Option.bind_some, if_neg (by decide), automaton_Compose.j0, if_pos rfl]
  rcases valid_any b0 b1 b2 b3 B0 B1 B2 (by omega) (by omega) (by omega) (k' + 1) (by omega) with ⟨vb, wb⟩ | vb
  rotate_left
  · refine .inr (.inl ?_)
    unfold automaton_Compose.f
    rw [va, Option.bind_some, if_pos rfl, vb, Option.bind_some, show (!false) = true from rfl, automaton_Compose.j0, if_pos rfl]
  obtain ⟨na, s1, s2, s3, i1, i2, i3⟩ := wa
  obtain ⟨nb, t1, t2, t3, j1, j2, j3⟩ := wb
  by_cases c : a0 + b0 ≤ 1048576
  · exact .inl ⟨⟨na, s1, s2, s3, i1, i2, i3⟩, ⟨nb, t1, t2, t3, j1, j2, j3⟩, c, compose_at a0 a1 a2 a3 A0 A1 A2 b0 b1 b2 b3 B0 B1 B2 na.1 c nb.1 s1 s2 s3 t1 t2 t3 i1 i2 i3 j1 j2 j3 hA0 hA1 hA2 hB0 hB1 hB2 (k' + 1) hk⟩
  · refine .inr (.inr ⟨⟨na, s1, s2, s3, i1, i2, i3⟩, ⟨nb, t1, t2, t3, j1, j2, j3⟩, by omega, ?_⟩)
    unfold automaton_Compose.f
    rw [va, Option.bind_some, if_pos rfl, vb, Option.bind_some, show (!true) = false from rfl, automaton_Compose.j0, if_neg (by decide), wrap_id (a0 + b0) (by omega) (by omega), if_pos (by omega)]
/-! ### the composition of summaries -/
def tupS (x : S29) (e : Int) : Int × Int × Int × Int × List Int × List Int × List Int × Int := (x.f0, x.f1.f0, x.f1.f1, x.f1.f2, x.f2.f0, x.f2.f1, x.f2.f2, e)
def vldS (x : S29) : Prop := vld x.f0 x.f1.f0 x.f1.f1 x.f1.f2 x.f2.f0 x.f2.f1 x.f2.f2
def comp (x y : S29) : S29 := ⟨x.f0 + y.f0, ⟨sel x.f1.f0 y.f1.f0 y.f1.f1 y.f1.f2, sel x.f1.f1 y.f1.f0 y.f1.f1 y.f1.f2, sel x.f1.f2 y.f1.f0 y.f1.f1 y.f1.f2⟩,
  ⟨x.f2.f0 ++ (sel x.f1.f0 y.f2.f0 y.f2.f1 y.f2.f2).map (fun z => x.f0 + z), x.f2.f1 ++ (sel x.f1.f1 y.f2.f0 y.f2.f1 y.f2.f2).map (fun z => x.f0 + z), x.f2.f2 ++ (sel x.f1.f2 y.f2.f0 y.f2.f1 y.f2.f2).map (fun z => x.f0 + z)⟩⟩
def noS : S29 := ⟨0, ⟨0, 0, 0⟩, ⟨[], [], []⟩⟩
def emptyS : S29 := ⟨0, ⟨0, 1, 2⟩, ⟨[], [], []⟩⟩
theorem inc_shift (c : Int) : ∀ (l : List Int) (a n : Int), inc a n l → inc (c + a) (c + n) (l.map (fun z => c + z))
  | [], _, _, _ => trivial
  | x :: t, a, n, h => by
    obtain ⟨h1, h2, h3⟩ := h
    exact ⟨by show c + a < c + x; omega, by show c + x < c + n; omega, inc_shift c t x n h3⟩
theorem inc_app (n m : Int) (hm : 0 ≤ m) (B : List Int) (hB : inc (-1) m B) : ∀ (A : List Int) (a : Int), a < n → inc a n A → inc a (n + m) (A ++ B.map (fun z => n + z))
  | [], a, ha, _ => by
    rw [List.nil_append]
    exact inc_weak _ _ _ _ (by omega) (inc_shift n B (-1) m hB)
  | x :: t, a, ha, h => by
    obtain ⟨h1, h2, h3⟩ := h
    exact ⟨h1, by omega, inc_app n m hm B hB t x h2 h3⟩
theorem inc_len : ∀ (l : List Int) (a n : Int), a < n → inc a n l → (l.length : Int) ≤ n - a - 1
  | [], a, n, h, _ => by simp; omega
  | x :: t, a, n, h, hi => by
    obtain ⟨h1, h2, h3⟩ := hi
    have := inc_len t x n h2 h3
    simp only [List.length_cons]; omega
theorem vldS_len {x : S29} (h : vldS x) : x.f2.f0.length ≤ 1048576 ∧ x.f2.f1.length ≤ 1048576 ∧ x.f2.f2.length ≤ 1048576 := by
  obtain ⟨hn, _, _, _, i0, i1, i2⟩ := h
  have := inc_len _ _ _ (by omega) i0
  have := inc_len _ _ _ (by omega) i1
  have := inc_len _ _ _ (by omega) i2
  omega
theorem sel_range {m a b c : Int} (h0 : 0 ≤ a ∧ a ≤ 2) (h1 : 0 ≤ b ∧ b ≤ 2) (h2 : 0 ≤ c ∧ c ≤ 2) : 0 ≤ sel m a b c ∧ sel m a b c ≤ 2 := by
  unfold sel
  split
  · exact h0
  · split
    · exact h1
    · exact h2
theorem sel_inc {m n : Int} {A B C : List Int} (h0 : inc (-1) n A) (h1 : inc (-1) n B) (h2 : inc (-1) n C) : inc (-1) n (sel m A B C) := by
  unfold sel
  split
  · exact h0
  · split
    · exact h1
    · exact h2
theorem comp_vld {x y : S29} (hx : vldS x) (hy : vldS y) (hn : x.f0 + y.f0 ≤ 1048576) : vldS (comp x y) := by
  obtain ⟨nx, a0, a1, a2, i0, i1, i2⟩ := hx
  obtain ⟨ny, b0, b1, b2, j0, j1, j2⟩ := hy
  exact ⟨⟨by show 0 ≤ x.f0 + y.f0; omega, hn⟩, sel_range b0 b1 b2, sel_range b0 b1 b2, sel_range b0 b1 b2, inc_app _ _ ny.1 _ (sel_inc j0 j1 j2) _ _ (by omega) i0, inc_app _ _ ny.1 _ (sel_inc j0 j1 j2) _ _ (by omega) i1, inc_app _ _ ny.1 _ (sel_inc j0 j1 j2) _ _ (by omega) i2⟩
theorem sel_map {α β : Type} (f : α → β) (m : Int) (x y z : α) : sel m (f x) (f y) (f z) = f (sel m x y z) := by
  unfold sel
  split
  · rfl
  · split <;> rfl
theorem sel_app (m : Int) (A B C A' B' C' : List Int) : sel m (A ++ A') (B ++ B') (C ++ C') = sel m A B C ++ sel m A' B' C' := by
  unfold sel
  split
  · rfl
  · split <;> rfl
theorem sel_sel {α : Type} (m : Int) (hm : 0 ≤ m ∧ m ≤ 2) (b0 b1 b2 : Int) (x y z : α) : sel (sel m b0 b1 b2) x y z = sel m (sel b0 x y z) (sel b1 x y z) (sel b2 x y z) := by
  unfold sel
  by_cases c0 : m = 0
  · simp only [if_pos c0]
  · by_cases c1 : m = 1
    · simp only [if_neg c0, if_pos c1]
    · simp only [if_neg c0, if_neg c1]
theorem comp_assoc (x y z : S29) (hx : vldS x) : comp (comp x y) z = comp x (comp y z) := by
  obtain ⟨_, a0, a1, a2, _⟩ := hx
  have hl : ∀ (m : Int) (hm : 0 ≤ m ∧ m ≤ 2) (L : List Int), (L ++ (sel m y.f2.f0 y.f2.f1 y.f2.f2).map (fun z => x.f0 + z)) ++ (sel (sel m y.f1.f0 y.f1.f1 y.f1.f2) z.f2.f0 z.f2.f1 z.f2.f2).map (fun w => x.f0 + y.f0 + w) =
      L ++ (sel m (y.f2.f0 ++ (sel y.f1.f0 z.f2.f0 z.f2.f1 z.f2.f2).map (fun w => y.f0 + w)) (y.f2.f1 ++ (sel y.f1.f1 z.f2.f0 z.f2.f1 z.f2.f2).map (fun w => y.f0 + w)) (y.f2.f2 ++ (sel y.f1.f2 z.f2.f0 z.f2.f1 z.f2.f2).map (fun w => y.f0 + w))).map (fun w => x.f0 + w) := by
    intro m hm L
    rw [sel_app, sel_map (List.map (fun w => y.f0 + w)), List.map_append, List.map_map, List.append_assoc, sel_sel m hm]
    congr 3
    funext w
    show x.f0 + y.f0 + w = x.f0 + (y.f0 + w)
    omega
  simp only [comp]
  rw [hl _ a0, hl _ a1, hl _ a2, sel_sel _ a0, sel_sel _ a1, sel_sel _ a2, Int.add_assoc]
theorem comp_empty_l (x : S29) : comp emptyS x = x := by
  have e : ∀ L : List Int, L.map (fun z => (0 : Int) + z) = L := fun L => by rw [show (fun z : Int => (0 : Int) + z) = id from funext fun z => Int.zero_add z, List.map_id]
  simp only [comp, emptyS, List.nil_append, e]
  rw [Int.zero_add]
  rfl
theorem sel_id {m : Int} (hm : 0 ≤ m ∧ m ≤ 2) : sel m 0 1 2 = m := by
  unfold sel
  split
  · omega
  · split <;> omega
theorem comp_empty_r (x : S29) (hx : vldS x) : comp x emptyS = x := by
  obtain ⟨_, a0, a1, a2, _⟩ := hx
  have e : ∀ m : Int, sel m ([] : List Int) [] [] = [] := fun m => by
    unfold sel
    split
    · rfl
    · split <;> rfl
  simp only [comp, emptyS, e, List.map_nil, List.append_nil, Int.add_zero, sel_id a0, sel_id a1, sel_id a2]
theorem empty_vld : vldS emptyS := ⟨⟨by decide, by decide⟩, ⟨by decide, by decide⟩, ⟨by decide, by decide⟩, ⟨by decide, by decide⟩, trivial, trivial, trivial⟩
/-- Compose of whatever summaries. -/
theorem compose_S (x y : S29) (hx : -9223372036854775808 ≤ x.f0 ∧ x.f0 ≤ 9223372036854775807) (lx : x.f2.f0.length ≤ 1048576 ∧ x.f2.f1.length ≤ 1048576 ∧ x.f2.f2.length ≤ 1048576) (ly : y.f2.f0.length ≤ 1048576 ∧ y.f2.f1.length ≤ 1048576 ∧ y.f2.f2.length ≤ 1048576) (k : Nat) (hk : 13000000 ≤ k) :
    (vldS x ∧ vldS y ∧ x.f0 + y.f0 ≤ 1048576 ∧ automaton_Compose.f k x.f0 x.f1.f0 x.f1.f1 x.f1.f2 x.f2.f0 x.f2.f1 x.f2.f2 y.f0 y.f1.f0 y.f1.f1 y.f1.f2 y.f2.f0 y.f2.f1 y.f2.f2 = some (tupS (comp x y) 0))
    ∨ (¬ (vldS x ∧ vldS y) ∧ automaton_Compose.f k x.f0 x.f1.f0 x.f1.f1 x.f1.f2 x.f2.f0 x.f2.f1 x.f2.f2 y.f0 y.f1.f0 y.f1.f1 y.f1.f2 y.f2.f0 y.f2.f1 y.f2.f2 = some (tupS noS 1))
    ∨ (vldS x ∧ vldS y ∧ 1048576 < x.f0 + y.f0 ∧ automaton_Compose.f k x.f0 x.f1.f0 x.f1.f1 x.f1.f2 x.f2.f0 x.f2.f1 x.f2.f2 y.f0 y.f1.f0 y.f1.f1 y.f1.f2 y.f2.f0 y.f2.f1 y.f2.f2 = some (tupS noS 2)) := by
  rcases compose_any x.f0 x.f1.f0 x.f1.f1 x.f1.f2 x.f2.f0 x.f2.f1 x.f2.f2 y.f0 y.f1.f0 y.f1.f1 y.f1.f2 y.f2.f0 y.f2.f1 y.f2.f2 hx lx.1 lx.2.1 lx.2.2 ly.1 ly.2.1 ly.2.2 k (by omega) with h | h | h
  · exact .inl h
  · refine .inr (.inl ⟨fun q => ?_, h⟩)
    obtain ⟨⟨na, s1, s2, s3, i1, i2, i3⟩, ⟨nb, t1, t2, t3, j1, j2, j3⟩⟩ := q
    by_cases c : x.f0 + y.f0 ≤ 1048576
    · have := compose_at x.f0 x.f1.f0 x.f1.f1 x.f1.f2 x.f2.f0 x.f2.f1 x.f2.f2 y.f0 y.f1.f0 y.f1.f1 y.f1.f2 y.f2.f0 y.f2.f1 y.f2.f2 na.1 c nb.1 s1 s2 s3 t1 t2 t3 i1 i2 i3 j1 j2 j3 lx.1 lx.2.1 lx.2.2 ly.1 ly.2.1 ly.2.2 k (by omega)
      rw [this] at h
      simp at h
    · have v1 := valid_at x.f0 x.f1.f0 x.f1.f1 x.f1.f2 x.f2.f0 x.f2.f1 x.f2.f2 na.1 na.2 s1 s2 s3 i1 i2 i3 (by omega) (by omega) (by omega) k (by omega)
      have v2 := valid_at y.f0 y.f1.f0 y.f1.f1 y.f1.f2 y.f2.f0 y.f2.f1 y.f2.f2 nb.1 nb.2 t1 t2 t3 j1 j2 j3 (by omega) (by omega) (by omega) k (by omega)
      obtain ⟨k, rfl⟩ : ∃ r, k = r + 1 := ⟨k - 1, by omega⟩
      unfold automaton_Compose.f at h
      rw [v1, Option.bind_some, if_pos rfl, v2, Option.bind_some, show (!true) = false from rfl, automaton_Compose.j0, if_neg (by decide), wrap_id (x.f0 + y.f0) (by omega) (by omega), if_pos (by omega)] at h
      simp at h
  · exact .inr (.inr h)
/-! ### the sanity check -/
theorem awake_at (k : Nat) (hk : 40 ≤ k) : ndjqlaw18_awake.f k = some true := by
  unfold ndjqlaw18_awake.f
  have z : (⟨#[97, 34, 10]⟩ : ByteArray).size = 3 := rfl
  rw [summarize_at _ (by rw [z]; omega) k (by rw [z]; omega)]
  have e0 : scanL 0 0 (nm (⟨#[97, 34, 10]⟩ : ByteArray)) = (1, []) := by decide +kernel
  have e1 : scanL 1 0 (nm (⟨#[97, 34, 10]⟩ : ByteArray)) = (0, [2]) := by decide +kernel
  have e2 : scanL 2 0 (nm (⟨#[97, 34, 10]⟩ : ByteArray)) = (0, [2]) := by decide +kernel
  rw [e0, e1, e2, z, Option.bind_some]
  have i2 := ints_same [2] (by simp) k (by simp; omega)
  simp only [i2, Option.bind_some, if_true]
  rfl
def toS (x : Smm) : S29 := ⟨x.n, ⟨x.e0, x.e1, x.e2⟩, ⟨x.l0, x.l1, x.l2⟩⟩
def ofS (x : S29) : Smm := ⟨x.f0, x.f1.f0, x.f1.f1, x.f1.f2, x.f2.f0, x.f2.f1, x.f2.f2⟩
theorem toof (x : S29) : toS (ofS x) = x := rfl
theorem ofto (x : Smm) : ofS (toS x) = x := rfl
theorem cmp_any (x y : S29) (hx : -9223372036854775808 ≤ x.f0 ∧ x.f0 ≤ 9223372036854775807) (lx : x.f2.f0.length ≤ 1048576 ∧ x.f2.f1.length ≤ 1048576 ∧ x.f2.f2.length ≤ 1048576) (ly : y.f2.f0.length ≤ 1048576 ∧ y.f2.f1.length ≤ 1048576 ∧ y.f2.f2.length ≤ 1048576) (k : Nat) (hk : 13000000 ≤ k) :
    (vldS x ∧ vldS y ∧ x.f0 + y.f0 ≤ 1048576 ∧ cmpM k (ofS x) (ofS y) = some (ofS (comp x y), 0))
    ∨ (¬ (vldS x ∧ vldS y) ∧ cmpM k (ofS x) (ofS y) = some (ofS noS, 1))
    ∨ (vldS x ∧ vldS y ∧ 1048576 < x.f0 + y.f0 ∧ cmpM k (ofS x) (ofS y) = some (ofS noS, 2)) := by
  rcases compose_S x y hx lx ly k hk with ⟨h1, h2, h3, h4⟩ | ⟨h1, h4⟩ | ⟨h1, h2, h3, h4⟩
  · refine .inl ⟨h1, h2, h3, ?_⟩
    unfold cmpM ofS
    dsimp only
    rw [h4]
    rfl
  · refine .inr (.inl ⟨h1, ?_⟩)
    unfold cmpM ofS
    dsimp only
    rw [h4]
    rfl
  · refine .inr (.inr ⟨h1, h2, h3, ?_⟩)
    unfold cmpM ofS
    dsimp only
    rw [h4]
    rfl
theorem cmp_some (x y : S29) (hx : -9223372036854775808 ≤ x.f0 ∧ x.f0 ≤ 9223372036854775807) (lx : x.f2.f0.length ≤ 1048576 ∧ x.f2.f1.length ≤ 1048576 ∧ x.f2.f2.length ≤ 1048576) (ly : y.f2.f0.length ≤ 1048576 ∧ y.f2.f1.length ≤ 1048576 ∧ y.f2.f2.length ≤ 1048576) (k : Nat) (hk : 13000000 ≤ k) :
    ∃ z, cmpM k (ofS x) (ofS y) = some z := by
  rcases cmp_any x y hx lx ly k hk with ⟨_, _, _, h⟩ | ⟨_, h⟩ | ⟨_, _, _, h⟩ <;> exact ⟨_, h⟩
theorem cmp_ok (x y : S29) (vx : vldS x) (vy : vldS y) (hs : x.f0 + y.f0 ≤ 1048576) (k : Nat) (hk : 13000000 ≤ k) : cmpM k (ofS x) (ofS y) = some (ofS (comp x y), 0) := by
  have hr := vx.1
  rcases cmp_any x y ⟨by omega, by omega⟩ (vldS_len vx) (vldS_len vy) k hk with ⟨_, _, _, h⟩ | ⟨h0, h⟩ | ⟨_, _, h0, h⟩
  · exact h
  · exact absurd ⟨vx, vy⟩ h0
  · omega
theorem cmp_big (x y : S29) (vx : vldS x) (vy : vldS y) (hs : 1048576 < x.f0 + y.f0) (k : Nat) (hk : 13000000 ≤ k) : cmpM k (ofS x) (ofS y) = some (ofS noS, 2) := by
  have hr := vx.1
  rcases cmp_any x y ⟨by omega, by omega⟩ (vldS_len vx) (vldS_len vy) k hk with ⟨_, _, h0, h⟩ | ⟨h0, h⟩ | ⟨_, _, h0, h⟩
  · omega
  · exact absurd ⟨vx, vy⟩ h0
  · exact h
theorem sum_same (x : S29) (lx : x.f2.f0.length ≤ 1048576 ∧ x.f2.f1.length ≤ 1048576 ∧ x.f2.f2.length ≤ 1048576) (k : Nat) (hk : 13000000 ≤ k) : sumM k (ofS x) (ofS x) = some true :=
  summaries_same _ _ _ _ _ _ _ (by show x.f2.f0.length ≤ _; omega) (by show x.f2.f1.length ≤ _; omega) (by show x.f2.f2.length ≤ _; omega) k (by show x.f2.f0.length + 10 < k; omega) (by show x.f2.f1.length + 10 < k; omega) (by show x.f2.f2.length + 10 < k; omega)
theorem emp_at : empM = some (ofS emptyS) := by
  unfold empM automaton_Empty.f
  first | rfl | (simp [ofS, emptyS]; done)
theorem mono_law (a b c : S29) (ra : -9223372036854775808 ≤ a.f0 ∧ a.f0 ≤ 9223372036854775807) (rb : -9223372036854775808 ≤ b.f0 ∧ b.f0 ≤ 9223372036854775807)
    (hs : lensM (ofS a) ≤ 100000000000000 ∧ lensM (ofS b) ≤ 100000000000000 ∧ lensM (ofS c) ≤ 100000000000000) (k : Nat) (hk : 13000000 ≤ k) : lawM k (ofS a) (ofS b) (ofS c) = some true := by
  unfold lawM
  rw [if_pos hs]
  have aw := awake_at k (by omega)
  by_cases big : 150 < lensM (ofS a) + lensM (ofS b) + lensM (ofS c)
  · rw [if_pos big]; exact aw
  rw [if_neg big]
  unfold lensM ofS at big
  dsimp only at big
  have la : a.f2.f0.length ≤ 1048576 ∧ a.f2.f1.length ≤ 1048576 ∧ a.f2.f2.length ≤ 1048576 := by omega
  have lb : b.f2.f0.length ≤ 1048576 ∧ b.f2.f1.length ≤ 1048576 ∧ b.f2.f2.length ≤ 1048576 := by omega
  have lc : c.f2.f0.length ≤ 1048576 ∧ c.f2.f1.length ≤ 1048576 ∧ c.f2.f2.length ≤ 1048576 := by omega
  clear big
  obtain ⟨zbc, hzbc⟩ := cmp_some b c rb lb lc k hk
  rcases cmp_any a b ra la lb k hk with ⟨va, vb, sab, hab⟩ | ⟨_, hab⟩ | ⟨_, _, _, hab⟩
  rotate_left
  · rw [hab, Option.bind_some, hzbc, Option.bind_some, if_neg (fun h => by have := h.1; exact absurd this (by decide))]; exact aw
  · rw [hab, Option.bind_some, hzbc, Option.bind_some, if_neg (fun h => by have := h.1; exact absurd this (by decide))]; exact aw
  rcases cmp_any b c rb lb lc k hk with ⟨_, vc, sbc, hbc⟩ | ⟨_, hbc⟩ | ⟨_, _, _, hbc⟩
  rotate_left
  · rw [hab, Option.bind_some, hbc, Option.bind_some, if_neg (fun h => by have := h.2; exact absurd this (by decide))]; exact aw
  · rw [hab, Option.bind_some, hbc, Option.bind_some, if_neg (fun h => by have := h.2; exact absurd this (by decide))]; exact aw
  have vab := comp_vld va vb sab
  have vbc := comp_vld vb vc sbc
  have hu : cmpM k (ofS emptyS) (ofS a) = some (ofS a, 0) := by
    have h := cmp_ok emptyS a empty_vld va (by show (0 : Int) + a.f0 ≤ _; have := va.1; omega) k hk
    rw [comp_empty_l] at h
    exact h
  have hv : cmpM k (ofS a) (ofS emptyS) = some (ofS a, 0) := by
    have h := cmp_ok a emptyS va empty_vld (by show a.f0 + (0 : Int) ≤ _; have := va.1; omega) k hk
    rw [comp_empty_r a va] at h
    exact h
  have sa := sum_same a la k hk
  rw [hab, Option.bind_some, hbc, Option.bind_some, if_pos ⟨rfl, rfl⟩]
  by_cases s : a.f0 + b.f0 + c.f0 ≤ 1048576
  · have hx := cmp_ok (comp a b) c vab vc (show a.f0 + b.f0 + c.f0 ≤ _ from s) k hk
    have hy := cmp_ok a (comp b c) va vbc (show a.f0 + (b.f0 + c.f0) ≤ _ by omega) k hk
    rw [comp_assoc a b c va] at hx
    have vx := comp_vld va vbc (show a.f0 + (b.f0 + c.f0) ≤ _ by omega)
    dsimp only
    rw [hx, Option.bind_some, hy, Option.bind_some, emp_at, Option.bind_some, hu, Option.bind_some, hv, Option.bind_some, if_pos ⟨rfl, rfl, rfl⟩]
    dsimp only
    rw [sum_same _ (vldS_len vx) k hk, Option.bind_some, sa, Option.bind_some, Option.bind_some, if_pos ⟨rfl, rfl, rfl⟩]
    exact aw
  · have hx := cmp_big (comp a b) c vab vc (show 1048576 < a.f0 + b.f0 + c.f0 by omega) k hk
    have hy := cmp_big a (comp b c) va vbc (show 1048576 < a.f0 + (b.f0 + c.f0) by omega) k hk
    dsimp only
    rw [hx, Option.bind_some, hy, Option.bind_some, emp_at, Option.bind_some, hu, Option.bind_some, hv, Option.bind_some, if_pos ⟨rfl, rfl, rfl⟩]
    dsimp only
    rw [sum_same noS (by decide) k hk, Option.bind_some, sa, Option.bind_some, Option.bind_some, if_pos ⟨rfl, rfl, rfl⟩]
    exact aw
theorem wf_r {x : Int} (h : (Lit.int .i64 x).wf = true) : -9223372036854775808 ≤ x ∧ x ≤ 9223372036854775807 := by
  have h2 := h
  simp only [Lit.wf, Bool.and_eq_true, decide_eq_true_eq] at h2
  have h3 : IntKind.i64.max = 9223372036854775807 := rfl
  have h4 : IntKind.i64.min = -9223372036854775808 := rfl
  omega
theorem AutomatonMonoid : ndjqlaw18_AutomatonMonoid.Pure := by
  intro a0 a1 a2 a3 al0 al1 al2 b0 b1 b2 b3 bl0 bl1 bl2 c0 c1 c2 c3 cl0 cl1 cl2 wa0 wa1 wa2 wa3 wa4 wa5 wa6 wb0 wb1 wb2 wb3 wb4 wb5 wb6 wc0 wc1 wc2 wc3 wc4 wc5 wc6
  obtain ⟨k, hk⟩ : ∃ k, 13000000 ≤ k := ⟨_, Nat.le_refl _⟩
  refine ⟨k, ?_⟩
  unfold ndjqlaw18_AutomatonMonoid.f
  have h1 := wa4.1
  have h2 := wa5.1
  have h3 := wa6.1
  have h4 := wb4.1
  have h5 := wb5.1
  have h6 := wb6.1
  have h7 := wc4.1
  have h8 := wc5.1
  have h9 := wc6.1
  exact mono_law ⟨a0, ⟨a1, a2, a3⟩, ⟨al0, al1, al2⟩⟩ ⟨b0, ⟨b1, b2, b3⟩, ⟨bl0, bl1, bl2⟩⟩ ⟨c0, ⟨c1, c2, c3⟩, ⟨cl0, cl1, cl2⟩⟩ (wf_r wa0) (wf_r wb0)
    ⟨by show al0.length + al1.length + al2.length ≤ _; omega, by show bl0.length + bl1.length + bl2.length ≤ _; omega, by show cl0.length + cl1.length + cl2.length ≤ _; omega⟩ k hk

end Go.Proofs.YtjejjhpmiinanaaDoor.Pure
