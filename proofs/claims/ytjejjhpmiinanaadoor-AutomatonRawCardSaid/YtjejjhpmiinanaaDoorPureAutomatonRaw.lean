/- AutomatonRaw's pure law: Valid, Compose and All answer as the reference for whatever summaries of at most 60 line feeds each, at most five of them; else the sanity check alone remains. -/
import Derived.Test.YtjejjhpmiinanaaDoorQAutomatonRawx11
import Derived.Laws.BitsLemmas
import Derived.OpenShut
namespace Go.Proofs.YtjejjhpmiinanaaDoor.Pure
open Go.RowKit Go.Proofs.YtjejjhpmiinanaaDoor.QAutomatonRaw Go.Proofs.YtjejjhpmiinanaaDoorW.PrintWords Go.Proofs.YtjejjhpmiinanaaDoorW.PrintLast
set_option linter.unusedVariables false
set_option linter.unusedSimpArgs false
/-! ### numbers and the list of a string's bytes -/
theorem wrap_id (n : Int) (h : -9223372036854775808 ≤ n) (h' : n ≤ 9223372036854775807) : wrap64 n = n := by unfold wrap64; omega
theorem wrap_succ (a : Nat) (hc : a ≤ 4611686018427387904) : wrap64 ((a : Int) + 1) = ((a + 1 : Nat) : Int) := by rw [wrap_id _ (by omega) (by omega)]; omega
def nm (s : ByteArray) : List Int := s.data.toList.map fun c => (c.toNat : Int)
theorem nm_len (s : ByteArray) : (nm s).length = s.size := by unfold nm; rw [List.length_map, Array.length_toList]; rfl
theorem nm_get (s : ByteArray) (j : Nat) (h : j < s.size) : (nm s)[j]? = some (bt s (j : Int)) := by
  have h' : j < s.data.toList.length := by rw [Array.length_toList]; exact h
  unfold nm bt
  rw [List.getElem?_map, List.getElem?_eq_getElem h', dif_pos (show ((j : Int)).toNat < s.size from h)]
  rfl
theorem nm_drop (s : ByteArray) (j : Nat) (h : j < s.size) : (nm s).drop j = bt s (j : Int) :: (nm s).drop (j + 1) := by
  have hl := nm_len s
  rw [List.drop_eq_getElem_cons (by omega)]
  congr 1
  have := nm_get s j h
  rw [List.getElem?_eq_getElem (by omega)] at this
  exact Option.some.inj this
theorem rd_drop (xs : List Int) (j : Nat) (h : j < xs.length) : xs.drop j = rd xs (j : Int) :: xs.drop (j + 1) := by
  rw [List.drop_eq_getElem_cons h]
  congr 1
  unfold rd
  rw [Int.toNat_natCast, List.getD_eq_getElem?_getD, List.getElem?_eq_getElem h]
  rfl
/-! ### the automaton over a list of bytes -/
def stp (s b : Int) : Int × Bool := if s = 0 then (if b = 34 then (1, false) else if b = 10 then (0, true) else (0, false)) else if s = 1 then (if b = 34 then (0, false) else if b = 92 then (2, false) else (1, false)) else if s = 2 then (1, false) else (0, false)
/-- The state behind a list of bytes, and the offsets of the line feeds that end a record; the first byte has the offset 'at'. -/
def scanL : Int → Nat → List Int → Int × List Int
  | st, _, [] => (st, [])
  | st, i, b :: t => ((scanL (stp st b).1 (i + 1) t).1, if (stp st b).2 = true then (i : Int) :: (scanL (stp st b).1 (i + 1) t).2 else (scanL (stp st b).1 (i + 1) t).2)
theorem step_at (s b : Int) : automaton_Step.f s b = some (stp s b) := by
  unfold automaton_Step.f stp
  repeat' split
  all_goals rfl
/-- Where a line feed ends a record: in the list, behind the one before. -/
theorem sum0 (s : ByteArray) (hs : s.size ≤ 1048576) (o n e1 e2 : Int) (L1 L2 : List Int) (k : Nat) : ∀ (m i : Nat) (e0 : Int) (L0 : List Int) (f : Nat), i + m = s.size → L0.length ≤ i → f = k + m + 1 →
    automaton_Summarize.l1 f s 0 o (s.size : Int) (i : Int) n e0 e1 e2 L0 L1 L2 = automaton_Summarize.l0 k s (wrap64 (o + 1)) n (scanL e0 i ((nm s).drop i)).1 e1 e2 (L0 ++ (scanL e0 i ((nm s).drop i)).2) L1 L2
  | 0, i, e0, L0, f, hi, hL, hf => by
    obtain ⟨f, rfl⟩ : ∃ g, f = g + 1 := ⟨f - 1, by omega⟩
    obtain rfl : f = k := by omega
    rw [automaton_Summarize.l1]
    rw [if_neg (by omega), List.drop_eq_nil_of_le (by rw [nm_len]; omega)]
    simp only [scanL, List.append_nil]
  | m + 1, i, e0, L0, f, hi, hL, hf => by
    obtain ⟨f, rfl⟩ : ∃ g, f = g + 1 := ⟨f - 1, by omega⟩
    have hlt : i < s.size := by omega
    rw [automaton_Summarize.l1]
    rw [if_pos (by omega), if_pos rfl, if_pos (by omega), if_pos (by omega), step_at, Option.bind_some, nm_drop s i hlt]
    by_cases c : (stp e0 (bt s (i : Int))).2 = true
    · rw [if_pos c, if_pos (by omega), wrap_succ i (by omega)]
      rw [sum0 s hs o n e1 e2 L1 L2 k m (i + 1) _ (L0 ++ [(i : Int)]) f (by omega) (by rw [List.length_append, List.length_singleton]; omega) (by omega)]
      simp only [scanL]
      rw [if_pos c, List.append_assoc]
      rfl
    · rw [if_neg c, wrap_succ i (by omega)]
      rw [sum0 s hs o n e1 e2 L1 L2 k m (i + 1) _ L0 f (by omega) (by omega) (by omega)]
      simp only [scanL]
      rw [if_neg c]
theorem sum1 (s : ByteArray) (hs : s.size ≤ 1048576) (o n e0 e2 : Int) (L0 L2 : List Int) (k : Nat) : ∀ (m i : Nat) (e1 : Int) (L1 : List Int) (f : Nat), i + m = s.size → L1.length ≤ i → f = k + m + 1 →
    automaton_Summarize.l1 f s 1 o (s.size : Int) (i : Int) n e0 e1 e2 L0 L1 L2 = automaton_Summarize.l0 k s (wrap64 (o + 1)) n e0 (scanL e1 i ((nm s).drop i)).1 e2 L0 (L1 ++ (scanL e1 i ((nm s).drop i)).2) L2
  | 0, i, e1, L1, f, hi, hL, hf => by
    obtain ⟨f, rfl⟩ : ∃ g, f = g + 1 := ⟨f - 1, by omega⟩
    obtain rfl : f = k := by omega
    rw [automaton_Summarize.l1]
    rw [if_neg (by omega), List.drop_eq_nil_of_le (by rw [nm_len]; omega)]
    simp only [scanL, List.append_nil]
  | m + 1, i, e1, L1, f, hi, hL, hf => by
    obtain ⟨f, rfl⟩ : ∃ g, f = g + 1 := ⟨f - 1, by omega⟩
    have hlt : i < s.size := by omega
    rw [automaton_Summarize.l1]
    rw [if_pos (by omega), if_neg (by decide), if_pos rfl, if_pos (by omega), if_pos (by omega), step_at, Option.bind_some, nm_drop s i hlt]
    by_cases c : (stp e1 (bt s (i : Int))).2 = true
    · rw [if_pos c, if_pos (by omega), wrap_succ i (by omega)]
      rw [sum1 s hs o n e0 e2 L0 L2 k m (i + 1) _ (L1 ++ [(i : Int)]) f (by omega) (by rw [List.length_append, List.length_singleton]; omega) (by omega)]
      simp only [scanL]
      rw [if_pos c, List.append_assoc]
      rfl
    · rw [if_neg c, wrap_succ i (by omega)]
      rw [sum1 s hs o n e0 e2 L0 L2 k m (i + 1) _ L1 f (by omega) (by omega) (by omega)]
      simp only [scanL]
      rw [if_neg c]
theorem sum2 (s : ByteArray) (hs : s.size ≤ 1048576) (o n e0 e1 : Int) (L0 L1 : List Int) (k : Nat) : ∀ (m i : Nat) (e2 : Int) (L2 : List Int) (f : Nat), i + m = s.size → L2.length ≤ i → f = k + m + 1 →
    automaton_Summarize.l1 f s 2 o (s.size : Int) (i : Int) n e0 e1 e2 L0 L1 L2 = automaton_Summarize.l0 k s (wrap64 (o + 1)) n e0 e1 (scanL e2 i ((nm s).drop i)).1 L0 L1 (L2 ++ (scanL e2 i ((nm s).drop i)).2)
  | 0, i, e2, L2, f, hi, hL, hf => by
    obtain ⟨f, rfl⟩ : ∃ g, f = g + 1 := ⟨f - 1, by omega⟩
    obtain rfl : f = k := by omega
    rw [automaton_Summarize.l1]
    rw [if_neg (by omega), List.drop_eq_nil_of_le (by rw [nm_len]; omega)]
    simp only [scanL, List.append_nil]
  | m + 1, i, e2, L2, f, hi, hL, hf => by
    obtain ⟨f, rfl⟩ : ∃ g, f = g + 1 := ⟨f - 1, by omega⟩
    have hlt : i < s.size := by omega
    rw [automaton_Summarize.l1]
    rw [if_pos (by omega), if_neg (by decide), if_neg (by decide), if_pos rfl, if_pos (by omega), if_pos (by omega), step_at, Option.bind_some, nm_drop s i hlt]
    by_cases c : (stp e2 (bt s (i : Int))).2 = true
    · rw [if_pos c, if_pos (by omega), wrap_succ i (by omega)]
      rw [sum2 s hs o n e0 e1 L0 L1 k m (i + 1) _ (L2 ++ [(i : Int)]) f (by omega) (by rw [List.length_append, List.length_singleton]; omega) (by omega)]
      simp only [scanL]
      rw [if_pos c, List.append_assoc]
      rfl
    · rw [if_neg c, wrap_succ i (by omega)]
      rw [sum2 s hs o n e0 e1 L0 L1 k m (i + 1) _ L2 f (by omega) (by omega) (by omega)]
      simp only [scanL]
      rw [if_neg c]
theorem summarize_at (s : ByteArray) (hs : s.size ≤ 1048576) (k : Nat) (hk : 3 * s.size + 10 ≤ k) : automaton_Summarize.f k s = some ((s.size : Int), (scanL 0 0 (nm s)).1, (scanL 1 0 (nm s)).1, (scanL 2 0 (nm s)).1, (scanL 0 0 (nm s)).2, (scanL 1 0 (nm s)).2, (scanL 2 0 (nm s)).2, 0) := by
  obtain ⟨r, rfl⟩ : ∃ r, k = r + 1 + s.size + 1 + 1 + s.size + 1 + 1 + s.size + 1 + 1 := ⟨k - (3 * s.size + 7), by omega⟩
  unfold automaton_Summarize.f
  rw [if_neg (by omega), automaton_Empty.f, Option.bind_some]
  have z : ((0 : Nat) : Int) = 0 := rfl
  have s0 := fun (k : Nat) => sum0 s hs 0 (s.size : Int) 1 2 [] [] k s.size 0 0 [] (k + s.size + 1) (by omega) (by simp) rfl
  have s1 := fun (e0 : Int) (L0 : List Int) (k : Nat) => sum1 s hs 1 (s.size : Int) e0 2 L0 [] k s.size 0 1 [] (k + s.size + 1) (by omega) (by simp) rfl
  have s2 := fun (e0 e1 : Int) (L0 L1 : List Int) (k : Nat) => sum2 s hs 2 (s.size : Int) e0 e1 L0 L1 k s.size 0 2 [] (k + s.size + 1) (by omega) (by simp) rfl
  simp only [z, List.drop_zero, List.nil_append] at s0 s1 s2
  rw [automaton_Summarize.l0, if_pos (by decide), s0, show wrap64 (0 + 1) = 1 by decide +kernel]
  rw [automaton_Summarize.l0, if_pos (by decide), s1, show wrap64 (1 + 1) = 2 by decide +kernel]
  rw [automaton_Summarize.l0, if_pos (by decide), s2, show wrap64 (2 + 1) = 3 by decide +kernel]
  rw [automaton_Summarize.l0, if_neg (by decide)]
theorem ints_loop (l : List Int) (hl : l.length ≤ 4611686018427387904) : ∀ (d : Nat) (i : Int) (k : Nat), 0 ≤ i → (l.length : Int) - i ≤ d → d < k → i ≤ l.length → ndjqkeep_Ints.l0 k l l i = some true
  | 0, i, k, h0, hd, hk, hi => by
    obtain ⟨k, rfl⟩ : ∃ j, k = j + 1 := ⟨k - 1, by omega⟩
    simp only [ndjqkeep_Ints.l0]
    rw [if_neg (by omega)]
  | d + 1, i, k, h0, hd, hk, hi => by
    obtain ⟨k, rfl⟩ : ∃ j, k = j + 1 := ⟨k - 1, by omega⟩
    simp only [ndjqkeep_Ints.l0]
    by_cases c : i < (l.length : Int)
    · rw [if_pos c, if_pos h0, if_pos c, if_pos trivial, wrap_id (i + 1) (by omega) (by omega)]
      exact ints_loop l hl d (i + 1) k (by omega) (by omega) (by omega) (by omega)
    · rw [if_neg c]
theorem ints_same (l : List Int) (hl : l.length ≤ 4611686018427387904) (k : Nat) (hk : l.length < k) : ndjqkeep_Ints.f k l l = some true := by
  unfold ndjqkeep_Ints.f
  rw [if_pos rfl]
  exact ints_loop l hl l.length 0 k (by omega) (by omega) hk (by omega)
/-! ### keep.Summaries: a summary is the same as itself -/
theorem summaries_same (n e0 e1 e2 : Int) (L0 L1 L2 : List Int) (h0 : L0.length ≤ 4611686018427387904) (h1 : L1.length ≤ 4611686018427387904) (h2 : L2.length ≤ 4611686018427387904) (k : Nat) (k0 : L0.length + 10 < k) (k1 : L1.length + 10 < k) (k2 : L2.length + 10 < k) :
    ndjqkeep_Summaries.f k n e0 e1 e2 L0 L1 L2 n e0 e1 e2 L0 L1 L2 = some true := by
  obtain ⟨k, rfl⟩ : ∃ r, k = r + 1 + 1 + 1 + 1 + 1 := ⟨k - 5, by omega⟩
  unfold ndjqkeep_Summaries.f
  rw [if_pos rfl, show (!(e0 == e0) || (!(e1 == e1) || (!(e2 == e2)))) = false by simp, ndjqkeep_Summaries.j0, if_neg (by decide)]
  rw [ndjqkeep_Summaries.l0, if_pos (by decide), if_pos rfl, ints_same L0 h0 _ (by omega), Option.bind_some, if_pos rfl]
  rw [ndjqkeep_Summaries.l0, if_pos (by decide), if_neg (by decide), if_pos rfl, ints_same L1 h1 _ (by omega), Option.bind_some, if_pos rfl]
  rw [ndjqkeep_Summaries.l0, if_pos (by decide), if_neg (by decide), if_neg (by decide), if_pos rfl, ints_same L2 h2 _ (by omega), Option.bind_some, if_pos rfl]
  rw [ndjqkeep_Summaries.l0, if_neg (by decide)]
/-! ### reading on: two pieces; offsets grow strictly -/
/-- Strictly growing, behind 'last', below n. -/
def inc : Int → Int → List Int → Prop
  | _, _, [] => True
  | last, n, x :: t => last < x ∧ x < n ∧ inc x n t
theorem inc_weak : ∀ (l : List Int) (a b n : Int), a ≤ b → inc b n l → inc a n l
  | [], _, _, _, _, _ => trivial
  | x :: t, a, b, n, h, hi => ⟨by have := hi.1; omega, hi.2.1, hi.2.2⟩
theorem inc_nonneg : ∀ (l : List Int) (a n : Int), -1 ≤ a → inc a n l → ∀ x ∈ l, 0 ≤ x ∧ x < n
  | [], _, _, _, _ => by simp
  | y :: t, a, n, h, hi => by
    intro x hx
    rcases List.mem_cons.1 hx with rfl | hx
    · exact ⟨by have := hi.1; omega, hi.2.1⟩
    · exact inc_nonneg t y n (by have := hi.1; omega) hi.2.2 x hx
/-! ### Valid -/
theorem known_at (e : Int) (h0 : 0 ≤ e) (h2 : e ≤ 2) : automaton_known.f e = some true := by
  unfold automaton_known.f
  rw [if_pos (by omega), decide_eq_true h2]
theorem valid_loop0 (n e0 e1 e2 : Int) (L0 L1 L2 M P0 P1 P2 : List Int) (hM : M.length ≤ 4611686018427387904) (h0 : 0 ≤ e0) (h2 : e0 ≤ 2) (k : Nat) : ∀ (m i : Nat) (last : Int) (f : Nat), i + m = M.length → inc last n (M.drop i) → f = k + m + 1 →
    automaton_Valid.l1 f last M (M.length : Int) (i : Int) n e0 e1 e2 L0 L1 L2 P0 P1 P2 = automaton_Valid.l0 k 1 n e0 e1 e2 L0 L1 L2 P0 P1 P2
  | 0, i, last, f, hi, hc, hf => by
    obtain ⟨f, rfl⟩ : ∃ g, f = g + 1 := ⟨f - 1, by omega⟩
    obtain rfl : f = k := by omega
    rw [automaton_Valid.l1, if_neg (by omega), known_at _ h0 h2, Option.bind_some, if_pos rfl]
  | m + 1, i, last, f, hi, hc, hf => by
    obtain ⟨f, rfl⟩ : ∃ g, f = g + 1 := ⟨f - 1, by omega⟩
    have hlt : i < M.length := by omega
    rw [rd_drop M i hlt] at hc
    obtain ⟨c1, c2, c3⟩ := hc
    rw [automaton_Valid.l1, if_pos (by omega), if_pos (by omega), if_pos (by omega), if_neg (by omega), if_neg (by omega), wrap_succ i (by omega)]
    exact valid_loop0 n e0 e1 e2 L0 L1 L2 M P0 P1 P2 hM h0 h2 k m (i + 1) _ f (by omega) c3 (by omega)
theorem valid_loop1 (n e0 e1 e2 : Int) (L0 L1 L2 M P0 P1 P2 : List Int) (hM : M.length ≤ 4611686018427387904) (h0 : 0 ≤ e1) (h2 : e1 ≤ 2) (k : Nat) : ∀ (m i : Nat) (last : Int) (f : Nat), i + m = M.length → inc last n (M.drop i) → f = k + m + 1 →
    automaton_Valid.l101 f last M (M.length : Int) (i : Int) n e0 e1 e2 L0 L1 L2 P0 P1 P2 = automaton_Valid.l0 k 2 n e0 e1 e2 L0 L1 L2 P0 P1 P2
  | 0, i, last, f, hi, hc, hf => by
    obtain ⟨f, rfl⟩ : ∃ g, f = g + 1 := ⟨f - 1, by omega⟩
    obtain rfl : f = k := by omega
    rw [automaton_Valid.l101, if_neg (by omega), known_at _ h0 h2, Option.bind_some, if_pos rfl]
  | m + 1, i, last, f, hi, hc, hf => by
    obtain ⟨f, rfl⟩ : ∃ g, f = g + 1 := ⟨f - 1, by omega⟩
    have hlt : i < M.length := by omega
    rw [rd_drop M i hlt] at hc
    obtain ⟨c1, c2, c3⟩ := hc
    rw [automaton_Valid.l101, if_pos (by omega), if_pos (by omega), if_pos (by omega), if_neg (by omega), if_neg (by omega), wrap_succ i (by omega)]
    exact valid_loop1 n e0 e1 e2 L0 L1 L2 M P0 P1 P2 hM h0 h2 k m (i + 1) _ f (by omega) c3 (by omega)
theorem valid_loop2 (n e0 e1 e2 : Int) (L0 L1 L2 M P0 P1 P2 : List Int) (hM : M.length ≤ 4611686018427387904) (h0 : 0 ≤ e2) (h2 : e2 ≤ 2) (k : Nat) : ∀ (m i : Nat) (last : Int) (f : Nat), i + m = M.length → inc last n (M.drop i) → f = k + m + 1 →
    automaton_Valid.l201 f last M (M.length : Int) (i : Int) n e0 e1 e2 L0 L1 L2 P0 P1 P2 = automaton_Valid.l0 k 3 n e0 e1 e2 L0 L1 L2 P0 P1 P2
  | 0, i, last, f, hi, hc, hf => by
    obtain ⟨f, rfl⟩ : ∃ g, f = g + 1 := ⟨f - 1, by omega⟩
    obtain rfl : f = k := by omega
    rw [automaton_Valid.l201, if_neg (by omega), known_at _ h0 h2, Option.bind_some, if_pos rfl]
  | m + 1, i, last, f, hi, hc, hf => by
    obtain ⟨f, rfl⟩ : ∃ g, f = g + 1 := ⟨f - 1, by omega⟩
    have hlt : i < M.length := by omega
    rw [rd_drop M i hlt] at hc
    obtain ⟨c1, c2, c3⟩ := hc
    rw [automaton_Valid.l201, if_pos (by omega), if_pos (by omega), if_pos (by omega), if_neg (by omega), if_neg (by omega), wrap_succ i (by omega)]
    exact valid_loop2 n e0 e1 e2 L0 L1 L2 M P0 P1 P2 hM h0 h2 k m (i + 1) _ f (by omega) c3 (by omega)
theorem valid_at (n e0 e1 e2 : Int) (L0 L1 L2 : List Int) (hn : 0 ≤ n) (hn2 : n ≤ 1048576) (a0 : 0 ≤ e0 ∧ e0 ≤ 2) (a1 : 0 ≤ e1 ∧ e1 ≤ 2) (a2 : 0 ≤ e2 ∧ e2 ≤ 2) (i0 : inc (-1) n L0) (i1 : inc (-1) n L1) (i2 : inc (-1) n L2)
    (l0 : L0.length ≤ 4611686018427387904) (l1 : L1.length ≤ 4611686018427387904) (l2 : L2.length ≤ 4611686018427387904) (k : Nat) (hk : L0.length + L1.length + L2.length + 20 ≤ k) : automaton_Valid.f k n e0 e1 e2 L0 L1 L2 = some true := by
  obtain ⟨r, rfl⟩ : ∃ r, k = (r + 1 + L2.length + 1 + 1 + L1.length + 1 + 1 + L0.length + 1) + 1 + 1 := ⟨k - (L0.length + L1.length + L2.length + 8), by omega⟩
  unfold automaton_Valid.f
  rw [if_neg (by omega), decide_eq_false (by omega), automaton_Valid.j0, if_neg (by decide)]
  have z : ((0 : Nat) : Int) = 0 := rfl
  have v0 := fun (k : Nat) => valid_loop0 n e0 e1 e2 L0 L1 L2 L0 L0 L1 L2 (by omega) a0.1 a0.2 k L0.length 0 (-1) (k + L0.length + 1) (by omega) i0 rfl
  have v1 := fun (k : Nat) => valid_loop1 n e0 e1 e2 L0 L1 L2 L1 L0 L1 L2 (by omega) a1.1 a1.2 k L1.length 0 (-1) (k + L1.length + 1) (by omega) i1 rfl
  have v2 := fun (k : Nat) => valid_loop2 n e0 e1 e2 L0 L1 L2 L2 L0 L1 L2 (by omega) a2.1 a2.2 k L2.length 0 (-1) (k + L2.length + 1) (by omega) i2 rfl
  simp only [z] at v0 v1 v2
  rw [automaton_Valid.l0, if_pos (by decide), if_pos rfl, v0]
  rw [automaton_Valid.l0, if_pos (by decide), if_neg (by decide), if_pos rfl, v1]
  rw [automaton_Valid.l0, if_pos (by decide), if_neg (by decide), if_neg (by decide), if_pos rfl, v2]
  rw [automaton_Valid.l0, if_neg (by decide)]
/-! ### Compose -/
def sel {α : Type} (m : Int) (x y z : α) : α := if m = 0 then x else if m = 1 then y else z
theorem conc0 (a0 a1 a2 a3 : Int) (A0 A1 A2 : List Int) (b0 b1 b2 b3 : Int) (B0 B1 B2 : List Int) (ha : 0 ≤ a0) (ha2 : a0 ≤ 1048576) (M : List Int) (hM : M.length ≤ 1048576) (hx : ∀ x ∈ M, 0 ≤ x ∧ x ≤ 1048576) (o n e0 e1 e2 : Int) (L1 L2 : List Int) (p0 p1 p2 : Int) (k : Nat) : ∀ (m i : Nat) (L0 : List Int) (f : Nat), i + m = M.length → L0.length ≤ 1048576 + i → f = k + m + 1 →
    automaton_Compose.l1 f 0 o M (M.length : Int) (i : Int) a0 a1 a2 a3 A0 A1 A2 b0 b1 b2 b3 B0 B1 B2 n e0 e1 e2 L0 L1 L2 p0 p1 p2 = automaton_Compose.l0 k (wrap64 (o + 1)) a0 a1 a2 a3 A0 A1 A2 b0 b1 b2 b3 B0 B1 B2 n e0 e1 e2 (L0 ++ (M.drop i).map (fun x => a0 + x)) L1 L2 p0 p1 p2
  | 0, i, L0, f, hi, hL, hf => by
    obtain ⟨f, rfl⟩ : ∃ g, f = g + 1 := ⟨f - 1, by omega⟩
    obtain rfl : f = k := by omega
    rw [automaton_Compose.l1, if_neg (by omega), List.drop_eq_nil_of_le (by omega), List.map_nil, List.append_nil]
  | m + 1, i, L0, f, hi, hL, hf => by
    obtain ⟨f, rfl⟩ : ∃ g, f = g + 1 := ⟨f - 1, by omega⟩
    have hlt : i < M.length := by omega
    have e := rd_drop M i hlt
    have hm : rd M (i : Int) ∈ M := List.mem_of_mem_drop (by rw [e]; exact List.mem_cons_self ..)
    have hr := hx _ hm
    rw [automaton_Compose.l1, if_pos (by omega), if_pos (by omega), if_pos (by omega), if_pos rfl, if_pos (by omega), wrap_succ i (by omega), wrap_id (a0 + rd M (i : Int)) (by omega) (by omega)]
    rw [conc0 a0 a1 a2 a3 A0 A1 A2 b0 b1 b2 b3 B0 B1 B2 ha ha2 M hM hx o n e0 e1 e2 L1 L2 p0 p1 p2 k m (i + 1) (L0 ++ [a0 + rd M (i : Int)]) f (by omega) (by rw [List.length_append, List.length_singleton]; omega) (by omega)]
    rw [e, List.map_cons, List.append_assoc]
    rfl
theorem conc1 (a0 a1 a2 a3 : Int) (A0 A1 A2 : List Int) (b0 b1 b2 b3 : Int) (B0 B1 B2 : List Int) (ha : 0 ≤ a0) (ha2 : a0 ≤ 1048576) (M : List Int) (hM : M.length ≤ 1048576) (hx : ∀ x ∈ M, 0 ≤ x ∧ x ≤ 1048576) (o n e0 e1 e2 : Int) (L0 L2 : List Int) (p0 p1 p2 : Int) (k : Nat) : ∀ (m i : Nat) (L1 : List Int) (f : Nat), i + m = M.length → L1.length ≤ 1048576 + i → f = k + m + 1 →
    automaton_Compose.l1 f 1 o M (M.length : Int) (i : Int) a0 a1 a2 a3 A0 A1 A2 b0 b1 b2 b3 B0 B1 B2 n e0 e1 e2 L0 L1 L2 p0 p1 p2 = automaton_Compose.l0 k (wrap64 (o + 1)) a0 a1 a2 a3 A0 A1 A2 b0 b1 b2 b3 B0 B1 B2 n e0 e1 e2 L0 (L1 ++ (M.drop i).map (fun x => a0 + x)) L2 p0 p1 p2
  | 0, i, L1, f, hi, hL, hf => by
    obtain ⟨f, rfl⟩ : ∃ g, f = g + 1 := ⟨f - 1, by omega⟩
    obtain rfl : f = k := by omega
    rw [automaton_Compose.l1, if_neg (by omega), List.drop_eq_nil_of_le (by omega), List.map_nil, List.append_nil]
  | m + 1, i, L1, f, hi, hL, hf => by
    obtain ⟨f, rfl⟩ : ∃ g, f = g + 1 := ⟨f - 1, by omega⟩
    have hlt : i < M.length := by omega
    have e := rd_drop M i hlt
    have hm : rd M (i : Int) ∈ M := List.mem_of_mem_drop (by rw [e]; exact List.mem_cons_self ..)
    have hr := hx _ hm
    rw [automaton_Compose.l1, if_pos (by omega), if_pos (by omega), if_pos (by omega), if_neg (by decide), if_pos rfl, if_pos (by omega), wrap_succ i (by omega), wrap_id (a0 + rd M (i : Int)) (by omega) (by omega)]
    rw [conc1 a0 a1 a2 a3 A0 A1 A2 b0 b1 b2 b3 B0 B1 B2 ha ha2 M hM hx o n e0 e1 e2 L0 L2 p0 p1 p2 k m (i + 1) (L1 ++ [a0 + rd M (i : Int)]) f (by omega) (by rw [List.length_append, List.length_singleton]; omega) (by omega)]
    rw [e, List.map_cons, List.append_assoc]
    rfl
theorem conc2 (a0 a1 a2 a3 : Int) (A0 A1 A2 : List Int) (b0 b1 b2 b3 : Int) (B0 B1 B2 : List Int) (ha : 0 ≤ a0) (ha2 : a0 ≤ 1048576) (M : List Int) (hM : M.length ≤ 1048576) (hx : ∀ x ∈ M, 0 ≤ x ∧ x ≤ 1048576) (o n e0 e1 e2 : Int) (L0 L1 : List Int) (p0 p1 p2 : Int) (k : Nat) : ∀ (m i : Nat) (L2 : List Int) (f : Nat), i + m = M.length → L2.length ≤ 1048576 + i → f = k + m + 1 →
    automaton_Compose.l1 f 2 o M (M.length : Int) (i : Int) a0 a1 a2 a3 A0 A1 A2 b0 b1 b2 b3 B0 B1 B2 n e0 e1 e2 L0 L1 L2 p0 p1 p2 = automaton_Compose.l0 k (wrap64 (o + 1)) a0 a1 a2 a3 A0 A1 A2 b0 b1 b2 b3 B0 B1 B2 n e0 e1 e2 L0 L1 (L2 ++ (M.drop i).map (fun x => a0 + x)) p0 p1 p2
  | 0, i, L2, f, hi, hL, hf => by
    obtain ⟨f, rfl⟩ : ∃ g, f = g + 1 := ⟨f - 1, by omega⟩
    obtain rfl : f = k := by omega
    rw [automaton_Compose.l1, if_neg (by omega), List.drop_eq_nil_of_le (by omega), List.map_nil, List.append_nil]
  | m + 1, i, L2, f, hi, hL, hf => by
    obtain ⟨f, rfl⟩ : ∃ g, f = g + 1 := ⟨f - 1, by omega⟩
    have hlt : i < M.length := by omega
    have e := rd_drop M i hlt
    have hm : rd M (i : Int) ∈ M := List.mem_of_mem_drop (by rw [e]; exact List.mem_cons_self ..)
    have hr := hx _ hm
    rw [automaton_Compose.l1, if_pos (by omega), if_pos (by omega), if_pos (by omega), if_neg (by decide), if_neg (by decide), if_pos rfl, if_pos (by omega), wrap_succ i (by omega), wrap_id (a0 + rd M (i : Int)) (by omega) (by omega)]
    rw [conc2 a0 a1 a2 a3 A0 A1 A2 b0 b1 b2 b3 B0 B1 B2 ha ha2 M hM hx o n e0 e1 e2 L0 L1 p0 p1 p2 k m (i + 1) (L2 ++ [a0 + rd M (i : Int)]) f (by omega) (by rw [List.length_append, List.length_singleton]; omega) (by omega)]
    rw [e, List.map_cons, List.append_assoc]
    rfl
theorem round0 (a0 a1 a2 a3 : Int) (A0 A1 A2 : List Int) (b0 b1 b2 b3 : Int) (B0 B1 B2 : List Int) (ha : 0 ≤ a0) (ha2 : a0 ≤ 1048576) (hA : A0.length ≤ 1048576) (hB0 : B0.length ≤ 1048576) (hB1 : B1.length ≤ 1048576) (hB2 : B2.length ≤ 1048576) (hb0 : ∀ x ∈ B0, 0 ≤ x ∧ x ≤ 1048576) (hb1 : ∀ x ∈ B1, 0 ≤ x ∧ x ≤ 1048576) (hb2 : ∀ x ∈ B2, 0 ≤ x ∧ x ≤ 1048576)
    (n e0 e1 e2 : Int) (L0 L1 L2 : List Int) (p0 p1 p2 : Int) (hp : p0 = 0 ∨ p0 = 1 ∨ p0 = 2) (k f : Nat) (hf : f = k + (sel p0 B0 B1 B2).length + 6) :
    automaton_Compose.l0 f 0 a0 a1 a2 a3 A0 A1 A2 b0 b1 b2 b3 B0 B1 B2 n e0 e1 e2 L0 L1 L2 p0 p1 p2 = automaton_Compose.l0 k 1 a0 a1 a2 a3 A0 A1 A2 b0 b1 b2 b3 B0 B1 B2 n (sel p0 b1 b2 b3) e1 e2 (A0 ++ (sel p0 B0 B1 B2).map (fun x => a0 + x)) L1 L2 p0 p1 p2 := by
  rcases hp with rfl | rfl | rfl
  · simp only [sel, if_true, eq_self] at hf ⊢
    obtain ⟨f, rfl⟩ : ∃ g, f = g + 1 + 1 + 1 + 1 + 1 := ⟨f - 5, by omega⟩
    rw [automaton_Compose.l0, if_pos (by decide), if_pos rfl]
    rw [automaton_Compose.j2, if_pos rfl, if_pos rfl]
    rw [automaton_Compose.j3, if_pos rfl, if_pos (by rw [List.length_nil]; omega), List.nil_append]
    rw [automaton_Compose.j4, if_pos rfl]
    rw [automaton_Compose.j5]
    have c := conc0 a0 a1 a2 a3 A0 A1 A2 b0 b1 b2 b3 B0 B1 B2 ha ha2 B0 hB0 hb0 0 n b1 e1 e2 L1 L2 0 p1 p2 k B0.length 0 A0 f (by omega) (by omega) (by omega)
    rw [show ((0 : Nat) : Int) = 0 from rfl, List.drop_zero, show wrap64 (0 + 1) = 1 by decide +kernel] at c
    exact c
  · simp only [sel, if_true, show ((1 : Int) = 0) = False by decide, if_false] at hf ⊢
    obtain ⟨f, rfl⟩ : ∃ g, f = g + 1 + 1 + 1 + 1 + 1 := ⟨f - 5, by omega⟩
    rw [automaton_Compose.l0, if_pos (by decide), if_pos rfl]
    rw [automaton_Compose.j2, if_neg (by decide), if_pos rfl, if_pos rfl]
    rw [automaton_Compose.j3, if_pos rfl, if_pos (by rw [List.length_nil]; omega), List.nil_append]
    rw [automaton_Compose.j4, if_neg (by decide), if_pos rfl]
    rw [automaton_Compose.j5]
    have c := conc0 a0 a1 a2 a3 A0 A1 A2 b0 b1 b2 b3 B0 B1 B2 ha ha2 B1 hB1 hb1 0 n b2 e1 e2 L1 L2 1 p1 p2 k B1.length 0 A0 f (by omega) (by omega) (by omega)
    rw [show ((0 : Nat) : Int) = 0 from rfl, List.drop_zero, show wrap64 (0 + 1) = 1 by decide +kernel] at c
    exact c
  · simp only [sel, if_true, show ((2 : Int) = 0) = False by decide, show ((2 : Int) = 1) = False by decide, if_false] at hf ⊢
    obtain ⟨f, rfl⟩ : ∃ g, f = g + 1 + 1 + 1 + 1 + 1 := ⟨f - 5, by omega⟩
    rw [automaton_Compose.l0, if_pos (by decide), if_pos rfl]
    rw [automaton_Compose.j2, if_neg (by decide), if_neg (by decide), if_pos rfl, if_pos rfl]
    rw [automaton_Compose.j3, if_pos rfl, if_pos (by rw [List.length_nil]; omega), List.nil_append]
    rw [automaton_Compose.j4, if_neg (by decide), if_neg (by decide), if_pos rfl]
    rw [automaton_Compose.j5]
    have c := conc0 a0 a1 a2 a3 A0 A1 A2 b0 b1 b2 b3 B0 B1 B2 ha ha2 B2 hB2 hb2 0 n b3 e1 e2 L1 L2 2 p1 p2 k B2.length 0 A0 f (by omega) (by omega) (by omega)
    rw [show ((0 : Nat) : Int) = 0 from rfl, List.drop_zero, show wrap64 (0 + 1) = 1 by decide +kernel] at c
    exact c
theorem round1 (a0 a1 a2 a3 : Int) (A0 A1 A2 : List Int) (b0 b1 b2 b3 : Int) (B0 B1 B2 : List Int) (ha : 0 ≤ a0) (ha2 : a0 ≤ 1048576) (hA : A1.length ≤ 1048576) (hB0 : B0.length ≤ 1048576) (hB1 : B1.length ≤ 1048576) (hB2 : B2.length ≤ 1048576) (hb0 : ∀ x ∈ B0, 0 ≤ x ∧ x ≤ 1048576) (hb1 : ∀ x ∈ B1, 0 ≤ x ∧ x ≤ 1048576) (hb2 : ∀ x ∈ B2, 0 ≤ x ∧ x ≤ 1048576)
    (n e0 e1 e2 : Int) (L0 L1 L2 : List Int) (p0 p1 p2 : Int) (hp : p1 = 0 ∨ p1 = 1 ∨ p1 = 2) (k f : Nat) (hf : f = k + (sel p1 B0 B1 B2).length + 6) :
    automaton_Compose.l0 f 1 a0 a1 a2 a3 A0 A1 A2 b0 b1 b2 b3 B0 B1 B2 n e0 e1 e2 L0 L1 L2 p0 p1 p2 = automaton_Compose.l0 k 2 a0 a1 a2 a3 A0 A1 A2 b0 b1 b2 b3 B0 B1 B2 n e0 (sel p1 b1 b2 b3) e2 L0 (A1 ++ (sel p1 B0 B1 B2).map (fun x => a0 + x)) L2 p0 p1 p2 := by
  rcases hp with rfl | rfl | rfl
  · simp only [sel, if_true, eq_self] at hf ⊢
    obtain ⟨f, rfl⟩ : ∃ g, f = g + 1 + 1 + 1 + 1 + 1 := ⟨f - 5, by omega⟩
    rw [automaton_Compose.l0, if_pos (by decide), if_neg (by decide), if_pos rfl]
    rw [automaton_Compose.j2, if_pos rfl, if_neg (by decide), if_pos rfl]
    rw [automaton_Compose.j3, if_neg (by decide), if_pos rfl, if_pos (by rw [List.length_nil]; omega), List.nil_append]
    rw [automaton_Compose.j4, if_pos rfl]
    rw [automaton_Compose.j5]
    have c := conc1 a0 a1 a2 a3 A0 A1 A2 b0 b1 b2 b3 B0 B1 B2 ha ha2 B0 hB0 hb0 1 n e0 b1 e2 L0 L2 p0 0 p2 k B0.length 0 A1 f (by omega) (by omega) (by omega)
    rw [show ((0 : Nat) : Int) = 0 from rfl, List.drop_zero, show wrap64 (1 + 1) = 2 by decide +kernel] at c
    exact c
  · simp only [sel, if_true, show ((1 : Int) = 0) = False by decide, if_false] at hf ⊢
    obtain ⟨f, rfl⟩ : ∃ g, f = g + 1 + 1 + 1 + 1 + 1 := ⟨f - 5, by omega⟩
    rw [automaton_Compose.l0, if_pos (by decide), if_neg (by decide), if_pos rfl]
    rw [automaton_Compose.j2, if_neg (by decide), if_pos rfl, if_neg (by decide), if_pos rfl]
    rw [automaton_Compose.j3, if_neg (by decide), if_pos rfl, if_pos (by rw [List.length_nil]; omega), List.nil_append]
    rw [automaton_Compose.j4, if_neg (by decide), if_pos rfl]
    rw [automaton_Compose.j5]
    have c := conc1 a0 a1 a2 a3 A0 A1 A2 b0 b1 b2 b3 B0 B1 B2 ha ha2 B1 hB1 hb1 1 n e0 b2 e2 L0 L2 p0 1 p2 k B1.length 0 A1 f (by omega) (by omega) (by omega)
    rw [show ((0 : Nat) : Int) = 0 from rfl, List.drop_zero, show wrap64 (1 + 1) = 2 by decide +kernel] at c
    exact c
  · simp only [sel, if_true, show ((2 : Int) = 0) = False by decide, show ((2 : Int) = 1) = False by decide, if_false] at hf ⊢
    obtain ⟨f, rfl⟩ : ∃ g, f = g + 1 + 1 + 1 + 1 + 1 := ⟨f - 5, by omega⟩
    rw [automaton_Compose.l0, if_pos (by decide), if_neg (by decide), if_pos rfl]
    rw [automaton_Compose.j2, if_neg (by decide), if_neg (by decide), if_pos rfl, if_neg (by decide), if_pos rfl]
    rw [automaton_Compose.j3, if_neg (by decide), if_pos rfl, if_pos (by rw [List.length_nil]; omega), List.nil_append]
    rw [automaton_Compose.j4, if_neg (by decide), if_neg (by decide), if_pos rfl]
    rw [automaton_Compose.j5]
    have c := conc1 a0 a1 a2 a3 A0 A1 A2 b0 b1 b2 b3 B0 B1 B2 ha ha2 B2 hB2 hb2 1 n e0 b3 e2 L0 L2 p0 2 p2 k B2.length 0 A1 f (by omega) (by omega) (by omega)
    rw [show ((0 : Nat) : Int) = 0 from rfl, List.drop_zero, show wrap64 (1 + 1) = 2 by decide +kernel] at c
    exact c
theorem round2 (a0 a1 a2 a3 : Int) (A0 A1 A2 : List Int) (b0 b1 b2 b3 : Int) (B0 B1 B2 : List Int) (ha : 0 ≤ a0) (ha2 : a0 ≤ 1048576) (hA : A2.length ≤ 1048576) (hB0 : B0.length ≤ 1048576) (hB1 : B1.length ≤ 1048576) (hB2 : B2.length ≤ 1048576) (hb0 : ∀ x ∈ B0, 0 ≤ x ∧ x ≤ 1048576) (hb1 : ∀ x ∈ B1, 0 ≤ x ∧ x ≤ 1048576) (hb2 : ∀ x ∈ B2, 0 ≤ x ∧ x ≤ 1048576)
    (n e0 e1 e2 : Int) (L0 L1 L2 : List Int) (p0 p1 p2 : Int) (hp : p2 = 0 ∨ p2 = 1 ∨ p2 = 2) (k f : Nat) (hf : f = k + (sel p2 B0 B1 B2).length + 6) :
    automaton_Compose.l0 f 2 a0 a1 a2 a3 A0 A1 A2 b0 b1 b2 b3 B0 B1 B2 n e0 e1 e2 L0 L1 L2 p0 p1 p2 = automaton_Compose.l0 k 3 a0 a1 a2 a3 A0 A1 A2 b0 b1 b2 b3 B0 B1 B2 n e0 e1 (sel p2 b1 b2 b3) L0 L1 (A2 ++ (sel p2 B0 B1 B2).map (fun x => a0 + x)) p0 p1 p2 := by
  rcases hp with rfl | rfl | rfl
  · simp only [sel, if_true, eq_self] at hf ⊢
    obtain ⟨f, rfl⟩ : ∃ g, f = g + 1 + 1 + 1 + 1 + 1 := ⟨f - 5, by omega⟩
    rw [automaton_Compose.l0, if_pos (by decide), if_neg (by decide), if_neg (by decide), if_pos rfl]
    rw [automaton_Compose.j2, if_pos rfl, if_neg (by decide), if_neg (by decide), if_pos rfl]
    rw [automaton_Compose.j3, if_neg (by decide), if_neg (by decide), if_pos rfl, if_pos (by rw [List.length_nil]; omega), List.nil_append]
    rw [automaton_Compose.j4, if_pos rfl]
    rw [automaton_Compose.j5]
    have c := conc2 a0 a1 a2 a3 A0 A1 A2 b0 b1 b2 b3 B0 B1 B2 ha ha2 B0 hB0 hb0 2 n e0 e1 b1 L0 L1 p0 p1 0 k B0.length 0 A2 f (by omega) (by omega) (by omega)
    rw [show ((0 : Nat) : Int) = 0 from rfl, List.drop_zero, show wrap64 (2 + 1) = 3 by decide +kernel] at c
    exact c
  · simp only [sel, if_true, show ((1 : Int) = 0) = False by decide, if_false] at hf ⊢
    obtain ⟨f, rfl⟩ : ∃ g, f = g + 1 + 1 + 1 + 1 + 1 := ⟨f - 5, by omega⟩
    rw [automaton_Compose.l0, if_pos (by decide), if_neg (by decide), if_neg (by decide), if_pos rfl]
    rw [automaton_Compose.j2, if_neg (by decide), if_pos rfl, if_neg (by decide), if_neg (by decide), if_pos rfl]
    rw [automaton_Compose.j3, if_neg (by decide), if_neg (by decide), if_pos rfl, if_pos (by rw [List.length_nil]; omega), List.nil_append]
    rw [automaton_Compose.j4, if_neg (by decide), if_pos rfl]
    rw [automaton_Compose.j5]
    have c := conc2 a0 a1 a2 a3 A0 A1 A2 b0 b1 b2 b3 B0 B1 B2 ha ha2 B1 hB1 hb1 2 n e0 e1 b2 L0 L1 p0 p1 1 k B1.length 0 A2 f (by omega) (by omega) (by omega)
    rw [show ((0 : Nat) : Int) = 0 from rfl, List.drop_zero, show wrap64 (2 + 1) = 3 by decide +kernel] at c
    exact c
  · simp only [sel, if_true, show ((2 : Int) = 0) = False by decide, show ((2 : Int) = 1) = False by decide, if_false] at hf ⊢
    obtain ⟨f, rfl⟩ : ∃ g, f = g + 1 + 1 + 1 + 1 + 1 := ⟨f - 5, by omega⟩
    rw [automaton_Compose.l0, if_pos (by decide), if_neg (by decide), if_neg (by decide), if_pos rfl]
    rw [automaton_Compose.j2, if_neg (by decide), if_neg (by decide), if_pos rfl, if_neg (by decide), if_neg (by decide), if_pos rfl]
    rw [automaton_Compose.j3, if_neg (by decide), if_neg (by decide), if_pos rfl, if_pos (by rw [List.length_nil]; omega), List.nil_append]
    rw [automaton_Compose.j4, if_neg (by decide), if_neg (by decide), if_pos rfl]
    rw [automaton_Compose.j5]
    have c := conc2 a0 a1 a2 a3 A0 A1 A2 b0 b1 b2 b3 B0 B1 B2 ha ha2 B2 hB2 hb2 2 n e0 e1 b3 L0 L1 p0 p1 2 k B2.length 0 A2 f (by omega) (by omega) (by omega)
    rw [show ((0 : Nat) : Int) = 0 from rfl, List.drop_zero, show wrap64 (2 + 1) = 3 by decide +kernel] at c
    exact c
theorem compose_at (a0 a1 a2 a3 : Int) (A0 A1 A2 : List Int) (b0 b1 b2 b3 : Int) (B0 B1 B2 : List Int) (ha : 0 ≤ a0) (hab : a0 + b0 ≤ 1048576) (hb : 0 ≤ b0) (q1 : 0 ≤ a1 ∧ a1 ≤ 2) (q2 : 0 ≤ a2 ∧ a2 ≤ 2) (q3 : 0 ≤ a3 ∧ a3 ≤ 2) (r1 : 0 ≤ b1 ∧ b1 ≤ 2) (r2 : 0 ≤ b2 ∧ b2 ≤ 2) (r3 : 0 ≤ b3 ∧ b3 ≤ 2)
    (i0 : inc (-1) a0 A0) (i1 : inc (-1) a0 A1) (i2 : inc (-1) a0 A2) (j0 : inc (-1) b0 B0) (j1 : inc (-1) b0 B1) (j2 : inc (-1) b0 B2)
    (hA0 : A0.length ≤ 1048576) (hA1 : A1.length ≤ 1048576) (hA2 : A2.length ≤ 1048576) (hB0 : B0.length ≤ 1048576) (hB1 : B1.length ≤ 1048576) (hB2 : B2.length ≤ 1048576) (k : Nat) (hk : A0.length + A1.length + A2.length + 3 * (B0.length + B1.length + B2.length) + 100 ≤ k) :
    automaton_Compose.f k a0 a1 a2 a3 A0 A1 A2 b0 b1 b2 b3 B0 B1 B2 = some (a0 + b0, sel a1 b1 b2 b3, sel a2 b1 b2 b3, sel a3 b1 b2 b3, A0 ++ (sel a1 B0 B1 B2).map (fun x => a0 + x), A1 ++ (sel a2 B0 B1 B2).map (fun x => a0 + x), A2 ++ (sel a3 B0 B1 B2).map (fun x => a0 + x), 0) := by
  have hl : ∀ m : Int, (sel m B0 B1 B2).length ≤ B0.length + B1.length + B2.length := by
    intro m; unfold sel; repeat' split
    all_goals omega
  have l1 := hl a1
  have l2 := hl a2
  have l3 := hl a3
  have hb' : ∀ (M : List Int), inc (-1) b0 M → ∀ x ∈ M, 0 ≤ x ∧ x ≤ 1048576 := by
    intro M hM x hx
    have := inc_nonneg M (-1) b0 (by omega) hM x hx
    omega
  unfold automaton_Compose.f
  rw [valid_at a0 a1 a2 a3 A0 A1 A2 ha (by omega) q1 q2 q3 i0 i1 i2 (by omega) (by omega) (by omega) k (by omega), Option.bind_some, if_pos rfl]
  rw [valid_at b0 b1 b2 b3 B0 B1 B2 hb (by omega) r1 r2 r3 j0 j1 j2 (by omega) (by omega) (by omega) k (by omega), Option.bind_some]
  obtain ⟨r, rfl⟩ : ∃ r, k = r + 1 + (sel a3 B0 B1 B2).length + 6 + (sel a2 B0 B1 B2).length + 6 + (sel a1 B0 B1 B2).length + 6 + 1 := ⟨k - ((sel a3 B0 B1 B2).length + (sel a2 B0 B1 B2).length + (sel a1 B0 B1 B2).length + 20), by omega⟩
  rw [show (!true) = false from rfl, automaton_Compose.j0, if_neg (by decide), wrap_id (a0 + b0) (by omega) (by omega), if_neg (by omega)]
  rw [round0 a0 a1 a2 a3 A0 A1 A2 b0 b1 b2 b3 B0 B1 B2 ha (by omega) hA0 hB0 hB1 hB2 (hb' _ j0) (hb' _ j1) (hb' _ j2) (a0 + b0) 0 0 0 [] [] [] a1 a2 a3 (by omega) _ _ rfl]
  rw [round1 a0 a1 a2 a3 A0 A1 A2 b0 b1 b2 b3 B0 B1 B2 ha (by omega) hA1 hB0 hB1 hB2 (hb' _ j0) (hb' _ j1) (hb' _ j2) (a0 + b0) _ 0 0 _ [] [] a1 a2 a3 (by omega) _ _ rfl]
  rw [round2 a0 a1 a2 a3 A0 A1 A2 b0 b1 b2 b3 B0 B1 B2 ha (by omega) hA2 hB0 hB1 hB2 (hb' _ j0) (hb' _ j1) (hb' _ j2) (a0 + b0) _ _ 0 _ _ [] a1 a2 a3 (by omega) _ _ rfl]
  rw [automaton_Compose.l0, if_neg (by decide)]
/-! ### Valid of whatever summary -/
theorem known_no (e : Int) (h : ¬ (0 ≤ e ∧ e ≤ 2)) : automaton_known.f e = some false := by
  unfold automaton_known.f
  by_cases c : e ≥ 0
  · rw [if_pos c, decide_eq_false (fun x => h ⟨c, x⟩)]
  · rw [if_neg c]
theorem vl0 (n e0 e1 e2 : Int) (L0 L1 L2 M P0 P1 P2 : List Int) (hM : M.length ≤ 4611686018427387904) (k : Nat) : ∀ (m i : Nat) (last : Int) (f : Nat), i + m = M.length → f = k + m + 1 →
    (automaton_Valid.l1 f last M (M.length : Int) (i : Int) n e0 e1 e2 L0 L1 L2 P0 P1 P2 = automaton_Valid.l0 k 1 n e0 e1 e2 L0 L1 L2 P0 P1 P2 ∧ inc last n (M.drop i) ∧ 0 ≤ e0 ∧ e0 ≤ 2) ∨ automaton_Valid.l1 f last M (M.length : Int) (i : Int) n e0 e1 e2 L0 L1 L2 P0 P1 P2 = some false
  | 0, i, last, f, hi, hf => by
    obtain ⟨f, rfl⟩ : ∃ g, f = g + 1 := ⟨f - 1, by omega⟩
    obtain rfl : f = k := by omega
    have hd : M.drop i = [] := List.drop_eq_nil_of_le (by omega)
    rw [automaton_Valid.l1, if_neg (by omega), hd]
    by_cases c : 0 ≤ e0 ∧ e0 ≤ 2
    · rw [known_at _ c.1 c.2, Option.bind_some, if_pos rfl]; exact .inl ⟨rfl, trivial, c⟩
    · rw [known_no _ c, Option.bind_some, if_neg (by decide)]; exact .inr rfl
  | m + 1, i, last, f, hi, hf => by
    obtain ⟨f, rfl⟩ : ∃ g, f = g + 1 := ⟨f - 1, by omega⟩
    have hlt : i < M.length := by omega
    rw [rd_drop M i hlt, automaton_Valid.l1, if_pos (by omega), if_pos (by omega), if_pos (by omega)]
    by_cases c1 : rd M (i : Int) ≤ last
    · rw [if_pos c1]; exact .inr rfl
    by_cases c2 : rd M (i : Int) ≥ n
    · rw [if_neg c1, if_pos c2]; exact .inr rfl
    rw [if_neg c1, if_neg c2, wrap_succ i (by omega)]
    rcases vl0 n e0 e1 e2 L0 L1 L2 M P0 P1 P2 hM k m (i + 1) (rd M (i : Int)) f (by omega) (by omega) with h | h
    · exact .inl ⟨h.1, ⟨by omega, by omega, h.2.1⟩, h.2.2⟩
    · exact .inr h
theorem vl1 (n e0 e1 e2 : Int) (L0 L1 L2 M P0 P1 P2 : List Int) (hM : M.length ≤ 4611686018427387904) (k : Nat) : ∀ (m i : Nat) (last : Int) (f : Nat), i + m = M.length → f = k + m + 1 →
    (automaton_Valid.l101 f last M (M.length : Int) (i : Int) n e0 e1 e2 L0 L1 L2 P0 P1 P2 = automaton_Valid.l0 k 2 n e0 e1 e2 L0 L1 L2 P0 P1 P2 ∧ inc last n (M.drop i) ∧ 0 ≤ e1 ∧ e1 ≤ 2) ∨ automaton_Valid.l101 f last M (M.length : Int) (i : Int) n e0 e1 e2 L0 L1 L2 P0 P1 P2 = some false
  | 0, i, last, f, hi, hf => by
    obtain ⟨f, rfl⟩ : ∃ g, f = g + 1 := ⟨f - 1, by omega⟩
    obtain rfl : f = k := by omega
    have hd : M.drop i = [] := List.drop_eq_nil_of_le (by omega)
    rw [automaton_Valid.l101, if_neg (by omega), hd]
    by_cases c : 0 ≤ e1 ∧ e1 ≤ 2
    · rw [known_at _ c.1 c.2, Option.bind_some, if_pos rfl]; exact .inl ⟨rfl, trivial, c⟩
    · rw [known_no _ c, Option.bind_some, if_neg (by decide)]; exact .inr rfl
  | m + 1, i, last, f, hi, hf => by
    obtain ⟨f, rfl⟩ : ∃ g, f = g + 1 := ⟨f - 1, by omega⟩
    have hlt : i < M.length := by omega
    rw [rd_drop M i hlt, automaton_Valid.l101, if_pos (by omega), if_pos (by omega), if_pos (by omega)]
    by_cases c1 : rd M (i : Int) ≤ last
    · rw [if_pos c1]; exact .inr rfl
    by_cases c2 : rd M (i : Int) ≥ n
    · rw [if_neg c1, if_pos c2]; exact .inr rfl
    rw [if_neg c1, if_neg c2, wrap_succ i (by omega)]
    rcases vl1 n e0 e1 e2 L0 L1 L2 M P0 P1 P2 hM k m (i + 1) (rd M (i : Int)) f (by omega) (by omega) with h | h
    · exact .inl ⟨h.1, ⟨by omega, by omega, h.2.1⟩, h.2.2⟩
    · exact .inr h
theorem vl2 (n e0 e1 e2 : Int) (L0 L1 L2 M P0 P1 P2 : List Int) (hM : M.length ≤ 4611686018427387904) (k : Nat) : ∀ (m i : Nat) (last : Int) (f : Nat), i + m = M.length → f = k + m + 1 →
    (automaton_Valid.l201 f last M (M.length : Int) (i : Int) n e0 e1 e2 L0 L1 L2 P0 P1 P2 = automaton_Valid.l0 k 3 n e0 e1 e2 L0 L1 L2 P0 P1 P2 ∧ inc last n (M.drop i) ∧ 0 ≤ e2 ∧ e2 ≤ 2) ∨ automaton_Valid.l201 f last M (M.length : Int) (i : Int) n e0 e1 e2 L0 L1 L2 P0 P1 P2 = some false
  | 0, i, last, f, hi, hf => by
    obtain ⟨f, rfl⟩ : ∃ g, f = g + 1 := ⟨f - 1, by omega⟩
    obtain rfl : f = k := by omega
    have hd : M.drop i = [] := List.drop_eq_nil_of_le (by omega)
    rw [automaton_Valid.l201, if_neg (by omega), hd]
    by_cases c : 0 ≤ e2 ∧ e2 ≤ 2
    · rw [known_at _ c.1 c.2, Option.bind_some, if_pos rfl]; exact .inl ⟨rfl, trivial, c⟩
    · rw [known_no _ c, Option.bind_some, if_neg (by decide)]; exact .inr rfl
  | m + 1, i, last, f, hi, hf => by
    obtain ⟨f, rfl⟩ : ∃ g, f = g + 1 := ⟨f - 1, by omega⟩
    have hlt : i < M.length := by omega
    rw [rd_drop M i hlt, automaton_Valid.l201, if_pos (by omega), if_pos (by omega), if_pos (by omega)]
    by_cases c1 : rd M (i : Int) ≤ last
    · rw [if_pos c1]; exact .inr rfl
    by_cases c2 : rd M (i : Int) ≥ n
    · rw [if_neg c1, if_pos c2]; exact .inr rfl
    rw [if_neg c1, if_neg c2, wrap_succ i (by omega)]
    rcases vl2 n e0 e1 e2 L0 L1 L2 M P0 P1 P2 hM k m (i + 1) (rd M (i : Int)) f (by omega) (by omega) with h | h
    · exact .inl ⟨h.1, ⟨by omega, by omega, h.2.1⟩, h.2.2⟩
    · exact .inr h
def vld (n e0 e1 e2 : Int) (L0 L1 L2 : List Int) : Prop := (0 ≤ n ∧ n ≤ 1048576) ∧ (0 ≤ e0 ∧ e0 ≤ 2) ∧ (0 ≤ e1 ∧ e1 ≤ 2) ∧ (0 ≤ e2 ∧ e2 ≤ 2) ∧ inc (-1) n L0 ∧ inc (-1) n L1 ∧ inc (-1) n L2
theorem valid_any (n e0 e1 e2 : Int) (L0 L1 L2 : List Int) (l0 : L0.length ≤ 4611686018427387904) (l1 : L1.length ≤ 4611686018427387904) (l2 : L2.length ≤ 4611686018427387904) (k : Nat) (hk : L0.length + L1.length + L2.length + 20 ≤ k) : (automaton_Valid.f k n e0 e1 e2 L0 L1 L2 = some true ∧ vld n e0 e1 e2 L0 L1 L2) ∨ automaton_Valid.f k n e0 e1 e2 L0 L1 L2 = some false := by
  obtain ⟨r, rfl⟩ : ∃ r, k = (r + 1 + L2.length + 1 + 1 + L1.length + 1 + 1 + L0.length + 1) + 1 + 1 := ⟨k - (L0.length + L1.length + L2.length + 8), by omega⟩
  unfold automaton_Valid.f
  by_cases c0 : n < 0
  · rw [if_pos c0, automaton_Valid.j0, if_pos rfl]; exact .inr rfl
  by_cases c1 : n > 1048576
  · rw [if_neg c0, decide_eq_true c1, automaton_Valid.j0, if_pos rfl]; exact .inr rfl
  rw [if_neg c0, decide_eq_false c1, automaton_Valid.j0, if_neg (by decide)]
  have z : ((0 : Nat) : Int) = 0 := rfl
  have v0 := fun (k : Nat) => vl0 n e0 e1 e2 L0 L1 L2 L0 L0 L1 L2 (by omega) k L0.length 0 (-1) (k + L0.length + 1) (by omega) rfl
  have v1 := fun (k : Nat) => vl1 n e0 e1 e2 L0 L1 L2 L1 L0 L1 L2 (by omega) k L1.length 0 (-1) (k + L1.length + 1) (by omega) rfl
  have v2 := fun (k : Nat) => vl2 n e0 e1 e2 L0 L1 L2 L2 L0 L1 L2 (by omega) k L2.length 0 (-1) (k + L2.length + 1) (by omega) rfl
  simp only [z, List.drop_zero] at v0 v1 v2
  rw [automaton_Valid.l0, if_pos (by decide), if_pos rfl]
  rcases v0 (r + 1 + L2.length + 1 + 1 + L1.length + 1 + 1) with ⟨h, i0, s0⟩ | h
  rotate_left
  · rw [h]; exact .inr rfl
  rw [h, automaton_Valid.l0, if_pos (by decide), if_neg (by decide), if_pos rfl]
  rcases v1 (r + 1 + L2.length + 1 + 1) with ⟨h, i1, s1⟩ | h
  rotate_left
  · rw [h]; exact .inr rfl
  rw [h, automaton_Valid.l0, if_pos (by decide), if_neg (by decide), if_neg (by decide), if_pos rfl]
  rcases v2 (r + 1) with ⟨h, i2, s2⟩ | h
  rotate_left
  · rw [h]; exact .inr rfl
  rw [h, automaton_Valid.l0, if_neg (by decide)]
  exact .inl ⟨rfl, ⟨by omega, by omega⟩, s0, s1, s2, i0, i1, i2⟩
/-- Compose of whatever summaries: an error, or the composition of two valid ones. -/
theorem compose_any (a0 a1 a2 a3 : Int) (A0 A1 A2 : List Int) (b0 b1 b2 b3 : Int) (B0 B1 B2 : List Int) (ha : -9223372036854775808 ≤ a0 ∧ a0 ≤ 9223372036854775807)
    (hA0 : A0.length ≤ 1048576) (hA1 : A1.length ≤ 1048576) (hA2 : A2.length ≤ 1048576) (hB0 : B0.length ≤ 1048576) (hB1 : B1.length ≤ 1048576) (hB2 : B2.length ≤ 1048576) (k : Nat) (hk : A0.length + A1.length + A2.length + 3 * (B0.length + B1.length + B2.length) + 100 ≤ k) :
    (vld a0 a1 a2 a3 A0 A1 A2 ∧ vld b0 b1 b2 b3 B0 B1 B2 ∧ a0 + b0 ≤ 1048576 ∧ automaton_Compose.f k a0 a1 a2 a3 A0 A1 A2 b0 b1 b2 b3 B0 B1 B2 = some (a0 + b0, sel a1 b1 b2 b3, sel a2 b1 b2 b3, sel a3 b1 b2 b3, A0 ++ (sel a1 B0 B1 B2).map (fun x => a0 + x), A1 ++ (sel a2 B0 B1 B2).map (fun x => a0 + x), A2 ++ (sel a3 B0 B1 B2).map (fun x => a0 + x), 0))
    ∨ automaton_Compose.f k a0 a1 a2 a3 A0 A1 A2 b0 b1 b2 b3 B0 B1 B2 = some (0, 0, 0, 0, [], [], [], 1)
    ∨ (vld a0 a1 a2 a3 A0 A1 A2 ∧ vld b0 b1 b2 b3 B0 B1 B2 ∧ 1048576 < a0 + b0 ∧ automaton_Compose.f k a0 a1 a2 a3 A0 A1 A2 b0 b1 b2 b3 B0 B1 B2 = some (0, 0, 0, 0, [], [], [], 2)) := by
  obtain ⟨k', rfl⟩ : ∃ r, k = r + 1 := ⟨k - 1, by omega⟩
  rcases valid_any a0 a1 a2 a3 A0 A1 A2 (by omega) (by omega) (by omega) (k' + 1) (by omega) with ⟨va, wa⟩ | va
  rotate_left
  · refine .inr (.inl ?_)
    unfold automaton_Compose.f
    rw [va, Option.bind_some, if_neg (by decide), automaton_Compose.j0, if_pos rfl]
  rcases valid_any b0 b1 b2 b3 B0 B1 B2 (by omega) (by omega) (by omega) (k' + 1) (by omega) with ⟨vb, wb⟩ | vb
  rotate_left
  · refine .inr (.inl ?_)
    unfold automaton_Compose.f
    rw [va, Option.bind_some, if_pos rfl, vb, Option.bind_some, show (!false) = true from rfl, automaton_Compose.j0, if_pos rfl]
  obtain ⟨na, s1, s2, s3, i1, i2, i3⟩ := wa
  obtain ⟨nb, t1, t2, t3, j1, j2, j3⟩ := wb
  by_cases c : a0 + b0 ≤ 1048576
  · exact .inl ⟨⟨na, s1, s2, s3, i1, i2, i3⟩, ⟨nb, t1, t2, t3, j1, j2, j3⟩, c, compose_at a0 a1 a2 a3 A0 A1 A2 b0 b1 b2 b3 B0 B1 B2 na.1 c nb.1 s1 s2 s3 t1 t2 t3 i1 i2 i3 j1 j2 j3 hA0 hA1 hA2 hB0 hB1 hB2 (k' + 1) hk⟩
  · refine .inr (.inr ⟨⟨na, s1, s2, s3, i1, i2, i3⟩, ⟨nb, t1, t2, t3, j1, j2, j3⟩, by omega, ?_⟩)
    unfold automaton_Compose.f
    rw [va, Option.bind_some, if_pos rfl, vb, Option.bind_some, show (!true) = false from rfl, automaton_Compose.j0, if_neg (by decide), wrap_id (a0 + b0) (by omega) (by omega), if_pos (by omega)]
/-! ### the composition of summaries -/
def tupS (x : S29) (e : Int) : Int × Int × Int × Int × List Int × List Int × List Int × Int := (x.f0, x.f1.f0, x.f1.f1, x.f1.f2, x.f2.f0, x.f2.f1, x.f2.f2, e)
def vldS (x : S29) : Prop := vld x.f0 x.f1.f0 x.f1.f1 x.f1.f2 x.f2.f0 x.f2.f1 x.f2.f2
def comp (x y : S29) : S29 := ⟨x.f0 + y.f0, ⟨sel x.f1.f0 y.f1.f0 y.f1.f1 y.f1.f2, sel x.f1.f1 y.f1.f0 y.f1.f1 y.f1.f2, sel x.f1.f2 y.f1.f0 y.f1.f1 y.f1.f2⟩,
  ⟨x.f2.f0 ++ (sel x.f1.f0 y.f2.f0 y.f2.f1 y.f2.f2).map (fun z => x.f0 + z), x.f2.f1 ++ (sel x.f1.f1 y.f2.f0 y.f2.f1 y.f2.f2).map (fun z => x.f0 + z), x.f2.f2 ++ (sel x.f1.f2 y.f2.f0 y.f2.f1 y.f2.f2).map (fun z => x.f0 + z)⟩⟩
def noS : S29 := ⟨0, ⟨0, 0, 0⟩, ⟨[], [], []⟩⟩
def emptyS : S29 := ⟨0, ⟨0, 1, 2⟩, ⟨[], [], []⟩⟩
theorem inc_shift (c : Int) : ∀ (l : List Int) (a n : Int), inc a n l → inc (c + a) (c + n) (l.map (fun z => c + z))
  | [], _, _, _ => trivial
  | x :: t, a, n, h => by
    obtain ⟨h1, h2, h3⟩ := h
    exact ⟨by show c + a < c + x; omega, by show c + x < c + n; omega, inc_shift c t x n h3⟩
theorem inc_app (n m : Int) (hm : 0 ≤ m) (B : List Int) (hB : inc (-1) m B) : ∀ (A : List Int) (a : Int), a < n → inc a n A → inc a (n + m) (A ++ B.map (fun z => n + z))
  | [], a, ha, _ => by
    rw [List.nil_append]
    exact inc_weak _ _ _ _ (by omega) (inc_shift n B (-1) m hB)
  | x :: t, a, ha, h => by
    obtain ⟨h1, h2, h3⟩ := h
    exact ⟨h1, by omega, inc_app n m hm B hB t x h2 h3⟩
theorem inc_len : ∀ (l : List Int) (a n : Int), a < n → inc a n l → (l.length : Int) ≤ n - a - 1
  | [], a, n, h, _ => by simp; omega
  | x :: t, a, n, h, hi => by
    obtain ⟨h1, h2, h3⟩ := hi
    have := inc_len t x n h2 h3
    simp only [List.length_cons]; omega
theorem vldS_len {x : S29} (h : vldS x) : x.f2.f0.length ≤ 1048576 ∧ x.f2.f1.length ≤ 1048576 ∧ x.f2.f2.length ≤ 1048576 := by
  obtain ⟨hn, _, _, _, i0, i1, i2⟩ := h
  have := inc_len _ _ _ (by omega) i0
  have := inc_len _ _ _ (by omega) i1
  have := inc_len _ _ _ (by omega) i2
  omega
theorem sel_range {m a b c : Int} (h0 : 0 ≤ a ∧ a ≤ 2) (h1 : 0 ≤ b ∧ b ≤ 2) (h2 : 0 ≤ c ∧ c ≤ 2) : 0 ≤ sel m a b c ∧ sel m a b c ≤ 2 := by
  unfold sel
  split
  · exact h0
  · split
    · exact h1
    · exact h2
theorem sel_inc {m n : Int} {A B C : List Int} (h0 : inc (-1) n A) (h1 : inc (-1) n B) (h2 : inc (-1) n C) : inc (-1) n (sel m A B C) := by
  unfold sel
  split
  · exact h0
  · split
    · exact h1
    · exact h2
theorem comp_vld {x y : S29} (hx : vldS x) (hy : vldS y) (hn : x.f0 + y.f0 ≤ 1048576) : vldS (comp x y) := by
  obtain ⟨nx, a0, a1, a2, i0, i1, i2⟩ := hx
  obtain ⟨ny, b0, b1, b2, j0, j1, j2⟩ := hy
  exact ⟨⟨by show 0 ≤ x.f0 + y.f0; omega, hn⟩, sel_range b0 b1 b2, sel_range b0 b1 b2, sel_range b0 b1 b2, inc_app _ _ ny.1 _ (sel_inc j0 j1 j2) _ _ (by omega) i0, inc_app _ _ ny.1 _ (sel_inc j0 j1 j2) _ _ (by omega) i1, inc_app _ _ ny.1 _ (sel_inc j0 j1 j2) _ _ (by omega) i2⟩
theorem empty_vld : vldS emptyS := ⟨⟨by decide, by decide⟩, ⟨by decide, by decide⟩, ⟨by decide, by decide⟩, ⟨by decide, by decide⟩, trivial, trivial, trivial⟩
/-- Compose of whatever summaries. -/
theorem compose_S (x y : S29) (hx : -9223372036854775808 ≤ x.f0 ∧ x.f0 ≤ 9223372036854775807) (lx : x.f2.f0.length ≤ 1048576 ∧ x.f2.f1.length ≤ 1048576 ∧ x.f2.f2.length ≤ 1048576) (ly : y.f2.f0.length ≤ 1048576 ∧ y.f2.f1.length ≤ 1048576 ∧ y.f2.f2.length ≤ 1048576) (k : Nat) (hk : 13000000 ≤ k) :
    (vldS x ∧ vldS y ∧ x.f0 + y.f0 ≤ 1048576 ∧ automaton_Compose.f k x.f0 x.f1.f0 x.f1.f1 x.f1.f2 x.f2.f0 x.f2.f1 x.f2.f2 y.f0 y.f1.f0 y.f1.f1 y.f1.f2 y.f2.f0 y.f2.f1 y.f2.f2 = some (tupS (comp x y) 0))
    ∨ (¬ (vldS x ∧ vldS y) ∧ automaton_Compose.f k x.f0 x.f1.f0 x.f1.f1 x.f1.f2 x.f2.f0 x.f2.f1 x.f2.f2 y.f0 y.f1.f0 y.f1.f1 y.f1.f2 y.f2.f0 y.f2.f1 y.f2.f2 = some (tupS noS 1))
    ∨ (vldS x ∧ vldS y ∧ 1048576 < x.f0 + y.f0 ∧ automaton_Compose.f k x.f0 x.f1.f0 x.f1.f1 x.f1.f2 x.f2.f0 x.f2.f1 x.f2.f2 y.f0 y.f1.f0 y.f1.f1 y.f1.f2 y.f2.f0 y.f2.f1 y.f2.f2 = some (tupS noS 2)) := by
  rcases compose_any x.f0 x.f1.f0 x.f1.f1 x.f1.f2 x.f2.f0 x.f2.f1 x.f2.f2 y.f0 y.f1.f0 y.f1.f1 y.f1.f2 y.f2.f0 y.f2.f1 y.f2.f2 hx lx.1 lx.2.1 lx.2.2 ly.1 ly.2.1 ly.2.2 k (by omega) with h | h | h
  · exact .inl h
  · refine .inr (.inl ⟨fun q => ?_, h⟩)
    obtain ⟨⟨na, s1, s2, s3, i1, i2, i3⟩, ⟨nb, t1, t2, t3, j1, j2, j3⟩⟩ := q
    by_cases c : x.f0 + y.f0 ≤ 1048576
    · have := compose_at x.f0 x.f1.f0 x.f1.f1 x.f1.f2 x.f2.f0 x.f2.f1 x.f2.f2 y.f0 y.f1.f0 y.f1.f1 y.f1.f2 y.f2.f0 y.f2.f1 y.f2.f2 na.1 c nb.1 s1 s2 s3 t1 t2 t3 i1 i2 i3 j1 j2 j3 lx.1 lx.2.1 lx.2.2 ly.1 ly.2.1 ly.2.2 k (by omega)
      rw [this] at h
      simp at h
    · have v1 := valid_at x.f0 x.f1.f0 x.f1.f1 x.f1.f2 x.f2.f0 x.f2.f1 x.f2.f2 na.1 na.2 s1 s2 s3 i1 i2 i3 (by omega) (by omega) (by omega) k (by omega)
      have v2 := valid_at y.f0 y.f1.f0 y.f1.f1 y.f1.f2 y.f2.f0 y.f2.f1 y.f2.f2 nb.1 nb.2 t1 t2 t3 j1 j2 j3 (by omega) (by omega) (by omega) k (by omega)
      obtain ⟨k, rfl⟩ : ∃ r, k = r + 1 := ⟨k - 1, by omega⟩
      unfold automaton_Compose.f at h
      rw [v1, Option.bind_some, if_pos rfl, v2, Option.bind_some, show (!true) = false from rfl, automaton_Compose.j0, if_neg (by decide), wrap_id (x.f0 + y.f0) (by omega) (by omega), if_pos (by omega)] at h
      simp at h
  · exact .inr (.inr h)
/-! ### the reference's Valid of whatever summary -/
theorem rv0 (n e0 e1 e2 : Int) (L0 L1 L2 M : List Int) (hM : M.length ≤ 4611686018427387904) (k : Nat) : ∀ (m i : Nat) (prev : Int) (f : Nat), i + m = M.length → f = k + m + 1 → -1 ≤ prev → (i = 0 → prev = -1) → (0 < i → prev = rd M ((i : Int) - 1)) →
    (ndjqref18_Valid.l1 f M (i : Int) n e0 e1 e2 L0 L1 L2 = ndjqref18_Valid.l0 k 1 n e0 e1 e2 L0 L1 L2 ∧ inc prev n (M.drop i)) ∨ (ndjqref18_Valid.l1 f M (i : Int) n e0 e1 e2 L0 L1 L2 = some false ∧ ¬ inc prev n (M.drop i))
  | 0, i, prev, f, hi, hf, _, _, _ => by
    obtain ⟨f, rfl⟩ : ∃ g, f = g + 1 := ⟨f - 1, by omega⟩
    obtain rfl : f = k := by omega
    have hd : M.drop i = [] := List.drop_eq_nil_of_le (by omega)
    rw [ndjqref18_Valid.l1, if_neg (by omega), hd]
    exact .inl ⟨rfl, trivial⟩
  | m + 1, i, prev, f, hi, hf, hp, hp0, hp1 => by
    obtain ⟨f, rfl⟩ : ∃ g, f = g + 1 := ⟨f - 1, by omega⟩
    have hlt : i < M.length := by omega
    rw [rd_drop M i hlt, ndjqref18_Valid.l1, if_pos (by omega), if_pos (by omega)]
    by_cases c0 : rd M (i : Int) < 0
    · rw [if_pos c0]; exact .inr ⟨rfl, fun h => by have := h.1; omega⟩
    by_cases c2 : rd M (i : Int) ≥ n
    · rw [if_neg c0, if_pos c2]; exact .inr ⟨rfl, fun h => by have := h.2.1; omega⟩
    rw [if_neg c0, if_neg c2]
    have go : prev < rd M (i : Int) → (ndjqref18_Valid.l1 f M ((i + 1 : Nat) : Int) n e0 e1 e2 L0 L1 L2 = ndjqref18_Valid.l0 k 1 n e0 e1 e2 L0 L1 L2 ∧ inc prev n (rd M (i : Int) :: M.drop (i + 1))) ∨ (ndjqref18_Valid.l1 f M ((i + 1 : Nat) : Int) n e0 e1 e2 L0 L1 L2 = some false ∧ ¬ inc prev n (rd M (i : Int) :: M.drop (i + 1))) := by
      intro hlt2
      rcases rv0 n e0 e1 e2 L0 L1 L2 M hM k m (i + 1) (rd M (i : Int)) f (by omega) (by omega) (by omega) (by omega) (fun _ => by congr 1; omega) with h | h
      · exact .inl ⟨h.1, by omega, by omega, h.2⟩
      · exact .inr ⟨h.1, fun q => h.2 q.2.2⟩
    by_cases ci : i = 0
    · rw [if_neg (by omega), wrap_succ i (by omega)]
      exact go (by have := hp0 ci; omega)
    · rw [if_pos (by omega), wrap_id ((i : Int) - 1) (by omega) (by omega), if_pos (by omega), if_pos (by omega), ← hp1 (by omega), wrap_succ i (by omega)]
      by_cases c3 : prev ≥ rd M (i : Int)
      · rw [if_pos c3]; exact .inr ⟨rfl, fun h => by have := h.1; omega⟩
      · rw [if_neg c3]; exact go (by omega)
theorem rv1 (n e0 e1 e2 : Int) (L0 L1 L2 M : List Int) (hM : M.length ≤ 4611686018427387904) (k : Nat) : ∀ (m i : Nat) (prev : Int) (f : Nat), i + m = M.length → f = k + m + 1 → -1 ≤ prev → (i = 0 → prev = -1) → (0 < i → prev = rd M ((i : Int) - 1)) →
    (ndjqref18_Valid.l101 f M (i : Int) n e0 e1 e2 L0 L1 L2 = ndjqref18_Valid.l0 k 2 n e0 e1 e2 L0 L1 L2 ∧ inc prev n (M.drop i)) ∨ (ndjqref18_Valid.l101 f M (i : Int) n e0 e1 e2 L0 L1 L2 = some false ∧ ¬ inc prev n (M.drop i))
  | 0, i, prev, f, hi, hf, _, _, _ => by
    obtain ⟨f, rfl⟩ : ∃ g, f = g + 1 := ⟨f - 1, by omega⟩
    obtain rfl : f = k := by omega
    have hd : M.drop i = [] := List.drop_eq_nil_of_le (by omega)
    rw [ndjqref18_Valid.l101, if_neg (by omega), hd]
    exact .inl ⟨rfl, trivial⟩
  | m + 1, i, prev, f, hi, hf, hp, hp0, hp1 => by
    obtain ⟨f, rfl⟩ : ∃ g, f = g + 1 := ⟨f - 1, by omega⟩
    have hlt : i < M.length := by omega
    rw [rd_drop M i hlt, ndjqref18_Valid.l101, if_pos (by omega), if_pos (by omega)]
    by_cases c0 : rd M (i : Int) < 0
    · rw [if_pos c0]; exact .inr ⟨rfl, fun h => by have := h.1; omega⟩
    by_cases c2 : rd M (i : Int) ≥ n
    · rw [if_neg c0, if_pos c2]; exact .inr ⟨rfl, fun h => by have := h.2.1; omega⟩
    rw [if_neg c0, if_neg c2]
    have go : prev < rd M (i : Int) → (ndjqref18_Valid.l101 f M ((i + 1 : Nat) : Int) n e0 e1 e2 L0 L1 L2 = ndjqref18_Valid.l0 k 2 n e0 e1 e2 L0 L1 L2 ∧ inc prev n (rd M (i : Int) :: M.drop (i + 1))) ∨ (ndjqref18_Valid.l101 f M ((i + 1 : Nat) : Int) n e0 e1 e2 L0 L1 L2 = some false ∧ ¬ inc prev n (rd M (i : Int) :: M.drop (i + 1))) := by
      intro hlt2
      rcases rv1 n e0 e1 e2 L0 L1 L2 M hM k m (i + 1) (rd M (i : Int)) f (by omega) (by omega) (by omega) (by omega) (fun _ => by congr 1; omega) with h | h
      · exact .inl ⟨h.1, by omega, by omega, h.2⟩
      · exact .inr ⟨h.1, fun q => h.2 q.2.2⟩
    by_cases ci : i = 0
    · rw [if_neg (by omega), wrap_succ i (by omega)]
      exact go (by have := hp0 ci; omega)
    · rw [if_pos (by omega), wrap_id ((i : Int) - 1) (by omega) (by omega), if_pos (by omega), if_pos (by omega), ← hp1 (by omega), wrap_succ i (by omega)]
      by_cases c3 : prev ≥ rd M (i : Int)
      · rw [if_pos c3]; exact .inr ⟨rfl, fun h => by have := h.1; omega⟩
      · rw [if_neg c3]; exact go (by omega)
theorem rv2 (n e0 e1 e2 : Int) (L0 L1 L2 M : List Int) (hM : M.length ≤ 4611686018427387904) (k : Nat) : ∀ (m i : Nat) (prev : Int) (f : Nat), i + m = M.length → f = k + m + 1 → -1 ≤ prev → (i = 0 → prev = -1) → (0 < i → prev = rd M ((i : Int) - 1)) →
    (ndjqref18_Valid.l201 f M (i : Int) n e0 e1 e2 L0 L1 L2 = ndjqref18_Valid.l0 k 3 n e0 e1 e2 L0 L1 L2 ∧ inc prev n (M.drop i)) ∨ (ndjqref18_Valid.l201 f M (i : Int) n e0 e1 e2 L0 L1 L2 = some false ∧ ¬ inc prev n (M.drop i))
  | 0, i, prev, f, hi, hf, _, _, _ => by
    obtain ⟨f, rfl⟩ : ∃ g, f = g + 1 := ⟨f - 1, by omega⟩
    obtain rfl : f = k := by omega
    have hd : M.drop i = [] := List.drop_eq_nil_of_le (by omega)
    rw [ndjqref18_Valid.l201, if_neg (by omega), hd]
    exact .inl ⟨rfl, trivial⟩
  | m + 1, i, prev, f, hi, hf, hp, hp0, hp1 => by
    obtain ⟨f, rfl⟩ : ∃ g, f = g + 1 := ⟨f - 1, by omega⟩
    have hlt : i < M.length := by omega
    rw [rd_drop M i hlt, ndjqref18_Valid.l201, if_pos (by omega), if_pos (by omega)]
    by_cases c0 : rd M (i : Int) < 0
    · rw [if_pos c0]; exact .inr ⟨rfl, fun h => by have := h.1; omega⟩
    by_cases c2 : rd M (i : Int) ≥ n
    · rw [if_neg c0, if_pos c2]; exact .inr ⟨rfl, fun h => by have := h.2.1; omega⟩
    rw [if_neg c0, if_neg c2]
    have go : prev < rd M (i : Int) → (ndjqref18_Valid.l201 f M ((i + 1 : Nat) : Int) n e0 e1 e2 L0 L1 L2 = ndjqref18_Valid.l0 k 3 n e0 e1 e2 L0 L1 L2 ∧ inc prev n (rd M (i : Int) :: M.drop (i + 1))) ∨ (ndjqref18_Valid.l201 f M ((i + 1 : Nat) : Int) n e0 e1 e2 L0 L1 L2 = some false ∧ ¬ inc prev n (rd M (i : Int) :: M.drop (i + 1))) := by
      intro hlt2
      rcases rv2 n e0 e1 e2 L0 L1 L2 M hM k m (i + 1) (rd M (i : Int)) f (by omega) (by omega) (by omega) (by omega) (fun _ => by congr 1; omega) with h | h
      · exact .inl ⟨h.1, by omega, by omega, h.2⟩
      · exact .inr ⟨h.1, fun q => h.2 q.2.2⟩
    by_cases ci : i = 0
    · rw [if_neg (by omega), wrap_succ i (by omega)]
      exact go (by have := hp0 ci; omega)
    · rw [if_pos (by omega), wrap_id ((i : Int) - 1) (by omega) (by omega), if_pos (by omega), if_pos (by omega), ← hp1 (by omega), wrap_succ i (by omega)]
      by_cases c3 : prev ≥ rd M (i : Int)
      · rw [if_pos c3]; exact .inr ⟨rfl, fun h => by have := h.1; omega⟩
      · rw [if_neg c3]; exact go (by omega)
theorem ref_valid_any (n e0 e1 e2 : Int) (L0 L1 L2 : List Int) (l0 : L0.length ≤ 4611686018427387904) (l1 : L1.length ≤ 4611686018427387904) (l2 : L2.length ≤ 4611686018427387904) (k : Nat) (hk : L0.length + L1.length + L2.length + 20 ≤ k) :
    (ndjqref18_Valid.f k n e0 e1 e2 L0 L1 L2 = some true ∧ vld n e0 e1 e2 L0 L1 L2) ∨ (ndjqref18_Valid.f k n e0 e1 e2 L0 L1 L2 = some false ∧ ¬ vld n e0 e1 e2 L0 L1 L2) := by
  obtain ⟨r, rfl⟩ : ∃ r, k = (r + 1 + L2.length + 1 + 1 + 1 + L1.length + 1 + 1 + 1 + L0.length + 1) + 1 + 1 + 1 := ⟨k - (L0.length + L1.length + L2.length + 11), by omega⟩
  unfold ndjqref18_Valid.f
  by_cases c0 : n < 0
  · rw [if_pos c0, ndjqref18_Valid.j0, if_pos rfl]; exact .inr ⟨rfl, fun h => by have := h.1.1; omega⟩
  by_cases c1 : n > 1048576
  · rw [if_neg c0, decide_eq_true c1, ndjqref18_Valid.j0, if_pos rfl]; exact .inr ⟨rfl, fun h => by have := h.1.2; omega⟩
  rw [if_neg c0, decide_eq_false c1, ndjqref18_Valid.j0, if_neg (by decide)]
  have z : ((0 : Nat) : Int) = 0 := rfl
  have v0 := fun (k : Nat) => rv0 n e0 e1 e2 L0 L1 L2 L0 (by omega) k L0.length 0 (-1) (k + L0.length + 1) (by omega) rfl (by omega) (fun _ => rfl) (by omega)
  have v1 := fun (k : Nat) => rv1 n e0 e1 e2 L0 L1 L2 L1 (by omega) k L1.length 0 (-1) (k + L1.length + 1) (by omega) rfl (by omega) (fun _ => rfl) (by omega)
  have v2 := fun (k : Nat) => rv2 n e0 e1 e2 L0 L1 L2 L2 (by omega) k L2.length 0 (-1) (k + L2.length + 1) (by omega) rfl (by omega) (fun _ => rfl) (by omega)
  simp only [z, List.drop_zero] at v0 v1 v2
  rw [ndjqref18_Valid.l0, if_pos (by decide), if_pos rfl]
  by_cases d0 : e0 < 0
  · rw [if_pos d0, ndjqref18_Valid.j2, if_pos rfl]; exact .inr ⟨rfl, fun h => by have := h.2.1; omega⟩
  rw [if_neg d0]
  by_cases d1 : e0 > 2
  · rw [decide_eq_true d1, ndjqref18_Valid.j2, if_pos rfl]; exact .inr ⟨rfl, fun h => by have := h.2.1; omega⟩
  rw [decide_eq_false d1, ndjqref18_Valid.j2, if_neg (by decide), if_pos rfl]
  rcases v0 (r + 1 + L2.length + 1 + 1 + 1 + L1.length + 1 + 1 + 1) with ⟨h, i0⟩ | ⟨h, i0⟩
  rotate_left
  · rw [h]; exact .inr ⟨rfl, fun q => i0 q.2.2.2.2.1⟩
  rw [h, ndjqref18_Valid.l0, if_pos (by decide), if_neg (by decide), if_pos rfl]
  by_cases d2 : e1 < 0
  · rw [if_pos d2, ndjqref18_Valid.j2, if_pos rfl]; exact .inr ⟨rfl, fun h => by have := h.2.2.1; omega⟩
  rw [if_neg d2]
  by_cases d3 : e1 > 2
  · rw [decide_eq_true d3, ndjqref18_Valid.j2, if_pos rfl]; exact .inr ⟨rfl, fun h => by have := h.2.2.1; omega⟩
  rw [decide_eq_false d3, ndjqref18_Valid.j2, if_neg (by decide), if_neg (by decide), if_pos rfl]
  rcases v1 (r + 1 + L2.length + 1 + 1 + 1) with ⟨h, i1⟩ | ⟨h, i1⟩
  rotate_left
  · rw [h]; exact .inr ⟨rfl, fun q => i1 q.2.2.2.2.2.1⟩
  rw [h, ndjqref18_Valid.l0, if_pos (by decide), if_neg (by decide), if_neg (by decide), if_pos rfl]
  by_cases d4 : e2 < 0
  · rw [if_pos d4, ndjqref18_Valid.j2, if_pos rfl]; exact .inr ⟨rfl, fun h => by have := h.2.2.2.1; omega⟩
  rw [if_neg d4]
  by_cases d5 : e2 > 2
  · rw [decide_eq_true d5, ndjqref18_Valid.j2, if_pos rfl]; exact .inr ⟨rfl, fun h => by have := h.2.2.2.1; omega⟩
  rw [decide_eq_false d5, ndjqref18_Valid.j2, if_neg (by decide), if_neg (by decide), if_neg (by decide), if_pos rfl]
  rcases v2 (r + 1) with ⟨h, i2⟩ | ⟨h, i2⟩
  rotate_left
  · rw [h]; exact .inr ⟨rfl, fun q => i2 q.2.2.2.2.2.2⟩
  rw [h, ndjqref18_Valid.l0, if_neg (by decide)]
  exact .inl ⟨rfl, ⟨by omega, by omega⟩, ⟨by omega, by omega⟩, ⟨by omega, by omega⟩, ⟨by omega, by omega⟩, i0, i1, i2⟩
/-- Both tell the same. -/
theorem both_valid (n e0 e1 e2 : Int) (L0 L1 L2 : List Int) (l0 : L0.length ≤ 4611686018427387904) (l1 : L1.length ≤ 4611686018427387904) (l2 : L2.length ≤ 4611686018427387904) (k k' : Nat) (hk : L0.length + L1.length + L2.length + 20 ≤ k) (hk' : L0.length + L1.length + L2.length + 20 ≤ k') :
    (automaton_Valid.f k n e0 e1 e2 L0 L1 L2 = some true ∧ ndjqref18_Valid.f k' n e0 e1 e2 L0 L1 L2 = some true ∧ vld n e0 e1 e2 L0 L1 L2) ∨ (automaton_Valid.f k n e0 e1 e2 L0 L1 L2 = some false ∧ ndjqref18_Valid.f k' n e0 e1 e2 L0 L1 L2 = some false ∧ ¬ vld n e0 e1 e2 L0 L1 L2) := by
  rcases ref_valid_any n e0 e1 e2 L0 L1 L2 l0 l1 l2 k' hk' with ⟨h, v⟩ | ⟨h, v⟩ <;> rcases valid_any n e0 e1 e2 L0 L1 L2 l0 l1 l2 k hk with ⟨h2, v2⟩ | h2
  · exact .inl ⟨h2, h, v⟩
  · obtain ⟨a, b0, b1, b2, i0, i1, i2⟩ := v
    have := valid_at n e0 e1 e2 L0 L1 L2 a.1 a.2 b0 b1 b2 i0 i1 i2 l0 l1 l2 k (by omega)
    rw [this] at h2
    cases h2
  · exact absurd v2 v
  · exact .inr ⟨h2, h, v⟩
/-! ### the reference's Step and Read -/
theorem rstep_at (s b : Int) (k : Nat) (hk : 3 ≤ k) : ndjqref18_Step.f k s b = some (stp s b) := by
  obtain ⟨k, rfl⟩ : ∃ j, k = j + 3 := ⟨k - 3, by omega⟩
  unfold ndjqref18_Step.f stp
  by_cases h0 : s = 0
  · rw [if_pos h0, if_pos h0]
    simp only [ndjqref18_Step.j0]
    by_cases h1 : b = 34
    · rw [if_pos (by simp [h1]), if_pos h1]
    · rw [if_neg (by simp [h1]), if_pos h0, if_neg h1]
      by_cases h2 : b = 10
      · rw [if_pos h2]; simp [h2]
      · rw [if_neg h2]; simp [h2]
  rw [if_neg h0, if_neg h0]
  simp only [ndjqref18_Step.j0]
  rw [if_neg (by decide), if_neg h0]
  by_cases h1 : s = 1
  · rw [if_pos h1, if_pos h1]
    simp only [ndjqref18_Step.j1]
    by_cases h2 : b = 92
    · rw [if_pos (by simp [h2]), if_neg (by omega), if_pos h2]
    · rw [if_neg (by simp [h2]), if_pos h1]
      simp only [ndjqref18_Step.j2]
      by_cases h3 : b = 34
      · rw [if_pos (by simp [h3]), if_pos h3]
      · rw [if_neg (by simp [h3]), if_pos h1, if_neg h3, if_neg h2]
  rw [if_neg h1, if_neg h1]
  simp only [ndjqref18_Step.j1]
  rw [if_neg (by decide), if_neg h1]
  simp only [ndjqref18_Step.j2]
  rw [if_neg (by decide), if_neg h1]
  by_cases h2 : s = 2
  · rw [if_pos h2, if_pos h2]
  · rw [if_neg h2, if_neg h2]
theorem read_loop (s : ByteArray) (hs : s.size ≤ 1048576) : ∀ (d i : Nat) (st : Int) (acc : List Int) (k : Nat), i ≤ s.size → s.size - i ≤ d → d + 4 < k → acc.length ≤ i →
    ndjqref18_Read.l0 k st s acc i = some ((scanL st i ((nm s).drop i)).1, acc ++ (scanL st i ((nm s).drop i)).2)
  | 0, i, st, acc, k, hi, hd, hk, ha => by
    obtain ⟨k, rfl⟩ : ∃ j, k = j + 1 := ⟨k - 1, by omega⟩
    have hl := nm_len s
    simp only [ndjqref18_Read.l0]
    rw [if_neg (by omega), List.drop_eq_nil_of_le (by omega)]
    simp [scanL]
  | d + 1, i, st, acc, k, hi, hd, hk, ha => by
    by_cases c : i < s.size
    · obtain ⟨k, rfl⟩ : ∃ j, k = j + 1 := ⟨k - 1, by omega⟩
      simp only [ndjqref18_Read.l0]
      rw [if_pos (by omega), if_pos (by omega), rstep_at _ _ k (by omega), nm_drop s i c]
      simp only [Option.bind_some, scanL]
      by_cases e : (stp st (bt s (i : Int))).2 = true
      · rw [if_pos e, if_pos (by omega), if_pos e, wrap_succ i (by omega)]
        rw [read_loop s hs d (i + 1) _ (acc ++ [(i : Int)]) k (by omega) (by omega) (by omega) (by rw [List.length_append, List.length_singleton]; omega)]
        simp
      · rw [if_neg e, if_neg e, wrap_succ i (by omega)]
        rw [read_loop s hs d (i + 1) _ acc k (by omega) (by omega) (by omega) (by omega)]
    · exact read_loop s hs 0 i st acc k hi (by omega) (by omega) ha
theorem read_at (s : ByteArray) (hs : s.size ≤ 1048576) (st : Int) (k : Nat) (hk : s.size + 4 < k) : ndjqref18_Read.f k st s = some (scanL st 0 (nm s)) := by
  unfold ndjqref18_Read.f
  have := read_loop s hs s.size 0 st [] k (by omega) (by omega) hk (by simp)
  rw [show ((0 : Nat) : Int) = 0 from rfl] at this
  rw [this]
  simp
/-! ### the sanity check -/
theorem awake_at (k : Nat) (hk : 40 ≤ k) : ndjqlaw18_awake.f k = some true := by
  unfold ndjqlaw18_awake.f
  have z : (⟨#[97, 34, 10]⟩ : ByteArray).size = 3 := rfl
  rw [summarize_at _ (by rw [z]; omega) k (by rw [z]; omega)]
  have e0 : scanL 0 0 (nm (⟨#[97, 34, 10]⟩ : ByteArray)) = (1, []) := by decide +kernel
  have e1 : scanL 1 0 (nm (⟨#[97, 34, 10]⟩ : ByteArray)) = (0, [2]) := by decide +kernel
  have e2 : scanL 2 0 (nm (⟨#[97, 34, 10]⟩ : ByteArray)) = (0, [2]) := by decide +kernel
  rw [e0, e1, e2, z, Option.bind_some]
  have i2 := ints_same [2] (by simp) k (by simp; omega)
  simp only [i2, Option.bind_some, if_true]
  rfl
def okL (x : S29) : Prop := x.f2.f0.length ≤ 1048576 ∧ x.f2.f1.length ≤ 1048576 ∧ x.f2.f2.length ≤ 1048576
theorem noS_ok : okL noS := ⟨by decide, by decide, by decide⟩
def i64R (x : S29) : Prop := -9223372036854775808 ≤ x.f0 ∧ x.f0 ≤ 9223372036854775807
theorem cmp_any (x y : S29) (hx : i64R x) (lx : okL x) (ly : okL y) (k : Nat) (hk : 13000000 ≤ k) :
    (vldS x ∧ vldS y ∧ x.f0 + y.f0 ≤ 1048576 ∧ cmpM k (sm x) (sm y) = some (sm (comp x y), 0))
    ∨ (¬ (vldS x ∧ vldS y) ∧ cmpM k (sm x) (sm y) = some (sm noS, 1))
    ∨ (vldS x ∧ vldS y ∧ 1048576 < x.f0 + y.f0 ∧ cmpM k (sm x) (sm y) = some (sm noS, 2)) := by
  rcases compose_S x y hx lx ly k hk with ⟨h1, h2, h3, h4⟩ | ⟨h1, h4⟩ | ⟨h1, h2, h3, h4⟩
  · refine .inl ⟨h1, h2, h3, ?_⟩
    unfold cmpM sm
    dsimp only
    rw [h4]
    rfl
  · refine .inr (.inl ⟨h1, ?_⟩)
    unfold cmpM sm
    dsimp only
    rw [h4]
    rfl
  · refine .inr (.inr ⟨h1, h2, h3, ?_⟩)
    unfold cmpM sm
    dsimp only
    rw [h4]
    rfl
theorem refV_at (x : S29) (lx : okL x) (k : Nat) (hk : 13000000 ≤ k) : (refV k (sm x) = some true ∧ vldS x) ∨ (refV k (sm x) = some false ∧ ¬ vldS x) := by
  obtain ⟨l0, l1, l2⟩ := lx
  rcases ref_valid_any x.f0 x.f1.f0 x.f1.f1 x.f1.f2 x.f2.f0 x.f2.f1 x.f2.f2 (by omega) (by omega) (by omega) k (by omega) with h | h
  · exact .inl h
  · exact .inr h
theorem jn_comp (x y : S29) : jn (sm x) (sm y) = sm (comp x y) := rfl
theorem jp_of (x y : S29) (vx : vldS x) (vy : vldS y) (hs : x.f0 + y.f0 ≤ 1048576) : Jp (sm x) (sm y) := by
  have lx := vldS_len vx
  have ly := vldS_len vy
  obtain ⟨nx, a0, a1, a2, i0, i1, i2⟩ := vx
  obtain ⟨ny, b0, b1, b2, j0, j1, j2⟩ := vy
  refine ⟨⟨nx.1, nx.2, ny.1, hs⟩, fun k hk => ?_, fun k hk => ?_, fun k hk z hz => ?_⟩
  · rcases (show k = 0 ∨ k = 1 ∨ k = 2 by omega) with rfl | rfl | rfl
    · exact a0
    · exact a1
    · exact a2
  · rcases (show k = 0 ∨ k = 1 ∨ k = 2 by omega) with rfl | rfl | rfl
    · exact ⟨lx.1, ly.1⟩
    · exact ⟨lx.2.1, ly.2.1⟩
    · exact ⟨lx.2.2, ly.2.2⟩
  · rcases (show k = 0 ∨ k = 1 ∨ k = 2 by omega) with rfl | rfl | rfl
    · have := inc_nonneg _ _ _ (by decide) j0 z hz
      exact ⟨this.1, by omega⟩
    · have := inc_nonneg _ _ _ (by decide) j1 z hz
      exact ⟨this.1, by omega⟩
    · have := inc_nonneg _ _ _ (by decide) j2 z hz
      exact ⟨this.1, by omega⟩
/-- Compose and the reference's agree, and what they answer is small or as long as its parts. -/
theorem both_cmp (x y : S29) (hx : i64R x) (lx : okL x) (ly : okL y) (k k' : Nat) (hk : 13000000 ≤ k) (hk' : 13000000 ≤ k') :
    ∃ z e, cmpM k (sm x) (sm y) = some (sm z, e) ∧ cmR k' (sm x) (sm y) = some (sm z, e) ∧ okL z ∧ (e = 0 → vldS z) := by
  have hr : ∀ (a b : Bool) , refV k' (sm x) = some a → refV k' (sm y) = some b → cmR k' (sm x) (sm y) = if a = true then (if b = true then (if Jp (sm x) (sm y) then some (jn (sm x) (sm y), 0) else if 1048576 < (sm x).n + (sm y).n ∧ (sm x).n + (sm y).n ≤ 4000000000 then some (zM, 2) else none) else some (zM, 1)) else some (zM, 1) := fun a b ha hb => by
    unfold cmR
    rw [ha, Option.bind_some]
    by_cases c : a = true
    · rw [if_pos c, if_pos c, hb, Option.bind_some]
    · rw [if_neg c, if_neg c]
  rcases cmp_any x y hx lx ly k hk with ⟨vx, vy, hs, h⟩ | ⟨hv, h⟩ | ⟨vx, vy, hs, h⟩
  · rcases refV_at x lx k' hk' with ⟨ra, _⟩ | ⟨_, n⟩
    rotate_left
    · exact absurd vx n
    rcases refV_at y ly k' hk' with ⟨rb, _⟩ | ⟨_, n⟩
    rotate_left
    · exact absurd vy n
    refine ⟨_, _, h, ?_, vldS_len (comp_vld vx vy hs), fun _ => comp_vld vx vy hs⟩
    rw [hr true true ra rb, if_pos rfl, if_pos rfl, if_pos (jp_of x y vx vy hs), jn_comp]
  · refine ⟨_, _, h, ?_, noS_ok, fun e => absurd e (by decide)⟩
    rcases refV_at x lx k' hk' with ⟨ra, vx⟩ | ⟨ra, _⟩
    · rcases refV_at y ly k' hk' with ⟨rb, vy⟩ | ⟨rb, _⟩
      · exact absurd ⟨vx, vy⟩ hv
      · rw [hr true false ra rb, if_pos rfl, if_neg (by decide)]
        rfl
    · rcases refV_at y ly k' hk' with ⟨rb, vy⟩ | ⟨rb, _⟩
      · rw [hr false true ra rb, if_neg (by decide)]
        rfl
      · rw [hr false false ra rb, if_neg (by decide)]
        rfl
  · rcases refV_at x lx k' hk' with ⟨ra, _⟩ | ⟨_, n⟩
    rotate_left
    · exact absurd vx n
    rcases refV_at y ly k' hk' with ⟨rb, _⟩ | ⟨_, n⟩
    rotate_left
    · exact absurd vy n
    have b1 := vx.1
    have b2 := vy.1
    refine ⟨_, _, h, ?_, noS_ok, fun e => absurd e (by decide)⟩
    rw [hr true true ra rb, if_pos rfl, if_pos rfl, if_neg (fun hj => by have h1 : x.f0 + y.f0 ≤ 1048576 := hj.1.2.2.2; omega), if_pos (show 1048576 < (sm x).n + (sm y).n ∧ (sm x).n + (sm y).n ≤ 4000000000 from (show 1048576 < x.f0 + y.f0 ∧ x.f0 + y.f0 ≤ 4000000000 by omega))]
    rfl
theorem sum_same (x : S29) (lx : okL x) (k : Nat) (hk : 13000000 ≤ k) : sumM k (sm x) (sm x) = some true := by
  obtain ⟨l0, l1, l2⟩ := lx
  exact summaries_same _ _ _ _ _ _ _ (by show x.f2.f0.length ≤ _; omega) (by show x.f2.f1.length ≤ _; omega) (by show x.f2.f2.length ≤ _; omega) k (by show x.f2.f0.length + 10 < k; omega) (by show x.f2.f1.length + 10 < k; omega) (by show x.f2.f2.length + 10 < k; omega)
theorem rd_at (l : List S29) (i : Nat) {y : S29} (h : l[i]? = some y) : rd_T29 l (i : Int) = y := by
  unfold rd_T29
  rw [Int.toNat_natCast, List.getD_eq_getElem?_getD, h]
  rfl
theorem all_both (l : List S29) (h5 : l.length ≤ 5) (hl : ∀ y ∈ l, okL y) (k' : Nat) (hk' : 13000000 ≤ k') : ∀ (d i : Nat) (s : S29) (k : Nat), i + d = l.length → 13000000 + d < k → vldS s →
    ∃ z e, automaton_All.l0 k l (l.length : Int) (i : Int) s.f0 s.f1.f0 s.f1.f1 s.f1.f2 s.f2.f0 s.f2.f1 s.f2.f2 = some (tupS z e) ∧ allL k' (l.drop i) (sm s) = some (sm z, e) ∧ okL z := by
  intro d
  induction d with
  | zero =>
    intro i s k hi hk hs
    obtain ⟨k, rfl⟩ : ∃ m, k = m + 1 := ⟨k - 1, by omega⟩
    refine ⟨s, 0, ?_, ?_, vldS_len hs⟩
    · rw [automaton_All.l0, if_neg (by omega)]
      rfl
    · rw [List.drop_eq_nil_of_le (by omega), allL]
  | succ d ih =>
    intro i s k hi hk hs
    obtain ⟨k, rfl⟩ : ∃ m, k = m + 1 := ⟨k - 1, by omega⟩
    have hil : i < l.length := by omega
    have hyi : l[i]? = some l[i] := List.getElem?_eq_getElem hil
    have hm : l[i] ∈ l := List.getElem_mem _
    have hd := List.drop_eq_getElem_cons hil
    obtain ⟨y, hy⟩ : ∃ y, l[i] = y := ⟨_, rfl⟩
    rw [hy] at hyi hm hd
    have hsr := hs.1
    obtain ⟨z, e, c1, c2, lz, vz⟩ := both_cmp s y ⟨by omega, by omega⟩ (vldS_len hs) (hl y hm) k k' (by omega) hk'
    have hc : automaton_Compose.f k s.f0 s.f1.f0 s.f1.f1 s.f1.f2 s.f2.f0 s.f2.f1 s.f2.f2 y.f0 y.f1.f0 y.f1.f1 y.f1.f2 y.f2.f0 y.f2.f1 y.f2.f2 = some (tupS z e) := by
      unfold cmpM at c1
      obtain ⟨⟨r1, r2, r3, r4, r5, r6, r7, r8⟩, ht, he⟩ := Option.map_eq_some_iff.1 c1
      have ht2 : automaton_Compose.f k s.f0 s.f1.f0 s.f1.f1 s.f1.f2 s.f2.f0 s.f2.f1 s.f2.f2 y.f0 y.f1.f0 y.f1.f1 y.f1.f2 y.f2.f0 y.f2.f1 y.f2.f2 = _ := ht
      rw [ht2]
      obtain ⟨z0, ⟨z1, z2, z3⟩, ⟨z4, z5, z6⟩⟩ := z
      injection he with he1 he2
      injection he1 with q1 q2 q3 q4 q5 q6 q7
      have q1 : r1 = z0 := q1
      have q2 : r2 = z1 := q2
      have q3 : r3 = z2 := q3
      have q4 : r4 = z3 := q4
      have q5 : r5 = z4 := q5
      have q6 : r6 = z5 := q6
      have q7 : r7 = z6 := q7
      have q8 : r8 = e := he2
      subst q1 q2 q3 q4 q5 q6 q7 q8
      rfl
    rw [automaton_All.l0, if_pos (by omega), if_pos (by omega), if_pos (by omega), rd_at l i hyi, hc, Option.bind_some, hd, allL, c2, Option.bind_some]
    have t8 : (tupS z e).2.2.2.2.2.2.2 = e := rfl
    rw [t8]
    by_cases he : e = 0
    · subst he
      rw [if_pos rfl, if_pos rfl, show wrap64 ((i : Int) + 1) = ((i + 1 : Nat) : Int) by unfold wrap64; omega]
      exact ih (i + 1) z k (by omega) (by omega) (vz rfl)
    · rw [if_neg he, if_neg he]
      exact ⟨noS, e, rfl, rfl, noS_ok⟩
theorem emR_at (k : Nat) (hk : 100 ≤ k) : emR k = some (sm emptyS) := by
  obtain ⟨k, rfl⟩ : ∃ m, k = m + 10 := ⟨k - 10, by omega⟩
  unfold emR ndjqref18_Empty.f ndjqref18_Summary.f
  have hz : (⟨#[]⟩ : ByteArray).size = 0 := rfl
  have r : ∀ (j : Nat) (st : Int), 5 ≤ j → ndjqref18_Read.f j st (⟨#[]⟩ : ByteArray) = some (st, []) := fun j st hj => (read_at _ (by rw [hz]; decide) st j (by rw [hz]; omega)).trans rfl
  rw [ndjqref18_Summary.l0, if_pos (by decide), r _ _ (by omega), Option.bind_some, if_pos rfl]
  rw [ndjqref18_Summary.l0, if_pos (by decide), r _ _ (by omega), Option.bind_some, if_neg (by decide), if_pos rfl]
  rw [ndjqref18_Summary.l0, if_pos (by decide), r _ _ (by omega), Option.bind_some, if_neg (by decide), if_neg (by decide), if_pos rfl]
  rw [ndjqref18_Summary.l0, if_neg (by decide)]
  rfl
theorem wf_r {x : Int} (h : (Lit.int .i64 x).wf = true) : -9223372036854775808 ≤ x ∧ x ≤ 9223372036854775807 := by
  have h2 := h
  simp only [Lit.wf, Bool.and_eq_true, decide_eq_true_eq] at h2
  have h3 : IntKind.i64.max = 9223372036854775807 := rfl
  have h4 : IntKind.i64.min = -9223372036854775808 := rfl
  omega
theorem pre_at (k : Nat) (hk : 13000000 ≤ k) : ∀ (l : List S29), (∀ y ∈ l, lensM (sm y) ≤ 100000000000000) → preL k l = some (some true) ∨ (preL k l = some none ∧ ∀ y ∈ l, okL y)
  | [], _ => .inr ⟨rfl, fun _ h => by cases h⟩
  | y :: l, h => by
    have aw := awake_at k (by omega)
    rw [preL, if_pos (h y List.mem_cons_self)]
    by_cases c : 60 < lensM (sm y)
    · rw [if_pos c, aw]
      exact .inl rfl
    · rw [if_neg c]
      have ly : okL y := by
        have c2 : ¬ 60 < y.f2.f0.length + y.f2.f1.length + y.f2.f2.length := c
        unfold okL
        omega
      obtain ⟨l0, l1, l2⟩ := ly
      have hv : ∃ b, vldM k (sm y) = some b ∧ refV k (sm y) = some b := by
        rcases both_valid y.f0 y.f1.f0 y.f1.f1 y.f1.f2 y.f2.f0 y.f2.f1 y.f2.f2 (by omega) (by omega) (by omega) k k (by omega) (by omega) with ⟨a, b, _⟩ | ⟨a, b, _⟩
        · exact ⟨_, a, b⟩
        · exact ⟨_, a, b⟩
      obtain ⟨b, v1, v2⟩ := hv
      rw [v1, Option.bind_some, v2, Option.bind_some, if_pos rfl]
      rcases pre_at k hk l (fun z hz => h z (List.mem_cons_of_mem _ hz)) with e | ⟨e, hl⟩
      · exact .inl e
      · exact .inr ⟨e, fun z hz => by
          rcases List.mem_cons.1 hz with rfl | hz
          · exact ⟨l0, l1, l2⟩
          · exact hl z hz⟩
theorem end_at (k : Nat) (hk : 13000100 ≤ k) (l : List S29) (h5 : l.length ≤ 5) (hw : ∀ y ∈ l, i64R y) (hl : ∀ y ∈ l, okL y) : endL k l = some true := by
  have aw := awake_at k (by omega)
  obtain ⟨z, e, a1, a2, lz⟩ := all_both l h5 hl k (by omega) l.length 0 emptyS k (by omega) (by omega) empty_vld
  have h1 : allM k l = some (sm z, e) := by
    unfold allM automaton_All.f automaton_Empty.f
    rw [Option.bind_some]
    have a1' : automaton_All.l0 k l (l.length : Int) 0 0 0 1 2 [] [] [] = some (tupS z e) := a1
    show (automaton_All.l0 k l (l.length : Int) 0 0 0 1 2 [] [] []).map _ = _
    rw [a1']
    rfl
  have h2 : allR k l = some (sm z, e) := by
    unfold allR
    rw [emR_at k (by omega), Option.bind_some]
    exact a2
  unfold endL
  rw [h1, Option.bind_some, h2, Option.bind_some]
  dsimp only
  rw [if_pos rfl, sum_same z lz k (by omega), Option.bind_some, if_pos rfl]
  match l, hw, hl with
  | [], _, _ => exact aw
  | [_], _, _ => exact aw
  | a :: b :: _, hw, hl =>
    obtain ⟨z, e, c1, c2, lz, _⟩ := both_cmp a b (hw a (by simp)) (hl a (by simp)) (hl b (by simp)) k k (by omega) (by omega)
    show ((cmpM k (sm a) (sm b)).bind _) = _
    rw [c1, Option.bind_some, c2, Option.bind_some]
    dsimp only
    rw [if_pos rfl, sum_same z lz k (by omega), Option.bind_some, if_pos rfl]
    exact aw
theorem AutomatonRaw : ndjqlaw18_AutomatonRaw.Pure := by
  intro l0 hw
  obtain ⟨_, hw⟩ := hw
  obtain ⟨k, hk⟩ : ∃ k, 13000100 ≤ k := ⟨_, Nat.le_refl _⟩
  refine ⟨k, ?_⟩
  unfold ndjqlaw18_AutomatonRaw.f rawL
  by_cases c : 5 < l0.length
  · rw [if_pos c]
    exact awake_at k (by omega)
  rw [if_neg c]
  rcases pre_at k (by omega) l0 (fun y hy => by
    obtain ⟨_, _, ⟨h0, _⟩, ⟨h1, _⟩, ⟨h2, _⟩⟩ := hw y hy
    show y.f2.f0.length + y.f2.f1.length + y.f2.f2.length ≤ _
    omega) with e | ⟨e, hl⟩
  · rw [e]
    rfl
  · rw [e]
    exact end_at k hk l0 (by omega) (fun y hy => wf_r (hw y hy).1) hl

end Go.Proofs.YtjejjhpmiinanaaDoor.Pure
