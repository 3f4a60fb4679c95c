/- SplitJoin's pure law: the records of records that are joined by line feeds are these, if each of them is read outside of strings to its end; for at most ten strings of at most 40 bytes each, others meet the sanity check alone. No further condition. -/
import Derived.Test.YtdnpefbnfkfloaaDoorQSplitJoinx4
import Derived.Laws.BitsLemmas
namespace Go.Proofs.YtdnpefbnfkfloaaDoor.Pure
open Go.RowKit Go.Proofs.YtdnpefbnfkfloaaDoor.QSplitJoin Go.Proofs.YtdnpefbnfkfloaaDoorW.PrintWords Go.Proofs.YtdnpefbnfkfloaaDoorW.PrintLast
set_option linter.unusedVariables false
set_option linter.unusedSimpArgs false
/-! ### numbers and the list of a string's bytes -/
theorem wrap_id (n : Int) (h : -9223372036854775808 ≤ n) (h' : n ≤ 9223372036854775807) : wrap64 n = n := by unfold wrap64; omega
theorem wrap_nat (a b c : Nat) (h : a + b = c) (hc : c ≤ 4611686018427387904) : wrap64 ((a : Int) + (b : Int)) = (c : Int) := by rw [wrap_id _ (by omega) (by omega)]; omega
theorem wrap_succ (a : Nat) (hc : a ≤ 4611686018427387904) : wrap64 ((a : Int) + 1) = ((a + 1 : Nat) : Int) := by rw [wrap_id _ (by omega) (by omega)]; omega
def nm (s : ByteArray) : List Int := s.data.toList.map fun c => (c.toNat : Int)
theorem nm_bytesOf (s : ByteArray) : bytesOf s = nm s := rfl
theorem nm_len (s : ByteArray) : (nm s).length = s.size := by unfold nm; rw [List.length_map, Array.length_toList]; rfl
theorem nm_get (s : ByteArray) (j : Nat) (h : j < s.size) : (nm s)[j]? = some (bt s (j : Int)) := by
  have h' : j < s.data.toList.length := by rw [Array.length_toList]; exact h
  unfold nm bt
  rw [List.getElem?_map, List.getElem?_eq_getElem h', dif_pos (show ((j : Int)).toNat < s.size from h)]
  rfl
theorem nm_drop (s : ByteArray) (j : Nat) (h : j < s.size) : (nm s).drop j = bt s (j : Int) :: (nm s).drop (j + 1) := by
  have hl := nm_len s
  rw [List.drop_eq_getElem_cons (by omega)]
  congr 1
  have := nm_get s j h
  rw [List.getElem?_eq_getElem (by omega)] at this
  exact Option.some.inj this
theorem nm_range (s : ByteArray) : ∀ c ∈ nm s, 0 ≤ c ∧ c ≤ 255 := by
  intro c hc
  unfold nm at hc
  obtain ⟨u, _, rfl⟩ := List.mem_map.1 hc
  have := u.toNat_lt
  omega
theorem nm_inj {s t : ByteArray} (h : nm s = nm t) : s = t := by
  unfold nm at h
  have := (List.map_inj_right (fun (x y : UInt8) e => UInt8.toNat_inj.1 (by omega))).1 h
  have h2 : s.data = t.data := Array.toList_inj.1 this
  cases s; cases t; simp_all
theorem nm_strOf (l : List Int) (h : ∀ c ∈ l, 0 ≤ c ∧ c ≤ 255) : nm (strOfNums l) = l := by
  unfold nm
  rw [strOfNums_data, List.map_map]
  conv => rhs; rw [← List.map_id l]
  apply List.map_congr_left
  intro c hc
  have := h c hc
  simp only [Function.comp, id]
  rw [UInt8.toNat_ofNat']
  omega
theorem nm_extract (s : ByteArray) (a b : Nat) : nm (s.extract a b) = ((nm s).take b).drop a := by
  unfold nm
  have e : (s.extract a b).data.toList = (s.data.toList.take b).drop a := by
    rw [ByteArray.data_extract, Array.toList_extract, List.extract_eq_take_drop, List.drop_take]
  rw [e, List.map_drop, List.map_take]
theorem nm_append (s t : ByteArray) : nm (s ++ t) = nm s ++ nm t := by unfold nm; rw [ByteArray.data_append, Array.toList_append, List.map_append]
theorem rd_drop (xs : List Int) (j : Nat) (h : j < xs.length) : xs.drop j = rd xs (j : Int) :: xs.drop (j + 1) := by
  rw [List.drop_eq_getElem_cons h]
  congr 1
  unfold rd
  rw [Int.toNat_natCast, List.getD_eq_getElem?_getD, List.getElem?_eq_getElem h]
  rfl
/-! ### the automaton over a list of bytes -/
def stp (s b : Int) : Int × Bool := if s = 0 then (if b = 34 then (1, false) else if b = 10 then (0, true) else (0, false)) else if s = 1 then (if b = 34 then (0, false) else if b = 92 then (2, false) else (1, false)) else if s = 2 then (1, false) else (0, false)
/-- The state behind a list of bytes, and the offsets of the line feeds that end a record; the first byte has the offset 'at'. -/
def scanL : Int → Nat → List Int → Int × List Int
  | st, _, [] => (st, [])
  | st, i, b :: t => ((scanL (stp st b).1 (i + 1) t).1, if (stp st b).2 = true then (i : Int) :: (scanL (stp st b).1 (i + 1) t).2 else (scanL (stp st b).1 (i + 1) t).2)
theorem step_at (s b : Int) : automaton_Step.f s b = some (stp s b) := by
  unfold automaton_Step.f stp
  repeat' split
  all_goals rfl
theorem scanL_len : ∀ (l : List Int) (st : Int) (i : Nat), (scanL st i l).2.length ≤ l.length
  | [], _, _ => by simp [scanL]
  | b :: t, st, i => by
    have := scanL_len t (stp st b).1 (i + 1)
    simp only [scanL, List.length_cons]
    split
    · rw [List.length_cons]; omega
    · omega
/-- Where a line feed ends a record: in the list, behind the one before. -/
theorem scanL_mem : ∀ (l : List Int) (st : Int) (i : Nat), ∀ x ∈ (scanL st i l).2, (i : Int) ≤ x ∧ x < (i : Int) + l.length
  | [], _, _ => by simp [scanL]
  | b :: t, st, i => by
    intro x hx
    have ih := scanL_mem t (stp st b).1 (i + 1)
    simp only [scanL] at hx
    rw [List.length_cons]
    split at hx
    · rcases List.mem_cons.1 hx with rfl | hx
      · omega
      · have := ih x hx; omega
    · have := ih x hx; omega
/-! ### split.Lines -/
theorem lines_loop (L : List Int) (hL : L.length ≤ 1048576) : ∀ (d i : Nat) (st : Int) (acc : List Int) (k : Nat), i ≤ L.length → L.length - i ≤ d → d < k → acc.length ≤ i →
    split_Lines.l0 k acc st L L.length i = some (acc ++ (scanL st i (L.drop i)).2, (scanL st i (L.drop i)).1, 0)
  | 0, i, st, acc, k, hi, hd, hk, ha => by
    obtain ⟨k, rfl⟩ : ∃ j, k = j + 1 := ⟨k - 1, by omega⟩
    simp only [split_Lines.l0]
    rw [if_neg (by omega), List.drop_eq_nil_of_le (by omega)]
    simp [scanL]
  | d + 1, i, st, acc, k, hi, hd, hk, ha => by
    obtain ⟨k, rfl⟩ : ∃ j, k = j + 1 := ⟨k - 1, by omega⟩
    simp only [split_Lines.l0]
    by_cases c : i < L.length
    · rw [if_pos (by omega), if_pos (by omega), if_pos (by omega), step_at, rd_drop L i c]
      simp only [Option.bind_some, scanL]
      by_cases e : (stp st (rd L (i : Int))).2 = true
      · rw [if_pos e, if_pos (by omega), if_pos e, wrap_succ i (by omega)]
        rw [lines_loop L hL d (i + 1) (stp st (rd L (i : Int))).1 (acc ++ [(i : Int)]) k (by omega) (by omega) (by omega) (by rw [List.length_append, List.length_singleton]; omega)]
        simp
      · rw [if_neg e, if_neg e, wrap_succ i (by omega)]
        rw [lines_loop L hL d (i + 1) (stp st (rd L (i : Int))).1 acc k (by omega) (by omega) (by omega) (by omega)]
    · rw [if_neg (by omega), List.drop_eq_nil_of_le (by omega)]
      simp [scanL]
theorem lines_at (s : ByteArray) (hs : s.size ≤ 1048576) (k : Nat) (hk : s.size < k) : split_Lines.f k s = some ((scanL 0 0 (nm s)).2, (scanL 0 0 (nm s)).1, 0) := by
  unfold split_Lines.f
  have hl := nm_len s
  rw [if_neg (by omega), if_pos (by omega), nm_bytesOf]
  simp only [Option.bind_some]
  have := lines_loop (nm s) (by omega) s.size 0 0 [] k (by omega) (by omega) hk (by simp)
  rw [show ((0 : Nat) : Int) = 0 from rfl] at this
  rw [this]
  simp
theorem lines_big (s : ByteArray) (hs : 1048576 < s.size) (k : Nat) : split_Lines.f k s = some ([], 0, 2) := by
  unfold split_Lines.f
  rw [if_pos (by omega)]
/-! ### split.Records -/
/-- The records between line feeds; n: the input's length. -/
def spansOf (n : Int) : Int → List Int → List S34
  | b, [] => if b < n then [⟨b, n⟩] else []
  | b, x :: t => ⟨b, x⟩ :: spansOf n (x + 1) t
theorem spansOf_len (n : Int) : ∀ (l : List Int) (b : Int), (spansOf n b l).length ≤ l.length + 1
  | [], b => by unfold spansOf; split <;> simp
  | x :: t, b => by
    have := spansOf_len n t (x + 1)
    simp only [spansOf, List.length_cons]
    omega
theorem records_loop (s : ByteArray) (L : List Int) (hL : L.length ≤ 1048576) (hx : ∀ x ∈ L, 0 ≤ x ∧ x ≤ 1048576) : ∀ (d i : Nat) (acc : List S34) (b : Int) (k : Nat), i ≤ L.length → L.length - i ≤ d → d < k → acc.length ≤ i →
    split_Records.l0 k s acc b L L.length i = some (acc ++ spansOf s.size b (L.drop i), 0)
  | 0, i, acc, b, k, hi, hd, hk, ha => by
    obtain ⟨k, rfl⟩ : ∃ j, k = j + 1 := ⟨k - 1, by omega⟩
    simp only [split_Records.l0]
    rw [if_neg (by omega), List.drop_eq_nil_of_le (by omega)]
    unfold spansOf
    by_cases c : b < (s.size : Int)
    · rw [if_pos c, if_pos (by omega), if_pos c]
    · rw [if_neg c, if_neg c, List.append_nil]
  | d + 1, i, acc, b, k, hi, hd, hk, ha => by
    by_cases c : i < L.length
    · obtain ⟨k, rfl⟩ : ∃ j, k = j + 1 := ⟨k - 1, by omega⟩
      have e := rd_drop L i c
      have hm : rd L (i : Int) ∈ L := List.mem_of_mem_drop (by rw [e]; exact List.mem_cons_self ..)
      have hr := hx _ hm
      simp only [split_Records.l0]
      rw [if_pos (by omega), if_pos (by omega), if_pos (by omega), if_pos (by omega), wrap_succ i (by omega), wrap_id (rd L (i : Int) + 1) (by omega) (by omega)]
      rw [records_loop s L hL hx d (i + 1) _ _ k (by omega) (by omega) (by omega) (by rw [List.length_append, List.length_singleton]; omega), e]
      simp [spansOf]
    · exact records_loop s L hL hx 0 i acc b k hi (by omega) (by omega) ha
theorem records_at (s : ByteArray) (hs : s.size ≤ 1048576) (k : Nat) (hk : s.size + 1 < k) : split_Records.f k s = some (spansOf s.size 0 (scanL 0 0 (nm s)).2, 0) := by
  unfold split_Records.f
  rw [lines_at s hs k (by omega)]
  simp only [Option.bind_some]
  rw [if_pos trivial]
  have hl := nm_len s
  have h1 := scanL_len (nm s) 0 0
  have := records_loop s (scanL 0 0 (nm s)).2 (by omega) (fun x hx => by have := scanL_mem (nm s) 0 0 x hx; omega) (scanL 0 0 (nm s)).2.length 0 [] 0 k (by omega) (by omega) (by omega) (by simp)
  rw [show ((0 : Nat) : Int) = 0 from rfl] at this
  rw [this]
  simp
theorem records_big (s : ByteArray) (hs : 1048576 < s.size) (k : Nat) : split_Records.f k s = some ([], 2) := by
  unfold split_Records.f
  rw [lines_big s hs k]
  rfl
/-! ### keep.Spans: a list is the same as itself -/
theorem spans_loop (l : List S34) (hl : l.length ≤ 4611686018427387904) : ∀ (d i : Nat) (k : Nat), l.length - i ≤ d → d < k → i ≤ l.length → ndjqkeep_Spans.l0 k l l i = some true
  | 0, i, k, hd, hk, hi => by
    obtain ⟨k, rfl⟩ : ∃ j, k = j + 1 := ⟨k - 1, by omega⟩
    simp only [ndjqkeep_Spans.l0]
    rw [if_neg (by omega)]
  | d + 1, i, k, hd, hk, hi => by
    obtain ⟨k, rfl⟩ : ∃ j, k = j + 1 := ⟨k - 1, by omega⟩
    simp only [ndjqkeep_Spans.l0]
    by_cases c : i < l.length
    · rw [if_pos (by omega), if_pos (by omega), if_pos (by omega)]
      simp only [beq_self_eq_true, Bool.not_true, Bool.or_self]
      rw [if_neg (by decide), wrap_succ i (by omega)]
      exact spans_loop l hl d (i + 1) k (by omega) (by omega) (by omega)
    · rw [if_neg (by omega)]
theorem spans_same (l : List S34) (hl : l.length ≤ 4611686018427387904) (k : Nat) (hk : l.length < k) : ndjqkeep_Spans.f k l l = some true := by
  unfold ndjqkeep_Spans.f
  rw [if_pos rfl]
  have := spans_loop l hl l.length 0 k (by omega) hk (by omega)
  rw [show ((0 : Nat) : Int) = 0 from rfl] at this
  exact this
/-! ### blanks -/
def blank (b : Int) : Bool := b == 32 || b == 9 || b == 10 || b == 13
theorem blank_at (b : Int) : jsonlex_Blank.f b = some (blank b) := by
  unfold jsonlex_Blank.f blank
  by_cases h1 : b = 32
  · rw [if_pos h1]; simp [h1]
  rw [if_neg h1]
  by_cases h2 : b = 9
  · rw [if_pos h2]; simp [h2]
  rw [if_neg h2]
  by_cases h3 : b = 10
  · rw [if_pos h3]; simp [h3]
  rw [if_neg h3]; simp [h1, h2, h3]
/-- The offset of the first byte that is no blank. -/
def skipN (s : ByteArray) : Nat → Int → Int
  | 0, i => i
  | m + 1, i => if i < (s.size : Int) then (if blank (bt s i) = true then skipN s m (i + 1) else i) else i
theorem skip_loop (s : ByteArray) (hs : s.size ≤ 140737488355328) : ∀ (m : Nat) (i : Int) (k : Nat), 0 ≤ i → i ≤ s.size → (s.size : Int) - i ≤ m → m < k → jsonlex_Skip.l0 k s i = some (skipN s m i)
  | 0, i, k, h0, hi, hm, hk => by
    obtain ⟨k, rfl⟩ : ∃ j, k = j + 1 := ⟨k - 1, by omega⟩
    simp only [jsonlex_Skip.l0, skipN]
    rw [if_neg (by omega)]
  | m + 1, i, k, h0, hi, hm, hk => by
    obtain ⟨k, rfl⟩ : ∃ j, k = j + 1 := ⟨k - 1, by omega⟩
    simp only [jsonlex_Skip.l0, skipN]
    by_cases c : i < (s.size : Int)
    · rw [if_pos c, if_pos h0, if_pos c, blank_at]
      simp only [Option.bind_some]
      by_cases b : blank (bt s i) = true
      · rw [if_pos b, if_pos b, wrap_id _ (by omega) (by omega)]
        exact skip_loop s hs m (i + 1) k (by omega) (by omega) (by omega) (by omega)
      · rw [if_neg b, if_neg b]
    · rw [if_neg c, if_neg c]
theorem sblank_at (s : ByteArray) (hs : s.size ≤ 140737488355328) (k : Nat) (hk : s.size < k) : split_Blank.f k s = some (skipN s s.size 0 == (s.size : Int)) := by
  unfold split_Blank.f jsonlex_Skip.f
  rw [if_neg (by decide), skip_loop s hs s.size 0 k (by omega) (by omega) (by omega) hk]
  rfl
theorem awake_at (k : Nat) (hk : 20 ≤ k) : ndjqlaw19_awake.f k = some true := by
  unfold ndjqlaw19_awake.f
  have e1 : spansOf (4 : Int) 0 (scanL 0 0 (nm (⟨#[49, 10, 10, 50]⟩ : ByteArray))).2 = [⟨0, 1⟩, ⟨2, 2⟩, ⟨3, 4⟩] := by
    have e0 : (scanL 0 0 (nm (⟨#[49, 10, 10, 50]⟩ : ByteArray))).2 = [1, 2] := by decide +kernel
    rw [e0]
    simp [spansOf]
  have e2 : (skipN (⟨#[32, 9, 13, 10]⟩ : ByteArray) 4 0 == 4) = true := by decide +kernel
  rw [records_at _ (by decide) k (by have : (⟨#[49, 10, 10, 50]⟩ : ByteArray).size = 4 := rfl; omega)]
  rw [show (((⟨#[49, 10, 10, 50]⟩ : ByteArray).size : Nat) : Int) = 4 from rfl, e1]
  simp only [Option.bind_some]
  rw [if_pos trivial, spans_same _ (by simp) k (by simp; omega)]
  simp only [Option.bind_some, if_true]
  rw [sblank_at _ (by decide) k (by have : (⟨#[32, 9, 13, 10]⟩ : ByteArray).size = 4 := rfl; omega)]
  rw [show (⟨#[32, 9, 13, 10]⟩ : ByteArray).size = 4 from rfl, show ((4 : Nat) : Int) = 4 from rfl, e2]
  rfl
theorem scanL_append : ∀ (a b : List Int) (st : Int) (i : Nat), scanL st i (a ++ b) = ((scanL (scanL st i a).1 (i + a.length) b).1, (scanL st i a).2 ++ (scanL (scanL st i a).1 (i + a.length) b).2)
  | [], b, st, i => by simp [scanL]
  | x :: a, b, st, i => by
    have ih := scanL_append a b (stp st x).1 (i + 1)
    rw [List.cons_append]
    simp only [scanL]
    rw [ih]
    have e : i + 1 + a.length = i + (x :: a).length := by rw [List.length_cons]; omega
    rw [e]
    simp only []
    split <;> simp
theorem scanL_shift : ∀ (l : List Int) (st : Int) (i j : Nat), (scanL st i l).1 = (scanL st j l).1 ∧ ((scanL st i l).2 = [] ↔ (scanL st j l).2 = [])
  | [], st, i, j => by simp [scanL]
  | x :: l, st, i, j => by
    have ih := scanL_shift l (stp st x).1 (i + 1) (j + 1)
    simp only [scanL]
    refine ⟨ih.1, ?_⟩
    split
    · simp
    · exact ih.2
/-- A record that is read outside of strings to its end. -/
def good (p : ByteArray) : Prop := (scanL 0 0 (nm p)).2 = [] ∧ (scanL 0 0 (nm p)).1 = 0
def joinL (l : List ByteArray) : List Int := l.flatMap fun p => nm p ++ [10]
theorem joinL_cons (p : ByteArray) (l : List ByteArray) : joinL (p :: l) = (nm p ++ [10]) ++ joinL l := by simp [joinL]
theorem joinL_snoc (l : List ByteArray) (p : ByteArray) : joinL (l ++ [p]) = joinL l ++ (nm p ++ [10]) := by simp [joinL]
theorem scan_piece (p : ByteArray) (h : good p) (i : Nat) : scanL 0 i (nm p ++ [10]) = (0, [((i + p.size : Nat) : Int)]) := by
  have e1 := scanL_shift (nm p) 0 i 0
  have hl := nm_len p
  have f1 : (scanL 0 i (nm p)).1 = 0 := e1.1.trans h.2
  have f2 : (scanL 0 i (nm p)).2 = [] := e1.2.2 h.1
  have s10 : stp 0 10 = (0, true) := by decide
  rw [scanL_append, f1, f2, hl]
  simp [scanL, s10]
def endsL : Nat → List ByteArray → List Int
  | _, [] => []
  | i, p :: l => ((i + p.size : Nat) : Int) :: endsL (i + p.size + 1) l
theorem scan_join : ∀ (l : List ByteArray) (i : Nat), (∀ p ∈ l, good p) → scanL 0 i (joinL l) = (0, endsL i l)
  | [], i, _ => rfl
  | p :: l, i, h => by
    have ih := scan_join l (i + p.size + 1) (fun q hq => h q (List.mem_cons_of_mem _ hq))
    have hl := nm_len p
    have e : i + (nm p ++ [(10 : Int)]).length = i + p.size + 1 := by rw [List.length_append, hl, List.length_singleton]; omega
    rw [joinL_cons, scanL_append, scan_piece p (h p (List.mem_cons_self ..)) i]
    simp only []
    rw [e, ih]
    rfl
def spansL : Nat → List ByteArray → List S34
  | _, [] => []
  | i, p :: l => ⟨(i : Int), ((i + p.size : Nat) : Int)⟩ :: spansL (i + p.size + 1) l
theorem spansL_len : ∀ (l : List ByteArray) (i : Nat), (spansL i l).length = l.length
  | [], _ => rfl
  | p :: l, i => by simp only [spansL, List.length_cons]; rw [spansL_len l]
theorem spans_join : ∀ (l : List ByteArray) (i : Nat) (n : Int), n = (i : Int) + (joinL l).length → spansOf n i (endsL i l) = spansL i l
  | [], i, n, h => by
    simp only [endsL, spansL, spansOf]
    rw [if_neg (by simp [joinL] at h; omega)]
  | p :: l, i, n, h => by
    have hl := nm_len p
    rw [joinL_cons, List.length_append, List.length_append, hl, List.length_singleton] at h
    simp only [endsL, spansL, spansOf]
    rw [show ((i + p.size : Nat) : Int) + 1 = ((i + p.size + 1 : Nat) : Int) from by omega]
    rw [spans_join l (i + p.size + 1) n (by omega)]
theorem rdOf_drop (xs : List ByteArray) (j : Nat) (h : j < xs.length) : xs.drop j = rdOf ByteArray.empty xs (j : Int) :: xs.drop (j + 1) := by
  rw [List.drop_eq_getElem_cons h]
  congr 1
  unfold rdOf
  rw [Int.toNat_natCast, List.getD_eq_getElem?_getD, List.getElem?_eq_getElem h]
  rfl
theorem rdT_drop (xs : List S34) (j : Nat) (h : j < xs.length) : xs.drop j = rd_T34 xs (j : Int) :: xs.drop (j + 1) := by
  rw [List.drop_eq_getElem_cons h]
  congr 1
  unfold rd_T34
  rw [Int.toNat_natCast, List.getD_eq_getElem?_getD, List.getElem?_eq_getElem h]
  rfl
def shortAll (n : Int) (l : List ByteArray) : Bool := l.all fun p => decide ((p.size : Int) ≤ n)
theorem short_loop (n : Int) (l : List ByteArray) (hl : l.length ≤ 1000000) : ∀ (d i k : Nat), l.length - i ≤ d → d < k → i ≤ l.length → ndjqkeep_Short.l0 k n l i = some (shortAll n (l.drop i))
  | 0, i, k, hd, hk, hi => by
    obtain ⟨k, rfl⟩ : ∃ j, k = j + 1 := ⟨k - 1, by omega⟩
    simp only [ndjqkeep_Short.l0]
    rw [if_neg (by omega), List.drop_eq_nil_of_le (by omega)]
    rfl
  | d + 1, i, k, hd, hk, hi => by
    by_cases c : i < l.length
    · obtain ⟨k, rfl⟩ : ∃ j, k = j + 1 := ⟨k - 1, by omega⟩
      simp only [ndjqkeep_Short.l0]
      rw [if_pos (by omega), if_pos (by omega), rdOf_drop l i c]
      by_cases e : ((rdOf ByteArray.empty l (i : Int)).size : Int) > n
      · rw [if_pos e]
        unfold shortAll
        rw [List.all_cons, decide_eq_false (by omega)]; rfl
      · rw [if_neg e, wrap_succ i (by omega), short_loop n l hl d (i + 1) k (by omega) (by omega) (by omega)]
        unfold shortAll
        rw [List.all_cons, decide_eq_true (by omega)]; rfl
    · exact short_loop n l hl 0 i k (by omega) (by omega) hi
theorem short_at (n : Int) (l : List ByteArray) (hl : l.length ≤ 1000000) (k : Nat) (hk : l.length < k) : ndjqkeep_Short.f k n l = some (shortAll n l) := by
  unfold ndjqkeep_Short.f
  have := short_loop n l hl l.length 0 k (by omega) hk (by omega)
  rw [show ((0 : Nat) : Int) = 0 from rfl, List.drop_zero] at this
  exact this
theorem check_loop (s : ByteArray) (hs : s.size ≤ 100000) (L : List ByteArray) (hL : L.length ≤ 10) (X : List S34) (hX : X.length = L.length) : ∀ (l : List ByteArray) (i b k : Nat), L.drop i = l → X.drop i = spansL b l → (nm s).drop b = joinL l → i ≤ L.length → l.length + 50 ≤ k →
    ndjqlaw19_SplitJoin.l1 k L s X i = some true
  | [], i, b, k, hl, hx, hn, hi, hk => by
    obtain ⟨k, rfl⟩ : ∃ j, k = j + 1 := ⟨k - 1, by omega⟩
    have := congrArg List.length hl
    rw [List.length_drop, List.length_nil] at this
    simp only [ndjqlaw19_SplitJoin.l1]
    rw [if_neg (by omega), awake_at k (by omega)]
    rfl
  | p :: l, i, b, k, hl, hx, hn, hi, hk => by
    obtain ⟨k, rfl⟩ : ∃ j, k = j + 1 := ⟨k - 1, by omega⟩
    have h1 := congrArg List.length hl
    rw [List.length_drop, List.length_cons] at h1
    have hi' : i < L.length := by omega
    rw [rdOf_drop L i hi'] at hl
    injection hl with hl1 hl2
    rw [rdT_drop X i (by omega)] at hx
    simp only [spansL] at hx
    injection hx with hx1 hx2
    have hz := nm_len s
    have hp := nm_len p
    have h2 := congrArg List.length hn
    rw [joinL_cons, List.length_drop, hz, List.length_append, List.length_append, hp, List.length_singleton] at h2
    have hex : s.extract b (b + p.size) = p := by
      apply nm_inj
      rw [nm_extract]
      rw [List.drop_take, hn, joinL_cons, List.append_assoc, show b + p.size - b = (nm p).length from by omega, List.take_left]
    rw [List.length_cons] at hk
    simp only [ndjqlaw19_SplitJoin.l1]
    rw [if_pos (by omega), if_pos (by omega), if_pos (by omega), hx1, hl1]
    simp only []
    rw [if_neg (by omega), if_neg (by omega), if_neg (by omega), if_pos (by omega), if_pos (by omega), if_pos (by omega), Int.toNat_natCast, Int.toNat_natCast, hex, if_pos rfl, wrap_succ i (by omega)]
    refine check_loop s hs L hL X hX l (i + 1) (b + p.size + 1) k hl2 hx2 ?_ (by omega) (by omega)
    have h3 := congrArg (List.drop (p.size + 1)) hn
    rw [List.drop_drop, joinL_cons, List.drop_left' (by rw [List.length_append, hp, List.length_singleton])] at h3
    rw [← h3]
    congr 1
theorem join_loop (L : List ByteArray) (hL : L.length ≤ 10) (hsh : ∀ p ∈ L, p.size ≤ 40) : ∀ (d i : Nat) (s : ByteArray) (k : Nat), L.length - i ≤ d → i ≤ L.length → nm s = joinL (L.take i) → (∀ p ∈ L.take i, good p) → s.size ≤ 41 * i → 1000 + d ≤ k →
    ndjqlaw19_SplitJoin.l0 k L s i = some true
  | 0, i, s, k, hd, hi, hn, hg, hz, hk => by
    obtain ⟨k, rfl⟩ : ∃ j, k = j + 2 := ⟨k - 2, by omega⟩
    have hi' : i = L.length := by omega
    rw [hi', List.take_length] at hn hg
    have hl := nm_len s
    have hlen := congrArg List.length hn
    rw [hl] at hlen
    have sp := spans_join L 0 s.size (by omega)
    rw [show ((0 : Nat) : Int) = 0 from rfl] at sp
    have spl := spansL_len L 0
    rw [show k + 2 = (k + 1) + 1 from rfl]
    simp only [ndjqlaw19_SplitJoin.l0]
    rw [if_neg (by omega), records_at s (by omega) (k + 1) (by omega), hn, scan_join L 0 hg, sp]
    simp only [Option.bind_some]
    rw [if_pos trivial, spl]
    simp only [bne_self_eq_false]
    simp only [ndjqlaw19_SplitJoin.j2]
    rw [if_neg (by decide)]
    have z := check_loop s (by omega) L hL (spansL 0 L) spl L 0 0 k (List.drop_zero) (List.drop_zero) (by rw [List.drop_zero]; exact hn) (by omega) (by omega)
    rw [show ((0 : Nat) : Int) = 0 from rfl] at z
    exact z
  | d + 1, i, s, k, hd, hi, hn, hg, hz, hk => by
    by_cases c : i < L.length
    · obtain ⟨k, rfl⟩ : ∃ j, k = j + 1 := ⟨k - 1, by omega⟩
      have e := rdOf_drop L i c
      generalize hp : rdOf ByteArray.empty L (i : Int) = p at e
      have hm : p ∈ L := List.mem_of_mem_drop (by rw [e]; exact List.mem_cons_self ..)
      have hps := hsh p hm
      have htake : L.take (i + 1) = L.take i ++ [p] := by
        rw [List.take_succ_eq_append_getElem c]
        congr 1
        have := e
        rw [List.drop_eq_getElem_cons c] at this
        injection this with t1 t2
        rw [t1]
      simp only [ndjqlaw19_SplitJoin.l0]
      rw [if_pos (by omega), if_pos (by omega), hp, lines_at p (by omega) k (by omega)]
      simp only [Option.bind_some]
      rw [if_pos trivial]
      by_cases g1 : (((scanL 0 0 (nm p)).2).length : Int) > 0
      · rw [if_pos g1, awake_at k (by omega)]; rfl
      rw [if_neg g1]
      by_cases g2 : (scanL 0 0 (nm p)).1 = 0
      · rw [if_pos g2]
        have hgood : good p := ⟨List.eq_nil_of_length_eq_zero (by omega), g2⟩
        have hsz : (p ++ (⟨#[10]⟩ : ByteArray)).size = p.size + 1 := by rw [ByteArray.size_append]; rfl
        rw [if_pos (by omega), if_pos (by rw [hsz]; omega), wrap_succ i (by omega)]
        refine join_loop L hL hsh d (i + 1) _ k (by omega) (by omega) ?_ ?_ (by rw [ByteArray.size_append, hsz]; omega) (by omega)
        · rw [nm_append, nm_append, hn, htake, joinL_snoc]; rfl
        · rw [htake]
          intro q hq
          rcases List.mem_append.1 hq with hq | hq
          · exact hg q hq
          · rw [List.mem_singleton.1 hq]; exact hgood
      · rw [if_neg g2, awake_at k (by omega)]; rfl
    · exact join_loop L hL hsh 0 i s k (by omega) hi hn hg hz (by omega)
theorem SplitJoin : ndjqlaw19_SplitJoin.Pure := by
  intro l _
  obtain ⟨k, hk⟩ : ∃ k, l.length + 2000 ≤ k := ⟨_, Nat.le_refl _⟩
  refine ⟨k + 1, ?_⟩
  have aw : ∀ b, b = true → ndjqlaw19_SplitJoin.j0 (k + 1) l b = some true := by
    intro b hb
    subst hb
    simp only [ndjqlaw19_SplitJoin.j0]
    rw [awake_at k (by omega)]; rfl
  unfold ndjqlaw19_SplitJoin.f
  by_cases h : (l.length : Int) > 10
  · rw [if_pos h]; exact aw _ rfl
  rw [if_neg h, short_at 40 l (by omega) (k + 1) (by omega)]
  simp only [Option.bind_some]
  by_cases sh : shortAll 40 l = true
  · rw [sh]
    simp only [ndjqlaw19_SplitJoin.j0]
    rw [if_neg (by decide)]
    have hsh : ∀ p ∈ l, p.size ≤ 40 := by
      intro p hp
      unfold shortAll at sh
      have := List.all_eq_true.1 sh p hp
      have := of_decide_eq_true this
      omega
    have z := join_loop l (by omega) hsh l.length 0 (⟨#[]⟩ : ByteArray) k (by omega) (by omega) rfl (by simp) (by decide) (by omega)
    rw [show ((0 : Nat) : Int) = 0 from rfl] at z
    exact z
  · exact aw _ (by simp [sh])

end Go.Proofs.YtdnpefbnfkfloaaDoor.Pure
