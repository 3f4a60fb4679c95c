/- SplitWhole's pure law: the records, with the line feeds between them, are the input; for every string of at most 300 bytes, longer ones meet the sanity check alone. No further condition. -/
import Derived.Test.YtdnpefbnfkfloaaDoorQSplitWholex3
import Derived.Laws.BitsLemmas
namespace Go.Proofs.YtdnpefbnfkfloaaDoor.Pure
open Go.RowKit Go.Proofs.YtdnpefbnfkfloaaDoor.QSplitWhole Go.Proofs.YtdnpefbnfkfloaaDoorW.PrintWords Go.Proofs.YtdnpefbnfkfloaaDoorW.PrintLast
set_option linter.unusedVariables false
set_option linter.unusedSimpArgs false
/-! ### numbers and the list of a string's bytes -/
theorem wrap_id (n : Int) (h : -9223372036854775808 ≤ n) (h' : n ≤ 9223372036854775807) : wrap64 n = n := by unfold wrap64; omega
theorem wrap_nat (a b c : Nat) (h : a + b = c) (hc : c ≤ 4611686018427387904) : wrap64 ((a : Int) + (b : Int)) = (c : Int) := by rw [wrap_id _ (by omega) (by omega)]; omega
theorem wrap_succ (a : Nat) (hc : a ≤ 4611686018427387904) : wrap64 ((a : Int) + 1) = ((a + 1 : Nat) : Int) := by rw [wrap_id _ (by omega) (by omega)]; omega
def nm (s : ByteArray) : List Int := s.data.toList.map fun c => (c.toNat : Int)
theorem nm_bytesOf (s : ByteArray) : bytesOf s = nm s := rfl
theorem nm_len (s : ByteArray) : (nm s).length = s.size := by unfold nm; rw [List.length_map, Array.length_toList]; rfl
theorem nm_get (s : ByteArray) (j : Nat) (h : j < s.size) : (nm s)[j]? = some (bt s (j : Int)) := by
  have h' : j < s.data.toList.length := by rw [Array.length_toList]; exact h
  unfold nm bt
  rw [List.getElem?_map, List.getElem?_eq_getElem h', dif_pos (show ((j : Int)).toNat < s.size from h)]
  rfl
theorem nm_drop (s : ByteArray) (j : Nat) (h : j < s.size) : (nm s).drop j = bt s (j : Int) :: (nm s).drop (j + 1) := by
  have hl := nm_len s
  rw [List.drop_eq_getElem_cons (by omega)]
  congr 1
  have := nm_get s j h
  rw [List.getElem?_eq_getElem (by omega)] at this
  exact Option.some.inj this
theorem nm_range (s : ByteArray) : ∀ c ∈ nm s, 0 ≤ c ∧ c ≤ 255 := by
  intro c hc
  unfold nm at hc
  obtain ⟨u, _, rfl⟩ := List.mem_map.1 hc
  have := u.toNat_lt
  omega
theorem nm_inj {s t : ByteArray} (h : nm s = nm t) : s = t := by
  unfold nm at h
  have := (List.map_inj_right (fun (x y : UInt8) e => UInt8.toNat_inj.1 (by omega))).1 h
  have h2 : s.data = t.data := Array.toList_inj.1 this
  cases s; cases t; simp_all
theorem nm_strOf (l : List Int) (h : ∀ c ∈ l, 0 ≤ c ∧ c ≤ 255) : nm (strOfNums l) = l := by
  unfold nm
  rw [strOfNums_data, List.map_map]
  conv => rhs; rw [← List.map_id l]
  apply List.map_congr_left
  intro c hc
  have := h c hc
  simp only [Function.comp, id]
  rw [UInt8.toNat_ofNat']
  omega
theorem nm_extract (s : ByteArray) (a b : Nat) : nm (s.extract a b) = ((nm s).take b).drop a := by
  unfold nm
  have e : (s.extract a b).data.toList = (s.data.toList.take b).drop a := by
    rw [ByteArray.data_extract, Array.toList_extract, List.extract_eq_take_drop, List.drop_take]
  rw [e, List.map_drop, List.map_take]
theorem nm_append (s t : ByteArray) : nm (s ++ t) = nm s ++ nm t := by unfold nm; rw [ByteArray.data_append, Array.toList_append, List.map_append]
theorem rd_drop (xs : List Int) (j : Nat) (h : j < xs.length) : xs.drop j = rd xs (j : Int) :: xs.drop (j + 1) := by
  rw [List.drop_eq_getElem_cons h]
  congr 1
  unfold rd
  rw [Int.toNat_natCast, List.getD_eq_getElem?_getD, List.getElem?_eq_getElem h]
  rfl
/-! ### the automaton over a list of bytes -/
def stp (s b : Int) : Int × Bool := if s = 0 then (if b = 34 then (1, false) else if b = 10 then (0, true) else (0, false)) else if s = 1 then (if b = 34 then (0, false) else if b = 92 then (2, false) else (1, false)) else if s = 2 then (1, false) else (0, false)
/-- The state behind a list of bytes, and the offsets of the line feeds that end a record; the first byte has the offset 'at'. -/
def scanL : Int → Nat → List Int → Int × List Int
  | st, _, [] => (st, [])
  | st, i, b :: t => ((scanL (stp st b).1 (i + 1) t).1, if (stp st b).2 = true then (i : Int) :: (scanL (stp st b).1 (i + 1) t).2 else (scanL (stp st b).1 (i + 1) t).2)
theorem step_at (s b : Int) : automaton_Step.f s b = some (stp s b) := by
  unfold automaton_Step.f stp
  repeat' split
  all_goals rfl
theorem scanL_len : ∀ (l : List Int) (st : Int) (i : Nat), (scanL st i l).2.length ≤ l.length
  | [], _, _ => by simp [scanL]
  | b :: t, st, i => by
    have := scanL_len t (stp st b).1 (i + 1)
    simp only [scanL, List.length_cons]
    split
    · rw [List.length_cons]; omega
    · omega
/-- Where a line feed ends a record: in the list, behind the one before. -/
theorem scanL_mem : ∀ (l : List Int) (st : Int) (i : Nat), ∀ x ∈ (scanL st i l).2, (i : Int) ≤ x ∧ x < (i : Int) + l.length
  | [], _, _ => by simp [scanL]
  | b :: t, st, i => by
    intro x hx
    have ih := scanL_mem t (stp st b).1 (i + 1)
    simp only [scanL] at hx
    rw [List.length_cons]
    split at hx
    · rcases List.mem_cons.1 hx with rfl | hx
      · omega
      · have := ih x hx; omega
    · have := ih x hx; omega
/-! ### split.Lines -/
theorem lines_loop (L : List Int) (hL : L.length ≤ 1048576) : ∀ (d i : Nat) (st : Int) (acc : List Int) (k : Nat), i ≤ L.length → L.length - i ≤ d → d < k → acc.length ≤ i →
    split_Lines.l0 k acc st L L.length i = some (acc ++ (scanL st i (L.drop i)).2, (scanL st i (L.drop i)).1, 0)
  | 0, i, st, acc, k, hi, hd, hk, ha => by
    obtain ⟨k, rfl⟩ : ∃ j, k = j + 1 := ⟨k - 1, by omega⟩
    simp only [split_Lines.l0]
    rw [if_neg (by omega), List.drop_eq_nil_of_le (by omega)]
    simp [scanL]
  | d + 1, i, st, acc, k, hi, hd, hk, ha => by
    obtain ⟨k, rfl⟩ : ∃ j, k = j + 1 := ⟨k - 1, by omega⟩
    simp only [split_Lines.l0]
    by_cases c : i < L.length
    · rw [if_pos (by omega), if_pos (by omega), if_pos (by omega), step_at, rd_drop L i c]
      simp only [Option.bind_some, scanL]
      by_cases e : (stp st (rd L (i : Int))).2 = true
      · rw [if_pos e, if_pos (by omega), if_pos e, wrap_succ i (by omega)]
        rw [lines_loop L hL d (i + 1) (stp st (rd L (i : Int))).1 (acc ++ [(i : Int)]) k (by omega) (by omega) (by omega) (by rw [List.length_append, List.length_singleton]; omega)]
        simp
      · rw [if_neg e, if_neg e, wrap_succ i (by omega)]
        rw [lines_loop L hL d (i + 1) (stp st (rd L (i : Int))).1 acc k (by omega) (by omega) (by omega) (by omega)]
    · rw [if_neg (by omega), List.drop_eq_nil_of_le (by omega)]
      simp [scanL]
theorem lines_at (s : ByteArray) (hs : s.size ≤ 1048576) (k : Nat) (hk : s.size < k) : split_Lines.f k s = some ((scanL 0 0 (nm s)).2, (scanL 0 0 (nm s)).1, 0) := by
  unfold split_Lines.f
  have hl := nm_len s
  rw [if_neg (by omega), if_pos (by omega), nm_bytesOf]
  simp only [Option.bind_some]
  have := lines_loop (nm s) (by omega) s.size 0 0 [] k (by omega) (by omega) hk (by simp)
  rw [show ((0 : Nat) : Int) = 0 from rfl] at this
  rw [this]
  simp
theorem lines_big (s : ByteArray) (hs : 1048576 < s.size) (k : Nat) : split_Lines.f k s = some ([], 0, 2) := by
  unfold split_Lines.f
  rw [if_pos (by omega)]
/-! ### split.Records -/
/-- The records between line feeds; n: the input's length. -/
def spansOf (n : Int) : Int → List Int → List S34
  | b, [] => if b < n then [⟨b, n⟩] else []
  | b, x :: t => ⟨b, x⟩ :: spansOf n (x + 1) t
theorem spansOf_len (n : Int) : ∀ (l : List Int) (b : Int), (spansOf n b l).length ≤ l.length + 1
  | [], b => by unfold spansOf; split <;> simp
  | x :: t, b => by
    have := spansOf_len n t (x + 1)
    simp only [spansOf, List.length_cons]
    omega
theorem records_loop (s : ByteArray) (L : List Int) (hL : L.length ≤ 1048576) (hx : ∀ x ∈ L, 0 ≤ x ∧ x ≤ 1048576) : ∀ (d i : Nat) (acc : List S34) (b : Int) (k : Nat), i ≤ L.length → L.length - i ≤ d → d < k → acc.length ≤ i →
    split_Records.l0 k s acc b L L.length i = some (acc ++ spansOf s.size b (L.drop i), 0)
  | 0, i, acc, b, k, hi, hd, hk, ha => by
    obtain ⟨k, rfl⟩ : ∃ j, k = j + 1 := ⟨k - 1, by omega⟩
    simp only [split_Records.l0]
    rw [if_neg (by omega), List.drop_eq_nil_of_le (by omega)]
    unfold spansOf
    by_cases c : b < (s.size : Int)
    · rw [if_pos c, if_pos (by omega), if_pos c]
    · rw [if_neg c, if_neg c, List.append_nil]
  | d + 1, i, acc, b, k, hi, hd, hk, ha => by
    by_cases c : i < L.length
    · obtain ⟨k, rfl⟩ : ∃ j, k = j + 1 := ⟨k - 1, by omega⟩
      have e := rd_drop L i c
      have hm : rd L (i : Int) ∈ L := List.mem_of_mem_drop (by rw [e]; exact List.mem_cons_self ..)
      have hr := hx _ hm
      simp only [split_Records.l0]
      rw [if_pos (by omega), if_pos (by omega), if_pos (by omega), if_pos (by omega), wrap_succ i (by omega), wrap_id (rd L (i : Int) + 1) (by omega) (by omega)]
      rw [records_loop s L hL hx d (i + 1) _ _ k (by omega) (by omega) (by omega) (by rw [List.length_append, List.length_singleton]; omega), e]
      simp [spansOf]
    · exact records_loop s L hL hx 0 i acc b k hi (by omega) (by omega) ha
theorem records_at (s : ByteArray) (hs : s.size ≤ 1048576) (k : Nat) (hk : s.size + 1 < k) : split_Records.f k s = some (spansOf s.size 0 (scanL 0 0 (nm s)).2, 0) := by
  unfold split_Records.f
  rw [lines_at s hs k (by omega)]
  simp only [Option.bind_some]
  rw [if_pos trivial]
  have hl := nm_len s
  have h1 := scanL_len (nm s) 0 0
  have := records_loop s (scanL 0 0 (nm s)).2 (by omega) (fun x hx => by have := scanL_mem (nm s) 0 0 x hx; omega) (scanL 0 0 (nm s)).2.length 0 [] 0 k (by omega) (by omega) (by omega) (by simp)
  rw [show ((0 : Nat) : Int) = 0 from rfl] at this
  rw [this]
  simp
theorem records_big (s : ByteArray) (hs : 1048576 < s.size) (k : Nat) : split_Records.f k s = some ([], 2) := by
  unfold split_Records.f
  rw [lines_big s hs k]
  rfl
/-! ### keep.Spans: a list is the same as itself -/
theorem spans_loop (l : List S34) (hl : l.length ≤ 4611686018427387904) : ∀ (d i : Nat) (k : Nat), l.length - i ≤ d → d < k → i ≤ l.length → ndjqkeep_Spans.l0 k l l i = some true
  | 0, i, k, hd, hk, hi => by
    obtain ⟨k, rfl⟩ : ∃ j, k = j + 1 := ⟨k - 1, by omega⟩
    simp only [ndjqkeep_Spans.l0]
    rw [if_neg (by omega)]
  | d + 1, i, k, hd, hk, hi => by
    obtain ⟨k, rfl⟩ : ∃ j, k = j + 1 := ⟨k - 1, by omega⟩
    simp only [ndjqkeep_Spans.l0]
    by_cases c : i < l.length
    · rw [if_pos (by omega), if_pos (by omega), if_pos (by omega)]
      simp only [beq_self_eq_true, Bool.not_true, Bool.or_self]
      rw [if_neg (by decide), wrap_succ i (by omega)]
      exact spans_loop l hl d (i + 1) k (by omega) (by omega) (by omega)
    · rw [if_neg (by omega)]
theorem spans_same (l : List S34) (hl : l.length ≤ 4611686018427387904) (k : Nat) (hk : l.length < k) : ndjqkeep_Spans.f k l l = some true := by
  unfold ndjqkeep_Spans.f
  rw [if_pos rfl]
  have := spans_loop l hl l.length 0 k (by omega) hk (by omega)
  rw [show ((0 : Nat) : Int) = 0 from rfl] at this
  exact this
/-! ### blanks -/
def blank (b : Int) : Bool := b == 32 || b == 9 || b == 10 || b == 13
theorem blank_at (b : Int) : jsonlex_Blank.f b = some (blank b) := by
  unfold jsonlex_Blank.f blank
  by_cases h1 : b = 32
  · rw [if_pos h1]; simp [h1]
  rw [if_neg h1]
  by_cases h2 : b = 9
  · rw [if_pos h2]; simp [h2]
  rw [if_neg h2]
  by_cases h3 : b = 10
  · rw [if_pos h3]; simp [h3]
  rw [if_neg h3]; simp [h1, h2, h3]
/-- The offset of the first byte that is no blank. -/
def skipN (s : ByteArray) : Nat → Int → Int
  | 0, i => i
  | m + 1, i => if i < (s.size : Int) then (if blank (bt s i) = true then skipN s m (i + 1) else i) else i
theorem skip_loop (s : ByteArray) (hs : s.size ≤ 140737488355328) : ∀ (m : Nat) (i : Int) (k : Nat), 0 ≤ i → i ≤ s.size → (s.size : Int) - i ≤ m → m < k → jsonlex_Skip.l0 k s i = some (skipN s m i)
  | 0, i, k, h0, hi, hm, hk => by
    obtain ⟨k, rfl⟩ : ∃ j, k = j + 1 := ⟨k - 1, by omega⟩
    simp only [jsonlex_Skip.l0, skipN]
    rw [if_neg (by omega)]
  | m + 1, i, k, h0, hi, hm, hk => by
    obtain ⟨k, rfl⟩ : ∃ j, k = j + 1 := ⟨k - 1, by omega⟩
    simp only [jsonlex_Skip.l0, skipN]
    by_cases c : i < (s.size : Int)
    · rw [if_pos c, if_pos h0, if_pos c, blank_at]
      simp only [Option.bind_some]
      by_cases b : blank (bt s i) = true
      · rw [if_pos b, if_pos b, wrap_id _ (by omega) (by omega)]
        exact skip_loop s hs m (i + 1) k (by omega) (by omega) (by omega) (by omega)
      · rw [if_neg b, if_neg b]
    · rw [if_neg c, if_neg c]
theorem sblank_at (s : ByteArray) (hs : s.size ≤ 140737488355328) (k : Nat) (hk : s.size < k) : split_Blank.f k s = some (skipN s s.size 0 == (s.size : Int)) := by
  unfold split_Blank.f jsonlex_Skip.f
  rw [if_neg (by decide), skip_loop s hs s.size 0 k (by omega) (by omega) (by omega) hk]
  rfl
theorem awake_at (k : Nat) (hk : 20 ≤ k) : ndjqlaw19_awake.f k = some true := by
  unfold ndjqlaw19_awake.f
  have e1 : spansOf (4 : Int) 0 (scanL 0 0 (nm (⟨#[49, 10, 10, 50]⟩ : ByteArray))).2 = [⟨0, 1⟩, ⟨2, 2⟩, ⟨3, 4⟩] := by
    have e0 : (scanL 0 0 (nm (⟨#[49, 10, 10, 50]⟩ : ByteArray))).2 = [1, 2] := by decide +kernel
    rw [e0]
    simp [spansOf]
  have e2 : (skipN (⟨#[32, 9, 13, 10]⟩ : ByteArray) 4 0 == 4) = true := by decide +kernel
  rw [records_at _ (by decide) k (by have : (⟨#[49, 10, 10, 50]⟩ : ByteArray).size = 4 := rfl; omega)]
  rw [show (((⟨#[49, 10, 10, 50]⟩ : ByteArray).size : Nat) : Int) = 4 from rfl, e1]
  simp only [Option.bind_some]
  rw [if_pos trivial, spans_same _ (by simp) k (by simp; omega)]
  simp only [Option.bind_some, if_true]
  rw [sblank_at _ (by decide) k (by have : (⟨#[32, 9, 13, 10]⟩ : ByteArray).size = 4 := rfl; omega)]
  rw [show (⟨#[32, 9, 13, 10]⟩ : ByteArray).size = 4 from rfl, show ((4 : Nat) : Int) = 4 from rfl, e2]
  rfl
theorem stp_feed (s b : Int) (h : (stp s b).2 = true) : b = 10 := by
  unfold stp at h
  split at h
  · split at h
    · cases h
    · split at h
      · assumption
      · cases h
  · split at h
    · split at h
      · cases h
      · split at h <;> cases h
    · split at h <;> cases h
/-- Ascending from a bound on, and each is a line feed's offset in the list. -/
def Feeds (L : List Int) : Int → List Int → Prop
  | _, [] => True
  | b, x :: t => b ≤ x ∧ x < L.length ∧ rd L x = 10 ∧ Feeds L (x + 1) t
theorem Feeds.mono {L : List Int} {b b' : Int} (hb : b' ≤ b) : ∀ {l : List Int}, Feeds L b l → Feeds L b' l
  | [], _ => trivial
  | x :: t, h => ⟨by have := h.1; omega, h.2⟩
theorem scan_feeds (L : List Int) : ∀ (d i : Nat) (st : Int), L.length - i ≤ d → i ≤ L.length → Feeds L i (scanL st i (L.drop i)).2
  | 0, i, st, hd, hi => by
    rw [List.drop_eq_nil_of_le (by omega)]; exact trivial
  | d + 1, i, st, hd, hi => by
    by_cases c : i < L.length
    · rw [rd_drop L i c]
      have ih := scan_feeds L d (i + 1) (stp st (rd L (i : Int))).1 (by omega) (by omega)
      simp only [scanL]
      by_cases e : (stp st (rd L (i : Int))).2 = true
      · rw [if_pos e]
        refine ⟨Int.le_refl _, by omega, stp_feed _ _ e, ?_⟩
        have h2 : ((i + 1 : Nat) : Int) = (i : Int) + 1 := by omega
        rw [← h2]; exact ih
      · rw [if_neg e]
        exact ih.mono (by omega)
    · rw [List.drop_eq_nil_of_le (by omega)]; exact trivial
theorem bt_rd (s : ByteArray) (x : Int) (h0 : 0 ≤ x) (h : x < (s.size : Int)) : bt s x = rd (nm s) x := by
  obtain ⟨j, rfl⟩ := Int.eq_ofNat_of_zero_le h0
  have := nm_get s j (by omega)
  unfold rd
  rw [Int.toNat_natCast, List.getD_eq_getElem?_getD, this]
  rfl
theorem mn_le (a b : Int) (h : a ≤ b) : mn a b = a := by unfold mn; rw [if_neg (by omega)]
theorem mn_ge (a b : Int) (h : b < a) : mn a b = b := by unfold mn; rw [if_pos h]
theorem rdT_drop (xs : List S34) (j : Nat) (h : j < xs.length) : xs.drop j = rd_T34 xs (j : Int) :: xs.drop (j + 1) := by
  rw [List.drop_eq_getElem_cons h]
  congr 1
  unfold rd_T34
  rw [Int.toNat_natCast, List.getD_eq_getElem?_getD, List.getElem?_eq_getElem h]
  rfl
theorem whole_loop (s : ByteArray) (hs : s.size ≤ 300) (X : List S34) (hX : X.length ≤ 1000) : ∀ (l : List Int) (b : Int) (i k : Nat), 0 ≤ b → b ≤ s.size → Feeds (nm s) b l → X.drop i = spansOf s.size b l → i ≤ X.length → l.length + 30 ≤ k → (l = [] → True) →
    ndjqlaw19_SplitWhole.l0 k s X b i = some true
  | [], b, i, k, h0, hb, hF, hd, hi, hk, _ => by
    obtain ⟨k, rfl⟩ : ∃ j, k = j + 2 := ⟨k - 2, by omega⟩
    unfold spansOf at hd
    by_cases c : b < (s.size : Int)
    · rw [if_pos c] at hd
      have hlen := congrArg List.length hd
      rw [List.length_drop, List.length_singleton] at hlen
      have hi' : i < X.length := by omega
      rw [rdT_drop X i hi'] at hd
      injection hd with hd1 hd2
      rw [show k + 2 = (k + 1) + 1 from rfl]
      simp only [ndjqlaw19_SplitWhole.l0]
      rw [if_pos (by omega), if_pos (by omega), hd1]
      simp only []
      rw [if_pos trivial, if_neg (by omega), if_neg (by omega), if_neg (by omega), wrap_succ i (by omega), wrap_id ((s.size : Int) + 1) (by omega) (by omega), mn_ge _ _ (by omega), if_neg (by omega), if_pos rfl, awake_at k (by omega)]
      rfl
    · rw [if_neg c] at hd
      have hlen := congrArg List.length hd
      rw [List.length_drop, List.length_nil] at hlen
      simp only [ndjqlaw19_SplitWhole.l0]
      rw [if_neg (by omega), if_pos (by omega), awake_at _ (by omega)]
      rfl
  | x :: t, b, i, k, h0, hb, hF, hd, hi, hk, _ => by
    obtain ⟨k, rfl⟩ : ∃ j, k = j + 1 := ⟨k - 1, by omega⟩
    obtain ⟨f1, f2, f3, f4⟩ := hF
    have hl := nm_len s
    rw [hl] at f2
    rw [List.length_cons] at hk
    simp only [spansOf] at hd
    have hlen := congrArg List.length hd
    rw [List.length_drop, List.length_cons] at hlen
    have hi' : i < X.length := by omega
    rw [rdT_drop X i hi'] at hd
    injection hd with hd1 hd2
    simp only [ndjqlaw19_SplitWhole.l0]
    rw [if_pos (by omega), if_pos (by omega), hd1]
    simp only []
    rw [if_pos trivial, if_neg (by omega), if_neg (by omega), if_pos f2, if_pos (by omega), bt_rd s x (by omega) f2, f3, if_pos rfl, wrap_succ i (by omega), wrap_id (x + 1) (by omega) (by omega), mn_le _ _ (by omega)]
    exact whole_loop s hs X hX t (x + 1) (i + 1) k (by omega) (by omega) f4 hd2 (by omega) (by omega) (fun _ => trivial)
theorem SplitWhole : ndjqlaw19_SplitWhole.Pure := by
  intro s hs
  obtain ⟨k, hk⟩ : ∃ k, s.size + 2000 ≤ k := ⟨_, Nat.le_refl _⟩
  refine ⟨k, ?_⟩
  unfold ndjqlaw19_SplitWhole.f
  by_cases big : 1048576 < s.size
  · rw [records_big s big k]
    simp only [Option.bind_some]
    rw [if_pos (by omega), awake_at k (by omega)]
    rfl
  rw [records_at s (by omega) k (by omega)]
  simp only [Option.bind_some]
  by_cases h : (s.size : Int) > 300
  · rw [if_pos h, awake_at k (by omega)]; rfl
  rw [if_neg h, if_pos trivial]
  have hl := nm_len s
  have h1 := scanL_len (nm s) 0 0
  have h2 := spansOf_len s.size (scanL 0 0 (nm s)).2 0
  have hF := scan_feeds (nm s) (nm s).length 0 0 (by omega) (by omega)
  rw [List.drop_zero] at hF
  have z := whole_loop s (by omega) (spansOf s.size 0 (scanL 0 0 (nm s)).2) (by omega) (scanL 0 0 (nm s)).2 0 0 k (by omega) (by omega) hF (by rw [List.drop_zero]) (by omega) (by omega) (fun _ => trivial)
  rw [show ((0 : Nat) : Int) = 0 from rfl] at z
  exact z

end Go.Proofs.YtdnpefbnfkfloaaDoor.Pure
