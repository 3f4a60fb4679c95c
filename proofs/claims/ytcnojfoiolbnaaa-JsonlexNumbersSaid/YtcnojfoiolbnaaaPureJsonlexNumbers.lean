/- The plain half of JsonlexNumbers: the canonical text of every number is a token with this value, and texts that are changed at the beginning or the end are refused or end elsewhere. -/
import Derived.Test.YtcnojfoiolbnaaaQJsonlexNumbersx10
import Derived.Laws.BitsLemmas
import Derived.OpenShut
namespace Go.Proofs.Ytcnojfoiolbnaaa.Pure
open Go.RowKit Go.Proofs.Ytcnojfoiolbnaaa.QJsonlexNumbers Go.Proofs.YtcnojfoiolbnaaaW.PrintWords Go.Proofs.YtcnojfoiolbnaaaW.PrintLast
set_option linter.unusedVariables false
set_option linter.unusedSimpArgs false
/-! ### UTF-8, plain: code points, their encodings, and decoding at an offset -/
def pt (r : Int) : Bool := decide (0 ≤ r) && decide (r ≤ 1114111) && (decide (r < 55296) || decide (57343 < r))
theorem pt_iff (r : Int) : pt r = true ↔ 0 ≤ r ∧ r ≤ 1114111 ∧ (r < 55296 ∨ 57343 < r) := by
  simp only [pt, Bool.and_eq_true, Bool.or_eq_true, decide_eq_true_eq, and_assoc]
/-- A byte that continues an encoding: its six bits. -/
def cb (s : ByteArray) (i : Int) : Option Int := if 0 ≤ i ∧ i < (s.size : Int) ∧ 128 ≤ bt s i ∧ bt s i < 192 then some (bt s i - 128) else none
theorem cb_bd {s : ByteArray} {i a : Int} (h : cb s i = some a) : 0 ≤ a ∧ a < 64 ∧ i < (s.size : Int) ∧ 0 ≤ i ∧ bt s i = 128 + a := by
  unfold cb at h
  split at h
  · rename_i hc
    injection h with h
    omega
  · cases h
def bad : Int × Int × Bool := (0, 0, false)
def fin (r n least : Int) : Int × Int × Bool := if least ≤ r ∧ pt r = true then (r, n, true) else bad
def dec2 (s : ByteArray) (i r : Int) : Int × Int × Bool := match cb s (i + 1) with
  | some a => fin (r * 64 + a) 2 128
  | none => bad
def dec3 (s : ByteArray) (i r : Int) : Int × Int × Bool := match cb s (i + 1) with
  | some a => (match cb s (i + 2) with
    | some b => fin ((r * 64 + a) * 64 + b) 3 2048
    | none => bad)
  | none => bad
def dec4 (s : ByteArray) (i r : Int) : Int × Int × Bool := match cb s (i + 1) with
  | some a => (match cb s (i + 2) with
    | some b => (match cb s (i + 3) with
      | some c => fin (((r * 64 + a) * 64 + b) * 64 + c) 4 65536
      | none => bad)
    | none => bad)
  | none => bad
/-- What Decode answers. -/
def dec (s : ByteArray) (i : Int) : Int × Int × Bool :=
  if i < 0 then bad else if (s.size : Int) ≤ i then bad
  else if bt s i < 128 then (bt s i, 1, true)
  else if bt s i < 192 then bad
  else if bt s i < 224 then dec2 s i (bt s i - 192)
  else if bt s i < 240 then dec3 s i (bt s i - 224)
  else if bt s i < 248 then dec4 s i (bt s i - 240)
  else bad
/-- The encoding of a code point. -/
def enc (r : Int) : List Int :=
  if r < 128 then [r] else if r < 2048 then [192 + r / 64, 128 + r % 64]
  else if r < 65536 then [224 + r / 4096, 128 + r / 64 % 64, 128 + r % 64]
  else [240 + r / 262144, 128 + r / 4096 % 64, 128 + r / 64 % 64, 128 + r % 64]
theorem enc_len (r : Int) : 1 ≤ (enc r).length ∧ (enc r).length ≤ 4 := by unfold enc; split <;> (try split) <;> (try split) <;> simp
theorem enc_byte (r : Int) (h : pt r = true) : ∀ c ∈ enc r, 0 ≤ c ∧ c ≤ 255 := by
  rw [pt_iff] at h
  intro c hc
  unfold enc at hc
  split at hc
  · simp at hc; omega
  · split at hc
    · simp at hc; omega
    · split at hc
      · simp at hc; omega
      · simp at hc; omega
theorem wrap_id (n : Int) (h : -9223372036854775808 ≤ n) (h' : n ≤ 9223372036854775807) : wrap64 n = n := by unfold wrap64; omega
theorem i64_wraps (n : Int) (h₀ : 0 ≤ n) (h₁ : n < 2 ^ 62) : IntKind.i64.wrap n = n := by rw [IntKind.wrap_i64]; omega
theorem i64_mask (i : Nat) (hi : i ≤ 62) (x : Int) (h₀ : 0 ≤ x) (h₁ : x < 2 ^ 62) : bits .and .i64 x (2 ^ i - 1) = x % 2 ^ i := bits_mask .i64 62 (by decide) i64_wraps i hi x h₀ h₁
theorem i64_join (i : Nat) (x y : Int) (hx₀ : 0 ≤ x) (hx : x % 2 ^ i = 0) (hx₁ : x < 2 ^ 62) (hy₀ : 0 ≤ y) (hy : y < 2 ^ i) (hy₁ : y < 2 ^ 62) : bits .or .i64 x y = x + y :=
  bits_join .i64 62 (by decide) i64_wraps i x y hx₀ hx hx₁ hy₀ hy hy₁
theorem or6 (r c : Int) (h : 0 ≤ r) (h' : r < 1048576) (hc : 0 ≤ c) (hc' : c < 64) : bits .or .i64 (wrap64 (r * 64)) c = r * 64 + c := by
  rw [wrap_id _ (by omega) (by omega)]
  exact i64_join 6 (r * 64) c (by omega) (by omega) (by omega) hc (by omega) (by omega)
theorem and63 (x : Int) (h : 0 ≤ x) (h' : x < 4611686018427387904) : bits .and .i64 x 63 = x % 64 := i64_mask 6 (by decide) x h (by omega)
theorem and31 (x : Int) (h : 0 ≤ x) (h' : x < 4611686018427387904) : bits .and .i64 x 31 = x % 32 := i64_mask 5 (by decide) x h (by omega)
theorem and15 (x : Int) (h : 0 ≤ x) (h' : x < 4611686018427387904) : bits .and .i64 x 15 = x % 16 := i64_mask 4 (by decide) x h (by omega)
theorem and7 (x : Int) (h : 0 ≤ x) (h' : x < 4611686018427387904) : bits .and .i64 x 7 = x % 8 := i64_mask 3 (by decide) x h (by omega)
theorem u8_192 (x : Int) (h : 0 ≤ x) (h' : x ≤ 255) : bits .and .u8 x 192 = x / 64 * 64 := by
  obtain ⟨n, rfl⟩ := Int.eq_ofNat_of_zero_le h
  have hn : n < 256 := by omega
  have key : ∀ m : Fin 256, bits .and .u8 ((m.val : Nat) : Int) 192 = ((m.val : Nat) : Int) / 64 * 64 := by decide +kernel
  exact key ⟨n, hn⟩
/-! ### the program's Decode and the reference's -/
theorem next_at (s : ByteArray) (i : Int) (h : 0 ≤ i) : utf_next.f s i = some (match cb s i with
    | some a => (a, true)
    | none => (0, false)) := by
  have hb := bt_range s i
  unfold utf_next.f cb
  by_cases h1 : i ≥ (s.size : Int)
  · rw [if_pos h1, if_neg (by omega)]
  · rw [if_neg h1, if_pos h, if_pos (by omega), u8_192 _ hb.1 hb.2]
    by_cases h2 : bt s i / 64 * 64 = 128
    · rw [if_pos h2, if_pos (by omega), u8_and63 _ hb.1 (by omega), wrap_id _ (by omega) (by omega)]
      simp only [Option.some.injEq, Prod.mk.injEq, and_true]
      omega
    · rw [if_neg h2, if_neg (by omega)]
theorem point_at (r : Int) : utf_point.f r = some (pt r) := by
  unfold utf_point.f pt
  by_cases h1 : r ≥ 0
  · rw [if_pos h1]
    by_cases h2 : r ≤ 1114111
    · rw [if_pos h2]
      by_cases h3 : r < 55296
      · rw [if_pos h3]; simp [h1, h2, h3]
      · rw [if_neg h3]; simp [h1, h2, h3]
    · rw [if_neg h2]; simp [h2]
  · rw [if_neg h1]; simp [h1]
theorem dloop_end (s : ByteArray) (k : Nat) (i n r least j : Int) (h : ¬ j < n) : utf_Decode.l0 (k + 1) s i n r least j = some (fin r n least) := by
  simp only [utf_Decode.l0]
  rw [if_neg h, point_at]
  simp only [Option.bind_some]
  unfold fin bad
  by_cases h1 : r < least
  · rw [if_pos h1, if_neg (by omega)]
  · rw [if_neg h1]
    by_cases h2 : pt r = true
    · rw [if_pos h2, if_pos ⟨by omega, h2⟩]
    · rw [if_neg h2, if_neg (fun h => h2 h.2)]
theorem dloop_go (s : ByteArray) (k : Nat) (i n r least j : Int) (h : j < n) (hi : 0 ≤ i) (hi' : i < 4611686018427387904) (hj : 1 ≤ j) (hj' : j ≤ 4) (hr : 0 ≤ r) (hr' : r < 1048576) :
    utf_Decode.l0 (k + 1) s i n r least j = (match cb s (i + j) with
      | some a => utf_Decode.l0 k s i n (r * 64 + a) least (j + 1)
      | none => some bad) := by
  simp only [utf_Decode.l0]
  rw [if_pos h, wrap_id (i + j) (by omega) (by omega), next_at s _ (by omega)]
  cases hc : cb s (i + j) with
  | none => simp [bad]
  | some a =>
    have hb := cb_bd hc
    simp only [Option.bind_some, if_true]
    rw [or6 r a hr hr' (by omega) (by omega), wrap_id (j + 1) (by omega) (by omega)]
theorem dloop2 (s : ByteArray) (k : Nat) (i r : Int) (hi : 0 ≤ i) (hi' : i < 4611686018427387904) (hr : 0 ≤ r) (hr' : r < 32) : utf_Decode.l0 (k + 2) s i 2 r 128 1 = some (dec2 s i r) := by
  rw [dloop_go s (k + 1) i 2 r 128 1 (by omega) hi hi' (by omega) (by omega) hr (by omega)]
  unfold dec2
  cases hc : cb s (i + 1) with
  | none => rfl
  | some a => exact dloop_end _ _ _ _ _ _ _ (by omega)
theorem dloop3 (s : ByteArray) (k : Nat) (i r : Int) (hi : 0 ≤ i) (hi' : i < 4611686018427387904) (hr : 0 ≤ r) (hr' : r < 16) : utf_Decode.l0 (k + 3) s i 3 r 2048 1 = some (dec3 s i r) := by
  rw [dloop_go s (k + 2) i 3 r 2048 1 (by omega) hi hi' (by omega) (by omega) hr (by omega)]
  unfold dec3
  cases hc : cb s (i + 1) with
  | none => rfl
  | some a =>
    have hb := cb_bd hc
    show utf_Decode.l0 (k + 2) s i 3 (r * 64 + a) 2048 2 = _
    rw [dloop_go s (k + 1) i 3 _ 2048 2 (by omega) hi hi' (by omega) (by omega) (by omega) (by omega)]
    cases hd : cb s (i + 2) with
    | none => rfl
    | some b => exact dloop_end _ _ _ _ _ _ _ (by omega)
theorem dloop4 (s : ByteArray) (k : Nat) (i r : Int) (hi : 0 ≤ i) (hi' : i < 4611686018427387904) (hr : 0 ≤ r) (hr' : r < 8) : utf_Decode.l0 (k + 4) s i 4 r 65536 1 = some (dec4 s i r) := by
  rw [dloop_go s (k + 3) i 4 r 65536 1 (by omega) hi hi' (by omega) (by omega) hr (by omega)]
  unfold dec4
  cases hc : cb s (i + 1) with
  | none => rfl
  | some a =>
    have hb := cb_bd hc
    show utf_Decode.l0 (k + 3) s i 4 (r * 64 + a) 65536 2 = _
    rw [dloop_go s (k + 2) i 4 _ 65536 2 (by omega) hi hi' (by omega) (by omega) (by omega) (by omega)]
    cases hd : cb s (i + 2) with
    | none => rfl
    | some b =>
      have hb' := cb_bd hd
      show utf_Decode.l0 (k + 2) s i 4 ((r * 64 + a) * 64 + b) 65536 3 = _
      rw [dloop_go s (k + 1) i 4 _ 65536 3 (by omega) hi hi' (by omega) (by omega) (by omega) (by omega)]
      cases he : cb s (i + 3) with
      | none => rfl
      | some c => exact dloop_end _ _ _ _ _ _ _ (by omega)
theorem decode_at (s : ByteArray) (i : Int) (k : Nat) (hs : s.size ≤ 140737488351232) (hk : 9 ≤ k) : utf_Decode.f k s i = some (dec s i) := by
  obtain ⟨k, rfl⟩ : ∃ m, k = m + 9 := ⟨k - 9, by omega⟩
  have hb := bt_range s i
  unfold utf_Decode.f dec
  by_cases h0 : i < 0
  · rw [if_pos h0, if_pos h0]; simp only [utf_Decode.j0]; rfl
  rw [if_neg h0, if_neg h0]
  by_cases h1 : (s.size : Int) ≤ i
  · rw [if_pos h1, decide_eq_true (by omega)]; simp only [utf_Decode.j0]; rfl
  rw [if_neg h1, decide_eq_false (by omega)]
  simp only [utf_Decode.j0]
  rw [if_neg (by decide), if_pos (by omega), if_pos (by omega), wrap_id (bt s i) (by omega) (by omega)]
  by_cases h2 : bt s i < 128
  · rw [if_pos h2, if_pos h2]
  rw [if_neg h2, if_neg h2]
  by_cases h3 : bt s i < 192
  · rw [if_neg (by omega), if_pos h3]
    simp only [utf_Decode.j1]
    rw [if_neg (by decide), if_neg (by omega)]
    simp only [utf_Decode.j2]
    rw [if_neg (by decide), if_neg (by omega)]
    rfl
  rw [if_pos (by omega), if_neg h3]
  by_cases h4 : bt s i < 224
  · rw [if_pos h4, decide_eq_true h4]
    simp only [utf_Decode.j1, utf_Decode.j3]
    rw [if_pos trivial, and31 _ (by omega) (by omega), show bt s i % 32 = bt s i - 192 from by omega]
    exact dloop2 s _ i _ (by omega) (by omega) (by omega) (by omega)
  rw [if_neg h4, decide_eq_false h4]
  simp only [utf_Decode.j1]
  rw [if_neg (by decide), if_pos (by omega)]
  by_cases h5 : bt s i < 240
  · rw [if_pos h5, decide_eq_true h5]
    simp only [utf_Decode.j2, utf_Decode.j3]
    rw [if_pos trivial, and15 _ (by omega) (by omega), show bt s i % 16 = bt s i - 224 from by omega]
    exact dloop3 s _ i _ (by omega) (by omega) (by omega) (by omega)
  rw [if_neg h5, decide_eq_false h5]
  simp only [utf_Decode.j2]
  rw [if_neg (by decide), if_pos (by omega)]
  by_cases h6 : bt s i < 248
  · rw [if_pos h6, if_pos h6]
    simp only [utf_Decode.j3]
    rw [and7 _ (by omega) (by omega), show bt s i % 8 = bt s i - 240 from by omega]
    exact dloop4 s _ i _ (by omega) (by omega) (by omega) (by omega)
  · rw [if_neg h6, if_neg h6]; rfl
/-! ### the code points from an offset on -/
def rn (s : ByteArray) : Nat → Int → Option (List Int)
  | 0, _ => none
  | m + 1, i => if i < (s.size : Int) then (if (dec s i).2.2 = true then (rn s m (i + (dec s i).2.1)).map ((dec s i).1 :: ·) else none) else some []
theorem fin_num (r n least : Int) : (fin r n least).2.2 = true → (fin r n least) = (r, n, true) := by
  unfold fin bad
  split
  · intro _; rfl
  · intro h; cases h
/-- A code point that is read takes one to four bytes and ends within the string. -/
theorem dec_len (s : ByteArray) (i : Int) (h : (dec s i).2.2 = true) : 0 ≤ i ∧ 1 ≤ (dec s i).2.1 ∧ (dec s i).2.1 ≤ 4 ∧ i + (dec s i).2.1 ≤ (s.size : Int) := by
  unfold dec at h ⊢
  by_cases h0 : i < 0
  · rw [if_pos h0] at h; cases h
  rw [if_neg h0] at h ⊢
  by_cases h1 : (s.size : Int) ≤ i
  · rw [if_pos h1] at h; cases h
  rw [if_neg h1] at h ⊢
  by_cases h2 : bt s i < 128
  · rw [if_pos h2] at h ⊢; simp only []; omega
  rw [if_neg h2] at h ⊢
  by_cases h3 : bt s i < 192
  · rw [if_pos h3] at h; cases h
  rw [if_neg h3] at h ⊢
  by_cases h4 : bt s i < 224
  · rw [if_pos h4] at h ⊢
    unfold dec2 at h ⊢
    cases hc : cb s (i + 1) with
    | none => rw [hc] at h; cases h
    | some a =>
      rw [hc] at h
      have := cb_bd hc
      simp only [] at h ⊢
      rw [fin_num _ _ _ h]; simp only []; omega
  rw [if_neg h4] at h ⊢
  by_cases h5 : bt s i < 240
  · rw [if_pos h5] at h ⊢
    unfold dec3 at h ⊢
    cases hc : cb s (i + 1) with
    | none => rw [hc] at h; cases h
    | some a =>
      rw [hc] at h
      simp only [] at h ⊢
      cases hd : cb s (i + 2) with
      | none => rw [hd] at h; cases h
      | some b =>
        rw [hd] at h
        have := cb_bd hd
        simp only [] at h ⊢
        rw [fin_num _ _ _ h]; simp only []; omega
  rw [if_neg h5] at h ⊢
  by_cases h6 : bt s i < 248
  · rw [if_pos h6] at h ⊢
    unfold dec4 at h ⊢
    cases hc : cb s (i + 1) with
    | none => rw [hc] at h; cases h
    | some a =>
      rw [hc] at h
      simp only [] at h ⊢
      cases hd : cb s (i + 2) with
      | none => rw [hd] at h; cases h
      | some b =>
        rw [hd] at h
        simp only [] at h ⊢
        cases he : cb s (i + 3) with
        | none => rw [he] at h; cases h
        | some c =>
          rw [he] at h
          have := cb_bd he
          simp only [] at h ⊢
          rw [fin_num _ _ _ h]; simp only []; omega
  · rw [if_neg h6] at h; cases h
/-- The code points from the beginning on. -/
def runes (s : ByteArray) : Option (List Int) := rn s (s.size + 1) 0
theorem rn_len (s : ByteArray) : ∀ (m : Nat) (i : Int) (l : List Int), 0 ≤ i → rn s m i = some l → i ≤ s.size → (l.length : Int) ≤ (s.size : Int) - i
  | 0, _, _, _, h, _ => by cases h
  | m + 1, i, l, h0, h, hi => by
    simp only [rn] at h
    by_cases c : i < (s.size : Int)
    · rw [if_pos c] at h
      by_cases d : (dec s i).2.2 = true
      · rw [if_pos d] at h
        have dl := dec_len s i d
        cases e : rn s m (i + (dec s i).2.1) with
        | none => rw [e] at h; cases h
        | some l' =>
          rw [e] at h
          injection h with h
          have := rn_len s m _ l' (by omega) e dl.2.2.2
          rw [← h]
          simp only [List.length_cons]
          omega
      · rw [if_neg d] at h; cases h
    · rw [if_neg c] at h
      injection h with h
      rw [← h]
      simp; omega
/-! ### encodings and decoding, over the list of a string's bytes -/
def nm (s : ByteArray) : List Int := s.data.toList.map fun c => (c.toNat : Int)
theorem nm_len (s : ByteArray) : (nm s).length = s.size := by unfold nm; rw [List.length_map, Array.length_toList]; rfl
theorem nm_get (s : ByteArray) (j : Nat) (h : j < s.size) : (nm s)[j]? = some (bt s (j : Int)) := by
  have h' : j < s.data.toList.length := by rw [Array.length_toList]; exact h
  unfold nm bt
  rw [List.getElem?_map, List.getElem?_eq_getElem h', dif_pos (show ((j : Int)).toNat < s.size from h)]
  rfl
theorem nm_range (s : ByteArray) : ∀ c ∈ nm s, 0 ≤ c ∧ c ≤ 255 := by
  intro c hc
  unfold nm at hc
  obtain ⟨u, _, rfl⟩ := List.mem_map.1 hc
  have := u.toNat_lt
  omega
theorem nm_inj {s t : ByteArray} (h : nm s = nm t) : s = t := by
  unfold nm at h
  have := (List.map_inj_right (fun (x y : UInt8) e => UInt8.toNat_inj.1 (by omega))).1 h
  have h2 : s.data = t.data := Array.toList_inj.1 this
  cases s; cases t; simp_all
theorem nm_strOf (l : List Int) (h : ∀ c ∈ l, 0 ≤ c ∧ c ≤ 255) : nm (strOfNums l) = l := by
  unfold nm
  rw [strOfNums_data, List.map_map]
  conv => rhs; rw [← List.map_id l]
  apply List.map_congr_left
  intro c hc
  have := h c hc
  simp only [Function.comp, id]
  rw [UInt8.toNat_ofNat']
  omega
theorem drop_bt {s : ByteArray} {i : Int} {l t : List Int} (h0 : 0 ≤ i) (h : (nm s).drop i.toNat = l ++ t) (j : Nat) (hj : j < l.length) : i + j < (s.size : Int) ∧ bt s (i + j) = l.getD j 0 := by
  have hl := congrArg List.length h
  simp only [List.length_drop, nm_len, List.length_append] at hl
  have hlt : i.toNat + j < s.size := by omega
  have e1 : (nm s)[i.toNat + j]? = some (bt s (i + j)) := by
    rw [nm_get s _ hlt]; congr 2; omega
  have e2 : ((nm s).drop i.toNat)[j]? = some (l.getD j 0) := by
    rw [h, List.getElem?_append_left hj, List.getD_eq_getElem?_getD, List.getElem?_eq_getElem hj]; rfl
  rw [List.getElem?_drop, e1] at e2
  exact ⟨by omega, Option.some.inj e2⟩
theorem bt_drop {s : ByteArray} {i : Int} {l : List Int} (h0 : 0 ≤ i) (hl : i + l.length ≤ (s.size : Int)) (h : ∀ j, j < l.length → bt s (i + j) = l.getD j 0) : (nm s).drop i.toNat = l ++ (nm s).drop (i.toNat + l.length) := by
  apply List.ext_getElem?
  intro j
  by_cases hj : j < l.length
  · rw [List.getElem?_append_left hj, List.getElem?_drop, nm_get s _ (by omega), List.getElem?_eq_getElem hj]
    have := h j hj
    rw [List.getD_eq_getElem?_getD, List.getElem?_eq_getElem hj] at this
    simp only [Option.getD_some] at this
    rw [← this]
    congr 2; omega
  · rw [List.getElem?_append_right (by omega), List.getElem?_drop, List.getElem?_drop]
    congr 1; omega
theorem cb_of {s : ByteArray} {i a : Int} (h0 : 0 ≤ i) (h1 : i < (s.size : Int)) (h : bt s i = 128 + a) (ha : 0 ≤ a) (ha' : a < 64) : cb s i = some a := by
  unfold cb; rw [if_pos (by omega), h]; congr 1; omega
theorem fin_of {r n least : Int} (h : least ≤ r) (hp : pt r = true) : fin r n least = (r, n, true) := if_pos ⟨h, hp⟩
/-- An encoding is decoded. -/
theorem dec_enc {s : ByteArray} {i r : Int} {t : List Int} (h0 : 0 ≤ i) (hp : pt r = true) (h : (nm s).drop i.toNat = enc r ++ t) : dec s i = (r, ((enc r).length : Int), true) := by
  have g := fun j hj => drop_bt h0 h j hj
  have hp' := (pt_iff r).1 hp
  unfold enc at g ⊢
  by_cases c1 : r < 128
  · rw [if_pos c1] at g ⊢
    have g0 := g 0 (by simp)
    simp at g0
    unfold dec
    rw [if_neg (by omega), if_neg (by omega), if_pos (by omega), g0.2]
    rfl
  rw [if_neg c1] at g ⊢
  by_cases c2 : r < 2048
  · rw [if_pos c2] at g ⊢
    have g0 := g 0 (by simp)
    have g1 := g 1 (by simp)
    simp at g0 g1
    unfold dec
    rw [if_neg (by omega), if_neg (by omega), if_neg (by omega), if_neg (by omega), if_pos (by omega)]
    unfold dec2
    rw [cb_of (by omega) g1.1 g1.2 (by omega) (by omega), g0.2]
    simp only []
    rw [show (192 + r / 64 - 192) * 64 + r % 64 = r from by omega, fin_of (by omega) hp]
    rfl
  rw [if_neg c2] at g ⊢
  by_cases c3 : r < 65536
  · rw [if_pos c3] at g ⊢
    have g0 := g 0 (by simp)
    have g1 := g 1 (by simp)
    have g2 := g 2 (by simp)
    simp at g0 g1 g2
    unfold dec
    rw [if_neg (by omega), if_neg (by omega), if_neg (by omega), if_neg (by omega), if_neg (by omega), if_pos (by omega)]
    unfold dec3
    rw [cb_of (by omega) g1.1 g1.2 (by omega) (by omega)]
    simp only []
    rw [cb_of (by omega) g2.1 g2.2 (by omega) (by omega), g0.2]
    simp only []
    rw [show ((224 + r / 4096 - 224) * 64 + r / 64 % 64) * 64 + r % 64 = r from by omega, fin_of (by omega) hp]
    rfl
  · rw [if_neg c3] at g ⊢
    have g0 := g 0 (by simp)
    have g1 := g 1 (by simp)
    have g2 := g 2 (by simp)
    have g3 := g 3 (by simp)
    simp at g0 g1 g2 g3
    unfold dec
    rw [if_neg (by omega), if_neg (by omega), if_neg (by omega), if_neg (by omega), if_neg (by omega), if_neg (by omega), if_pos (by omega)]
    unfold dec4
    rw [cb_of (by omega) g1.1 g1.2 (by omega) (by omega)]
    simp only []
    rw [cb_of (by omega) g2.1 g2.2 (by omega) (by omega)]
    simp only []
    rw [cb_of (by omega) g3.1 g3.2 (by omega) (by omega), g0.2]
    simp only []
    rw [show (((240 + r / 262144 - 240) * 64 + r / 4096 % 64) * 64 + r / 64 % 64) * 64 + r % 64 = r from by omega, fin_of (by omega) hp]
    rfl
theorem fin_ok {r n least : Int} (h : (fin r n least).2.2 = true) : least ≤ r ∧ pt r = true ∧ fin r n least = (r, n, true) := by
  unfold fin at h ⊢
  by_cases c : least ≤ r ∧ pt r = true
  · rw [if_pos c]; exact ⟨c.1, c.2, rfl⟩
  · rw [if_neg c] at h; cases h
/-- What is decoded is an encoding. -/
theorem enc_dec {s : ByteArray} {i : Int} (h : (dec s i).2.2 = true) : pt (dec s i).1 = true ∧ (dec s i).2.1 = ((enc (dec s i).1).length : Int) ∧ (nm s).drop i.toNat = enc (dec s i).1 ++ (nm s).drop (i.toNat + (enc (dec s i).1).length) := by
  have hb := bt_range s i
  unfold dec at h ⊢
  by_cases h0 : i < 0
  · rw [if_pos h0] at h; cases h
  rw [if_neg h0] at h ⊢
  by_cases h1 : (s.size : Int) ≤ i
  · rw [if_pos h1] at h; cases h
  rw [if_neg h1] at h ⊢
  by_cases h2 : bt s i < 128
  · rw [if_pos h2] at h ⊢
    have e : enc (bt s i) = [bt s i] := by unfold enc; rw [if_pos h2]
    refine ⟨(pt_iff _).2 (by simp only []; omega), by simp only [e]; rfl, bt_drop (by omega) (by simp only [e]; simp; omega) fun j hj => ?_⟩
    simp only [e] at hj ⊢
    obtain rfl : j = 0 := by simpa using hj
    simp
  rw [if_neg h2] at h ⊢
  by_cases h3 : bt s i < 192
  · rw [if_pos h3] at h; cases h
  rw [if_neg h3] at h ⊢
  by_cases h4 : bt s i < 224
  · rw [if_pos h4] at h ⊢
    unfold dec2 at h ⊢
    cases hc : cb s (i + 1) with
    | none => rw [hc] at h; cases h
    | some a =>
      rw [hc] at h
      have b1 := cb_bd hc
      simp only [] at h ⊢
      obtain ⟨f1, f2, f3⟩ := fin_ok h
      rw [f3]
      simp only []
      generalize hr : (bt s i - 192) * 64 + a = r at f1 f2 ⊢
      have e : enc r = [bt s i, bt s (i + 1)] := by
        unfold enc
        rw [if_neg (by omega), if_pos (by omega)]
        congr 1
        · omega
        · congr 1; omega
      refine ⟨f2, by rw [e]; rfl, bt_drop (by omega) (by rw [e]; simp; omega) fun j hj => ?_⟩
      rw [e] at hj ⊢
      match j, hj with
      | 0, _ => simp
      | 1, _ => simp
  rw [if_neg h4] at h ⊢
  by_cases h5 : bt s i < 240
  · rw [if_pos h5] at h ⊢
    unfold dec3 at h ⊢
    cases hc : cb s (i + 1) with
    | none => rw [hc] at h; cases h
    | some a =>
      rw [hc] at h
      simp only [] at h ⊢
      cases hd : cb s (i + 2) with
      | none => rw [hd] at h; cases h
      | some b =>
        rw [hd] at h
        have b1 := cb_bd hc
        have b2 := cb_bd hd
        simp only [] at h ⊢
        obtain ⟨f1, f2, f3⟩ := fin_ok h
        rw [f3]
        simp only []
        generalize hr : ((bt s i - 224) * 64 + a) * 64 + b = r at f1 f2 ⊢
        have e : enc r = [bt s i, bt s (i + 1), bt s (i + 2)] := by
          unfold enc
          rw [if_neg (by omega), if_neg (by omega), if_pos (by omega)]
          congr 1
          · omega
          · congr 1
            · omega
            · congr 1; omega
        refine ⟨f2, by rw [e]; rfl, bt_drop (by omega) (by rw [e]; simp; omega) fun j hj => ?_⟩
        rw [e] at hj ⊢
        match j, hj with
        | 0, _ => simp
        | 1, _ => simp
        | 2, _ => simp
  rw [if_neg h5] at h ⊢
  by_cases h6 : bt s i < 248
  · rw [if_pos h6] at h ⊢
    unfold dec4 at h ⊢
    cases hc : cb s (i + 1) with
    | none => rw [hc] at h; cases h
    | some a =>
      rw [hc] at h
      simp only [] at h ⊢
      cases hd : cb s (i + 2) with
      | none => rw [hd] at h; cases h
      | some b =>
        rw [hd] at h
        simp only [] at h ⊢
        cases he : cb s (i + 3) with
        | none => rw [he] at h; cases h
        | some c =>
          rw [he] at h
          have b1 := cb_bd hc
          have b2 := cb_bd hd
          have b3 := cb_bd he
          simp only [] at h ⊢
          obtain ⟨f1, f2, f3⟩ := fin_ok h
          rw [f3]
          simp only []
          generalize hr : (((bt s i - 240) * 64 + a) * 64 + b) * 64 + c = r at f1 f2 ⊢
          have e : enc r = [bt s i, bt s (i + 1), bt s (i + 2), bt s (i + 3)] := by
            unfold enc
            rw [if_neg (by omega), if_neg (by omega), if_neg (by omega)]
            congr 1
            · omega
            · congr 1
              · omega
              · congr 1
                · omega
                · congr 1; omega
          refine ⟨f2, by rw [e]; rfl, bt_drop (by omega) (by rw [e]; simp; omega) fun j hj => ?_⟩
          rw [e] at hj ⊢
          match j, hj with
          | 0, _ => simp
          | 1, _ => simp
          | 2, _ => simp
          | 3, _ => simp
  · rw [if_neg h6] at h; cases h
/-- The text of code points. -/
def encs (l : List Int) : List Int := l.flatMap enc
def pts (l : List Int) : Prop := ∀ r ∈ l, pt r = true
theorem encs_cons (r : Int) (l : List Int) : encs (r :: l) = enc r ++ encs l := by simp [encs]
theorem encs_append (l m : List Int) : encs (l ++ m) = encs l ++ encs m := by simp [encs]
theorem encs_byte {l : List Int} (h : pts l) : ∀ c ∈ encs l, 0 ≤ c ∧ c ≤ 255 := by
  intro c hc
  obtain ⟨r, hr, hc⟩ := List.mem_flatMap.1 hc
  exact enc_byte r (h r hr) c hc
theorem encs_len (l : List Int) : l.length ≤ (encs l).length ∧ (encs l).length ≤ 4 * l.length := by
  induction l with
  | nil => simp [encs]
  | cons r l ih =>
    have := enc_len r
    rw [encs_cons, List.length_append, List.length_cons]
    omega
theorem rn_sound (s : ByteArray) : ∀ (m : Nat) (i : Int) (l : List Int), 0 ≤ i → i ≤ s.size → rn s m i = some l → pts l ∧ (nm s).drop i.toNat = encs l
  | 0, _, _, _, _, h => by cases h
  | m + 1, i, l, h0, hi, h => by
    simp only [rn] at h
    by_cases c : i < (s.size : Int)
    · rw [if_pos c] at h
      by_cases d : (dec s i).2.2 = true
      · rw [if_pos d] at h
        have dl := dec_len s i d
        have de := enc_dec d
        cases e : rn s m (i + (dec s i).2.1) with
        | none => rw [e] at h; cases h
        | some l' =>
          rw [e] at h
          injection h with h
          have ih := rn_sound s m _ l' (by omega) (by omega) e
          rw [← h]
          constructor
          · intro r hr
            rcases List.mem_cons.1 hr with rfl | hr
            · exact de.1
            · exact ih.1 r hr
          · rw [encs_cons, de.2.2, ← ih.2]
            congr 2
            omega
      · rw [if_neg d] at h; cases h
    · rw [if_neg c] at h
      injection h with h
      rw [← h]
      refine ⟨fun r hr => by simp at hr, ?_⟩
      rw [List.drop_eq_nil_of_le (by rw [nm_len]; omega)]; rfl
theorem rn_complete (s : ByteArray) : ∀ (l : List Int) (m : Nat) (i : Int), 0 ≤ i → pts l → (nm s).drop i.toNat = encs l → (s.size : Int) - i < m → i ≤ s.size → rn s m i = some l
  | [], m, i, h0, hp, h, hm, hi => by
    obtain ⟨m, rfl⟩ : ∃ j, m = j + 1 := ⟨m - 1, by omega⟩
    have hl := congrArg List.length h
    simp [nm_len, encs] at hl
    simp only [rn]
    rw [if_neg (by omega)]
  | r :: l, m, i, h0, hp, h, hm, hi => by
    obtain ⟨m, rfl⟩ : ∃ j, m = j + 1 := ⟨m - 1, by omega⟩
    rw [encs_cons] at h
    have hr := hp r (List.mem_cons_self ..)
    have de := dec_enc h0 hr h
    have hl := congrArg List.length h
    have el := enc_len r
    simp only [List.length_drop, nm_len, List.length_append] at hl
    simp only [rn]
    rw [if_pos (by omega), de]
    simp only [if_true]
    have hd : (nm s).drop (i + ((enc r).length : Int)).toNat = encs l := by
      have := congrArg (List.drop (enc r).length) h
      rw [List.drop_drop, List.drop_left] at this
      rw [← this]; congr 1; omega
    rw [rn_complete s l m (i + ((enc r).length : Int)) (by omega) (fun r' h' => hp r' (List.mem_cons_of_mem _ h')) hd (by omega) (by omega)]
    rfl
theorem runes_sound {s : ByteArray} {l : List Int} (h : runes s = some l) : pts l ∧ nm s = encs l := by
  have := rn_sound s _ 0 l (by omega) (by omega) h
  simpa using this
theorem runes_complete {s : ByteArray} {l : List Int} (hp : pts l) (h : nm s = encs l) : runes s = some l :=
  rn_complete s l _ 0 (by omega) hp (by simpa using h) (by omega) (by omega)
/-! ### bits of encodings -/
theorem or192 (y : Int) (h : 0 ≤ y) (h' : y < 32) : bits .or .i64 192 y = 192 + y := i64_join 6 192 y (by omega) (by omega) (by omega) h (by omega) (by omega)
theorem or224 (y : Int) (h : 0 ≤ y) (h' : y < 16) : bits .or .i64 224 y = 224 + y := i64_join 5 224 y (by omega) (by omega) (by omega) h (by omega) (by omega)
theorem or240 (y : Int) (h : 0 ≤ y) (h' : y < 8) : bits .or .i64 240 y = 240 + y := i64_join 4 240 y (by omega) (by omega) (by omega) h (by omega) (by omega)
theorem or128 (y : Int) (h : 0 ≤ y) (h' : y < 64) : bits .or .i64 128 y = 128 + y := i64_join 6 128 y (by omega) (by omega) (by omega) h (by omega) (by omega)
def allp (l : List Int) : Bool := l.all pt
theorem allp_iff (l : List Int) : allp l = true ↔ pts l := by simp [allp, pts]
theorem rd_at (xs : List Int) (i : Int) (h0 : 0 ≤ i) (h : i < (xs.length : Int)) : ∃ x t, xs.drop i.toNat = x :: t ∧ rd xs i = x ∧ xs.drop (i + 1).toNat = t := by
  have hj : i.toNat < xs.length := by omega
  refine ⟨xs[i.toNat], xs.drop (i.toNat + 1), List.drop_eq_getElem_cons hj, ?_, by congr 1; omega⟩
  unfold rd
  rw [List.getD_eq_getElem?_getD, List.getElem?_eq_getElem hj]; rfl
/-! ### the program's FromRunes -/
theorem add_at (b : List Int) (r : Int) (hb : b.length < 140737488355000) (hp : pt r = true) : utf_add.f b r = some (b ++ enc r) := by
  rw [pt_iff] at hp
  unfold utf_add.f enc
  by_cases c1 : r < 128
  · rw [if_pos c1, if_pos c1, if_pos (by omega), show r % 256 = r from by omega]
  rw [if_neg c1, if_neg c1]
  by_cases c2 : r < 2048
  · rw [if_pos c2, if_pos c2, and63 _ (by omega) (by omega), or192 _ (by omega) (by omega), or128 _ (by omega) (by omega)]
    simp only [Option.bind_some, List.length_cons, List.length_nil]
    rw [if_pos (by omega), show (192 + r / 64) % 256 = 192 + r / 64 from by omega, show (128 + r % 64) % 256 = 128 + r % 64 from by omega]
  rw [if_neg c2, if_neg c2]
  by_cases c3 : r < 65536
  · rw [if_pos c3, if_pos c3, and63 _ (by omega) (by omega), and63 _ (by omega) (by omega), or224 _ (by omega) (by omega), or128 _ (by omega) (by omega), or128 _ (by omega) (by omega)]
    simp only [Option.bind_some, List.length_cons, List.length_nil]
    rw [if_pos (by omega), show (224 + r / 4096) % 256 = 224 + r / 4096 from by omega, show (128 + r / 64 % 64) % 256 = 128 + r / 64 % 64 from by omega, show (128 + r % 64) % 256 = 128 + r % 64 from by omega]
  · rw [if_neg c3, if_neg c3, and63 _ (by omega) (by omega), and63 _ (by omega) (by omega), and63 _ (by omega) (by omega), or240 _ (by omega) (by omega), or128 _ (by omega) (by omega), or128 _ (by omega) (by omega), or128 _ (by omega) (by omega)]
    simp only [Option.bind_some, List.length_cons, List.length_nil]
    rw [if_pos (by omega), show (240 + r / 262144) % 256 = 240 + r / 262144 from by omega, show (128 + r / 4096 % 64) % 256 = 128 + r / 4096 % 64 from by omega, show (128 + r / 64 % 64) % 256 = 128 + r / 64 % 64 from by omega, show (128 + r % 64) % 256 = 128 + r % 64 from by omega]
/-! ### the program's Append -/
theorem append_at (l : List Int) (r : Int) (hl : l.length ≤ 1000000) : utf_Append.f l r = some (if pt r = true then (l ++ enc r, true) else ([], false)) := by
  unfold utf_Append.f
  rw [point_at]
  simp only [Option.bind_some]
  by_cases p : pt r = true
  · rw [if_pos p, if_pos p, wrap_id _ (by omega) (by omega), if_pos (by omega), if_pos (by omega)]
    simp only [List.length_nil, List.nil_append]
    rw [if_pos (by omega), add_at l r (by omega) p]
    rfl
  · rw [if_neg p, if_neg p]
/-! ### tokens, plain: blanks, digits, numbers -/
def blk (b : Int) : Bool := b == 32 || b == 9 || b == 10 || b == 13
def dg (b : Int) : Bool := decide (48 ≤ b) && decide (b ≤ 57)
theorem dg_iff (b : Int) : dg b = true ↔ 48 ≤ b ∧ b ≤ 57 := by simp [dg]
def skp (s : ByteArray) : Nat → Int → Int
  | 0, i => i
  | m + 1, i => if i < (s.size : Int) then (if blk (bt s i) = true then skp s m (i + 1) else i) else i
theorem skp_ge (s : ByteArray) : ∀ (m : Nat) (i : Int), i ≤ skp s m i
  | 0, i => Int.le_refl _
  | m + 1, i => by
    simp only [skp]
    split
    · split
      · have := skp_ge s m (i + 1); omega
      · omega
    · omega
theorem skp_le (s : ByteArray) : ∀ (m : Nat) (i : Int), i ≤ s.size → skp s m i ≤ s.size
  | 0, i, h => h
  | m + 1, i, h => by
    simp only [skp]
    split
    · split
      · exact skp_le s m (i + 1) (by omega)
      · exact h
    · exact h
theorem skp_blank (s : ByteArray) : ∀ (m : Nat) (i j : Int), i ≤ j → j < skp s m i → blk (bt s j) = true
  | 0, i, j, h, h' => by simp only [skp] at h'; omega
  | m + 1, i, j, h, h' => by
    simp only [skp] at h'
    split at h'
    · split at h'
      · rename_i hb
        by_cases e : j = i
        · rw [e]; exact hb
        · exact skp_blank s m (i + 1) j (by omega) h'
      · omega
    · omega
theorem skp_out (s : ByteArray) (m : Nat) (i : Int) (h : (s.size : Int) ≤ i) : skp s m i = i := by
  cases m with
  | zero => rfl
  | succ m => simp only [skp]; rw [if_neg (by omega)]
/-- The value of digits from an offset on: the offset behind them, their value, and whether it kept within 2^63. -/
def dgs (s : ByteArray) : Nat → Int → Int → Bool → Int × Int × Bool
  | 0, i, v, ok => (i, v, ok)
  | m + 1, i, v, ok => if i < (s.size : Int) then (if dg (bt s i) = true then (if 9223372036854775808 < v * 10 + (bt s i - 48) then dgs s m (i + 1) v false else dgs s m (i + 1) (v * 10 + (bt s i - 48)) ok) else (i, v, ok)) else (i, v, ok)
theorem dgs_end (s : ByteArray) : ∀ (m : Nat) (i v : Int) (ok : Bool), i ≤ s.size → 0 ≤ v → v ≤ 9223372036854775808 → i ≤ (dgs s m i v ok).1 ∧ (dgs s m i v ok).1 ≤ s.size ∧ 0 ≤ (dgs s m i v ok).2.1 ∧ (dgs s m i v ok).2.1 ≤ 9223372036854775808
  | 0, i, v, ok, h, h1, h2 => by simp only [dgs]; omega
  | m + 1, i, v, ok, h, h1, h2 => by
    simp only [dgs]
    split
    · split
      · rename_i hb
        rw [dg_iff] at hb
        split
        · have := dgs_end s m (i + 1) v false (by omega) h1 h2; omega
        · have := dgs_end s m (i + 1) (v * 10 + (bt s i - 48)) ok (by omega) (by omega) (by omega); omega
      · simp only []; omega
    · simp only []; omega
theorem dgs_one (s : ByteArray) (m : Nat) (i v : Int) (ok : Bool) (h : i < s.size) (hd : dg (bt s i) = true) (h1 : 0 ≤ v) (h2 : v ≤ 9223372036854775808) : i + 1 ≤ (dgs s (m + 1) i v ok).1 := by
  rw [dg_iff] at hd
  simp only [dgs]
  rw [if_pos h, if_pos ((dg_iff _).2 hd)]
  split
  · have := dgs_end s m (i + 1) v false (by omega) h1 h2; omega
  · have := dgs_end s m (i + 1) (v * 10 + (bt s i - 48)) ok (by omega) (by omega) (by omega); omega
def numF (s : ByteArray) (from_ : Int) (neg : Bool) (r : Int × Int × Bool) : Int × Int × Int :=
  if r.1 < (s.size : Int) ∧ (bt s r.1 = 46 ∨ bt s r.1 = 101 ∨ bt s r.1 = 69) ∨ r.2.2 = false ∨ (neg = false ∧ r.2.1 = 9223372036854775808) then (0, from_, 7) else (if neg = true then -r.2.1 else r.2.1, r.1, 0)
def num1 (s : ByteArray) (from_ at_ : Int) (neg : Bool) : Int × Int × Int :=
  if at_ = (s.size : Int) then (0, at_, 4) else if dg (bt s at_) = false then (0, at_, 4)
  else if bt s at_ = 48 ∧ at_ + 1 < (s.size : Int) ∧ dg (bt s (at_ + 1)) = true then (0, at_ + 1, 4) else numF s from_ neg (dgs s s.size at_ 0 true)
/-- What 'number' answers: the value, the offset behind, the error. -/
def num (s : ByteArray) (from_ : Int) : Int × Int × Int := if bt s from_ = 45 then num1 s from_ (from_ + 1) true else num1 s from_ from_ false
theorem num1_to (s : ByteArray) (from_ at_ : Int) (neg : Bool) (h : 0 ≤ at_) (ha : at_ ≤ s.size) (he : (num1 s from_ at_ neg).2.2 = 0) : at_ + 1 ≤ (num1 s from_ at_ neg).2.1 ∧ (num1 s from_ at_ neg).2.1 ≤ s.size := by
  unfold num1 at he ⊢
  split at he
  · simp at he
  · rename_i h1
    rw [if_neg h1]
    split at he
    · simp at he
    · rename_i h2
      rw [if_neg h2]
      split at he
      · simp at he
      · rename_i h3
        rw [if_neg h3]
        unfold numF at he ⊢
        split at he
        · simp at he
        · rename_i h4
          rw [if_neg h4]
          have e1 := dgs_end s s.size at_ 0 true ha (by omega) (by omega)
          obtain ⟨z, hz⟩ : ∃ z, s.size = z + 1 := ⟨s.size - 1, by omega⟩
          have e2 := dgs_one s z at_ 0 true (by omega) (by simpa using h2) (by omega) (by omega)
          rw [← hz] at e2
          exact ⟨e2, e1.2.1⟩
theorem num_to (s : ByteArray) (from_ : Int) (h0 : 0 ≤ from_) (h : from_ < s.size) (he : (num s from_).2.2 = 0) : from_ + 1 ≤ (num s from_).2.1 ∧ (num s from_).2.1 ≤ s.size := by
  unfold num at he ⊢
  split at he
  · rename_i h1
    rw [if_pos h1]
    have := num1_to s from_ (from_ + 1) true (by omega) (by omega) he
    omega
  · rename_i h1
    rw [if_neg h1]
    exact num1_to s from_ from_ false (by omega) (by omega) he
def lts (s : ByteArray) : Nat → Int → Int
  | 0, i => i
  | m + 1, i => if i < (s.size : Int) then (if 97 ≤ bt s i ∧ bt s i ≤ 122 then lts s m (i + 1) else i) else i
theorem lts_end (s : ByteArray) : ∀ (m : Nat) (i : Int), i ≤ s.size → i ≤ lts s m i ∧ lts s m i ≤ s.size
  | 0, i, h => by simp only [lts]; omega
  | m + 1, i, h => by
    simp only [lts]
    split
    · split
      · have := lts_end s m (i + 1) (by omega); omega
      · omega
    · omega
theorem lts_one (s : ByteArray) (m : Nat) (i : Int) (h : i < s.size) (hb : 97 ≤ bt s i ∧ bt s i ≤ 122) : i + 1 ≤ lts s (m + 1) i := by
  simp only [lts]
  rw [if_pos h, if_pos hb]
  exact (lts_end s m (i + 1) (by omega)).1
/-! ### escapes -/
def hx (b : Int) : Int := if dg b = true then b - 48 else if 97 ≤ b ∧ b ≤ 102 then b - 87 else if 65 ≤ b ∧ b ≤ 70 then b - 55 else -1
theorem hx_range (b : Int) : -1 ≤ hx b ∧ hx b ≤ 15 := by
  unfold hx
  split
  · rename_i h; rw [dg_iff] at h; omega
  · split
    · omega
    · split <;> omega
/-- Four hexadecimal digits, n of them still to be read, the next one being digit j. -/
def grp (s : ByteArray) (low : Bool) (at_ : Int) : Nat → Int → Int → Int × Int
  | 0, _, r => (r, 0)
  | n + 1, j, r => if (s.size : Int) ≤ at_ + j then (0, 5)
      else if hx (bt s (at_ + j)) < 0 ∨ (low = true ∧ j = 0 ∧ hx (bt s (at_ + j)) ≠ 13) ∨ (j = 1 ∧ r = 13 ∧ low ≠ decide (12 ≤ hx (bt s (at_ + j)))) then (0, 4)
      else grp s low at_ n (j + 1) (r * 16 + hx (bt s (at_ + j)))
def esc2 (s : ByteArray) (i r : Int) : Int × Int × Int :=
  if (s.size : Int) ≤ i + 6 then (0, 0, 5) else if bt s (i + 6) ≠ 92 then (0, 0, 4)
  else if (s.size : Int) ≤ i + 7 then (0, 0, 5) else if bt s (i + 7) ≠ 117 then (0, 0, 4)
  else if (grp s true (i + 8) 4 0 0).2 = 0 then (65536 + (r - 55296) * 1024 + (grp s true (i + 8) 4 0 0).1 - 56320, 12, 0) else (0, 0, (grp s true (i + 8) 4 0 0).2)
/-- What 'escape' answers for the backslash at offset i: the code point, the element's length, the error. -/
def esc (s : ByteArray) (i : Int) : Int × Int × Int :=
  if (s.size : Int) ≤ i + 1 then (0, 0, 5)
  else if bt s (i + 1) = 34 ∨ bt s (i + 1) = 92 ∨ bt s (i + 1) = 47 then (bt s (i + 1), 2, 0)
  else if bt s (i + 1) = 98 then (8, 2, 0) else if bt s (i + 1) = 102 then (12, 2, 0) else if bt s (i + 1) = 110 then (10, 2, 0)
  else if bt s (i + 1) = 114 then (13, 2, 0) else if bt s (i + 1) = 116 then (9, 2, 0)
  else if bt s (i + 1) = 117 then (if (grp s false (i + 2) 4 0 0).2 = 0 then (if (grp s false (i + 2) 4 0 0).1 < 55296 ∨ 57344 ≤ (grp s false (i + 2) 4 0 0).1 then ((grp s false (i + 2) 4 0 0).1, 6, 0) else esc2 s i (grp s false (i + 2) 4 0 0).1) else (0, 0, (grp s false (i + 2) 4 0 0).2))
  else (0, 0, 4)
theorem grp_ok (s : ByteArray) (low : Bool) (at_ : Int) : ∀ (n : Nat) (j r : Int), (grp s low at_ n j r).2 = 0 → 0 ≤ r → (grp s low at_ n j r).1 < (r + 1) * 16 ^ n ∧ r * 16 ^ n ≤ (grp s low at_ n j r).1 ∧ (0 < n → at_ + j + n ≤ (s.size : Int))
  | 0, j, r, h, h0 => by simp only [grp]; refine ⟨by omega, by omega, fun h => absurd h (by omega)⟩
  | n + 1, j, r, h, h0 => by
    simp only [grp] at h ⊢
    split at h
    · simp at h
    · rename_i h1
      rw [if_neg h1]
      split at h
      · simp at h
      · rename_i h2
        rw [if_neg h2]
        have hr := hx_range (bt s (at_ + j))
        have h3 : ¬ hx (bt s (at_ + j)) < 0 := fun e => h2 (.inl e)
        have ih := grp_ok s low at_ n (j + 1) _ h (by omega)
        generalize hx (bt s (at_ + j)) = d at *
        have e16 : (16 : Int) ^ (n + 1) = 16 * 16 ^ n := by rw [Int.pow_succ, Int.mul_comm]
        have hp : (0 : Int) < 16 ^ n := Int.pow_pos (by omega)
        generalize (16 : Int) ^ n = p at *
        rw [e16]
        have m1 : (r * 16 + d + 1) * p ≤ (r + 1) * (16 * p) := by
          have : (r + 1) * (16 * p) = ((r + 1) * 16) * p := by rw [Int.mul_assoc]
          rw [this]
          exact Int.mul_le_mul_of_nonneg_right (by omega) (by omega)
        have m2 : r * (16 * p) ≤ (r * 16 + d) * p := by
          have : r * (16 * p) = (r * 16) * p := by rw [Int.mul_assoc]
          rw [this]
          exact Int.mul_le_mul_of_nonneg_right (by omega) (by omega)
        refine ⟨by omega, by omega, fun _ => ?_⟩
        cases n with
        | zero => omega
        | succ q => have := ih.2.2 (by omega); omega
theorem grp_err (s : ByteArray) (low : Bool) (at_ : Int) : ∀ (n : Nat) (j r : Int), (grp s low at_ n j r).2 = 0 ∨ (grp s low at_ n j r).2 = 4 ∨ (grp s low at_ n j r).2 = 5
  | 0, j, r => by simp [grp]
  | n + 1, j, r => by
    simp only [grp]
    split
    · simp
    · split
      · simp
      · exact grp_err s low at_ n (j + 1) _
theorem grp_succ (s : ByteArray) (low : Bool) (at_ : Int) (n : Nat) (j r : Int) (h : (grp s low at_ (n + 1) j r).2 = 0) : 0 ≤ hx (bt s (at_ + j)) ∧ ¬ (low = true ∧ j = 0 ∧ hx (bt s (at_ + j)) ≠ 13) ∧ ¬ (j = 1 ∧ r = 13 ∧ low ≠ decide (12 ≤ hx (bt s (at_ + j)))) ∧ grp s low at_ (n + 1) j r = grp s low at_ n (j + 1) (r * 16 + hx (bt s (at_ + j))) := by
  simp only [grp] at h ⊢
  split at h
  · simp at h
  · rename_i h1
    rw [if_neg h1]
    split at h
    · simp at h
    · rename_i h2
      rw [if_neg h2]
      refine ⟨?_, fun e => h2 (.inr (.inl e)), fun e => h2 (.inr (.inr e)), rfl⟩
      by_cases e : hx (bt s (at_ + j)) < 0
      · exact absurd (.inl e) h2
      · omega
theorem grp_low (s : ByteArray) (at_ : Int) (h : (grp s true at_ 4 0 0).2 = 0) : 56320 ≤ (grp s true at_ 4 0 0).1 ∧ (grp s true at_ 4 0 0).1 < 57344 ∧ at_ + 4 ≤ (s.size : Int) := by
  have hb := (grp_ok s true at_ 4 0 0 h (by omega)).2.2 (by omega)
  obtain ⟨a1, b1, c1, e1⟩ := grp_succ s true at_ 3 0 0 h
  rw [e1] at h ⊢
  obtain ⟨a2, b2, c2, e2⟩ := grp_succ s true at_ 2 _ _ h
  rw [e2] at h ⊢
  have r1 := hx_range (bt s (at_ + 0))
  have r2 := hx_range (bt s (at_ + (0 + 1)))
  have g := grp_ok s true at_ 2 _ _ h (by omega)
  have d1 : hx (bt s (at_ + 0)) = 13 := by
    by_cases e : hx (bt s (at_ + 0)) = 13
    · exact e
    · exact absurd ⟨rfl, rfl, e⟩ b1
  have d2 : 12 ≤ hx (bt s (at_ + (0 + 1))) := by
    by_cases e : 12 ≤ hx (bt s (at_ + (0 + 1)))
    · exact e
    · exact absurd ⟨by omega, by omega, by rw [decide_eq_false e]; decide⟩ c2
  have g1 := g.1
  have g2 := g.2.1
  generalize (grp s true at_ 2 (0 + 1 + 1) ((0 * 16 + hx (bt s (at_ + 0))) * 16 + hx (bt s (at_ + (0 + 1))))).1 = z at *
  omega
theorem grp_high (s : ByteArray) (at_ : Int) (h : (grp s false at_ 4 0 0).2 = 0) : 0 ≤ (grp s false at_ 4 0 0).1 ∧ (grp s false at_ 4 0 0).1 < 65536 ∧ ((grp s false at_ 4 0 0).1 < 56320 ∨ 57344 ≤ (grp s false at_ 4 0 0).1) ∧ at_ + 4 ≤ (s.size : Int) := by
  have hg := grp_ok s false at_ 4 0 0 h (by omega)
  have hb := hg.2.2 (by omega)
  have hg1 := hg.1
  have hg2 := hg.2.1
  refine ⟨by omega, by omega, ?_, by omega⟩
  obtain ⟨a1, b1, c1, e1⟩ := grp_succ s false at_ 3 0 0 h
  rw [e1] at h ⊢
  obtain ⟨a2, b2, c2, e2⟩ := grp_succ s false at_ 2 _ _ h
  rw [e2] at h ⊢
  have r1 := hx_range (bt s (at_ + 0))
  have r2 := hx_range (bt s (at_ + (0 + 1)))
  have g := grp_ok s false at_ 2 _ _ h (by omega)
  have d2 : hx (bt s (at_ + 0)) = 13 → hx (bt s (at_ + (0 + 1))) < 12 := by
    intro d1
    by_cases e : 12 ≤ hx (bt s (at_ + (0 + 1)))
    · exact absurd ⟨by omega, by omega, by rw [decide_eq_true e]; decide⟩ c2
    · omega
  have g1 := g.1
  have g2 := g.2.1
  generalize (grp s false at_ 2 (0 + 1 + 1) ((0 * 16 + hx (bt s (at_ + 0))) * 16 + hx (bt s (at_ + (0 + 1))))).1 = z at *
  by_cases f : hx (bt s (at_ + 0)) = 13
  · have := d2 f; omega
  · omega
theorem esc_ok (s : ByteArray) (i : Int) (h0 : 0 ≤ i) (h : (esc s i).2.2 = 0) : pt (esc s i).1 = true ∧ 2 ≤ (esc s i).2.1 ∧ (esc s i).2.1 ≤ 12 ∧ i + (esc s i).2.1 ≤ (s.size : Int) := by
  have hb := bt_range s (i + 1)
  rw [pt_iff]
  unfold esc at h ⊢
  split at h
  · simp at h
  rename_i h1; rw [if_neg h1]
  split at h
  · rename_i h2; rw [if_pos h2]; simp only []; omega
  rename_i h2; rw [if_neg h2]
  split at h
  · rename_i h3; rw [if_pos h3]; simp only []; omega
  rename_i h3; rw [if_neg h3]
  split at h
  · rename_i h4; rw [if_pos h4]; simp only []; omega
  rename_i h4; rw [if_neg h4]
  split at h
  · rename_i h5; rw [if_pos h5]; simp only []; omega
  rename_i h5; rw [if_neg h5]
  split at h
  · rename_i h6; rw [if_pos h6]; simp only []; omega
  rename_i h6; rw [if_neg h6]
  split at h
  · rename_i h7; rw [if_pos h7]; simp only []; omega
  rename_i h7; rw [if_neg h7]
  split at h
  · rename_i h8; rw [if_pos h8]
    split at h
    · rename_i g; rw [if_pos g]
      have gh := grp_high s (i + 2) g
      split at h
      · rename_i g2; rw [if_pos g2]; simp only []; omega
      · rename_i g2; rw [if_neg g2]
        unfold esc2 at h ⊢
        split at h
        · simp at h
        rename_i k1; rw [if_neg k1]
        split at h
        · simp at h
        rename_i k2; rw [if_neg k2]
        split at h
        · simp at h
        rename_i k3; rw [if_neg k3]
        split at h
        · simp at h
        rename_i k4; rw [if_neg k4]
        split at h
        · rename_i k5; rw [if_pos k5]
          have gl := grp_low s (i + 8) k5
          simp only []
          omega
        · rename_i k5; exact absurd h k5
    · rename_i g; exact absurd h g
  · simp at h
def errE (x : Int × Int × Int) : Prop := x.2.2 = 0 ∨ x.2.2 = 4 ∨ x.2.2 = 5
theorem errE_ite (c : Prop) [Decidable c] (x y : Int × Int × Int) (h : errE x) (h' : errE y) : errE (if c then x else y) := by split <;> assumption
theorem esc_err (s : ByteArray) (i : Int) : errE (esc s i) := by
  have g1 := grp_err s false (i + 2) 4 0 0
  have g2 := grp_err s true (i + 8) 4 0 0
  unfold esc esc2
  repeat' first
    | exact .inl rfl
    | exact .inr (.inl rfl)
    | exact .inr (.inr rfl)
    | exact g1
    | exact g2
    | refine errE_ite _ _ _ ?_ ?_
/-! ### strings -/
def txt (s : ByteArray) (from_ : Int) : Nat → Int → List Int → ByteArray × Int × Int
  | 0, _, _ => (⟨#[]⟩, (s.size : Int), 5)
  | m + 1, i, out => if i < (s.size : Int) then
      (if bt s i = 34 then (if 4096 < (out.length : Int) then (⟨#[]⟩, from_, 2) else (strOfNums out, i + 1, 0))
      else if bt s i < 32 then (⟨#[]⟩, i, 4)
      else if bt s i = 92 then (if (esc s i).2.2 = 5 then (⟨#[]⟩, (s.size : Int), 5) else if (esc s i).2.2 = 0 then txt s from_ m (i + (esc s i).2.1) (out ++ enc (esc s i).1) else (⟨#[]⟩, i, (esc s i).2.2))
      else if (dec s i).2.2 = true then txt s from_ m (i + (dec s i).2.1) (out ++ enc (dec s i).1) else (⟨#[]⟩, i, 6))
    else (⟨#[]⟩, (s.size : Int), 5)
theorem txt_to (s : ByteArray) (from_ : Int) : ∀ (m : Nat) (i : Int) (out : List Int), 0 ≤ i → i ≤ s.size → (txt s from_ m i out).2.2 = 0 → i + 1 ≤ (txt s from_ m i out).2.1 ∧ (txt s from_ m i out).2.1 ≤ s.size
  | 0, i, out, h0, h, he => by simp [txt] at he
  | m + 1, i, out, h0, h, he => by
    simp only [txt] at he ⊢
    split at he
    · rename_i h1
      rw [if_pos h1]
      split at he
      · rename_i h2; rw [if_pos h2]
        split at he
        · simp at he
        · rename_i h3; rw [if_neg h3]; simp only []; omega
      · rename_i h2; rw [if_neg h2]
        split at he
        · simp at he
        · rename_i h3; rw [if_neg h3]
          split at he
          · rename_i h4; rw [if_pos h4]
            split at he
            · simp at he
            · rename_i h5; rw [if_neg h5]
              split at he
              · rename_i h6; rw [if_pos h6]
                have eo := esc_ok s i h0 h6
                have ih := txt_to s from_ m _ _ (by omega) (by omega) he
                omega
              · rename_i h6; exact absurd he h6
          · rename_i h4; rw [if_neg h4]
            split at he
            · rename_i h5; rw [if_pos h5]
              have dl := dec_len s i h5
              have ih := txt_to s from_ m _ _ (by omega) (by omega) he
              omega
            · simp at he
    · simp at he
/-! ### Next -/
def isWord (l : List UInt8) : Bool := l == [110, 117, 108, 108] || l == [116, 114, 117, 101] || l == [102, 97, 108, 115, 101]
/-- What Next answers: the token's kind, From, To, Byte, Int and Str, the offset behind, the error. -/
def nxt (s : ByteArray) (at_ : Int) : Int × Int × Int × Int × Int × ByteArray × Int × Int :=
  if at_ < 0 ∨ (s.size : Int) < at_ then (0, 0, 0, 0, 0, ⟨#[]⟩, 0, 3)
  else if skp s s.size at_ = (s.size : Int) then (0, skp s s.size at_, skp s s.size at_, 0, 0, ⟨#[]⟩, skp s s.size at_, 0)
  else if bt s (skp s s.size at_) = 91 ∨ bt s (skp s s.size at_) = 93 ∨ bt s (skp s s.size at_) = 123 ∨ bt s (skp s s.size at_) = 125 ∨ bt s (skp s s.size at_) = 44 ∨ bt s (skp s s.size at_) = 58 then (1, skp s s.size at_, skp s s.size at_ + 1, bt s (skp s s.size at_), 0, ⟨#[]⟩, skp s s.size at_ + 1, 0)
  else if 97 ≤ bt s (skp s s.size at_) ∧ bt s (skp s s.size at_) ≤ 122 then (if isWord (s.extract (skp s s.size at_).toNat (lts s s.size (skp s s.size at_)).toNat).toList = true then (2, skp s s.size at_, lts s s.size (skp s s.size at_), bt s (skp s s.size at_), 0, ⟨#[]⟩, lts s s.size (skp s s.size at_), 0) else (0, 0, 0, 0, 0, ⟨#[]⟩, skp s s.size at_, 4))
  else if bt s (skp s s.size at_) = 45 ∨ dg (bt s (skp s s.size at_)) = true then (if (num s (skp s s.size at_)).2.2 = 0 then (3, skp s s.size at_, (num s (skp s s.size at_)).2.1, 0, (num s (skp s s.size at_)).1, ⟨#[]⟩, (num s (skp s s.size at_)).2.1, 0) else (0, 0, 0, 0, 0, ⟨#[]⟩, (num s (skp s s.size at_)).2.1, (num s (skp s s.size at_)).2.2))
  else if bt s (skp s s.size at_) = 34 then (if (txt s (skp s s.size at_) s.size (skp s s.size at_ + 1) []).2.2 = 0 then (4, skp s s.size at_, (txt s (skp s s.size at_) s.size (skp s s.size at_ + 1) []).2.1, 0, 0, (txt s (skp s s.size at_) s.size (skp s s.size at_ + 1) []).1, (txt s (skp s s.size at_) s.size (skp s s.size at_ + 1) []).2.1, 0) else (0, 0, 0, 0, 0, ⟨#[]⟩, (txt s (skp s s.size at_) s.size (skp s s.size at_ + 1) []).2.1, (txt s (skp s s.size at_) s.size (skp s s.size at_ + 1) []).2.2))
  else (0, 0, 0, 0, 0, ⟨#[]⟩, skp s s.size at_, 4)
/-! ### the program's blanks, digits, numbers -/
theorem blank_at (b : Int) : jsonlex_Blank.f b = some (blk b) := by
  unfold jsonlex_Blank.f blk
  by_cases h1 : b = 32
  · rw [if_pos h1]; simp [h1]
  rw [if_neg h1]
  by_cases h2 : b = 9
  · rw [if_pos h2]; simp [h2]
  rw [if_neg h2]
  by_cases h3 : b = 10
  · rw [if_pos h3]; simp [h3]
  rw [if_neg h3]
  simp [h1, h2, h3]
theorem digit_at (b : Int) : jsonlex_digit.f b = some (dg b) := by
  unfold jsonlex_digit.f dg
  by_cases h1 : b ≥ 48
  · rw [if_pos h1]; simp [h1]
  · rw [if_neg h1]; simp; omega
theorem skip_loop (s : ByteArray) (hs : s.size ≤ 1000000) : ∀ (m : Nat) (i : Int) (k : Nat), 0 ≤ i → (s.size : Int) - i ≤ m → m + 1 ≤ k → jsonlex_Skip.l0 k s i = some (skp s m i)
  | 0, i, k, h0, hm, hk => by
    obtain ⟨k, rfl⟩ : ∃ j, k = j + 1 := ⟨k - 1, by omega⟩
    simp only [jsonlex_Skip.l0, skp]
    rw [if_neg (by omega)]
  | m + 1, i, k, h0, hm, hk => by
    obtain ⟨k, rfl⟩ : ∃ j, k = j + 1 := ⟨k - 1, by omega⟩
    simp only [jsonlex_Skip.l0, skp]
    by_cases a : i < (s.size : Int)
    · rw [if_pos a, if_pos a, if_pos h0, blank_at]
      simp only [Option.bind_some]
      by_cases b : blk (bt s i) = true
      · rw [if_pos b, if_pos b, wrap_id (i + 1) (by omega) (by omega)]
        exact skip_loop s hs m (i + 1) k (by omega) (by omega) (by omega)
      · rw [if_neg b, if_neg b]
    · rw [if_neg a, if_neg a]
def skf (s : ByteArray) (at_ : Int) : Int := if at_ < 0 then at_ else skp s s.size at_
theorem skip_at (s : ByteArray) (hs : s.size ≤ 1000000) (at_ : Int) (k : Nat) (hk : s.size + 1 ≤ k) : jsonlex_Skip.f k s at_ = some (skf s at_) := by
  unfold jsonlex_Skip.f skf
  by_cases a : at_ < 0
  · rw [if_pos a, if_pos a]
  · rw [if_neg a, if_neg a]
    exact skip_loop s hs s.size at_ k (by omega) (by omega) hk
theorem tdiv10 (d : Int) (h : 0 ≤ d) (h' : d ≤ 9) : Int.tdiv ((-9223372036854775808) + d) 10 = -((9223372036854775808 - d) / 10) := by
  rw [show (-9223372036854775808 + d : Int) = -(9223372036854775808 - d) from by omega, Int.neg_tdiv, Int.tdiv_eq_ediv_of_nonneg (by omega)]
theorem num_tail (from_ i v : Int) (neg ok : Bool) (k : Nat) (h0 : 0 ≤ v) (h1 : v ≤ 9223372036854775808) : (if ok = true then (if neg = true then (jsonlex_number.j5 (k + 1) from_ i neg (-v) false) else (jsonlex_number.j5 (k + 1) from_ i neg (-v) ((-v) == (-9223372036854775808)))) else (jsonlex_number.j5 (k + 1) from_ i neg (-v) true)) = some (if ok = false ∨ (neg = false ∧ v = 9223372036854775808) then (0, from_, 7) else (if neg = true then -v else v, i, 0)) := by
  cases ok
  · simp [jsonlex_number.j5]
  · cases neg
    · by_cases e : v = 9223372036854775808
      · subst e; simp [jsonlex_number.j5]
      · have e2 : ((-v) == (-9223372036854775808 : Int)) = false := by simp; omega
        rw [e2]
        simp only [jsonlex_number.j5]
        rw [show wrap64 (- -v) = v from by rw [wrap_id _ (by omega) (by omega)]; omega]
        simp [e]
    · simp [jsonlex_number.j5]
theorem num_end (s : ByteArray) (from_ i v : Int) (neg ok : Bool) (k : Nat) (h0 : 0 ≤ i) (hv : 0 ≤ v) (hv' : v ≤ 9223372036854775808) : jsonlex_number.j4 (k + 2) s from_ i neg ok (-v) false = some (numF s from_ neg (i, v, ok)) := by
  have tail := num_tail from_ i v neg ok k hv hv'
  unfold numF
  rw [show k + 2 = (k + 1) + 1 from rfl]
  simp only [jsonlex_number.j4]
  rw [if_neg (by decide)]
  by_cases a : i < (s.size : Int)
  · rw [if_pos a, if_pos h0]
    by_cases b1 : bt s i = 46
    · rw [if_pos b1, if_pos (.inl ⟨a, .inl b1⟩)]; simp [jsonlex_number.j5]
    rw [if_neg b1]
    by_cases b2 : bt s i = 101
    · rw [if_pos b2, if_pos (.inl ⟨a, .inr (.inl b2)⟩)]; simp [jsonlex_number.j5]
    rw [if_neg b2]
    by_cases b3 : bt s i = 69
    · rw [if_pos b3, if_pos (.inl ⟨a, .inr (.inr b3)⟩)]; simp [jsonlex_number.j5]
    rw [if_neg b3, tail]
    congr 1
    simp [b1, b2, b3]
  · rw [if_neg a, tail]
    congr 1
    simp [a]
theorem num_loop (s : ByteArray) (hs : s.size ≤ 1000000) (from_ : Int) (neg : Bool) : ∀ (m : Nat) (i v : Int) (ok : Bool) (k : Nat), 0 ≤ i → i ≤ s.size → (s.size : Int) - i ≤ m → 0 ≤ v → v ≤ 9223372036854775808 → 2 * m + 3 ≤ k → jsonlex_number.l0 k s from_ i neg ok (-v) = some (numF s from_ neg (dgs s m i v ok))
  | 0, i, v, ok, k, h0, hi, hm, hv, hv', hk => by
    obtain ⟨k, rfl⟩ : ∃ j, k = j + 3 := ⟨k - 3, by omega⟩
    rw [show k + 3 = (k + 2) + 1 from rfl]
    simp only [jsonlex_number.l0, dgs]
    rw [if_neg (by omega)]
    exact num_end s from_ i v neg ok k h0 hv hv'
  | m + 1, i, v, ok, k, h0, hi, hm, hv, hv', hk => by
    obtain ⟨k, rfl⟩ : ∃ j, k = j + 3 := ⟨k - 3, by omega⟩
    rw [show k + 3 = (k + 2) + 1 from rfl]
    simp only [jsonlex_number.l0, dgs]
    by_cases a : i < (s.size : Int)
    · rw [if_pos a, if_pos a, if_pos h0, digit_at]
      simp only [Option.bind_some]
      by_cases d : dg (bt s i) = true
      · rw [if_pos d, d, show k + 2 = (k + 1) + 1 from rfl]
        have d2 := (dg_iff _).1 d
        simp only [jsonlex_number.j4]
        rw [if_pos trivial, if_pos h0, if_pos a, show (bt s i - 48) % 256 = bt s i - 48 from by omega, tdiv10 _ (by omega) (by omega), wrap_id (i + 1) (by omega) (by omega)]
        by_cases o : 9223372036854775808 < v * 10 + (bt s i - 48)
        · rw [if_pos o, if_pos (by omega)]
          exact num_loop s hs from_ neg m (i + 1) v false (k + 1) (by omega) (by omega) (by omega) hv hv' (by omega)
        · rw [if_neg o, if_neg (by omega), wrap_id (-v * 10) (by omega) (by omega), wrap_id (-v * 10 - (bt s i - 48)) (by omega) (by omega), show -v * 10 - (bt s i - 48) = -(v * 10 + (bt s i - 48)) from by omega]
          exact num_loop s hs from_ neg m (i + 1) _ ok (k + 1) (by omega) (by omega) (by omega) (by omega) (by omega) (by omega)
      · rw [if_neg d, show dg (bt s i) = false from by simpa using d]
        exact num_end s from_ i v neg ok k h0 hv hv'
    · rw [if_neg a, if_neg a]
      exact num_end s from_ i v neg ok k h0 hv hv'
theorem num_j0 (s : ByteArray) (hs : s.size ≤ 1000000) (from_ at_ : Int) (neg : Bool) (k : Nat) (h0 : 0 ≤ at_) (h1 : at_ ≤ s.size) (hk : 2 * s.size + 3 ≤ k) : jsonlex_number.j0 (k + 3) s from_ at_ neg = some (num1 s from_ at_ neg) := by
  unfold num1
  rw [show k + 3 = (k + 2) + 1 from rfl]
  simp only [jsonlex_number.j0]
  rw [show k + 2 = (k + 1) + 1 from rfl]
  by_cases a : at_ = (s.size : Int)
  · rw [if_pos a, if_pos a]; simp [jsonlex_number.j1]
  rw [if_neg a, if_neg a, if_pos h0, if_pos (by omega), digit_at]
  simp only [Option.bind_some, jsonlex_number.j1]
  have go : ∀ b : Bool, (b = true → bt s at_ = 48 ∧ at_ + 1 < (s.size : Int) ∧ dg (bt s (at_ + 1)) = true) → (b = false → ¬ (bt s at_ = 48 ∧ at_ + 1 < (s.size : Int) ∧ dg (bt s (at_ + 1)) = true)) → jsonlex_number.j2 (k + 1) s from_ at_ neg b = some (if bt s at_ = 48 ∧ at_ + 1 < (s.size : Int) ∧ dg (bt s (at_ + 1)) = true then (0, at_ + 1, 4) else numF s from_ neg (dgs s s.size at_ 0 true)) := by
    intro b hb hb'
    cases b with
    | true => rw [if_pos (hb rfl)]; simp only [jsonlex_number.j2]; rw [if_pos trivial, wrap_id (at_ + 1) (by omega) (by omega)]
    | false =>
      rw [if_neg (hb' rfl)]
      simp only [jsonlex_number.j2]
      rw [if_neg (by decide)]
      have := num_loop s hs from_ neg s.size at_ 0 true k h0 h1 (by omega) (by omega) (by omega) hk
      simpa using this
  by_cases d : dg (bt s at_) = false
  · rw [if_pos d, d]; simp
  · have d' : dg (bt s at_) = true := by simpa using d
    rw [if_neg d, d', if_neg (by decide), if_pos h0, if_pos (by omega)]
    by_cases z : bt s at_ = 48
    · rw [if_pos z, wrap_id (at_ + 1) (by omega) (by omega)]
      by_cases y : at_ + 1 < (s.size : Int)
      · rw [if_pos y, if_pos (by omega), digit_at]
        simp only [Option.bind_some]
        exact go _ (fun e => ⟨z, y, e⟩) (fun e f => by rw [f.2.2] at e; cases e)
      · rw [if_neg y]
        exact go false (fun e => by cases e) (fun _ f => y f.2.1)
    · rw [if_neg z]
      exact go false (fun e => by cases e) (fun _ f => z f.1)
theorem number_at (s : ByteArray) (hs : s.size ≤ 1000000) (from_ : Int) (k : Nat) (h0 : 0 ≤ from_) (h1 : from_ < s.size) (hk : 2 * s.size + 6 ≤ k) : jsonlex_number.f k s from_ = some (num s from_) := by
  obtain ⟨k, rfl⟩ : ∃ j, k = j + 3 := ⟨k - 3, by omega⟩
  unfold jsonlex_number.f num
  rw [if_pos h0, if_pos h1]
  by_cases b : bt s from_ = 45
  · rw [if_pos b, if_pos b, wrap_id (from_ + 1) (by omega) (by omega), b]
    exact num_j0 s hs from_ (from_ + 1) true k (by omega) (by omega) (by omega)
  · rw [if_neg b, if_neg b, show (bt s from_ == 45) = false from by simpa using b]
    exact num_j0 s hs from_ from_ false k (by omega) (by omega) (by omega)
/-! ### the program's escapes -/
theorem nm_ext (s : ByteArray) (a b : Nat) : nm (s.extract a b) = ((nm s).take b).drop a := by
  unfold nm
  have e : (s.extract a b).data.toList = (s.data.toList.take b).drop a := by
    rw [ByteArray.data_extract, Array.toList_extract, List.extract_eq_take_drop, List.drop_take]
  rw [e, List.map_drop, List.map_take]
/-- t is what s holds from offset a on. -/
structure Tl (t s : ByteArray) (a : Int) : Prop where
  sz : (t.size : Int) = s.size - a
  at_ : ∀ j, 0 ≤ j → bt t j = bt s (a + j)
  lo : 0 ≤ a
  hi : a ≤ s.size
theorem bt_none (s : ByteArray) (i : Int) (h0 : 0 ≤ i) (h : (s.size : Int) ≤ i) : bt s i = 0 := by
  unfold bt; rw [dif_neg (by omega)]
theorem tl_ext (s : ByteArray) (a : Int) (h : 0 ≤ a) (h' : a ≤ s.size) : Tl (s.extract a.toNat s.size) s a := by
  have hsz : ((s.extract a.toNat s.size).size : Int) = s.size - a := by rw [ByteArray.size_extract]; omega
  refine ⟨hsz, fun j hj => ?_, h, h'⟩
  by_cases c : j < ((s.extract a.toNat s.size).size : Int)
  · have e1 := nm_get (s.extract a.toNat s.size) j.toNat (by omega)
    have e2 := nm_get s (a.toNat + j.toNat) (by omega)
    rw [nm_ext, List.take_of_length_le (by rw [nm_len]; omega), List.getElem?_drop, e2] at e1
    have := Option.some.inj e1
    rw [show ((a.toNat + j.toNat : Nat) : Int) = a + j from by omega, show ((j.toNat : Nat) : Int) = j from by omega] at this
    exact this.symm
  · rw [bt_none _ _ hj (by omega), bt_none _ _ (by omega) (by omega)]
theorem Tl.trans {u t s : ByteArray} {a b : Int} (h : Tl u t b) (g : Tl t s a) : Tl u s (a + b) := by
  refine ⟨by have := h.sz; have := g.sz; omega, fun j hj => ?_, by have := h.lo; have := g.lo; omega, by have := h.hi; have := g.sz; omega⟩
  rw [h.at_ j hj, g.at_ (b + j) (by have := h.lo; omega)]
  congr 1
  omega
theorem hex_at (b : Int) (k : Nat) (hk : 1 ≤ k) (h0 : 0 ≤ b) (h1 : b ≤ 255) : jsonlex_hex.f k b = some (hx b) := by
  obtain ⟨k, rfl⟩ : ∃ j, k = j + 1 := ⟨k - 1, by omega⟩
  unfold jsonlex_hex.f hx
  rw [digit_at]
  simp only [Option.bind_some, jsonlex_hex.j0]
  by_cases d : dg b = true
  · have d2 := (dg_iff _).1 d
    rw [if_pos d, if_pos d, show (b - 48) % 256 = b - 48 from by omega]
  · rw [if_neg d, if_neg d]
    by_cases e1 : b ≥ 97
    · rw [if_pos e1]
      by_cases e2 : b ≤ 102
      · rw [decide_eq_true e2, if_pos rfl, if_pos ⟨e1, e2⟩, show (b - 97) % 256 + 10 = b - 87 from by omega]
      · rw [decide_eq_false e2, if_neg (by decide), if_pos (by omega), if_neg (by omega), if_neg (by omega), if_neg (by omega)]
    · rw [if_neg e1, if_neg (by decide)]
      by_cases e3 : b ≥ 65
      · rw [if_pos e3]
        by_cases e4 : b ≤ 70
        · rw [if_pos e4, if_neg (by omega), if_pos ⟨e3, e4⟩, show (b - 65) % 256 + 10 = b - 55 from by omega]
        · rw [if_neg e4, if_neg (by omega), if_neg (by omega)]
      · rw [if_neg e3, if_neg (by omega), if_neg (by omega)]
theorem or4 (r c : Int) (h : 0 ≤ r) (h' : r < 1048576) (hc : 0 ≤ c) (hc' : c < 16) : bits .or .i64 (wrap64 (r * 16)) c = r * 16 + c := by
  rw [wrap_id _ (by omega) (by omega)]
  exact i64_join 4 (r * 16) c (by omega) (by omega) (by omega) hc (by omega) (by omega)
theorem four_loop (t s : ByteArray) (a : Int) (T : Tl t s a) (low : Bool) (hs : s.size ≤ 1000000) : ∀ (n : Nat) (j r : Int) (k : Nat), j + n = 4 → 0 ≤ j → 0 ≤ r → (r + 1) * 16 ^ n ≤ 65536 → j ≤ t.size → n + 2 ≤ k →
    jsonlex_four.l0 k t low r j = some (grp s low a n j r)
  | 0, j, r, k, hj, h0, hr, hr', ht, hk => by
    obtain ⟨k, rfl⟩ : ∃ q, k = q + 1 := ⟨k - 1, by omega⟩
    simp only [jsonlex_four.l0, grp]
    rw [if_neg (by omega)]
  | n + 1, j, r, k, hj, h0, hr, hr', ht, hk => by
    obtain ⟨k, rfl⟩ : ∃ q, k = q + 1 := ⟨k - 1, by omega⟩
    simp only [jsonlex_four.l0, grp]
    have hsz := T.sz
    have hb := bt_range t j
    rw [if_pos (by omega)]
    by_cases c : j = (t.size : Int)
    · rw [if_pos c, if_pos (by omega)]
    rw [if_neg c, if_pos h0, if_pos (by omega), if_neg (show ¬ (s.size : Int) ≤ a + j by omega), hex_at _ k (by omega) hb.1 hb.2, T.at_ j h0]
    simp only [Option.bind_some]
    have hd := hx_range (bt s (a + j))
    generalize hx (bt s (a + j)) = d at *
    by_cases d0 : d < 0
    · rw [if_pos d0, if_pos (.inl d0)]
    rw [if_neg d0]
    have e16 : (16 : Int) ^ (n + 1) = 16 * 16 ^ n := by rw [Int.pow_succ, Int.mul_comm]
    have hp : (0 : Int) < 16 ^ n := Int.pow_pos (by omega)
    have m1 : (r * 16 + d + 1) * 16 ^ n ≤ 65536 := by
      rw [e16] at hr'
      generalize (16 : Int) ^ n = p at *
      have e : (r + 1) * (16 * p) = ((r + 1) * 16) * p := by rw [Int.mul_assoc]
      rw [e] at hr'
      exact Int.le_trans (Int.mul_le_mul_of_nonneg_right (by omega) (by omega)) hr'
    have r16 : r < 65536 := by
      rw [e16] at hr'
      generalize (16 : Int) ^ n = p at *
      have : (r + 1) * 1 ≤ (r + 1) * (16 * p) := Int.mul_le_mul_of_nonneg_left (by omega) (by omega)
      omega
    rw [or4 r d hr (by omega) (by omega) (by omega), wrap_id (j + 1) (by omega) (by omega), four_loop t s a T low hs n (j + 1) (r * 16 + d) k (by omega) (by omega) (by omega) m1 (by omega) (by omega)]
    cases low
    · by_cases j1 : j = 1
      · by_cases r13 : r = 13
        · by_cases d12 : 12 ≤ d
          · simp [j1, r13, d12]
          · simp [j1, r13, d12, d0]
        · simp [j1, r13, d0]
      · simp [j1, d0]
    · by_cases j0 : j = 0
      · by_cases d13 : d = 13
        · simp [j0, d13]
        · simp [j0, d13]
      · by_cases j1 : j = 1
        · by_cases r13 : r = 13
          · by_cases d12 : 12 ≤ d
            · simp [j1, r13, d12, d0]
            · simp [j1, r13, d12, d0]
          · simp [j1, r13, d0]
        · simp [j0, j1, d0]
theorem four_at (t s : ByteArray) (a : Int) (T : Tl t s a) (low : Bool) (hs : s.size ≤ 1000000) (k : Nat) (hk : 6 ≤ k) : jsonlex_four.f k t low = some (grp s low a 4 0 0) := by
  unfold jsonlex_four.f
  exact four_loop t s a T low hs 4 0 0 k (by omega) (by omega) (by omega) (by decide) (by have := t.size; omega) hk
theorem esc_loop (t s : ByteArray) (i r : Int) (T : Tl t s i) (hs : s.size ≤ 1000000) (h6 : 6 ≤ t.size) (hr : 0 ≤ r) (hr' : r < 65536) (k : Nat) (hk : 9 ≤ k) : jsonlex_escape.l0 k t r [92, 117] 2 0 = some (esc2 s i r) := by
  obtain ⟨k, rfl⟩ : ∃ q, k = q + 1 := ⟨k - 1, by omega⟩
  have hsz := T.sz
  have e6 := T.at_ 6 (by omega)
  have e7 := T.at_ 7 (by omega)
  unfold esc2
  simp only [jsonlex_escape.l0]
  rw [if_pos (by omega), if_pos (by omega), if_pos (by decide), wrap_id (6 + 0) (by omega) (by omega), show (6 : Int) + 0 = 6 from rfl]
  by_cases c1 : (t.size : Int) = 6
  · rw [if_pos c1, if_pos (by omega)]
  rw [if_neg c1, if_pos (by omega), if_pos (by omega), if_neg (show ¬ (s.size : Int) ≤ i + 6 by omega), e6, show rd [92, 117] 0 = 92 from rfl]
  by_cases c2 : bt s (i + 6) = 92
  · rw [if_pos c2, if_neg (by simpa using c2), wrap_id (0 + 1) (by omega) (by omega), show (0 : Int) + 1 = 1 from rfl]
    obtain ⟨k, rfl⟩ : ∃ q, k = q + 1 := ⟨k - 1, by omega⟩
    simp only [jsonlex_escape.l0]
    rw [if_pos (by omega), if_pos (by omega), if_pos (by decide), wrap_id (6 + 1) (by omega) (by omega), show (6 : Int) + 1 = 7 from rfl]
    by_cases c3 : (t.size : Int) = 7
    · rw [if_pos c3, if_pos (by omega)]
    rw [if_neg c3, if_pos (by omega), if_pos (by omega), if_neg (show ¬ (s.size : Int) ≤ i + 7 by omega), e7, show rd [92, 117] 1 = 117 from rfl]
    by_cases c4 : bt s (i + 7) = 117
    · rw [if_pos c4, if_neg (by simpa using c4), wrap_id (1 + 1) (by omega) (by omega), show (1 : Int) + 1 = 2 from rfl]
      obtain ⟨k, rfl⟩ : ∃ q, k = q + 1 := ⟨k - 1, by omega⟩
      simp only [jsonlex_escape.l0]
      have T8 := (tl_ext t 8 (by omega) (by omega)).trans T
      rw [if_neg (by omega), if_pos (by omega), show (8 : Nat) = (8 : Int).toNat from rfl, four_at _ s (i + 8) T8 true hs k (by omega)]
      simp only [Option.bind_some]
      by_cases g : (grp s true (i + 8) 4 0 0).2 = 0
      · have gl := grp_low s (i + 8) g
        rw [if_pos g, if_pos g, wrap_id (r - 55296) (by omega) (by omega), wrap_id ((r - 55296) * 1024) (by omega) (by omega), wrap_id (65536 + (r - 55296) * 1024) (by omega) (by omega), wrap_id (65536 + (r - 55296) * 1024 + _) (by omega) (by omega), wrap_id (65536 + (r - 55296) * 1024 + _ - 56320) (by omega) (by omega)]
      · rw [if_neg g, if_neg g]
    · rw [if_neg c4, if_pos c4]
  · rw [if_neg c2, if_pos c2]
theorem esc_j1 (t s : ByteArray) (i : Int) (T : Tl t s i) (hs : s.size ≤ 1000000) (h2 : 2 ≤ t.size) (k : Nat) (hk : 20 ≤ k) (hf : ¬ (bt s (i + 1) = 98 ∨ bt s (i + 1) = 102 ∨ bt s (i + 1) = 110 ∨ bt s (i + 1) = 114 ∨ bt s (i + 1) = 116)) :
    jsonlex_escape.j1 k t (bt s (i + 1)) false = some (if bt s (i + 1) = 117 then (if (grp s false (i + 2) 4 0 0).2 = 0 then (if (grp s false (i + 2) 4 0 0).1 < 55296 ∨ 57344 ≤ (grp s false (i + 2) 4 0 0).1 then ((grp s false (i + 2) 4 0 0).1, 6, 0) else esc2 s i (grp s false (i + 2) 4 0 0).1) else (0, 0, (grp s false (i + 2) 4 0 0).2)) else (0, 0, 4)) := by
  obtain ⟨k, rfl⟩ : ∃ q, k = q + 1 := ⟨k - 1, by omega⟩
  have hsz := T.sz
  simp only [jsonlex_escape.j1]
  rw [if_neg (by decide)]
  by_cases u : bt s (i + 1) = 117
  · have T2 := (tl_ext t 2 (by omega) (by omega)).trans T
    rw [if_pos u, if_pos u, if_pos (by omega), show (2 : Nat) = (2 : Int).toNat from rfl, four_at _ s (i + 2) T2 false hs k (by omega)]
    simp only [Option.bind_some]
    by_cases g : (grp s false (i + 2) 4 0 0).2 = 0
    · have gh := grp_high s (i + 2) g
      rw [if_pos g, if_pos g]
      by_cases g1 : (grp s false (i + 2) 4 0 0).1 < 55296
      · rw [if_pos g1, if_pos (.inl g1)]
      rw [if_neg g1]
      by_cases g2 : (grp s false (i + 2) 4 0 0).1 ≥ 57344
      · rw [if_pos g2, if_pos (.inr g2)]
      rw [if_neg g2, if_neg (by omega)]
      exact esc_loop t s i _ T hs (by omega) (by omega) (by omega) k (by omega)
    · rw [if_neg g, if_neg g]
  · rw [if_neg u, if_neg u]
theorem esc_j0 (t s : ByteArray) (i : Int) (T : Tl t s i) (hs : s.size ≤ 1000000) (h2 : 2 ≤ t.size) (k : Nat) (hk : 22 ≤ k) (hf : ¬ (bt s (i + 1) = 34 ∨ bt s (i + 1) = 92 ∨ bt s (i + 1) = 47)) : jsonlex_escape.j0 k t (bt s (i + 1)) false = some (esc s i) := by
  obtain ⟨k, rfl⟩ : ∃ q, k = q + 2 := ⟨k - 2, by omega⟩
  have hsz := T.sz
  have e1 := T.at_ 1 (by omega)
  unfold esc
  rw [if_neg (by omega), if_neg hf, show k + 2 = (k + 1) + 1 from rfl]
  simp only [jsonlex_escape.j0]
  rw [if_neg (by decide)]
  have yes : ∀ x : Int, (if bt s (i + 1) = 98 then (8 : Int) else if bt s (i + 1) = 102 then 12 else if bt s (i + 1) = 110 then 10 else if bt s (i + 1) = 114 then 13 else if bt s (i + 1) = 116 then 9 else 0) = x → jsonlex_escape.j1 (k + 1) t (bt s (i + 1)) true = some (x, 2, 0) := by
    intro x hx'
    simp only [jsonlex_escape.j1]
    rw [if_pos trivial, if_pos (by omega), e1, hx']
  by_cases c1 : bt s (i + 1) = 98
  · rw [if_pos c1, if_pos c1, show (bt s (i + 1) == 98) = true from by simpa using c1]
    exact yes 8 (by rw [if_pos c1])
  rw [if_neg c1, if_neg c1]
  by_cases c2 : bt s (i + 1) = 102
  · rw [if_pos c2, if_pos c2, show (bt s (i + 1) == 102) = true from by simpa using c2]
    exact yes 12 (by rw [if_neg c1, if_pos c2])
  rw [if_neg c2, if_neg c2]
  by_cases c3 : bt s (i + 1) = 110
  · rw [if_pos c3, if_pos c3, show (bt s (i + 1) == 110) = true from by simpa using c3]
    exact yes 10 (by rw [if_neg c1, if_neg c2, if_pos c3])
  rw [if_neg c3, if_neg c3]
  by_cases c4 : bt s (i + 1) = 114
  · rw [if_pos c4, if_pos c4, show (bt s (i + 1) == 114) = true from by simpa using c4]
    exact yes 13 (by rw [if_neg c1, if_neg c2, if_neg c3, if_pos c4])
  rw [if_neg c4, if_neg c4]
  by_cases c5 : bt s (i + 1) = 116
  · rw [if_pos c5, show (bt s (i + 1) == 116) = true from by simpa using c5]
    exact yes 9 (by rw [if_neg c1, if_neg c2, if_neg c3, if_neg c4, if_pos c5])
  · rw [if_neg c5, show (bt s (i + 1) == 116) = false from by simpa using c5]
    exact esc_j1 t s i T hs h2 (k + 1) (by omega) (by omega)
theorem escape_at (t s : ByteArray) (i : Int) (T : Tl t s i) (hs : s.size ≤ 1000000) (k : Nat) (hk : 22 ≤ k) : jsonlex_escape.f k t = some (esc s i) := by
  have hsz := T.sz
  have e1 := T.at_ 1 (by omega)
  have hb := bt_range s (i + 1)
  unfold jsonlex_escape.f
  by_cases c0 : (t.size : Int) < 2
  · rw [if_pos c0]; unfold esc; rw [if_pos (by omega)]
  rw [if_neg c0, if_pos (by omega), e1]
  have yes : (bt s (i + 1) = 34 ∨ bt s (i + 1) = 92 ∨ bt s (i + 1) = 47) → jsonlex_escape.j0 k t (bt s (i + 1)) true = some (esc s i) := by
    intro h
    obtain ⟨k, rfl⟩ : ∃ q, k = q + 1 := ⟨k - 1, by omega⟩
    unfold esc
    rw [if_neg (by omega), if_pos h]
    simp only [jsonlex_escape.j0]
    rw [if_pos trivial, if_pos (by omega), e1, wrap_id _ (by omega) (by omega)]
  by_cases c1 : bt s (i + 1) = 34
  · rw [if_pos c1, show (bt s (i + 1) == 34) = true from by simpa using c1]
    exact yes (.inl c1)
  rw [if_neg c1]
  by_cases c2 : bt s (i + 1) = 92
  · rw [if_pos c2, show (bt s (i + 1) == 92) = true from by simpa using c2]
    exact yes (.inr (.inl c2))
  rw [if_neg c2]
  by_cases c3 : bt s (i + 1) = 47
  · rw [show (bt s (i + 1) == 47) = true from by simpa using c3]
    exact yes (.inr (.inr c3))
  · rw [show (bt s (i + 1) == 47) = false from by simpa using c3]
    exact esc_j0 t s i T hs (by omega) k hk (by omega)
/-! ### the program's strings -/
theorem bytes_dec (s : ByteArray) (i : Int) (h : (dec s i).2.2 = true) : bytesOf (s.extract i.toNat (i + (dec s i).2.1).toNat) = enc (dec s i).1 := by
  have de := enc_dec h
  have dl := dec_len s i h
  show nm _ = _
  rw [nm_ext, List.drop_take, de.2.2, List.take_append_of_le_length (by omega), List.take_of_length_le (by omega)]
theorem text_loop (s : ByteArray) (hs : s.size ≤ 100000) (from_ : Int) : ∀ (m : Nat) (i : Int) (out : List Int) (k : Nat), 0 ≤ i → i ≤ s.size → (s.size : Int) - i ≤ m → (out.length : Int) ≤ 4 * i → m + 30 ≤ k →
    jsonlex_text.l0 k s from_ out i = some (txt s from_ m i out)
  | 0, i, out, k, h0, hi, hm, ho, hk => by
    obtain ⟨k, rfl⟩ : ∃ j, k = j + 1 := ⟨k - 1, by omega⟩
    simp only [jsonlex_text.l0, txt]
    rw [if_neg (by omega)]
  | m + 1, i, out, k, h0, hi, hm, ho, hk => by
    obtain ⟨k, rfl⟩ : ∃ j, k = j + 1 := ⟨k - 1, by omega⟩
    simp only [jsonlex_text.l0, txt]
    by_cases a : i < (s.size : Int)
    · rw [if_pos a, if_pos a, if_pos h0]
      by_cases c1 : bt s i = 34
      · rw [if_pos c1, if_pos c1]
        by_cases c2 : (out.length : Int) > 4096
        · rw [if_pos c2, if_pos c2]
        · rw [if_neg c2, if_neg c2, wrap_id (i + 1) (by omega) (by omega)]
      rw [if_neg c1, if_neg c1]
      by_cases c2 : bt s i < 32
      · rw [if_pos c2, if_pos c2]
      rw [if_neg c2, if_neg c2]
      by_cases c3 : bt s i = 92
      · rw [if_pos c3, if_pos c3, if_pos hi, escape_at _ s i (tl_ext s i h0 hi) (by omega) k (by omega)]
        simp only [Option.bind_some]
        by_cases c4 : (esc s i).2.2 = 5
        · rw [if_pos c4, if_pos c4, c4]
        rw [if_neg c4, if_neg c4]
        by_cases c5 : (esc s i).2.2 = 0
        · have eo := esc_ok s i h0 c5
          have el := enc_len (esc s i).1
          rw [if_pos c5, if_pos c5, append_at out _ (by omega), if_pos eo.1]
          simp only [Option.bind_some]
          rw [wrap_id (i + (esc s i).2.1) (by omega) (by omega)]
          exact text_loop s hs from_ m _ _ k (by omega) (by omega) (by omega) (by rw [List.length_append]; omega) (by omega)
        · rw [if_neg c5, if_neg c5]
      rw [if_neg c3, if_neg c3, decode_at s i k (by omega) (by omega)]
      simp only [Option.bind_some]
      by_cases c4 : (dec s i).2.2 = true
      · have dl := dec_len s i c4
        have el := enc_len (dec s i).1
        have eb := bytes_dec s i c4
        have ez : (s.extract i.toNat (i + (dec s i).2.1).toNat).size ≤ s.size := by rw [ByteArray.size_extract]; omega
        rw [if_pos c4, if_pos c4, wrap_id (i + (dec s i).2.1) (by omega) (by omega), if_pos (by omega), if_pos (by omega), if_pos (by omega), eb]
        exact text_loop s hs from_ m _ _ k (by omega) (by omega) (by omega) (by rw [List.length_append]; omega) (by omega)
      · rw [if_neg c4, if_neg c4]
    · rw [if_neg a, if_neg a]
theorem text_at (s : ByteArray) (hs : s.size ≤ 100000) (from_ : Int) (k : Nat) (h0 : 0 ≤ from_) (h1 : from_ < s.size) (hk : s.size + 30 ≤ k) : jsonlex_text.f k s from_ = some (txt s from_ s.size (from_ + 1) []) := by
  unfold jsonlex_text.f
  rw [wrap_id (from_ + 1) (by omega) (by omega)]
  exact text_loop s hs from_ s.size _ _ k (by omega) (by omega) (by omega) (by simp; omega) hk
/-! ### the program's Next -/
theorem isWord_iff (l : List UInt8) : isWord l = true ↔ l = [110, 117, 108, 108] ∨ l = [116, 114, 117, 101] ∨ l = [102, 97, 108, 115, 101] := by
  unfold isWord
  simp only [Bool.or_eq_true, beq_iff_eq, or_assoc]
theorem next_j4 (s : ByteArray) (hs : s.size ≤ 100000) (a z b : Int) (k : Nat) (h0 : 0 ≤ a) (h1 : a ≤ z) (h2 : z ≤ s.size) :
    jsonlex_Next.j4 (k + 2) s a 0 2 a z b 0 ⟨#[]⟩ = some (if isWord (s.extract a.toNat z.toNat).toList = true then (2, a, z, b, 0, ⟨#[]⟩, z, 0) else (0, 0, 0, 0, 0, ⟨#[]⟩, a, 4)) := by
  rw [show k + 2 = (k + 1) + 1 from rfl]
  have w := isWord_iff (s.extract a.toNat z.toNat).toList
  simp only [jsonlex_Next.j4]
  rw [if_pos h0, if_pos h1, if_pos h2]
  by_cases w1 : (s.extract a.toNat z.toNat).toList = ([110, 117, 108, 108] : List UInt8)
  · rw [if_pos w1, if_pos (w.2 (.inl w1))]; simp [jsonlex_Next.j5]
  rw [if_neg w1]
  by_cases w2 : (s.extract a.toNat z.toNat).toList = ([116, 114, 117, 101] : List UInt8)
  · rw [if_pos w2, if_pos (w.2 (.inr (.inl w2)))]; simp [jsonlex_Next.j5]
  rw [if_neg w2]
  by_cases w3 : (s.extract a.toNat z.toNat).toList = ([102, 97, 108, 115, 101] : List UInt8)
  · rw [if_pos (w.2 (.inr (.inr w3))), w3]; simp [jsonlex_Next.j5]
  · have : ¬ isWord (s.extract a.toNat z.toNat).toList = true := fun e => by
      rcases w.1 e with e | e | e
      · exact w1 e
      · exact w2 e
      · exact w3 e
    rw [if_neg this, show ((s.extract a.toNat z.toNat).toList != ([102, 97, 108, 115, 101] : List UInt8)) = true from by simpa using w3]
    simp [jsonlex_Next.j5]
theorem next_l0 (s : ByteArray) (hs : s.size ≤ 100000) (a b : Int) (h0 : 0 ≤ a) : ∀ (m : Nat) (z : Int) (k : Nat), a ≤ z → z ≤ s.size → (s.size : Int) - z ≤ m → m + 3 ≤ k →
    jsonlex_Next.l0 k s a 0 2 a z b 0 ⟨#[]⟩ = some (if isWord (s.extract a.toNat (lts s m z).toNat).toList = true then (2, a, lts s m z, b, 0, ⟨#[]⟩, lts s m z, 0) else (0, 0, 0, 0, 0, ⟨#[]⟩, a, 4))
  | 0, z, k, h1, h2, hm, hk => by
    obtain ⟨k, rfl⟩ : ∃ j, k = j + 3 := ⟨k - 3, by omega⟩
    rw [show k + 3 = (k + 2) + 1 from rfl]
    simp only [jsonlex_Next.l0, lts]
    rw [if_neg (by omega)]
    exact next_j4 s hs a z b k h0 h1 h2
  | m + 1, z, k, h1, h2, hm, hk => by
    obtain ⟨k, rfl⟩ : ∃ j, k = j + 1 := ⟨k - 1, by omega⟩
    simp only [jsonlex_Next.l0, lts]
    by_cases c : z < (s.size : Int)
    · rw [if_pos c, if_pos (show 0 ≤ z by omega)]
      simp only [if_pos c]
      by_cases c1 : bt s z ≥ 97
      · rw [if_pos c1]
        by_cases c2 : bt s z ≤ 122
        · rw [if_pos c2, wrap_id (z + 1) (by omega) (by omega)]
          simp only [if_pos (show 97 ≤ bt s z ∧ bt s z ≤ 122 from ⟨c1, c2⟩)]
          exact next_l0 s hs a b h0 m (z + 1) k (by omega) (by omega) (by omega) (by omega)
        · rw [if_neg c2]
          simp only [if_neg (show ¬ (97 ≤ bt s z ∧ bt s z ≤ 122) from fun e => c2 e.2)]
          obtain ⟨k, rfl⟩ : ∃ j, k = j + 2 := ⟨k - 2, by omega⟩
          exact next_j4 s hs a z b k h0 h1 h2
      · rw [if_neg c1]
        simp only [if_neg (show ¬ (97 ≤ bt s z ∧ bt s z ≤ 122) from fun e => c1 e.1)]
        obtain ⟨k, rfl⟩ : ∃ j, k = j + 2 := ⟨k - 2, by omega⟩
        exact next_j4 s hs a z b k h0 h1 h2
    · rw [if_neg c]
      simp only [if_neg c]
      obtain ⟨k, rfl⟩ : ∃ j, k = j + 2 := ⟨k - 2, by omega⟩
      exact next_j4 s hs a z b k h0 h1 h2
theorem next_j6 (s : ByteArray) (hs : s.size ≤ 100000) (a : Int) (t : Bool) (k : Nat) (h0 : 0 ≤ a) (h1 : a < s.size) (hk : 2 * s.size + 40 ≤ k) :
    jsonlex_Next.j6 (k + 1) s a (bt s a) t 0 a 0 0 0 ⟨#[]⟩ = some (if t = true then (if (num s a).2.2 = 0 then (3, a, (num s a).2.1, 0, (num s a).1, ⟨#[]⟩, (num s a).2.1, 0) else (0, 0, 0, 0, 0, ⟨#[]⟩, (num s a).2.1, (num s a).2.2))
      else if bt s a = 34 then (if (txt s a s.size (a + 1) []).2.2 = 0 then (4, a, (txt s a s.size (a + 1) []).2.1, 0, 0, (txt s a s.size (a + 1) []).1, (txt s a s.size (a + 1) []).2.1, 0) else (0, 0, 0, 0, 0, ⟨#[]⟩, (txt s a s.size (a + 1) []).2.1, (txt s a s.size (a + 1) []).2.2))
      else (0, 0, 0, 0, 0, ⟨#[]⟩, a, 4)) := by
  simp only [jsonlex_Next.j6]
  by_cases c1 : t = true
  · rw [if_pos c1, if_pos c1, number_at s (by omega) a k h0 h1 (by omega)]
    simp only [Option.bind_some]
    by_cases c2 : (num s a).2.2 = 0
    · rw [if_pos c2, if_pos c2]
    · rw [if_neg c2, if_neg c2]
  rw [if_neg c1, if_neg c1]
  by_cases c2 : bt s a = 34
  · rw [if_pos c2, if_pos c2, text_at s hs a k h0 h1 (by omega)]
    simp only [Option.bind_some]
    by_cases c3 : (txt s a s.size (a + 1) []).2.2 = 0
    · rw [if_pos c3, if_pos c3]
    · rw [if_neg c3, if_neg c3]
  · rw [if_neg c2, if_neg c2]
theorem lex_at (s : ByteArray) (hs : s.size ≤ 100000) (at_ : Int) (k : Nat) (hk : 2 * s.size + 50 ≤ k) : jsonlex_Next.f k s at_ = some (nxt s at_) := by
  obtain ⟨k, rfl⟩ : ∃ j, k = j + 4 := ⟨k - 4, by omega⟩
  unfold jsonlex_Next.f nxt
  have out : jsonlex_Next.j0 (k + 4) s at_ true = some (0, 0, 0, 0, 0, ⟨#[]⟩, 0, 3) := by
    rw [show k + 4 = (k + 3) + 1 from rfl]; simp only [jsonlex_Next.j0]; rfl
  by_cases c0 : at_ < 0
  · rw [if_pos c0, if_pos (.inl c0), out]
  rw [if_neg c0]
  by_cases c1 : at_ > (s.size : Int)
  · rw [decide_eq_true c1, if_pos (.inr c1), out]
  rw [decide_eq_false c1, if_neg (by omega), show k + 4 = (k + 3) + 1 from rfl]
  simp only [jsonlex_Next.j0]
  rw [if_neg (by decide), skip_at s (by omega) at_ _ (by omega)]
  unfold skf
  rw [if_neg c0]
  simp only [Option.bind_some]
  have g0 := skp_ge s s.size at_
  have g1 := skp_le s s.size at_ (by omega)
  generalize skp s s.size at_ = a at *
  by_cases c2 : a = (s.size : Int)
  · rw [if_pos c2, if_pos c2]
  have h0 : 0 ≤ a := by omega
  have h1 : a < s.size := by omega
  rw [if_neg c2, if_neg c2, if_pos h0, if_pos h1]
  have yes : jsonlex_Next.j1 (k + 3) s a 0 (bt s a) true 0 a 0 0 0 ⟨#[]⟩ = some (1, a, a + 1, bt s a, 0, ⟨#[]⟩, a + 1, 0) := by
    rw [show k + 3 = (k + 2) + 1 from rfl]; simp only [jsonlex_Next.j1]; rw [wrap_id (a + 1) (by omega) (by omega)]; rfl
  by_cases p1 : bt s a = 91
  · rw [if_pos p1, if_pos (.inl p1), yes]
  rw [if_neg p1]
  by_cases p2 : bt s a = 93
  · rw [if_pos p2, if_pos (.inr (.inl p2)), yes]
  rw [if_neg p2]
  by_cases p3 : bt s a = 123
  · rw [if_pos p3, if_pos (.inr (.inr (.inl p3))), yes]
  rw [if_neg p3]
  by_cases p4 : bt s a = 125
  · rw [if_pos p4, if_pos (.inr (.inr (.inr (.inl p4)))), yes]
  rw [if_neg p4]
  by_cases p5 : bt s a = 44
  · rw [if_pos p5, if_pos (.inr (.inr (.inr (.inr (.inl p5))))), yes]
  rw [if_neg p5]
  by_cases p6 : bt s a = 58
  · rw [show (bt s a == 58) = true from by simpa using p6, if_pos (.inr (.inr (.inr (.inr (.inr p6))))), yes]
  rw [show (bt s a == 58) = false from by simpa using p6, if_neg (by omega), show k + 3 = (k + 2) + 1 from rfl]
  simp only [jsonlex_Next.j1]
  rw [if_neg (by decide)]
  have no : jsonlex_Next.j2 (k + 2) s a 0 (bt s a) false 0 a 0 0 0 ⟨#[]⟩ = some (if bt s a = 45 ∨ dg (bt s a) = true then (if (num s a).2.2 = 0 then (3, a, (num s a).2.1, 0, (num s a).1, ⟨#[]⟩, (num s a).2.1, 0) else (0, 0, 0, 0, 0, ⟨#[]⟩, (num s a).2.1, (num s a).2.2))
      else if bt s a = 34 then (if (txt s a s.size (a + 1) []).2.2 = 0 then (4, a, (txt s a s.size (a + 1) []).2.1, 0, 0, (txt s a s.size (a + 1) []).1, (txt s a s.size (a + 1) []).2.1, 0) else (0, 0, 0, 0, 0, ⟨#[]⟩, (txt s a s.size (a + 1) []).2.1, (txt s a s.size (a + 1) []).2.2))
      else (0, 0, 0, 0, 0, ⟨#[]⟩, a, 4)) := by
    rw [show k + 2 = (k + 1) + 1 from rfl]
    simp only [jsonlex_Next.j2]
    rw [if_neg (by decide)]
    by_cases d1 : bt s a = 45
    · rw [if_pos d1, next_j6 s hs a true k h0 h1 (by omega), if_pos rfl, if_pos (show bt s a = 45 ∨ dg (bt s a) = true from .inl d1)]
    · rw [if_neg d1, digit_at]
      simp only [Option.bind_some]
      rw [next_j6 s hs a _ k h0 h1 (by omega)]
      by_cases d2 : dg (bt s a) = true
      · rw [if_pos d2, if_pos (show bt s a = 45 ∨ dg (bt s a) = true from .inr d2)]
      · rw [if_neg d2, if_neg (show ¬ (bt s a = 45 ∨ dg (bt s a) = true) from fun e => e.elim d1 d2)]
  by_cases l1 : bt s a ≥ 97
  · rw [if_pos l1]
    by_cases l2 : bt s a ≤ 122
    · rw [decide_eq_true l2, if_pos ⟨l1, l2⟩, show k + 2 = (k + 1) + 1 from rfl]
      simp only [jsonlex_Next.j2]
      rw [if_pos trivial]
      exact next_l0 s hs a _ h0 s.size a (k + 1) (by omega) (by omega) (by omega) (by omega)
    · rw [decide_eq_false l2, if_neg (by omega)]
      exact no
  · rw [if_neg l1, if_neg (by omega)]
    exact no
/-! ### the sanity check -/
theorem awake_at (k : Nat) (hk : 100 ≤ k) : ndjqlaw03_awake.f k = some true := by
  have z : (⟨#[32, 45, 49, 50, 44]⟩ : ByteArray).size = 5 := rfl
  unfold ndjqlaw03_awake.f
  have e : nxt (⟨#[32, 45, 49, 50, 44]⟩ : ByteArray) 0 = (3, 1, 4, 0, -12, ⟨#[]⟩, 4, 0) := by
    have a : skp (⟨#[32, 45, 49, 50, 44]⟩ : ByteArray) 5 0 = 1 := by decide +kernel
    have b : bt (⟨#[32, 45, 49, 50, 44]⟩ : ByteArray) 1 = 45 := by decide +kernel
    have c : num (⟨#[32, 45, 49, 50, 44]⟩ : ByteArray) 1 = (-12, 4, 0) := by decide +kernel
    unfold nxt
    rw [z, a, b, c]
    rfl
  rw [lex_at _ (by rw [z]; omega) 0 k (by rw [z]; omega), e]
  have t : (⟨#[]⟩ : ByteArray).toList = [] := by
    unfold ByteArray.toList ByteArray.toList.loop
    rfl
  simp [t]
/-! ### bytes at an offset -/
theorem at_drop {p : ByteArray} {i : Int} {l t : List Int} (h0 : 0 ≤ i) (h : (nm p).drop i.toNat = l ++ t) (j : Nat) (hj : j < l.length) (x : Int) (hx' : l.getD j 0 = x) : i + j < (p.size : Int) ∧ bt p (i + j) = x := by
  have := drop_bt h0 h j hj
  exact ⟨this.1, by rw [this.2, hx']⟩
theorem drop_next {p : ByteArray} {i : Int} {l t : List Int} (h0 : 0 ≤ i) (h : (nm p).drop i.toNat = l ++ t) : (nm p).drop (i + (l.length : Int)).toNat = t := by
  have := congrArg (List.drop l.length) h
  rw [List.drop_drop, List.drop_left] at this
  rw [← this]
  congr 1
  omega
theorem nm_app (s t : ByteArray) : nm (s ++ t) = nm s ++ nm t := by unfold nm; rw [ByteArray.data_append, Array.toList_append, List.map_append]
theorem nm_bytes (s : ByteArray) : strOfNums (bytesOf s) = strOfNums (nm s) := rfl
/-! ### decimal digits -/
def dl : Nat → Nat → List Int → List Int
  | 0, _, out => out
  | f + 1, a, out => if a = 0 then out else dl f (a / 10) ((48 + (a : Int) % 10) :: out)
def dval : List Int → Int → Int
  | [], v => v
  | c :: t, v => dval t (v * 10 + (c - 48))
def digs (L : List Int) : Prop := ∀ c ∈ L, 48 ≤ c ∧ c ≤ 57
theorem dl_val : ∀ (f a : Nat) (out : List Int), a < 10 ^ f → dval (dl f a out) 0 = dval out a
  | 0, a, out, h => by
    have : a = 0 := by simpa using h
    subst this; rfl
  | f + 1, a, out, h => by
    simp only [dl]
    by_cases z : a = 0
    · subst z; rw [if_pos rfl]; rfl
    · rw [if_neg z, dl_val f (a / 10) _ (by rw [Nat.pow_succ] at h; omega)]
      simp only [dval]
      congr 1
      omega
theorem dl_digs : ∀ (f a : Nat) (out : List Int), digs out → digs (dl f a out)
  | 0, _, out, h => h
  | f + 1, a, out, h => by
    simp only [dl]
    split
    · exact h
    · refine dl_digs f _ _ (fun c hc => ?_)
      rcases List.mem_cons.1 hc with e | e
      · omega
      · exact h c e
theorem dl_head : ∀ (f a : Nat) (out : List Int), 0 < a → a < 10 ^ f → ∃ c t, dl f a out = c :: t ∧ 49 ≤ c ∧ c ≤ 57
  | 0, a, out, h, h' => by simp at h'; omega
  | f + 1, a, out, h, h' => by
    simp only [dl]
    rw [if_neg (by omega)]
    by_cases z : a / 10 = 0
    · rw [z]
      cases f with
      | zero => exact ⟨_, _, rfl, by omega, by omega⟩
      | succ f => simp only [dl]; exact ⟨_, _, rfl, by omega, by omega⟩
    · exact dl_head f (a / 10) _ (by omega) (by rw [Nat.pow_succ] at h'; omega)
theorem dl_len : ∀ (f a : Nat) (out : List Int), (dl f a out).length ≤ f + out.length
  | 0, a, out => by simp [dl]
  | f + 1, a, out => by
    simp only [dl]
    split
    · omega
    · have := dl_len f (a / 10) ((48 + (a : Int) % 10) :: out)
      rw [List.length_cons] at this
      omega
theorem dval_ge : ∀ (L : List Int) (v : Int), digs L → 0 ≤ v → v ≤ dval L v
  | [], v, _, _ => Int.le_refl _
  | c :: t, v, h, h0 => by
    have hc := h c (List.mem_cons_self ..)
    have := dval_ge t (v * 10 + (c - 48)) (fun x hx' => h x (List.mem_cons_of_mem _ hx')) (by omega)
    simp only [dval]
    omega
/-- The digits of a number, without its sign. -/
def ndig (a : Nat) : List Int := if a = 0 then [48] else dl 20 a []
theorem ndig_facts (a : Nat) (h : a ≤ 9223372036854775808) : digs (ndig a) ∧ dval (ndig a) 0 = a ∧ (ndig a).length ≤ 20 ∧ ∃ c t, ndig a = c :: t ∧ (c = 48 → t = []) := by
  unfold ndig
  by_cases z : a = 0
  · subst z
    rw [if_pos rfl]
    exact ⟨fun c hc => by simp at hc; omega, rfl, by simp, 48, [], rfl, fun _ => rfl⟩
  · rw [if_neg z]
    have lt : a < 10 ^ 20 := by omega
    obtain ⟨c, t, e, h1, h2⟩ := dl_head 20 a [] (by omega) lt
    exact ⟨dl_digs 20 a [] (fun c hc => by simp at hc), dl_val 20 a [] lt, by have := dl_len 20 a []; simpa using this, c, t, e, fun e => by omega⟩
/-! ### the reference's Digits -/
theorem tm10 (m : Int) : (0 ≤ m → Int.tmod m 10 = m % 10 ∧ Int.tdiv m 10 = m / 10) ∧ (m < 0 → Int.tmod m 10 = -((-m) % 10) ∧ Int.tdiv m 10 = -((-m) / 10)) := by
  constructor
  · intro h
    exact ⟨Int.tmod_eq_emod_of_nonneg h, Int.tdiv_eq_ediv_of_nonneg h⟩
  · intro h
    have e : m = -(-m) := by omega
    constructor
    · rw [e, Int.neg_tmod, Int.tmod_eq_emod_of_nonneg (by omega)]; omega
    · rw [e, Int.neg_tdiv, Int.tdiv_eq_ediv_of_nonneg (by omega)]; omega
theorem digits_loop (n : Int) : ∀ (f : Nat) (m : Int) (out : List Int) (k : Nat), -9223372036854775808 ≤ m → m ≤ 9223372036854775807 → m.natAbs < 10 ^ f → out.length + f ≤ 100 → f + 1 ≤ k →
    ndjqref05_Digits.l0 k n out m = some (strOfNums ((if n < 0 then [45] else []) ++ dl f m.natAbs out))
  | 0, m, out, k, h1, h2, hf, ho, hk => by
    obtain ⟨k, rfl⟩ : ∃ j, k = j + 1 := ⟨k - 1, by omega⟩
    have z : m = 0 := by simp at hf; omega
    simp only [ndjqref05_Digits.l0, dl]
    rw [if_pos z]
    by_cases c : n < 0
    · rw [if_pos c, if_pos c]
      simp only [Option.bind_some, List.length_cons, List.length_nil]
      rw [if_pos (by omega)]
    · rw [if_neg c, if_neg c]; rfl
  | f + 1, m, out, k, h1, h2, hf, ho, hk => by
    obtain ⟨k, rfl⟩ : ∃ j, k = j + 1 := ⟨k - 1, by omega⟩
    have t10 := tm10 m
    rw [Nat.pow_succ] at hf
    simp only [ndjqref05_Digits.l0, dl]
    by_cases z : m = 0
    · rw [if_pos z, if_pos (show m.natAbs = 0 by omega)]
      by_cases c : n < 0
      · rw [if_pos c, if_pos c]
        simp only [Option.bind_some, List.length_cons, List.length_nil]
        rw [if_pos (by omega)]
      · rw [if_neg c, if_neg c]; rfl
    · rw [if_neg z, if_neg (show ¬ m.natAbs = 0 by omega)]
      by_cases p : 0 ≤ m
      · obtain ⟨e1, e2⟩ := t10.1 p
        rw [e1, e2, if_neg (by omega)]
        simp only [Option.bind_some, List.length_cons, List.length_nil]
        rw [if_pos (by omega), wrap_id (48 + m % 10) (by omega) (by omega), wrap_id (m / 10) (by omega) (by omega), show (48 + m % 10) % 256 = 48 + ((m.natAbs : Nat) : Int) % 10 from by omega]
        have ih := digits_loop n f (m / 10) ([48 + ((m.natAbs : Nat) : Int) % 10] ++ out) k (by omega) (by omega) (by omega) (by simp; omega) (by omega)
        rw [ih, show (m / 10).natAbs = m.natAbs / 10 from by omega]
        rfl
      · obtain ⟨e1, e2⟩ := t10.2 (by omega)
        rw [e1, e2]
        have fin : ∀ x : Int, x = 48 + ((m.natAbs : Nat) : Int) % 10 → ndjqref05_Digits.l0 k n ([x] ++ out) (wrap64 (-((-m) / 10))) = some (strOfNums ((if n < 0 then [45] else []) ++ dl f (m.natAbs / 10) ((48 + (m.natAbs : Int) % 10) :: out))) := by
          intro x hx'
          subst hx'
          rw [wrap_id _ (by omega) (by omega)]
          have ih := digits_loop n f (-((-m) / 10)) ([48 + ((m.natAbs : Nat) : Int) % 10] ++ out) k (by omega) (by omega) (by omega) (by simp; omega) (by omega)
          rw [ih, show (-((-m) / 10)).natAbs = m.natAbs / 10 from by omega]
          rfl
        by_cases c : -((-m) % 10) < 0
        · rw [if_pos c]
          simp only [Option.bind_some, List.length_cons, List.length_nil]
          rw [if_pos (by omega), wrap_id (-(-((-m) % 10))) (by omega) (by omega), wrap_id (48 + -(-((-m) % 10))) (by omega) (by omega)]
          exact fin _ (by omega)
        · rw [if_neg c]
          simp only [Option.bind_some, List.length_cons, List.length_nil]
          rw [if_pos (by omega), wrap_id (48 + -((-m) % 10)) (by omega) (by omega)]
          exact fin _ (by omega)
def ntext (n : Int) : List Int := (if n < 0 then [45] else []) ++ ndig n.natAbs
theorem digits_at (n : Int) (h1 : -9223372036854775808 ≤ n) (h2 : n ≤ 9223372036854775807) (k : Nat) (hk : 21 ≤ k) : ndjqref05_Digits.f k n = some (strOfNums (ntext n)) := by
  unfold ndjqref05_Digits.f ntext ndig
  by_cases z : n = 0
  · subst z; rfl
  · rw [if_neg z, digits_loop n 20 n [] k h1 h2 (by omega) (by simp) hk, if_neg (show ¬ n.natAbs = 0 by omega)]
theorem ntext_byte (n : Int) (h1 : -9223372036854775808 ≤ n) (h2 : n ≤ 9223372036854775807) : ∀ c ∈ ntext n, 0 ≤ c ∧ c ≤ 255 := by
  intro c hc
  have f := (ndig_facts n.natAbs (by omega)).1
  unfold ntext at hc
  rcases List.mem_append.1 hc with e | e
  · split at e
    · simp at e; omega
    · simp at e
  · have := f c e; omega
/-! ### the text of a number -/
theorem nil_list : (⟨#[]⟩ : ByteArray).toList = [] := by
  unfold ByteArray.toList ByteArray.toList.loop
  rfl
theorem rvalid_nil (k : Nat) (hk : 2 ≤ k) : ndjqref01_Valid.f k (⟨#[]⟩ : ByteArray) = some true := by
  obtain ⟨k, rfl⟩ : ∃ j, k = j + 1 := ⟨k - 1, by omega⟩
  unfold ndjqref01_Valid.f ndjqref01_Runes.f
  simp only [ndjqref01_Runes.l0]
  rw [if_neg (by decide)]
  rfl
theorem measure_at (n : Int) (k : Nat) (hk : 20 ≤ k) : ndjqref02_measure.f k 3 n (⟨#[]⟩ : ByteArray) [] [] 0 = some (1, 0, true) := by
  obtain ⟨k, rfl⟩ : ∃ j, k = j + 10 := ⟨k - 10, by omega⟩
  have v := rvalid_nil (k + 8) (by omega)
  have z : (⟨#[]⟩ : ByteArray).size = 0 := rfl
  simp [ndjqref02_measure.f, ndjqref02_measure.j0, ndjqref02_measure.j1, ndjqref02_measure.l0, ndjqref02_measure.l1, v, z]
theorem text_num (n : Int) (h1 : -9223372036854775808 ≤ n) (h2 : n ≤ 9223372036854775807) (k : Nat) (hk : 40 ≤ k) : ndjqref05_Text.f k 3 n (⟨#[]⟩ : ByteArray) [] [] = some (strOfNums (ntext n)) := by
  obtain ⟨k, rfl⟩ : ∃ j, k = j + 1 := ⟨k - 1, by omega⟩
  unfold ndjqref05_Text.f ndjqref02_Valid.f
  rw [measure_at n _ (by omega)]
  simp only [Option.bind_some]
  rw [if_pos trivial, if_pos (by omega)]
  simp only [Option.bind_some]
  rw [if_pos (by decide)]
  simp only [ndjqref05_write.f]
  rw [if_neg (by omega), if_neg (by omega), if_neg (by omega), if_pos trivial, digits_at n h1 h2 k (by omega)]
  simp only [Option.bind_some, List.nil_append, List.length_nil]
  have hb := ntext_byte n h1 h2
  have hz : (strOfNums (ntext n)).size = (ntext n).length := by rw [← nm_len, nm_strOf _ hb]
  have hl := (ndig_facts n.natAbs (by omega)).2.2.1
  have hl2 : (ntext n).length ≤ 21 := by
    unfold ntext
    rw [List.length_append]
    split
    · simp; omega
    · simp; omega
  rw [if_pos (by omega)]
  simp only [Option.bind_some]
  rw [nm_bytes, nm_strOf _ hb]
/-! ### reading it -/
theorem dgs_list (s : ByteArray) (t : List Int) (ht : ∀ c t', t = c :: t' → dg c = false) : ∀ (D : List Int) (m : Nat) (i v : Int), 0 ≤ i → (nm s).drop i.toNat = D ++ t → digs D → 0 ≤ v → dval D v ≤ 9223372036854775808 → (s.size : Int) - i ≤ m → i ≤ s.size →
    dgs s m i v true = (i + D.length, dval D v, true)
  | [], m, i, v, h0, h, hd, hv, hb, hm, hi => by
    have h' : (nm s).drop i.toNat = t := by simpa using h
    simp only [List.length_nil, dval]
    cases m with
    | zero => simp [dgs]
    | succ m =>
      simp only [dgs]
      by_cases c : i < (s.size : Int)
      · rw [if_pos c]
        cases t with
        | nil =>
          have := congrArg List.length h'
          rw [List.length_drop, nm_len, List.length_nil] at this
          omega
        | cons x t' =>
          have b := at_drop (p := s) (l := [x]) (t := t') h0 (by simpa using h') 0 (by simp) x rfl
          rw [show i + ((0 : Nat) : Int) = i from by omega] at b
          rw [b.2, ht x t' rfl, if_neg (by decide)]
          simp
      · rw [if_neg c]; simp
  | c :: D, m, i, v, h0, h, hd, hv, hb, hm, hi => by
    have hc := hd c (List.mem_cons_self ..)
    have b := at_drop (p := s) (l := c :: D) (t := t) h0 h 0 (by simp) c rfl
    rw [show i + ((0 : Nat) : Int) = i from by omega] at b
    obtain ⟨m, rfl⟩ : ∃ q, m = q + 1 := ⟨m - 1, by omega⟩
    have hD : digs D := fun x hx' => hd x (List.mem_cons_of_mem _ hx')
    have hn : (nm s).drop (i + 1).toNat = D ++ t := by
      have := drop_next (p := s) (l := [c]) (t := D ++ t) h0 (by simpa using h)
      simpa using this
    simp only [dval] at hb ⊢
    have ge := dval_ge D (v * 10 + (c - 48)) hD (by omega)
    simp only [dgs]
    rw [if_pos b.1, b.2, if_pos ((dg_iff c).2 hc), if_neg (by omega), dgs_list s t ht D m (i + 1) _ (by omega) hn hD (by omega) hb (by omega) (by omega)]
    rw [List.length_cons]
    congr 1
    omega
/-- A number's text, and what follows it. -/
theorem num_text (s : ByteArray) (n : Int) (h1 : -9223372036854775808 ≤ n) (h2 : n ≤ 9223372036854775807) (t : List Int) (ht : ∀ c t', t = c :: t' → dg c = false) (hs : nm s = ntext n ++ t) :
    (bt s 0 = 45 ∨ dg (bt s 0) = true) ∧ 0 < s.size ∧ num s 0 = numF s 0 (decide (n < 0)) (((ntext n).length : Int), ((n.natAbs : Nat) : Int), true) := by
  obtain ⟨f1, f2, f3, c, u, f4, f5⟩ := ndig_facts n.natAbs (by omega)
  have hz := congrArg List.length hs
  rw [nm_len, List.length_append] at hz
  have hc := f1 c (by rw [f4]; exact List.mem_cons_self ..)
  by_cases neg : n < 0
  · have nt : ntext n = 45 :: ndig n.natAbs := by unfold ntext; rw [if_pos neg]; rfl
    rw [nt] at hs hz ⊢
    rw [List.length_cons] at hz ⊢
    have hl : (ndig n.natAbs).length = u.length + 1 := by rw [f4]; rfl
    have b0 := at_drop (p := s) (i := 0) (l := [45]) (t := ndig n.natAbs ++ t) (by omega) (by simpa using hs) 0 (by simp) 45 rfl
    have b0' : bt s 0 = 45 := b0.2
    have d1 : (nm s).drop (1 : Int).toNat = ndig n.natAbs ++ t := by rw [hs]; rfl
    have b1 := at_drop (p := s) (i := 1) (l := ndig n.natAbs) (t := t) (by omega) d1 0 (by omega) c (by rw [f4]; rfl)
    have b1' : bt s 1 = c := b1.2
    refine ⟨.inl b0', by omega, ?_⟩
    unfold num num1
    rw [if_pos b0', decide_eq_true neg, show (0 : Int) + 1 = 1 from rfl, if_neg (by omega), b1', (dg_iff c).2 hc, if_neg (by decide), if_neg (by
      rintro ⟨e, g1, g2⟩
      have eu := f5 e
      rw [eu] at f4
      cases t with
      | nil => rw [f4] at hz; simp at hz; omega
      | cons x t' =>
        have b2 := at_drop (p := s) (i := 1) (l := [48, x]) (t := t') (by omega) (by rw [d1, f4, e]; rfl) 1 (by simp) x rfl
        have b2' : bt s (1 + 1) = x := b2.2
        rw [b2', ht x t' rfl] at g2
        cases g2), dgs_list s t ht (ndig n.natAbs) s.size 1 0 (by omega) d1 f1 (by omega) (by omega) (by omega) (by omega), f2]
    congr 2
    omega
  · have nt : ntext n = ndig n.natAbs := by unfold ntext; rw [if_neg neg]; rfl
    rw [nt] at hs hz ⊢
    have hl : (ndig n.natAbs).length = u.length + 1 := by rw [f4]; rfl
    have d0 : (nm s).drop (0 : Int).toNat = ndig n.natAbs ++ t := by rw [hs]; rfl
    have b0 := at_drop (p := s) (i := 0) (l := ndig n.natAbs) (t := t) (by omega) d0 0 (by omega) c (by rw [f4]; rfl)
    have b0' : bt s 0 = c := b0.2
    refine ⟨.inr (by rw [b0']; exact (dg_iff c).2 hc), by omega, ?_⟩
    unfold num num1
    rw [b0', if_neg (by omega), decide_eq_false neg, if_neg (by omega), (dg_iff c).2 hc, if_neg (by decide), if_neg (by
      rintro ⟨e, g1, g2⟩
      have eu := f5 e
      rw [eu] at f4
      cases t with
      | nil => rw [f4] at hz; simp at hz; omega
      | cons x t' =>
        have b2 := at_drop (p := s) (i := 0) (l := [48, x]) (t := t') (by omega) (by rw [d0, f4, e]; rfl) 1 (by simp) x rfl
        have b2' : bt s (0 + 1) = x := b2.2
        rw [b2', ht x t' rfl] at g2
        cases g2), dgs_list s t ht (ndig n.natAbs) s.size 0 0 (by omega) d0 f1 (by omega) (by omega) (by omega) (by omega), f2]
    congr 2
    omega
theorem skp_zero (p : ByteArray) (h : 0 < p.size) (hb : blk (bt p 0) = false) : skp p p.size 0 = 0 := by
  obtain ⟨z, hz⟩ : ∃ z, p.size = z + 1 := ⟨p.size - 1, by omega⟩
  rw [hz]
  simp only [skp]
  rw [if_pos (by omega), hb, if_neg (by decide)]
theorem nxt_num (p : ByteArray) (h : 0 < p.size) (hb : bt p 0 = 45 ∨ dg (bt p 0) = true) : nxt p 0 = (if (num p 0).2.2 = 0 then (3, 0, (num p 0).2.1, 0, (num p 0).1, ⟨#[]⟩, (num p 0).2.1, 0) else (0, 0, 0, 0, 0, ⟨#[]⟩, (num p 0).2.1, (num p 0).2.2)) := by
  have hr : bt p 0 = 45 ∨ (48 ≤ bt p 0 ∧ bt p 0 ≤ 57) := hb.imp id (dg_iff _).1
  have nb : blk (bt p 0) = false := by unfold blk; simp; omega
  unfold nxt
  rw [skp_zero p h nb, if_neg (by omega), if_neg (by omega), if_neg (by omega), if_neg (by omega), if_pos hb]
theorem JsonlexNumbers : ndjqlaw03_JsonlexNumbers.Pure := by
  intro n hw
  refine ⟨1000, ?_⟩
  obtain ⟨h1, h2⟩ : -9223372036854775808 ≤ n ∧ n ≤ 9223372036854775807 := by
    simp [Lit.wf, IntKind.min, IntKind.max, IntKind.signed, IntKind.bits] at hw
    omega
  have hb := ntext_byte n h1 h2
  obtain ⟨f1, f2, f3, c, u, f4, f5⟩ := ndig_facts n.natAbs (by omega)
  have hl2 : (ntext n).length ≤ 21 := by
    unfold ntext
    rw [List.length_append]
    split
    · simp; omega
    · simp; omega
  unfold ndjqlaw03_JsonlexNumbers.f
  rw [text_num n h1 h2 _ (by omega)]
  simp only [Option.bind_some]
  have hs : nm (strOfNums (ntext n)) = ntext n := nm_strOf _ hb
  generalize strOfNums (ntext n) = s at *
  have hz := congrArg List.length hs
  rw [nm_len] at hz
  -- the text itself
  obtain ⟨a1, a2, a3⟩ := num_text s n h1 h2 [] (fun c t' e => by cases e) (by simpa using hs)
  have a4 : num s 0 = (n, (s.size : Int), 0) := by
    rw [a3]
    unfold numF
    rw [if_neg (by
      rintro (⟨e, _⟩ | e | ⟨e, e'⟩)
      · simp only [] at e; omega
      · cases e
      · simp only [decide_eq_false_iff_not] at e; simp only [] at e'; omega)]
    simp only [decide_eq_true_eq]
    by_cases neg : n < 0
    · rw [if_pos neg]; congr 1; omega; congr 1; omega
    · rw [if_neg neg]; congr 1; omega; congr 1; omega
  have b1 : nxt s 0 = (3, 0, (s.size : Int), 0, n, ⟨#[]⟩, (s.size : Int), 0) := by rw [nxt_num s a2 a1, a4, if_pos rfl]
  rw [lex_at s (by omega) 0 _ (by omega), b1]
  simp only [Option.bind_some]
  rw [if_pos trivial, if_pos trivial, nil_list]
  simp only [BEq.rfl, Bool.not_true, Bool.or_false]
  rw [show (1000 : Nat) = 999 + 1 from rfl]
  simp only [ndjqlaw03_JsonlexNumbers.j0]
  rw [if_neg (by decide), if_pos (by omega)]
  -- with a fraction, with an exponent
  have after : ∀ (x : Int) (y : Int) (q : ByteArray), (x = 46 ∨ x = 101) → nm q = ntext n ++ [x, y] → q.size ≤ 100 → ∃ z, nxt q 0 = z ∧ z.2.2.2.2.2.2.2 = 7 ∧ z.2.2.2.2.2.2.1 = 0 := by
    intro x y q hx' hq hqs
    obtain ⟨e1, e2, e3⟩ := num_text q n h1 h2 [x, y] (fun c t' e => by
      injection e with e _
      rw [← e]
      rcases hx' with e | e <;> rw [e] <;> decide) hq
    have hqz := congrArg List.length hq
    rw [nm_len, List.length_append] at hqz
    simp only [List.length_cons, List.length_nil] at hqz
    have dq : (nm q).drop (((ntext n).length : Int)).toNat = [x, y] ++ [] := by rw [hq, Int.toNat_natCast, List.drop_left]; rfl
    have b := at_drop (p := q) (by omega) dq 0 (by simp) x rfl
    rw [show ((ntext n).length : Int) + ((0 : Nat) : Int) = ((ntext n).length : Int) from by omega] at b
    have e4 : num q 0 = (0, 0, 7) := by
      rw [e3]
      unfold numF
      rw [if_pos (.inl ⟨b.1, by rw [b.2]; omega⟩)]
    refine ⟨_, rfl, ?_, ?_⟩
    · rw [nxt_num q e2 e1, e4, if_neg (by decide)]
    · rw [nxt_num q e2 e1, e4, if_neg (by decide)]
  have z2 : (s ++ (⟨#[46, 48]⟩ : ByteArray)).size = s.size + 2 := ByteArray.size_append
  have z3 : (s ++ (⟨#[101, 49]⟩ : ByteArray)).size = s.size + 2 := ByteArray.size_append
  have z4 : ((⟨#[48]⟩ : ByteArray) ++ s).size = 1 + s.size := ByteArray.size_append
  obtain ⟨z, ez, p1, p2⟩ := after 46 48 (s ++ (⟨#[46, 48]⟩ : ByteArray)) (.inl rfl) (by rw [nm_app, hs]; rfl) (by omega)
  obtain ⟨z', ez', p1', p2'⟩ := after 101 49 (s ++ (⟨#[101, 49]⟩ : ByteArray)) (.inr rfl) (by rw [nm_app, hs]; rfl) (by omega)
  rw [lex_at _ (by omega) 0 _ (by omega), ez]
  simp only [Option.bind_some]
  rw [lex_at _ (by omega) 0 _ (by omega), ez']
  simp only [Option.bind_some]
  rw [if_pos (by omega), lex_at _ (by omega) 0 _ (by omega)]
  simp only [Option.bind_some]
  rw [if_pos p1, if_pos p2, if_pos p1', if_pos p2']
  -- behind a zero
  have hq : nm ((⟨#[48]⟩ : ByteArray) ++ s) = 48 :: ntext n := by rw [nm_app, hs]; rfl
  generalize (⟨#[48]⟩ : ByteArray) ++ s = q at *
  have g0 := at_drop (p := q) (i := 0) (l := [48]) (t := ntext n) (by omega) (by simpa using hq) 0 (by simp) 48 rfl
  have g0' : bt q 0 = 48 := g0.2
  have gd : dg (bt q 0) = true := by rw [g0']; decide
  by_cases neg : n < 0
  · have nt : ntext n = 45 :: ndig n.natAbs := by unfold ntext; rw [if_pos neg]; rfl
    have d0 : (nm q).drop (0 : Int).toNat = [48] ++ (45 :: ndig n.natAbs) := by rw [hq, nt]; rfl
    have g1 := at_drop (p := q) (i := 0) (l := [48, 45]) (t := ndig n.natAbs) (by omega) (by rw [d0]; rfl) 1 (by simp) 45 rfl
    have g1' : bt q (0 + 1) = 45 := g1.2
    have dd := dgs_list q (45 :: ndig n.natAbs) (fun c t' e => by injection e with e _; rw [← e]; decide) [48] q.size 0 0 (by omega) d0 (fun c hc => by simp at hc; omega) (by omega) (by decide) (by omega) (by omega)
    have e4 : num q 0 = (0, 1, 0) := by
      unfold num num1
      rw [if_neg (by rw [g0']; decide), if_neg (by omega), if_neg (by rw [gd]; decide), if_neg (by rintro ⟨_, _, e⟩; rw [g1'] at e; exact absurd e (by decide)), dd]
      unfold numF
      rw [if_neg (by
        rintro (⟨_, e⟩ | e | ⟨_, e⟩)
        · simp only [List.length_cons, List.length_nil] at e
          rw [show (0 : Int) + ((0 + 1 : Nat) : Int) = 0 + 1 from rfl, g1'] at e
          omega
        · cases e
        · exact absurd e (by decide))]
      rfl
    rw [nxt_num q (by omega) (.inr gd), e4, if_pos rfl, if_pos neg, if_neg (by omega), if_pos rfl, if_pos rfl, awake_at _ (by omega)]
    rfl
  · have nt : ntext n = ndig n.natAbs := by unfold ntext; rw [if_neg neg]; rfl
    have hc := f1 c (by rw [f4]; exact List.mem_cons_self ..)
    have g1 := at_drop (p := q) (i := 0) (l := [48, c]) (t := u) (by omega) (by show (nm q).drop 0 = _; rw [List.drop_zero, hq, nt, f4]; rfl) 1 (by simp) c rfl
    have g1' : bt q (0 + 1) = c := g1.2
    have e4 : num q 0 = (0, 1, 4) := by
      unfold num num1
      rw [if_neg (by rw [g0']; decide), if_neg (by omega), if_neg (by rw [gd]; decide), if_pos ⟨g0', g1.1, by rw [g1']; exact (dg_iff c).2 hc⟩]
      rfl
    have en : nxt q 0 = (0, 0, 0, 0, 0, ⟨#[]⟩, 1, 4) := by rw [nxt_num q (by omega) (.inr gd), e4]; rfl
    rw [en, if_neg neg, if_pos rfl, if_pos rfl, if_pos (by omega), awake_at _ (by omega)]
    rfl

end Go.Proofs.Ytcnojfoiolbnaaa.Pure
