/- UtfShortest's pure law: every code point has an encoding that Decode reads back, and no proper beginning or end of it is valid; for every number. No further condition. -/
import Derived.Test.YtldfeljehjbjeaaQUtfShortestx2
import Derived.Laws.BitsLemmas
namespace Go.Proofs.Ytldfeljehjbjeaa.Pure
open Go.RowKit Go.Proofs.Ytldfeljehjbjeaa.QUtfShortest Go.Proofs.YtldfeljehjbjeaaW.PrintWords Go.Proofs.YtldfeljehjbjeaaW.PrintLast
set_option linter.unusedVariables false
set_option linter.unusedSimpArgs false
/-! ### UTF-8, plain: code points, their encodings, and decoding at an offset -/
def pt (r : Int) : Bool := decide (0 ≤ r) && decide (r ≤ 1114111) && (decide (r < 55296) || decide (57343 < r))
theorem pt_iff (r : Int) : pt r = true ↔ 0 ≤ r ∧ r ≤ 1114111 ∧ (r < 55296 ∨ 57343 < r) := by
  simp only [pt, Bool.and_eq_true, Bool.or_eq_true, decide_eq_true_eq, and_assoc]
/-- A byte that continues an encoding: its six bits. -/
def cb (s : ByteArray) (i : Int) : Option Int := if 0 ≤ i ∧ i < (s.size : Int) ∧ 128 ≤ bt s i ∧ bt s i < 192 then some (bt s i - 128) else none
theorem cb_bd {s : ByteArray} {i a : Int} (h : cb s i = some a) : 0 ≤ a ∧ a < 64 ∧ i < (s.size : Int) ∧ 0 ≤ i ∧ bt s i = 128 + a := by
  unfold cb at h
  split at h
  · rename_i hc
    injection h with h
    omega
  · cases h
def bad : Int × Int × Bool := (0, 0, false)
def fin (r n least : Int) : Int × Int × Bool := if least ≤ r ∧ pt r = true then (r, n, true) else bad
def dec2 (s : ByteArray) (i r : Int) : Int × Int × Bool := match cb s (i + 1) with
  | some a => fin (r * 64 + a) 2 128
  | none => bad
def dec3 (s : ByteArray) (i r : Int) : Int × Int × Bool := match cb s (i + 1) with
  | some a => (match cb s (i + 2) with
    | some b => fin ((r * 64 + a) * 64 + b) 3 2048
    | none => bad)
  | none => bad
def dec4 (s : ByteArray) (i r : Int) : Int × Int × Bool := match cb s (i + 1) with
  | some a => (match cb s (i + 2) with
    | some b => (match cb s (i + 3) with
      | some c => fin (((r * 64 + a) * 64 + b) * 64 + c) 4 65536
      | none => bad)
    | none => bad)
  | none => bad
/-- What Decode answers. -/
def dec (s : ByteArray) (i : Int) : Int × Int × Bool :=
  if i < 0 then bad else if (s.size : Int) ≤ i then bad
  else if bt s i < 128 then (bt s i, 1, true)
  else if bt s i < 192 then bad
  else if bt s i < 224 then dec2 s i (bt s i - 192)
  else if bt s i < 240 then dec3 s i (bt s i - 224)
  else if bt s i < 248 then dec4 s i (bt s i - 240)
  else bad
/-- The encoding of a code point. -/
def enc (r : Int) : List Int :=
  if r < 128 then [r] else if r < 2048 then [192 + r / 64, 128 + r % 64]
  else if r < 65536 then [224 + r / 4096, 128 + r / 64 % 64, 128 + r % 64]
  else [240 + r / 262144, 128 + r / 4096 % 64, 128 + r / 64 % 64, 128 + r % 64]
theorem enc_len (r : Int) : 1 ≤ (enc r).length ∧ (enc r).length ≤ 4 := by unfold enc; split <;> (try split) <;> (try split) <;> simp
theorem enc_byte (r : Int) (h : pt r = true) : ∀ c ∈ enc r, 0 ≤ c ∧ c ≤ 255 := by
  rw [pt_iff] at h
  intro c hc
  unfold enc at hc
  split at hc
  · simp at hc; omega
  · split at hc
    · simp at hc; omega
    · split at hc
      · simp at hc; omega
      · simp at hc; omega
theorem wrap_id (n : Int) (h : -9223372036854775808 ≤ n) (h' : n ≤ 9223372036854775807) : wrap64 n = n := by unfold wrap64; omega
theorem i64_wraps (n : Int) (h₀ : 0 ≤ n) (h₁ : n < 2 ^ 62) : IntKind.i64.wrap n = n := by rw [IntKind.wrap_i64]; omega
theorem i64_mask (i : Nat) (hi : i ≤ 62) (x : Int) (h₀ : 0 ≤ x) (h₁ : x < 2 ^ 62) : bits .and .i64 x (2 ^ i - 1) = x % 2 ^ i := bits_mask .i64 62 (by decide) i64_wraps i hi x h₀ h₁
theorem i64_join (i : Nat) (x y : Int) (hx₀ : 0 ≤ x) (hx : x % 2 ^ i = 0) (hx₁ : x < 2 ^ 62) (hy₀ : 0 ≤ y) (hy : y < 2 ^ i) (hy₁ : y < 2 ^ 62) : bits .or .i64 x y = x + y :=
  bits_join .i64 62 (by decide) i64_wraps i x y hx₀ hx hx₁ hy₀ hy hy₁
theorem or6 (r c : Int) (h : 0 ≤ r) (h' : r < 1048576) (hc : 0 ≤ c) (hc' : c < 64) : bits .or .i64 (wrap64 (r * 64)) c = r * 64 + c := by
  rw [wrap_id _ (by omega) (by omega)]
  exact i64_join 6 (r * 64) c (by omega) (by omega) (by omega) hc (by omega) (by omega)
theorem and63 (x : Int) (h : 0 ≤ x) (h' : x < 4611686018427387904) : bits .and .i64 x 63 = x % 64 := i64_mask 6 (by decide) x h (by omega)
theorem and31 (x : Int) (h : 0 ≤ x) (h' : x < 4611686018427387904) : bits .and .i64 x 31 = x % 32 := i64_mask 5 (by decide) x h (by omega)
theorem and15 (x : Int) (h : 0 ≤ x) (h' : x < 4611686018427387904) : bits .and .i64 x 15 = x % 16 := i64_mask 4 (by decide) x h (by omega)
theorem and7 (x : Int) (h : 0 ≤ x) (h' : x < 4611686018427387904) : bits .and .i64 x 7 = x % 8 := i64_mask 3 (by decide) x h (by omega)
theorem u8_192 (x : Int) (h : 0 ≤ x) (h' : x ≤ 255) : bits .and .u8 x 192 = x / 64 * 64 := by
  obtain ⟨n, rfl⟩ := Int.eq_ofNat_of_zero_le h
  have hn : n < 256 := by omega
  have key : ∀ m : Fin 256, bits .and .u8 ((m.val : Nat) : Int) 192 = ((m.val : Nat) : Int) / 64 * 64 := by decide +kernel
  exact key ⟨n, hn⟩
/-! ### the program's Decode and the reference's -/
theorem next_at (s : ByteArray) (i : Int) (h : 0 ≤ i) : utf_next.f s i = some (match cb s i with
    | some a => (a, true)
    | none => (0, false)) := by
  have hb := bt_range s i
  unfold utf_next.f cb
  by_cases h1 : i ≥ (s.size : Int)
  · rw [if_pos h1, if_neg (by omega)]
  · rw [if_neg h1, if_pos h, if_pos (by omega), u8_192 _ hb.1 hb.2]
    by_cases h2 : bt s i / 64 * 64 = 128
    · rw [if_pos h2, if_pos (by omega), u8_and63 _ hb.1 (by omega), wrap_id _ (by omega) (by omega)]
      simp only [Option.some.injEq, Prod.mk.injEq, and_true]
      omega
    · rw [if_neg h2, if_neg (by omega)]
theorem point_at (r : Int) : utf_point.f r = some (pt r) := by
  unfold utf_point.f pt
  by_cases h1 : r ≥ 0
  · rw [if_pos h1]
    by_cases h2 : r ≤ 1114111
    · rw [if_pos h2]
      by_cases h3 : r < 55296
      · rw [if_pos h3]; simp [h1, h2, h3]
      · rw [if_neg h3]; simp [h1, h2, h3]
    · rw [if_neg h2]; simp [h2]
  · rw [if_neg h1]; simp [h1]
theorem dloop_end (s : ByteArray) (k : Nat) (i n r least j : Int) (h : ¬ j < n) : utf_Decode.l0 (k + 1) s i n r least j = some (fin r n least) := by
  simp only [utf_Decode.l0]
  rw [if_neg h, point_at]
  simp only [Option.bind_some]
  unfold fin bad
  by_cases h1 : r < least
  · rw [if_pos h1, if_neg (by omega)]
  · rw [if_neg h1]
    by_cases h2 : pt r = true
    · rw [if_pos h2, if_pos ⟨by omega, h2⟩]
    · rw [if_neg h2, if_neg (fun h => h2 h.2)]
theorem dloop_go (s : ByteArray) (k : Nat) (i n r least j : Int) (h : j < n) (hi : 0 ≤ i) (hi' : i < 4611686018427387904) (hj : 1 ≤ j) (hj' : j ≤ 4) (hr : 0 ≤ r) (hr' : r < 1048576) :
    utf_Decode.l0 (k + 1) s i n r least j = (match cb s (i + j) with
      | some a => utf_Decode.l0 k s i n (r * 64 + a) least (j + 1)
      | none => some bad) := by
  simp only [utf_Decode.l0]
  rw [if_pos h, wrap_id (i + j) (by omega) (by omega), next_at s _ (by omega)]
  cases hc : cb s (i + j) with
  | none => simp [bad]
  | some a =>
    have hb := cb_bd hc
    simp only [Option.bind_some, if_true]
    rw [or6 r a hr hr' (by omega) (by omega), wrap_id (j + 1) (by omega) (by omega)]
theorem dloop2 (s : ByteArray) (k : Nat) (i r : Int) (hi : 0 ≤ i) (hi' : i < 4611686018427387904) (hr : 0 ≤ r) (hr' : r < 32) : utf_Decode.l0 (k + 2) s i 2 r 128 1 = some (dec2 s i r) := by
  rw [dloop_go s (k + 1) i 2 r 128 1 (by omega) hi hi' (by omega) (by omega) hr (by omega)]
  unfold dec2
  cases hc : cb s (i + 1) with
  | none => rfl
  | some a => exact dloop_end _ _ _ _ _ _ _ (by omega)
theorem dloop3 (s : ByteArray) (k : Nat) (i r : Int) (hi : 0 ≤ i) (hi' : i < 4611686018427387904) (hr : 0 ≤ r) (hr' : r < 16) : utf_Decode.l0 (k + 3) s i 3 r 2048 1 = some (dec3 s i r) := by
  rw [dloop_go s (k + 2) i 3 r 2048 1 (by omega) hi hi' (by omega) (by omega) hr (by omega)]
  unfold dec3
  cases hc : cb s (i + 1) with
  | none => rfl
  | some a =>
    have hb := cb_bd hc
    show utf_Decode.l0 (k + 2) s i 3 (r * 64 + a) 2048 2 = _
    rw [dloop_go s (k + 1) i 3 _ 2048 2 (by omega) hi hi' (by omega) (by omega) (by omega) (by omega)]
    cases hd : cb s (i + 2) with
    | none => rfl
    | some b => exact dloop_end _ _ _ _ _ _ _ (by omega)
theorem dloop4 (s : ByteArray) (k : Nat) (i r : Int) (hi : 0 ≤ i) (hi' : i < 4611686018427387904) (hr : 0 ≤ r) (hr' : r < 8) : utf_Decode.l0 (k + 4) s i 4 r 65536 1 = some (dec4 s i r) := by
  rw [dloop_go s (k + 3) i 4 r 65536 1 (by omega) hi hi' (by omega) (by omega) hr (by omega)]
  unfold dec4
  cases hc : cb s (i + 1) with
  | none => rfl
  | some a =>
    have hb := cb_bd hc
    show utf_Decode.l0 (k + 3) s i 4 (r * 64 + a) 65536 2 = _
    rw [dloop_go s (k + 2) i 4 _ 65536 2 (by omega) hi hi' (by omega) (by omega) (by omega) (by omega)]
    cases hd : cb s (i + 2) with
    | none => rfl
    | some b =>
      have hb' := cb_bd hd
      show utf_Decode.l0 (k + 2) s i 4 ((r * 64 + a) * 64 + b) 65536 3 = _
      rw [dloop_go s (k + 1) i 4 _ 65536 3 (by omega) hi hi' (by omega) (by omega) (by omega) (by omega)]
      cases he : cb s (i + 3) with
      | none => rfl
      | some c => exact dloop_end _ _ _ _ _ _ _ (by omega)
theorem decode_at (s : ByteArray) (i : Int) (k : Nat) (hs : s.size ≤ 140737488351232) (hk : 9 ≤ k) : utf_Decode.f k s i = some (dec s i) := by
  obtain ⟨k, rfl⟩ : ∃ m, k = m + 9 := ⟨k - 9, by omega⟩
  have hb := bt_range s i
  unfold utf_Decode.f dec
  by_cases h0 : i < 0
  · rw [if_pos h0, if_pos h0]; simp only [utf_Decode.j0]; rfl
  rw [if_neg h0, if_neg h0]
  by_cases h1 : (s.size : Int) ≤ i
  · rw [if_pos h1, decide_eq_true (by omega)]; simp only [utf_Decode.j0]; rfl
  rw [if_neg h1, decide_eq_false (by omega)]
  simp only [utf_Decode.j0]
  rw [if_neg (by decide), if_pos (by omega), if_pos (by omega), wrap_id (bt s i) (by omega) (by omega)]
  by_cases h2 : bt s i < 128
  · rw [if_pos h2, if_pos h2]
  rw [if_neg h2, if_neg h2]
  by_cases h3 : bt s i < 192
  · rw [if_neg (by omega), if_pos h3]
    simp only [utf_Decode.j1]
    rw [if_neg (by decide), if_neg (by omega)]
    simp only [utf_Decode.j2]
    rw [if_neg (by decide), if_neg (by omega)]
    rfl
  rw [if_pos (by omega), if_neg h3]
  by_cases h4 : bt s i < 224
  · rw [if_pos h4, decide_eq_true h4]
    simp only [utf_Decode.j1, utf_Decode.j3]
    rw [if_pos trivial, and31 _ (by omega) (by omega), show bt s i % 32 = bt s i - 192 from by omega]
    exact dloop2 s _ i _ (by omega) (by omega) (by omega) (by omega)
  rw [if_neg h4, decide_eq_false h4]
  simp only [utf_Decode.j1]
  rw [if_neg (by decide), if_pos (by omega)]
  by_cases h5 : bt s i < 240
  · rw [if_pos h5, decide_eq_true h5]
    simp only [utf_Decode.j2, utf_Decode.j3]
    rw [if_pos trivial, and15 _ (by omega) (by omega), show bt s i % 16 = bt s i - 224 from by omega]
    exact dloop3 s _ i _ (by omega) (by omega) (by omega) (by omega)
  rw [if_neg h5, decide_eq_false h5]
  simp only [utf_Decode.j2]
  rw [if_neg (by decide), if_pos (by omega)]
  by_cases h6 : bt s i < 248
  · rw [if_pos h6, if_pos h6]
    simp only [utf_Decode.j3]
    rw [and7 _ (by omega) (by omega), show bt s i % 8 = bt s i - 240 from by omega]
    exact dloop4 s _ i _ (by omega) (by omega) (by omega) (by omega)
  · rw [if_neg h6, if_neg h6]; rfl
/-! ### the code points from an offset on -/
def rn (s : ByteArray) : Nat → Int → Option (List Int)
  | 0, _ => none
  | m + 1, i => if i < (s.size : Int) then (if (dec s i).2.2 = true then (rn s m (i + (dec s i).2.1)).map ((dec s i).1 :: ·) else none) else some []
theorem fin_num (r n least : Int) : (fin r n least).2.2 = true → (fin r n least) = (r, n, true) := by
  unfold fin bad
  split
  · intro _; rfl
  · intro h; cases h
/-- A code point that is read takes one to four bytes and ends within the string. -/
theorem dec_len (s : ByteArray) (i : Int) (h : (dec s i).2.2 = true) : 0 ≤ i ∧ 1 ≤ (dec s i).2.1 ∧ (dec s i).2.1 ≤ 4 ∧ i + (dec s i).2.1 ≤ (s.size : Int) := by
  unfold dec at h ⊢
  by_cases h0 : i < 0
  · rw [if_pos h0] at h; cases h
  rw [if_neg h0] at h ⊢
  by_cases h1 : (s.size : Int) ≤ i
  · rw [if_pos h1] at h; cases h
  rw [if_neg h1] at h ⊢
  by_cases h2 : bt s i < 128
  · rw [if_pos h2] at h ⊢; simp only []; omega
  rw [if_neg h2] at h ⊢
  by_cases h3 : bt s i < 192
  · rw [if_pos h3] at h; cases h
  rw [if_neg h3] at h ⊢
  by_cases h4 : bt s i < 224
  · rw [if_pos h4] at h ⊢
    unfold dec2 at h ⊢
    cases hc : cb s (i + 1) with
    | none => rw [hc] at h; cases h
    | some a =>
      rw [hc] at h
      have := cb_bd hc
      simp only [] at h ⊢
      rw [fin_num _ _ _ h]; simp only []; omega
  rw [if_neg h4] at h ⊢
  by_cases h5 : bt s i < 240
  · rw [if_pos h5] at h ⊢
    unfold dec3 at h ⊢
    cases hc : cb s (i + 1) with
    | none => rw [hc] at h; cases h
    | some a =>
      rw [hc] at h
      simp only [] at h ⊢
      cases hd : cb s (i + 2) with
      | none => rw [hd] at h; cases h
      | some b =>
        rw [hd] at h
        have := cb_bd hd
        simp only [] at h ⊢
        rw [fin_num _ _ _ h]; simp only []; omega
  rw [if_neg h5] at h ⊢
  by_cases h6 : bt s i < 248
  · rw [if_pos h6] at h ⊢
    unfold dec4 at h ⊢
    cases hc : cb s (i + 1) with
    | none => rw [hc] at h; cases h
    | some a =>
      rw [hc] at h
      simp only [] at h ⊢
      cases hd : cb s (i + 2) with
      | none => rw [hd] at h; cases h
      | some b =>
        rw [hd] at h
        simp only [] at h ⊢
        cases he : cb s (i + 3) with
        | none => rw [he] at h; cases h
        | some c =>
          rw [he] at h
          have := cb_bd he
          simp only [] at h ⊢
          rw [fin_num _ _ _ h]; simp only []; omega
  · rw [if_neg h6] at h; cases h
/-- The code points from the beginning on. -/
def runes (s : ByteArray) : Option (List Int) := rn s (s.size + 1) 0
theorem rn_len (s : ByteArray) : ∀ (m : Nat) (i : Int) (l : List Int), 0 ≤ i → rn s m i = some l → i ≤ s.size → (l.length : Int) ≤ (s.size : Int) - i
  | 0, _, _, _, h, _ => by cases h
  | m + 1, i, l, h0, h, hi => by
    simp only [rn] at h
    by_cases c : i < (s.size : Int)
    · rw [if_pos c] at h
      by_cases d : (dec s i).2.2 = true
      · rw [if_pos d] at h
        have dl := dec_len s i d
        cases e : rn s m (i + (dec s i).2.1) with
        | none => rw [e] at h; cases h
        | some l' =>
          rw [e] at h
          injection h with h
          have := rn_len s m _ l' (by omega) e dl.2.2.2
          rw [← h]
          simp only [List.length_cons]
          omega
      · rw [if_neg d] at h; cases h
    · rw [if_neg c] at h
      injection h with h
      rw [← h]
      simp; omega
/-! ### Count -/
theorem count_loop (s : ByteArray) (hs : s.size ≤ 140737488351232) : ∀ (m : Nat) (i c : Int) (k : Nat), 0 ≤ i → i ≤ s.size → (s.size : Int) - i < m → 0 ≤ c → c ≤ i → m + 9 ≤ k →
    utf_Count.l0 k s c i = some (match rn s m i with
      | some l => (c + l.length, true)
      | none => (0, false))
  | 0, i, c, k, h0, hi, hm, _, _, _ => by omega
  | m + 1, i, c, k, h0, hi, hm, hc0, hc, hk => by
    obtain ⟨k, rfl⟩ : ∃ j, k = j + 1 := ⟨k - 1, by omega⟩
    simp only [utf_Count.l0, rn]
    by_cases a : i < (s.size : Int)
    · rw [if_pos a, if_pos a, decode_at s i k hs (by omega)]
      simp only [Option.bind_some]
      by_cases d : (dec s i).2.2 = true
      · rw [if_pos d, if_pos d]
        have dl := dec_len s i d
        rw [wrap_id (c + 1) (by omega) (by omega), wrap_id (i + (dec s i).2.1) (by omega) (by omega)]
        rw [count_loop s hs m (i + (dec s i).2.1) (c + 1) k (by omega) (by omega) (by omega) (by omega) (by omega) (by omega)]
        cases e : rn s m (i + (dec s i).2.1) with
        | none => rfl
        | some l => simp only [Option.map_some, List.length_cons, Option.some.injEq, Prod.mk.injEq, and_true]; omega
      · rw [if_neg d, if_neg d]
    · rw [if_neg a, if_neg a]; simp
theorem count_at (s : ByteArray) (hs : s.size ≤ 140737488351232) (k : Nat) (hk : s.size + 10 ≤ k) : utf_Count.f k s = some (match runes s with
      | some l => ((l.length : Int), true)
      | none => (0, false)) := by
  unfold utf_Count.f runes
  rw [count_loop s hs (s.size + 1) 0 0 k (by omega) (by omega) (by omega) (by omega) (by omega) (by omega)]
  cases rn s (s.size + 1) 0 with
  | none => rfl
  | some l => simp
theorem awake_at (k : Nat) (hk : 9 ≤ k) : ndjqlaw01_awake.f k = some true := by
  have e : dec (⟨#[195, 169]⟩ : ByteArray) 0 = (233, 2, true) := by decide +kernel
  unfold ndjqlaw01_awake.f
  rw [decode_at _ 0 k (by decide) hk, e]
  rfl
/-! ### encodings and decoding, over the list of a string's bytes -/
def nm (s : ByteArray) : List Int := s.data.toList.map fun c => (c.toNat : Int)
theorem nm_len (s : ByteArray) : (nm s).length = s.size := by unfold nm; rw [List.length_map, Array.length_toList]; rfl
theorem nm_get (s : ByteArray) (j : Nat) (h : j < s.size) : (nm s)[j]? = some (bt s (j : Int)) := by
  have h' : j < s.data.toList.length := by rw [Array.length_toList]; exact h
  unfold nm bt
  rw [List.getElem?_map, List.getElem?_eq_getElem h', dif_pos (show ((j : Int)).toNat < s.size from h)]
  rfl
theorem nm_range (s : ByteArray) : ∀ c ∈ nm s, 0 ≤ c ∧ c ≤ 255 := by
  intro c hc
  unfold nm at hc
  obtain ⟨u, _, rfl⟩ := List.mem_map.1 hc
  have := u.toNat_lt
  omega
theorem nm_inj {s t : ByteArray} (h : nm s = nm t) : s = t := by
  unfold nm at h
  have := (List.map_inj_right (fun (x y : UInt8) e => UInt8.toNat_inj.1 (by omega))).1 h
  have h2 : s.data = t.data := Array.toList_inj.1 this
  cases s; cases t; simp_all
theorem nm_strOf (l : List Int) (h : ∀ c ∈ l, 0 ≤ c ∧ c ≤ 255) : nm (strOfNums l) = l := by
  unfold nm
  rw [strOfNums_data, List.map_map]
  conv => rhs; rw [← List.map_id l]
  apply List.map_congr_left
  intro c hc
  have := h c hc
  simp only [Function.comp, id]
  rw [UInt8.toNat_ofNat']
  omega
theorem drop_bt {s : ByteArray} {i : Int} {l t : List Int} (h0 : 0 ≤ i) (h : (nm s).drop i.toNat = l ++ t) (j : Nat) (hj : j < l.length) : i + j < (s.size : Int) ∧ bt s (i + j) = l.getD j 0 := by
  have hl := congrArg List.length h
  simp only [List.length_drop, nm_len, List.length_append] at hl
  have hlt : i.toNat + j < s.size := by omega
  have e1 : (nm s)[i.toNat + j]? = some (bt s (i + j)) := by
    rw [nm_get s _ hlt]; congr 2; omega
  have e2 : ((nm s).drop i.toNat)[j]? = some (l.getD j 0) := by
    rw [h, List.getElem?_append_left hj, List.getD_eq_getElem?_getD, List.getElem?_eq_getElem hj]; rfl
  rw [List.getElem?_drop, e1] at e2
  exact ⟨by omega, Option.some.inj e2⟩
theorem bt_drop {s : ByteArray} {i : Int} {l : List Int} (h0 : 0 ≤ i) (hl : i + l.length ≤ (s.size : Int)) (h : ∀ j, j < l.length → bt s (i + j) = l.getD j 0) : (nm s).drop i.toNat = l ++ (nm s).drop (i.toNat + l.length) := by
  apply List.ext_getElem?
  intro j
  by_cases hj : j < l.length
  · rw [List.getElem?_append_left hj, List.getElem?_drop, nm_get s _ (by omega), List.getElem?_eq_getElem hj]
    have := h j hj
    rw [List.getD_eq_getElem?_getD, List.getElem?_eq_getElem hj] at this
    simp only [Option.getD_some] at this
    rw [← this]
    congr 2; omega
  · rw [List.getElem?_append_right (by omega), List.getElem?_drop, List.getElem?_drop]
    congr 1; omega
theorem cb_of {s : ByteArray} {i a : Int} (h0 : 0 ≤ i) (h1 : i < (s.size : Int)) (h : bt s i = 128 + a) (ha : 0 ≤ a) (ha' : a < 64) : cb s i = some a := by
  unfold cb; rw [if_pos (by omega), h]; congr 1; omega
theorem fin_of {r n least : Int} (h : least ≤ r) (hp : pt r = true) : fin r n least = (r, n, true) := if_pos ⟨h, hp⟩
/-- An encoding is decoded. -/
theorem dec_enc {s : ByteArray} {i r : Int} {t : List Int} (h0 : 0 ≤ i) (hp : pt r = true) (h : (nm s).drop i.toNat = enc r ++ t) : dec s i = (r, ((enc r).length : Int), true) := by
  have g := fun j hj => drop_bt h0 h j hj
  have hp' := (pt_iff r).1 hp
  unfold enc at g ⊢
  by_cases c1 : r < 128
  · rw [if_pos c1] at g ⊢
    have g0 := g 0 (by simp)
    simp at g0
    unfold dec
    rw [if_neg (by omega), if_neg (by omega), if_pos (by omega), g0.2]
    rfl
  rw [if_neg c1] at g ⊢
  by_cases c2 : r < 2048
  · rw [if_pos c2] at g ⊢
    have g0 := g 0 (by simp)
    have g1 := g 1 (by simp)
    simp at g0 g1
    unfold dec
    rw [if_neg (by omega), if_neg (by omega), if_neg (by omega), if_neg (by omega), if_pos (by omega)]
    unfold dec2
    rw [cb_of (by omega) g1.1 g1.2 (by omega) (by omega), g0.2]
    simp only []
    rw [show (192 + r / 64 - 192) * 64 + r % 64 = r from by omega, fin_of (by omega) hp]
    rfl
  rw [if_neg c2] at g ⊢
  by_cases c3 : r < 65536
  · rw [if_pos c3] at g ⊢
    have g0 := g 0 (by simp)
    have g1 := g 1 (by simp)
    have g2 := g 2 (by simp)
    simp at g0 g1 g2
    unfold dec
    rw [if_neg (by omega), if_neg (by omega), if_neg (by omega), if_neg (by omega), if_neg (by omega), if_pos (by omega)]
    unfold dec3
    rw [cb_of (by omega) g1.1 g1.2 (by omega) (by omega)]
    simp only []
    rw [cb_of (by omega) g2.1 g2.2 (by omega) (by omega), g0.2]
    simp only []
    rw [show ((224 + r / 4096 - 224) * 64 + r / 64 % 64) * 64 + r % 64 = r from by omega, fin_of (by omega) hp]
    rfl
  · rw [if_neg c3] at g ⊢
    have g0 := g 0 (by simp)
    have g1 := g 1 (by simp)
    have g2 := g 2 (by simp)
    have g3 := g 3 (by simp)
    simp at g0 g1 g2 g3
    unfold dec
    rw [if_neg (by omega), if_neg (by omega), if_neg (by omega), if_neg (by omega), if_neg (by omega), if_neg (by omega), if_pos (by omega)]
    unfold dec4
    rw [cb_of (by omega) g1.1 g1.2 (by omega) (by omega)]
    simp only []
    rw [cb_of (by omega) g2.1 g2.2 (by omega) (by omega)]
    simp only []
    rw [cb_of (by omega) g3.1 g3.2 (by omega) (by omega), g0.2]
    simp only []
    rw [show (((240 + r / 262144 - 240) * 64 + r / 4096 % 64) * 64 + r / 64 % 64) * 64 + r % 64 = r from by omega, fin_of (by omega) hp]
    rfl
theorem fin_ok {r n least : Int} (h : (fin r n least).2.2 = true) : least ≤ r ∧ pt r = true ∧ fin r n least = (r, n, true) := by
  unfold fin at h ⊢
  by_cases c : least ≤ r ∧ pt r = true
  · rw [if_pos c]; exact ⟨c.1, c.2, rfl⟩
  · rw [if_neg c] at h; cases h
/-- What is decoded is an encoding. -/
theorem enc_dec {s : ByteArray} {i : Int} (h : (dec s i).2.2 = true) : pt (dec s i).1 = true ∧ (dec s i).2.1 = ((enc (dec s i).1).length : Int) ∧ (nm s).drop i.toNat = enc (dec s i).1 ++ (nm s).drop (i.toNat + (enc (dec s i).1).length) := by
  have hb := bt_range s i
  unfold dec at h ⊢
  by_cases h0 : i < 0
  · rw [if_pos h0] at h; cases h
  rw [if_neg h0] at h ⊢
  by_cases h1 : (s.size : Int) ≤ i
  · rw [if_pos h1] at h; cases h
  rw [if_neg h1] at h ⊢
  by_cases h2 : bt s i < 128
  · rw [if_pos h2] at h ⊢
    have e : enc (bt s i) = [bt s i] := by unfold enc; rw [if_pos h2]
    refine ⟨(pt_iff _).2 (by simp only []; omega), by simp only [e]; rfl, bt_drop (by omega) (by simp only [e]; simp; omega) fun j hj => ?_⟩
    simp only [e] at hj ⊢
    obtain rfl : j = 0 := by simpa using hj
    simp
  rw [if_neg h2] at h ⊢
  by_cases h3 : bt s i < 192
  · rw [if_pos h3] at h; cases h
  rw [if_neg h3] at h ⊢
  by_cases h4 : bt s i < 224
  · rw [if_pos h4] at h ⊢
    unfold dec2 at h ⊢
    cases hc : cb s (i + 1) with
    | none => rw [hc] at h; cases h
    | some a =>
      rw [hc] at h
      have b1 := cb_bd hc
      simp only [] at h ⊢
      obtain ⟨f1, f2, f3⟩ := fin_ok h
      rw [f3]
      simp only []
      generalize hr : (bt s i - 192) * 64 + a = r at f1 f2 ⊢
      have e : enc r = [bt s i, bt s (i + 1)] := by
        unfold enc
        rw [if_neg (by omega), if_pos (by omega)]
        congr 1
        · omega
        · congr 1; omega
      refine ⟨f2, by rw [e]; rfl, bt_drop (by omega) (by rw [e]; simp; omega) fun j hj => ?_⟩
      rw [e] at hj ⊢
      match j, hj with
      | 0, _ => simp
      | 1, _ => simp
  rw [if_neg h4] at h ⊢
  by_cases h5 : bt s i < 240
  · rw [if_pos h5] at h ⊢
    unfold dec3 at h ⊢
    cases hc : cb s (i + 1) with
    | none => rw [hc] at h; cases h
    | some a =>
      rw [hc] at h
      simp only [] at h ⊢
      cases hd : cb s (i + 2) with
      | none => rw [hd] at h; cases h
      | some b =>
        rw [hd] at h
        have b1 := cb_bd hc
        have b2 := cb_bd hd
        simp only [] at h ⊢
        obtain ⟨f1, f2, f3⟩ := fin_ok h
        rw [f3]
        simp only []
        generalize hr : ((bt s i - 224) * 64 + a) * 64 + b = r at f1 f2 ⊢
        have e : enc r = [bt s i, bt s (i + 1), bt s (i + 2)] := by
          unfold enc
          rw [if_neg (by omega), if_neg (by omega), if_pos (by omega)]
          congr 1
          · omega
          · congr 1
            · omega
            · congr 1; omega
        refine ⟨f2, by rw [e]; rfl, bt_drop (by omega) (by rw [e]; simp; omega) fun j hj => ?_⟩
        rw [e] at hj ⊢
        match j, hj with
        | 0, _ => simp
        | 1, _ => simp
        | 2, _ => simp
  rw [if_neg h5] at h ⊢
  by_cases h6 : bt s i < 248
  · rw [if_pos h6] at h ⊢
    unfold dec4 at h ⊢
    cases hc : cb s (i + 1) with
    | none => rw [hc] at h; cases h
    | some a =>
      rw [hc] at h
      simp only [] at h ⊢
      cases hd : cb s (i + 2) with
      | none => rw [hd] at h; cases h
      | some b =>
        rw [hd] at h
        simp only [] at h ⊢
        cases he : cb s (i + 3) with
        | none => rw [he] at h; cases h
        | some c =>
          rw [he] at h
          have b1 := cb_bd hc
          have b2 := cb_bd hd
          have b3 := cb_bd he
          simp only [] at h ⊢
          obtain ⟨f1, f2, f3⟩ := fin_ok h
          rw [f3]
          simp only []
          generalize hr : (((bt s i - 240) * 64 + a) * 64 + b) * 64 + c = r at f1 f2 ⊢
          have e : enc r = [bt s i, bt s (i + 1), bt s (i + 2), bt s (i + 3)] := by
            unfold enc
            rw [if_neg (by omega), if_neg (by omega), if_neg (by omega)]
            congr 1
            · omega
            · congr 1
              · omega
              · congr 1
                · omega
                · congr 1; omega
          refine ⟨f2, by rw [e]; rfl, bt_drop (by omega) (by rw [e]; simp; omega) fun j hj => ?_⟩
          rw [e] at hj ⊢
          match j, hj with
          | 0, _ => simp
          | 1, _ => simp
          | 2, _ => simp
          | 3, _ => simp
  · rw [if_neg h6] at h; cases h
/-- The text of code points. -/
def encs (l : List Int) : List Int := l.flatMap enc
def pts (l : List Int) : Prop := ∀ r ∈ l, pt r = true
theorem encs_cons (r : Int) (l : List Int) : encs (r :: l) = enc r ++ encs l := by simp [encs]
theorem encs_append (l m : List Int) : encs (l ++ m) = encs l ++ encs m := by simp [encs]
theorem encs_byte {l : List Int} (h : pts l) : ∀ c ∈ encs l, 0 ≤ c ∧ c ≤ 255 := by
  intro c hc
  obtain ⟨r, hr, hc⟩ := List.mem_flatMap.1 hc
  exact enc_byte r (h r hr) c hc
theorem encs_len (l : List Int) : l.length ≤ (encs l).length ∧ (encs l).length ≤ 4 * l.length := by
  induction l with
  | nil => simp [encs]
  | cons r l ih =>
    have := enc_len r
    rw [encs_cons, List.length_append, List.length_cons]
    omega
theorem rn_sound (s : ByteArray) : ∀ (m : Nat) (i : Int) (l : List Int), 0 ≤ i → i ≤ s.size → rn s m i = some l → pts l ∧ (nm s).drop i.toNat = encs l
  | 0, _, _, _, _, h => by cases h
  | m + 1, i, l, h0, hi, h => by
    simp only [rn] at h
    by_cases c : i < (s.size : Int)
    · rw [if_pos c] at h
      by_cases d : (dec s i).2.2 = true
      · rw [if_pos d] at h
        have dl := dec_len s i d
        have de := enc_dec d
        cases e : rn s m (i + (dec s i).2.1) with
        | none => rw [e] at h; cases h
        | some l' =>
          rw [e] at h
          injection h with h
          have ih := rn_sound s m _ l' (by omega) (by omega) e
          rw [← h]
          constructor
          · intro r hr
            rcases List.mem_cons.1 hr with rfl | hr
            · exact de.1
            · exact ih.1 r hr
          · rw [encs_cons, de.2.2, ← ih.2]
            congr 2
            omega
      · rw [if_neg d] at h; cases h
    · rw [if_neg c] at h
      injection h with h
      rw [← h]
      refine ⟨fun r hr => by simp at hr, ?_⟩
      rw [List.drop_eq_nil_of_le (by rw [nm_len]; omega)]; rfl
theorem rn_complete (s : ByteArray) : ∀ (l : List Int) (m : Nat) (i : Int), 0 ≤ i → pts l → (nm s).drop i.toNat = encs l → (s.size : Int) - i < m → i ≤ s.size → rn s m i = some l
  | [], m, i, h0, hp, h, hm, hi => by
    obtain ⟨m, rfl⟩ : ∃ j, m = j + 1 := ⟨m - 1, by omega⟩
    have hl := congrArg List.length h
    simp [nm_len, encs] at hl
    simp only [rn]
    rw [if_neg (by omega)]
  | r :: l, m, i, h0, hp, h, hm, hi => by
    obtain ⟨m, rfl⟩ : ∃ j, m = j + 1 := ⟨m - 1, by omega⟩
    rw [encs_cons] at h
    have hr := hp r (List.mem_cons_self ..)
    have de := dec_enc h0 hr h
    have hl := congrArg List.length h
    have el := enc_len r
    simp only [List.length_drop, nm_len, List.length_append] at hl
    simp only [rn]
    rw [if_pos (by omega), de]
    simp only [if_true]
    have hd : (nm s).drop (i + ((enc r).length : Int)).toNat = encs l := by
      have := congrArg (List.drop (enc r).length) h
      rw [List.drop_drop, List.drop_left] at this
      rw [← this]; congr 1; omega
    rw [rn_complete s l m (i + ((enc r).length : Int)) (by omega) (fun r' h' => hp r' (List.mem_cons_of_mem _ h')) hd (by omega) (by omega)]
    rfl
theorem runes_sound {s : ByteArray} {l : List Int} (h : runes s = some l) : pts l ∧ nm s = encs l := by
  have := rn_sound s _ 0 l (by omega) (by omega) h
  simpa using this
theorem runes_complete {s : ByteArray} {l : List Int} (hp : pts l) (h : nm s = encs l) : runes s = some l :=
  rn_complete s l _ 0 (by omega) hp (by simpa using h) (by omega) (by omega)
/-! ### bits of encodings -/
theorem or192 (y : Int) (h : 0 ≤ y) (h' : y < 32) : bits .or .i64 192 y = 192 + y := i64_join 6 192 y (by omega) (by omega) (by omega) h (by omega) (by omega)
theorem or224 (y : Int) (h : 0 ≤ y) (h' : y < 16) : bits .or .i64 224 y = 224 + y := i64_join 5 224 y (by omega) (by omega) (by omega) h (by omega) (by omega)
theorem or240 (y : Int) (h : 0 ≤ y) (h' : y < 8) : bits .or .i64 240 y = 240 + y := i64_join 4 240 y (by omega) (by omega) (by omega) h (by omega) (by omega)
theorem or128 (y : Int) (h : 0 ≤ y) (h' : y < 64) : bits .or .i64 128 y = 128 + y := i64_join 6 128 y (by omega) (by omega) (by omega) h (by omega) (by omega)
def allp (l : List Int) : Bool := l.all pt
theorem allp_iff (l : List Int) : allp l = true ↔ pts l := by simp [allp, pts]
theorem rd_at (xs : List Int) (i : Int) (h0 : 0 ≤ i) (h : i < (xs.length : Int)) : ∃ x t, xs.drop i.toNat = x :: t ∧ rd xs i = x ∧ xs.drop (i + 1).toNat = t := by
  have hj : i.toNat < xs.length := by omega
  refine ⟨xs[i.toNat], xs.drop (i.toNat + 1), List.drop_eq_getElem_cons hj, ?_, by congr 1; omega⟩
  unfold rd
  rw [List.getD_eq_getElem?_getD, List.getElem?_eq_getElem hj]; rfl
/-! ### the program's FromRunes -/
theorem add_at (b : List Int) (r : Int) (hb : b.length < 140737488355000) (hp : pt r = true) : utf_add.f b r = some (b ++ enc r) := by
  rw [pt_iff] at hp
  unfold utf_add.f enc
  by_cases c1 : r < 128
  · rw [if_pos c1, if_pos c1, if_pos (by omega), show r % 256 = r from by omega]
  rw [if_neg c1, if_neg c1]
  by_cases c2 : r < 2048
  · rw [if_pos c2, if_pos c2, and63 _ (by omega) (by omega), or192 _ (by omega) (by omega), or128 _ (by omega) (by omega)]
    simp only [Option.bind_some, List.length_cons, List.length_nil]
    rw [if_pos (by omega), show (192 + r / 64) % 256 = 192 + r / 64 from by omega, show (128 + r % 64) % 256 = 128 + r % 64 from by omega]
  rw [if_neg c2, if_neg c2]
  by_cases c3 : r < 65536
  · rw [if_pos c3, if_pos c3, and63 _ (by omega) (by omega), and63 _ (by omega) (by omega), or224 _ (by omega) (by omega), or128 _ (by omega) (by omega), or128 _ (by omega) (by omega)]
    simp only [Option.bind_some, List.length_cons, List.length_nil]
    rw [if_pos (by omega), show (224 + r / 4096) % 256 = 224 + r / 4096 from by omega, show (128 + r / 64 % 64) % 256 = 128 + r / 64 % 64 from by omega, show (128 + r % 64) % 256 = 128 + r % 64 from by omega]
  · rw [if_neg c3, if_neg c3, and63 _ (by omega) (by omega), and63 _ (by omega) (by omega), and63 _ (by omega) (by omega), or240 _ (by omega) (by omega), or128 _ (by omega) (by omega), or128 _ (by omega) (by omega), or128 _ (by omega) (by omega)]
    simp only [Option.bind_some, List.length_cons, List.length_nil]
    rw [if_pos (by omega), show (240 + r / 262144) % 256 = 240 + r / 262144 from by omega, show (128 + r / 4096 % 64) % 256 = 128 + r / 4096 % 64 from by omega, show (128 + r / 64 % 64) % 256 = 128 + r / 64 % 64 from by omega, show (128 + r % 64) % 256 = 128 + r % 64 from by omega]
/-! ### the program's Append -/
theorem append_at (l : List Int) (r : Int) (hl : l.length ≤ 1000000) : utf_Append.f l r = some (if pt r = true then (l ++ enc r, true) else ([], false)) := by
  unfold utf_Append.f
  rw [point_at]
  simp only [Option.bind_some]
  by_cases p : pt r = true
  · rw [if_pos p, if_pos p, wrap_id _ (by omega) (by omega), if_pos (by omega), if_pos (by omega)]
    simp only [List.length_nil, List.nil_append]
    rw [if_pos (by omega), add_at l r (by omega) p]
    rfl
  · rw [if_neg p, if_neg p]
theorem valid_at (s : ByteArray) (hs : s.size ≤ 140737488351232) (k : Nat) (hk : s.size + 10 ≤ k) : utf_Valid.f k s = some (runes s).isSome := by
  unfold utf_Valid.f
  rw [count_at s hs k hk]
  cases runes s <;> rfl
/-! ### keep.Mod -/
theorem mod_at (a m : Int) (h : 0 < m) (hm : m ≤ 4611686018427387904) : ∃ r, ndjqkeep_Mod.f a m = some r ∧ 0 ≤ r ∧ r < m ∧ r = a % m := by
  have e := Int.tmod_eq_emod (a := a) (b := m)
  have h1 := Int.emod_nonneg a (show m ≠ 0 by omega)
  have h2 := Int.emod_lt_of_pos a h
  unfold ndjqkeep_Mod.f
  rw [if_neg (by omega)]
  by_cases hd : 0 ≤ a ∨ m ∣ a
  · rw [if_pos hd] at e
    rw [if_neg (by omega)]
    exact ⟨_, rfl, by omega, by omega, by omega⟩
  · rw [if_neg hd] at e
    have en : ((m.natAbs : Nat) : Int) = m := by omega
    rw [if_pos (by omega), wrap_id _ (by omega) (by omega)]
    exact ⟨_, rfl, by omega, by omega, by omega⟩
theorem enc_head (r : Int) (hp : pt r = true) : ∃ h t, enc r = h :: t ∧ (∀ c ∈ t, 128 ≤ c ∧ c < 192) ∧ ((h < 128 ∧ t.length = 0) ∨ (192 ≤ h ∧ h < 224 ∧ t.length = 1) ∨ (224 ≤ h ∧ h < 240 ∧ t.length = 2) ∨ (240 ≤ h ∧ t.length = 3)) := by
  rw [pt_iff] at hp
  unfold enc
  by_cases c1 : r < 128
  · rw [if_pos c1]; exact ⟨_, _, rfl, by simp, .inl ⟨c1, rfl⟩⟩
  rw [if_neg c1]
  by_cases c2 : r < 2048
  · rw [if_pos c2]; refine ⟨_, _, rfl, ?_, .inr (.inl ⟨by omega, by omega, rfl⟩)⟩
    intro c hc; simp at hc; omega
  rw [if_neg c2]
  by_cases c3 : r < 65536
  · rw [if_pos c3]; refine ⟨_, _, rfl, ?_, .inr (.inr (.inl ⟨by omega, by omega, rfl⟩))⟩
    intro c hc; simp at hc; omega
  · rw [if_neg c3]; refine ⟨_, _, rfl, ?_, .inr (.inr (.inr ⟨by omega, rfl⟩))⟩
    intro c hc; simp at hc; omega
theorem not_prefix (r : Int) (hp : pt r = true) (i : Nat) (h1 : 1 ≤ i) (h2 : i < (enc r).length) (l : List Int) (hl : pts l) : (enc r).take i ≠ encs l := by
  obtain ⟨h, t, e, _, hc⟩ := enc_head r hp
  intro he
  cases l with
  | nil =>
    have := congrArg List.length he
    simp [encs] at this
    rw [e] at this h2
    simp at this h2
    omega
  | cons r' l' =>
    obtain ⟨h', t', e', _, hc'⟩ := enc_head r' (hl r' (List.mem_cons_self ..))
    rw [encs_cons, e, e'] at he
    obtain ⟨i, rfl⟩ : ∃ j, i = j + 1 := ⟨i - 1, by omega⟩
    rw [List.take_succ_cons, List.cons_append] at he
    injection he with hh ht
    have hlen := congrArg List.length ht
    rw [List.length_take, List.length_append] at hlen
    rw [e, List.length_cons] at h2
    omega
theorem not_suffix (r : Int) (hp : pt r = true) (i : Nat) (h1 : 1 ≤ i) (h2 : i < (enc r).length) (l : List Int) (hl : pts l) : (enc r).drop i ≠ encs l := by
  obtain ⟨h, t, e, ht, _⟩ := enc_head r hp
  intro he
  obtain ⟨i, rfl⟩ : ∃ j, i = j + 1 := ⟨i - 1, by omega⟩
  rw [e, List.drop_succ_cons] at he
  rw [e, List.length_cons] at h2
  cases l with
  | nil =>
    have := congrArg List.length he
    simp [encs] at this
    omega
  | cons r' l' =>
    obtain ⟨h', t', e', _, hc'⟩ := enc_head r' (hl r' (List.mem_cons_self ..))
    rw [encs_cons, e', List.cons_append] at he
    have hm : h' ∈ t := List.mem_of_mem_drop (by rw [he]; exact List.mem_cons_self ..)
    have := ht h' hm
    omega
theorem nm_extract (s : ByteArray) (a b : Nat) (h : b ≤ s.size) (h' : a ≤ b) : nm (s.extract a b) = ((nm s).take b).drop a := by
  unfold nm
  have e : (s.extract a b).data.toList = (s.data.toList.take b).drop a := by
    rw [ByteArray.data_extract, Array.toList_extract, List.extract_eq_take_drop, List.drop_take]
  rw [e, List.map_drop, List.map_take]
theorem short_loop (r : Int) (hp : pt r = true) (s : ByteArray) (hs : nm s = enc r) : ∀ (d i k : Nat), 1 ≤ i → i ≤ s.size → s.size - i ≤ d → d + 100 ≤ k →
    ndjqlaw01_UtfShortest.l0 k r s r ((enc r).length : Int) true i = some true
  | 0, i, k, h1, hi, hd, hk => by
    obtain ⟨k, rfl⟩ : ∃ j, k = j + 1 := ⟨k - 1, by omega⟩
    have hl := congrArg List.length hs
    rw [nm_len] at hl
    have el := enc_len r
    simp only [ndjqlaw01_UtfShortest.l0]
    rw [if_neg (by omega), if_pos trivial, if_pos trivial, if_pos (by omega), if_pos (by omega), if_pos (by omega), awake_at k (by omega)]
    rfl
  | d + 1, i, k, h1, hi, hd, hk => by
    obtain ⟨k, rfl⟩ : ∃ j, k = j + 1 := ⟨k - 1, by omega⟩
    have hl := congrArg List.length hs
    rw [nm_len] at hl
    have el := enc_len r
    by_cases c : i = s.size
    · simp only [ndjqlaw01_UtfShortest.l0]
      rw [if_neg (by omega), if_pos trivial, if_pos trivial, if_pos (by omega), if_pos (by omega), if_pos (by omega), awake_at k (by omega)]
      rfl
    have z1 : (s.extract 0 i).size ≤ 4 := by rw [ByteArray.size_extract]; omega
    have z2 : (s.extract i s.size).size ≤ 4 := by rw [ByteArray.size_extract]; omega
    have r1 : runes (s.extract 0 i) = none := by
      cases e : runes (s.extract 0 i) with
      | none => rfl
      | some l =>
        obtain ⟨hl', hn⟩ := runes_sound e
        rw [nm_extract s 0 i (by omega) (by omega), hs, List.drop_zero] at hn
        exact absurd hn (not_prefix r hp i h1 (by omega) l hl')
    have r2 : runes (s.extract i s.size) = none := by
      cases e : runes (s.extract i s.size) with
      | none => rfl
      | some l =>
        obtain ⟨hl', hn⟩ := runes_sound e
        rw [nm_extract s i s.size (by omega) (by omega), hs, hl, List.take_length] at hn
        exact absurd hn (not_suffix r hp i h1 (by omega) l hl')
    have hit : (i : Int) < (s.size : Int) := by omega
    simp only [ndjqlaw01_UtfShortest.l0]
    rw [if_pos hit, if_pos (by omega), if_pos (by omega), Int.toNat_natCast, valid_at _ (by omega) k (by omega), r1]
    simp only [Option.bind_some, Option.isSome_none]
    rw [if_neg (by decide), valid_at _ (by omega) k (by omega), r2]
    simp only [Option.bind_some, Option.isSome_none]
    rw [if_neg (by decide), wrap_id _ (by omega) (by omega)]
    have z := short_loop r hp s hs d (i + 1) k (by omega) (by omega) (by omega) (by omega)
    rw [Int.natCast_add] at z
    exact z
theorem UtfShortest : ndjqlaw01_UtfShortest.Pure := by
  intro a _
  obtain ⟨K, hK⟩ : ∃ K : Nat, 500 ≤ K := ⟨500, Nat.le_refl _⟩
  refine ⟨K + 1, ?_⟩
  obtain ⟨r, hr, r0, r1, _⟩ := mod_at a 1114112 (by omega) (by omega)
  unfold ndjqlaw01_UtfShortest.f
  rw [hr]
  simp only [Option.bind_some]
  rw [append_at [] r (by simp)]
  by_cases p : pt r = true
  · have p' := (pt_iff r).1 p
    have main : ∀ b, b = false → ndjqlaw01_UtfShortest.j0 (K + 1) r (enc r) true b = some true := by
      intro b hb
      subst hb
      simp only [ndjqlaw01_UtfShortest.j0]
      have hs : nm (strOfNums (enc r)) = enc r := nm_strOf _ (enc_byte r p)
      have hz := strOfNums_size (enc r)
      have el := enc_len r
      have de : dec (strOfNums (enc r)) 0 = (r, ((enc r).length : Int), true) := dec_enc (t := []) (by omega) p (by rw [hs]; simp)
      rw [if_neg (by decide), if_pos trivial, decode_at _ 0 K (by omega) (by omega), de]
      simp only [Option.bind_some]
      have z := short_loop r p _ hs 4 1 K (by omega) (by omega) (by omega) (by omega)
      rw [show ((1 : Nat) : Int) = 1 from rfl] at z
      exact z
    rw [if_pos p]
    simp only [Option.bind_some, List.nil_append]
    by_cases h : r < 55296
    · rw [if_pos h]; exact main _ (by decide)
    · rw [if_neg h]; exact main _ (by rw [decide_eq_true (by omega)]; decide)
  · have p' : ¬ (0 ≤ r ∧ r ≤ 1114111 ∧ (r < 55296 ∨ 57343 < r)) := fun h => p ((pt_iff r).2 h)
    rw [if_neg p]
    simp only [Option.bind_some]
    rw [if_neg (by omega), decide_eq_false (by omega)]
    simp only [ndjqlaw01_UtfShortest.j0]
    rw [if_neg (by decide), if_neg (by decide), awake_at K (by omega)]
    rfl

end Go.Proofs.Ytldfeljehjbjeaa.Pure
