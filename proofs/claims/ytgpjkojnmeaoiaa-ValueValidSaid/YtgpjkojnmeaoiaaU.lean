/- UTF-8 validity, for the program's and the reference's printed functions. -/
import Derived.Test.YtgpjkojnmeaoiaaQVx1
import Derived.Test.YtgpjkojnmeaoiaaQVx2
import Derived.Test.YtgpjkojnmeaoiaaQVx4
import Derived.Test.YtgpjkojnmeaoiaaQVx5
import Derived.Laws.BitsLemmas
import Derived.OpenShut
namespace Go.Proofs.Ytgpjkojnmeaoiaa.QV
open Go.RowKit Go.Proofs.YtgpjkojnmeaoiaaW.PrintWords Go.Proofs.YtgpjkojnmeaoiaaW.PrintLast
set_option linter.unusedVariables false
set_option linter.unusedSimpArgs false
/-! ### UTF-8, plain: code points, their encodings, and decoding at an offset -/
def pt (r : Int) : Bool := decide (0 ≤ r) && decide (r ≤ 1114111) && (decide (r < 55296) || decide (57343 < r))
theorem pt_iff (r : Int) : pt r = true ↔ 0 ≤ r ∧ r ≤ 1114111 ∧ (r < 55296 ∨ 57343 < r) := by
  simp only [pt, Bool.and_eq_true, Bool.or_eq_true, decide_eq_true_eq, and_assoc]
/-- A byte that continues an encoding: its six bits. -/
def cb (s : ByteArray) (i : Int) : Option Int := if 0 ≤ i ∧ i < (s.size : Int) ∧ 128 ≤ bt s i ∧ bt s i < 192 then some (bt s i - 128) else none
theorem cb_bd {s : ByteArray} {i a : Int} (h : cb s i = some a) : 0 ≤ a ∧ a < 64 ∧ i < (s.size : Int) ∧ 0 ≤ i ∧ bt s i = 128 + a := by
  unfold cb at h
  split at h
  · rename_i hc
    injection h with h
    omega
  · cases h
def bad : Int × Int × Bool := (0, 0, false)
def fin (r n least : Int) : Int × Int × Bool := if least ≤ r ∧ pt r = true then (r, n, true) else bad
def dec2 (s : ByteArray) (i r : Int) : Int × Int × Bool := match cb s (i + 1) with
  | some a => fin (r * 64 + a) 2 128
  | none => bad
def dec3 (s : ByteArray) (i r : Int) : Int × Int × Bool := match cb s (i + 1) with
  | some a => (match cb s (i + 2) with
    | some b => fin ((r * 64 + a) * 64 + b) 3 2048
    | none => bad)
  | none => bad
def dec4 (s : ByteArray) (i r : Int) : Int × Int × Bool := match cb s (i + 1) with
  | some a => (match cb s (i + 2) with
    | some b => (match cb s (i + 3) with
      | some c => fin (((r * 64 + a) * 64 + b) * 64 + c) 4 65536
      | none => bad)
    | none => bad)
  | none => bad
/-- What Decode answers. -/
def dec (s : ByteArray) (i : Int) : Int × Int × Bool :=
  if i < 0 then bad else if (s.size : Int) ≤ i then bad
  else if bt s i < 128 then (bt s i, 1, true)
  else if bt s i < 192 then bad
  else if bt s i < 224 then dec2 s i (bt s i - 192)
  else if bt s i < 240 then dec3 s i (bt s i - 224)
  else if bt s i < 248 then dec4 s i (bt s i - 240)
  else bad
/-- The encoding of a code point. -/
def enc (r : Int) : List Int :=
  if r < 128 then [r] else if r < 2048 then [192 + r / 64, 128 + r % 64]
  else if r < 65536 then [224 + r / 4096, 128 + r / 64 % 64, 128 + r % 64]
  else [240 + r / 262144, 128 + r / 4096 % 64, 128 + r / 64 % 64, 128 + r % 64]
theorem enc_len (r : Int) : 1 ≤ (enc r).length ∧ (enc r).length ≤ 4 := by unfold enc; split <;> (try split) <;> (try split) <;> simp
theorem enc_byte (r : Int) (h : pt r = true) : ∀ c ∈ enc r, 0 ≤ c ∧ c ≤ 255 := by
  rw [pt_iff] at h
  intro c hc
  unfold enc at hc
  split at hc
  · simp at hc; omega
  · split at hc
    · simp at hc; omega
    · split at hc
      · simp at hc; omega
      · simp at hc; omega
theorem wrap_id (n : Int) (h : -9223372036854775808 ≤ n) (h' : n ≤ 9223372036854775807) : wrap64 n = n := by unfold wrap64; omega
theorem i64_wraps (n : Int) (h₀ : 0 ≤ n) (h₁ : n < 2 ^ 62) : IntKind.i64.wrap n = n := by rw [IntKind.wrap_i64]; omega
theorem i64_mask (i : Nat) (hi : i ≤ 62) (x : Int) (h₀ : 0 ≤ x) (h₁ : x < 2 ^ 62) : bits .and .i64 x (2 ^ i - 1) = x % 2 ^ i := bits_mask .i64 62 (by decide) i64_wraps i hi x h₀ h₁
theorem i64_join (i : Nat) (x y : Int) (hx₀ : 0 ≤ x) (hx : x % 2 ^ i = 0) (hx₁ : x < 2 ^ 62) (hy₀ : 0 ≤ y) (hy : y < 2 ^ i) (hy₁ : y < 2 ^ 62) : bits .or .i64 x y = x + y :=
  bits_join .i64 62 (by decide) i64_wraps i x y hx₀ hx hx₁ hy₀ hy hy₁
theorem or6 (r c : Int) (h : 0 ≤ r) (h' : r < 1048576) (hc : 0 ≤ c) (hc' : c < 64) : bits .or .i64 (wrap64 (r * 64)) c = r * 64 + c := by
  rw [wrap_id _ (by omega) (by omega)]
  exact i64_join 6 (r * 64) c (by omega) (by omega) (by omega) hc (by omega) (by omega)
theorem and63 (x : Int) (h : 0 ≤ x) (h' : x < 4611686018427387904) : bits .and .i64 x 63 = x % 64 := i64_mask 6 (by decide) x h (by omega)
theorem and31 (x : Int) (h : 0 ≤ x) (h' : x < 4611686018427387904) : bits .and .i64 x 31 = x % 32 := i64_mask 5 (by decide) x h (by omega)
theorem and15 (x : Int) (h : 0 ≤ x) (h' : x < 4611686018427387904) : bits .and .i64 x 15 = x % 16 := i64_mask 4 (by decide) x h (by omega)
theorem and7 (x : Int) (h : 0 ≤ x) (h' : x < 4611686018427387904) : bits .and .i64 x 7 = x % 8 := i64_mask 3 (by decide) x h (by omega)
theorem u8_192 (x : Int) (h : 0 ≤ x) (h' : x ≤ 255) : bits .and .u8 x 192 = x / 64 * 64 := by
  obtain ⟨n, rfl⟩ := Int.eq_ofNat_of_zero_le h
  have hn : n < 256 := by omega
  have key : ∀ m : Fin 256, bits .and .u8 ((m.val : Nat) : Int) 192 = ((m.val : Nat) : Int) / 64 * 64 := by decide +kernel
  exact key ⟨n, hn⟩
/-! ### the program's Decode and the reference's -/
theorem next_at (s : ByteArray) (i : Int) (h : 0 ≤ i) : utf_next.f s i = some (match cb s i with
    | some a => (a, true)
    | none => (0, false)) := by
  have hb := bt_range s i
  unfold utf_next.f cb
  by_cases h1 : i ≥ (s.size : Int)
  · rw [if_pos h1, if_neg (by omega)]
  · rw [if_neg h1, if_pos h, if_pos (by omega), u8_192 _ hb.1 hb.2]
    by_cases h2 : bt s i / 64 * 64 = 128
    · rw [if_pos h2, if_pos (by omega), u8_and63 _ hb.1 (by omega), wrap_id _ (by omega) (by omega)]
      simp only [Option.some.injEq, Prod.mk.injEq, and_true]
      omega
    · rw [if_neg h2, if_neg (by omega)]
theorem point_at (r : Int) : utf_point.f r = some (pt r) := by
  unfold utf_point.f pt
  by_cases h1 : r ≥ 0
  · rw [if_pos h1]
    by_cases h2 : r ≤ 1114111
    · rw [if_pos h2]
      by_cases h3 : r < 55296
      · rw [if_pos h3]; simp [h1, h2, h3]
      · rw [if_neg h3]; simp [h1, h2, h3]
    · rw [if_neg h2]; simp [h2]
  · rw [if_neg h1]; simp [h1]
theorem dloop_end (s : ByteArray) (k : Nat) (i n r least j : Int) (h : ¬ j < n) : utf_Decode.l0 (k + 1) s i n r least j = some (fin r n least) := by
  simp only [utf_Decode.l0]
  rw [if_neg h, point_at]
  simp only [Option.bind_some]
  unfold fin bad
  by_cases h1 : r < least
  · rw [if_pos h1, if_neg (by omega)]
  · rw [if_neg h1]
    by_cases h2 : pt r = true
    · rw [if_pos h2, if_pos ⟨by omega, h2⟩]
    · rw [if_neg h2, if_neg (fun h => h2 h.2)]
theorem dloop_go (s : ByteArray) (k : Nat) (i n r least j : Int) (h : j < n) (hi : 0 ≤ i) (hi' : i < 4611686018427387904) (hj : 1 ≤ j) (hj' : j ≤ 4) (hr : 0 ≤ r) (hr' : r < 1048576) :
    utf_Decode.l0 (k + 1) s i n r least j = (match cb s (i + j) with
      | some a => utf_Decode.l0 k s i n (r * 64 + a) least (j + 1)
      | none => some bad) := by
  simp only [utf_Decode.l0]
  rw [if_pos h, wrap_id (i + j) (by omega) (by omega), next_at s _ (by omega)]
  cases hc : cb s (i + j) with
  | none => simp [bad]
  | some a =>
    have hb := cb_bd hc
    simp only [Option.bind_some, if_true]
    rw [or6 r a hr hr' (by omega) (by omega), wrap_id (j + 1) (by omega) (by omega)]
theorem dloop2 (s : ByteArray) (k : Nat) (i r : Int) (hi : 0 ≤ i) (hi' : i < 4611686018427387904) (hr : 0 ≤ r) (hr' : r < 32) : utf_Decode.l0 (k + 2) s i 2 r 128 1 = some (dec2 s i r) := by
  rw [dloop_go s (k + 1) i 2 r 128 1 (by omega) hi hi' (by omega) (by omega) hr (by omega)]
  unfold dec2
  cases hc : cb s (i + 1) with
  | none => rfl
  | some a => exact dloop_end _ _ _ _ _ _ _ (by omega)
theorem dloop3 (s : ByteArray) (k : Nat) (i r : Int) (hi : 0 ≤ i) (hi' : i < 4611686018427387904) (hr : 0 ≤ r) (hr' : r < 16) : utf_Decode.l0 (k + 3) s i 3 r 2048 1 = some (dec3 s i r) := by
  rw [dloop_go s (k + 2) i 3 r 2048 1 (by omega) hi hi' (by omega) (by omega) hr (by omega)]
  unfold dec3
  cases hc : cb s (i + 1) with
  | none => rfl
  | some a =>
    have hb := cb_bd hc
    show utf_Decode.l0 (k + 2) s i 3 (r * 64 + a) 2048 2 = _
    rw [dloop_go s (k + 1) i 3 _ 2048 2 (by omega) hi hi' (by omega) (by omega) (by omega) (by omega)]
    cases hd : cb s (i + 2) with
    | none => rfl
    | some b => exact dloop_end _ _ _ _ _ _ _ (by omega)
theorem dloop4 (s : ByteArray) (k : Nat) (i r : Int) (hi : 0 ≤ i) (hi' : i < 4611686018427387904) (hr : 0 ≤ r) (hr' : r < 8) : utf_Decode.l0 (k + 4) s i 4 r 65536 1 = some (dec4 s i r) := by
  rw [dloop_go s (k + 3) i 4 r 65536 1 (by omega) hi hi' (by omega) (by omega) hr (by omega)]
  unfold dec4
  cases hc : cb s (i + 1) with
  | none => rfl
  | some a =>
    have hb := cb_bd hc
    show utf_Decode.l0 (k + 3) s i 4 (r * 64 + a) 65536 2 = _
    rw [dloop_go s (k + 2) i 4 _ 65536 2 (by omega) hi hi' (by omega) (by omega) (by omega) (by omega)]
    cases hd : cb s (i + 2) with
    | none => rfl
    | some b =>
      have hb' := cb_bd hd
      show utf_Decode.l0 (k + 2) s i 4 ((r * 64 + a) * 64 + b) 65536 3 = _
      rw [dloop_go s (k + 1) i 4 _ 65536 3 (by omega) hi hi' (by omega) (by omega) (by omega) (by omega)]
      cases he : cb s (i + 3) with
      | none => rfl
      | some c => exact dloop_end _ _ _ _ _ _ _ (by omega)
theorem decode_at (s : ByteArray) (i : Int) (k : Nat) (hs : s.size ≤ 140737488351232) (hk : 9 ≤ k) : utf_Decode.f k s i = some (dec s i) := by
  obtain ⟨k, rfl⟩ : ∃ m, k = m + 9 := ⟨k - 9, by omega⟩
  have hb := bt_range s i
  unfold utf_Decode.f dec
  by_cases h0 : i < 0
  · rw [if_pos h0, if_pos h0]; simp only [utf_Decode.j0]; rfl
  rw [if_neg h0, if_neg h0]
  by_cases h1 : (s.size : Int) ≤ i
  · rw [if_pos h1, decide_eq_true (by omega)]; simp only [utf_Decode.j0]; rfl
  rw [if_neg h1, decide_eq_false (by omega)]
  simp only [utf_Decode.j0]
  rw [if_neg (by decide), if_pos (by omega), if_pos (by omega), wrap_id (bt s i) (by omega) (by omega)]
  by_cases h2 : bt s i < 128
  · rw [if_pos h2, if_pos h2]
  rw [if_neg h2, if_neg h2]
  by_cases h3 : bt s i < 192
  · rw [if_neg (by omega), if_pos h3]
    simp only [utf_Decode.j1]
    rw [if_neg (by decide), if_neg (by omega)]
    simp only [utf_Decode.j2]
    rw [if_neg (by decide), if_neg (by omega)]
    rfl
  rw [if_pos (by omega), if_neg h3]
  by_cases h4 : bt s i < 224
  · rw [if_pos h4, decide_eq_true h4]
    simp only [utf_Decode.j1, utf_Decode.j3]
    rw [if_pos trivial, and31 _ (by omega) (by omega), show bt s i % 32 = bt s i - 192 from by omega]
    exact dloop2 s _ i _ (by omega) (by omega) (by omega) (by omega)
  rw [if_neg h4, decide_eq_false h4]
  simp only [utf_Decode.j1]
  rw [if_neg (by decide), if_pos (by omega)]
  by_cases h5 : bt s i < 240
  · rw [if_pos h5, decide_eq_true h5]
    simp only [utf_Decode.j2, utf_Decode.j3]
    rw [if_pos trivial, and15 _ (by omega) (by omega), show bt s i % 16 = bt s i - 224 from by omega]
    exact dloop3 s _ i _ (by omega) (by omega) (by omega) (by omega)
  rw [if_neg h5, decide_eq_false h5]
  simp only [utf_Decode.j2]
  rw [if_neg (by decide), if_pos (by omega)]
  by_cases h6 : bt s i < 248
  · rw [if_pos h6, if_pos h6]
    simp only [utf_Decode.j3]
    rw [and7 _ (by omega) (by omega), show bt s i % 8 = bt s i - 240 from by omega]
    exact dloop4 s _ i _ (by omega) (by omega) (by omega) (by omega)
  · rw [if_neg h6, if_neg h6]; rfl
/-! ### the reference's Decode -/
theorem size_at (r : Int) (k : Nat) (hk : 1 ≤ k) : ndjqref01_size.f k r = some (if pt r = true then ((enc r).length : Int) else 0) := by
  obtain ⟨k, rfl⟩ : ∃ m, k = m + 1 := ⟨k - 1, by omega⟩
  unfold ndjqref01_size.f
  by_cases hp : pt r = true
  · rw [if_pos hp]
    rw [pt_iff] at hp
    rw [if_neg (by omega), if_neg (by omega)]
    have main : ndjqref01_size.j0 (k + 1) r false = some ((enc r).length : Int) := by
      simp only [ndjqref01_size.j0]
      rw [if_neg (by decide)]
      unfold enc
      by_cases a : r < 128
      · rw [if_pos a, if_pos a]; rfl
      rw [if_neg a, if_neg a]
      by_cases b : r < 2048
      · rw [if_pos b, if_pos b]; rfl
      rw [if_neg b, if_neg b]
      by_cases c : r < 65536
      · rw [if_pos c, if_pos c]; rfl
      rw [if_neg c, if_neg c]; rfl
    by_cases h : r ≥ 55296
    · rw [if_pos h, decide_eq_false (by omega)]; exact main
    · rw [if_neg h]; exact main
  · rw [if_neg hp]
    have hp' : ¬ (0 ≤ r ∧ r ≤ 1114111 ∧ (r < 55296 ∨ 57343 < r)) := fun h => hp ((pt_iff r).2 h)
    by_cases h0 : r < 0
    · rw [if_pos h0]; simp only [ndjqref01_size.j0]; rfl
    rw [if_neg h0]
    by_cases h1 : r > 1114111
    · rw [if_pos h1]; simp only [ndjqref01_size.j0]; rfl
    rw [if_neg h1, if_pos (by omega), decide_eq_true (by omega)]
    simp only [ndjqref01_size.j0]; rfl
theorem enc_len_iff (r : Int) : (enc r).length = (if r < 128 then 1 else if r < 2048 then 2 else if r < 65536 then 3 else 4 : Nat) := by
  unfold enc
  split
  · rfl
  · split
    · rfl
    · split <;> rfl
theorem fin_size (r n least : Int) (h : least ≤ r ∧ pt r = true ↔ (if pt r = true then ((enc r).length : Int) else 0) = n) (k : Nat) (hk : 1 ≤ k) :
    ((ndjqref01_size.f k r).bind fun t => if t = n then some (r, n, true) else some (0, 0, false)) = some (fin r n least) := by
  rw [size_at r k hk]
  simp only [Option.bind_some]
  unfold fin bad
  by_cases c : least ≤ r ∧ pt r = true
  · rw [if_pos c, if_pos (h.1 c)]
  · rw [if_neg c, if_neg (fun e => c (h.2 e))]
theorem rfit2 (r : Int) (h0 : 0 ≤ r) (h : r < 2048) : 128 ≤ r ∧ pt r = true ↔ (if pt r = true then ((enc r).length : Int) else 0) = 2 := by
  by_cases hp : pt r = true
  · rw [if_pos hp, enc_len_iff]
    constructor
    · intro ⟨a, _⟩; rw [if_neg (by omega), if_pos h]; rfl
    · intro e; refine ⟨?_, hp⟩
      by_cases a : r < 128
      · rw [if_pos a] at e; cases e
      · omega
  · rw [if_neg hp]; exact ⟨fun h => absurd h.2 hp, fun h => by cases h⟩
theorem rfit3 (r : Int) (h0 : 0 ≤ r) (h : r < 65536) : 2048 ≤ r ∧ pt r = true ↔ (if pt r = true then ((enc r).length : Int) else 0) = 3 := by
  by_cases hp : pt r = true
  · rw [if_pos hp, enc_len_iff]
    constructor
    · intro ⟨a, _⟩; rw [if_neg (by omega), if_neg (by omega), if_pos h]; rfl
    · intro e; refine ⟨?_, hp⟩
      by_cases a : r < 128
      · rw [if_pos a] at e; cases e
      · rw [if_neg a] at e
        by_cases b : r < 2048
        · rw [if_pos b] at e; cases e
        · omega
  · rw [if_neg hp]; exact ⟨fun h => absurd h.2 hp, fun h => by cases h⟩
theorem rfit4 (r : Int) (h0 : 0 ≤ r) : 65536 ≤ r ∧ pt r = true ↔ (if pt r = true then ((enc r).length : Int) else 0) = 4 := by
  by_cases hp : pt r = true
  · rw [if_pos hp, enc_len_iff]
    constructor
    · intro ⟨a, _⟩; rw [if_neg (by omega), if_neg (by omega), if_neg (by omega)]; rfl
    · intro e; refine ⟨?_, hp⟩
      by_cases a : r < 128
      · rw [if_pos a] at e; cases e
      · rw [if_neg a] at e
        by_cases b : r < 2048
        · rw [if_pos b] at e; cases e
        · rw [if_neg b] at e
          by_cases c : r < 65536
          · rw [if_pos c] at e; cases e
          · omega
  · rw [if_neg hp]; exact ⟨fun h => absurd h.2 hp, fun h => by cases h⟩
theorem rloop_end (s : ByteArray) (k : Nat) (i n r least j : Int) (h : ¬ j < n) (hf : least ≤ r ∧ pt r = true ↔ (if pt r = true then ((enc r).length : Int) else 0) = n) :
    ndjqref01_Decode.l0 (k + 2) s i n r j = some (fin r n least) := by
  simp only [ndjqref01_Decode.l0]
  rw [if_neg h]
  exact fin_size r n least hf _ (by omega)
theorem rloop_go (s : ByteArray) (k : Nat) (i n r j : Int) (h : j < n) (hi : 0 ≤ i) (hi' : i < 4611686018427387904) (hj : 1 ≤ j) (hj' : j ≤ 4) (hr : 0 ≤ r) (hr' : r < 1048576) (hn : i + j < (s.size : Int)) :
    ndjqref01_Decode.l0 (k + 1) s i n r j = (match cb s (i + j) with
      | some a => ndjqref01_Decode.l0 k s i n (r * 64 + a) (j + 1)
      | none => some bad) := by
  have hb := bt_range s (i + j)
  simp only [ndjqref01_Decode.l0]
  rw [if_pos h, wrap_id (i + j) (by omega) (by omega), if_pos (by omega), if_pos hn, wrap_id (bt s (i + j)) (by omega) (by omega)]
  unfold cb
  by_cases a : bt s (i + j) < 128
  · rw [if_pos a, if_neg (by omega)]; rfl
  rw [if_neg a]
  by_cases b : bt s (i + j) ≥ 192
  · rw [if_pos b, if_neg (by omega)]; rfl
  rw [if_neg b, if_pos (by omega), and63 _ (by omega) (by omega), or6 r _ hr hr' (by omega) (by omega), wrap_id (j + 1) (by omega) (by omega), show bt s (i + j) % 64 = bt s (i + j) - 128 from by omega]
theorem cb_out {s : ByteArray} {i : Int} (h : (s.size : Int) ≤ i) : cb s i = none := by
  unfold cb; rw [if_neg (by omega)]
theorem rj2 (s : ByteArray) (k : Nat) (i r : Int) (hs : s.size ≤ 140737488351232) (hi : 0 ≤ i) (hi' : i < (s.size : Int)) (hr : 0 ≤ r) (hr' : r < 32) : ndjqref01_Decode.j3 (k + 9) s i 2 r = some (dec2 s i r) := by
  simp only [ndjqref01_Decode.j3]
  rw [wrap_id ((s.size : Int) - i) (by omega) (by omega)]
  unfold dec2
  by_cases h : (2 : Int) > (s.size : Int) - i
  · rw [if_pos h, cb_out (by omega)]; rfl
  rw [if_neg h, rloop_go s (k + 7) i 2 r 1 (by omega) hi (by omega) (by omega) (by omega) hr (by omega) (by omega)]
  cases hc : cb s (i + 1) with
  | none => rfl
  | some a =>
    have hb := cb_bd hc
    exact rloop_end s (k + 5) i 2 (r * 64 + a) 128 2 (by omega) (rfit2 _ (by omega) (by omega))
theorem rj3 (s : ByteArray) (k : Nat) (i r : Int) (hs : s.size ≤ 140737488351232) (hi : 0 ≤ i) (hi' : i < (s.size : Int)) (hr : 0 ≤ r) (hr' : r < 16) : ndjqref01_Decode.j3 (k + 9) s i 3 r = some (dec3 s i r) := by
  simp only [ndjqref01_Decode.j3]
  rw [wrap_id ((s.size : Int) - i) (by omega) (by omega)]
  unfold dec3
  by_cases h : (3 : Int) > (s.size : Int) - i
  · rw [if_pos h]
    cases hc : cb s (i + 1) with
    | none => rfl
    | some a => simp only []; rw [cb_out (i := i + 2) (by omega)]; rfl
  rw [if_neg h, rloop_go s (k + 7) i 3 r 1 (by omega) hi (by omega) (by omega) (by omega) hr (by omega) (by omega)]
  cases hc : cb s (i + 1) with
  | none => rfl
  | some a =>
    have hb := cb_bd hc
    show ndjqref01_Decode.l0 (k + 7) s i 3 (r * 64 + a) 2 = _
    rw [rloop_go s (k + 6) i 3 _ 2 (by omega) hi (by omega) (by omega) (by omega) (by omega) (by omega) (by omega)]
    cases hd : cb s (i + 2) with
    | none => rfl
    | some b =>
      have hb' := cb_bd hd
      exact rloop_end s (k + 4) i 3 ((r * 64 + a) * 64 + b) 2048 3 (by omega) (rfit3 _ (by omega) (by omega))
theorem rj4 (s : ByteArray) (k : Nat) (i r : Int) (hs : s.size ≤ 140737488351232) (hi : 0 ≤ i) (hi' : i < (s.size : Int)) (hr : 0 ≤ r) (hr' : r < 8) : ndjqref01_Decode.j3 (k + 9) s i 4 r = some (dec4 s i r) := by
  simp only [ndjqref01_Decode.j3]
  rw [wrap_id ((s.size : Int) - i) (by omega) (by omega)]
  unfold dec4
  by_cases h : (4 : Int) > (s.size : Int) - i
  · rw [if_pos h]
    cases hc : cb s (i + 1) with
    | none => rfl
    | some a =>
      simp only []
      cases hd : cb s (i + 2) with
      | none => rfl
      | some b => simp only []; rw [cb_out (i := i + 3) (by omega)]; rfl
  rw [if_neg h, rloop_go s (k + 7) i 4 r 1 (by omega) hi (by omega) (by omega) (by omega) hr (by omega) (by omega)]
  cases hc : cb s (i + 1) with
  | none => rfl
  | some a =>
    have hb := cb_bd hc
    show ndjqref01_Decode.l0 (k + 7) s i 4 (r * 64 + a) 2 = _
    rw [rloop_go s (k + 6) i 4 _ 2 (by omega) hi (by omega) (by omega) (by omega) (by omega) (by omega) (by omega)]
    cases hd : cb s (i + 2) with
    | none => rfl
    | some b =>
      have hb' := cb_bd hd
      show ndjqref01_Decode.l0 (k + 6) s i 4 ((r * 64 + a) * 64 + b) 3 = _
      rw [rloop_go s (k + 5) i 4 _ 3 (by omega) hi (by omega) (by omega) (by omega) (by omega) (by omega) (by omega)]
      cases he : cb s (i + 3) with
      | none => rfl
      | some c =>
        have hb'' := cb_bd he
        exact rloop_end s (k + 3) i 4 (((r * 64 + a) * 64 + b) * 64 + c) 65536 4 (by omega) (rfit4 _ (by omega))
theorem rdecode_at (s : ByteArray) (i : Int) (k : Nat) (hs : s.size ≤ 140737488351232) (hk : 19 ≤ k) : ndjqref01_Decode.f k s i = some (dec s i) := by
  obtain ⟨k, rfl⟩ : ∃ m, k = m + 19 := ⟨k - 19, by omega⟩
  have hb := bt_range s i
  unfold ndjqref01_Decode.f dec
  by_cases h0 : i < 0
  · rw [if_pos h0, if_pos h0]; simp only [ndjqref01_Decode.j0]; rfl
  rw [if_neg h0, if_neg h0]
  by_cases h1 : (s.size : Int) ≤ i
  · rw [if_pos h1, decide_eq_true (by omega)]; simp only [ndjqref01_Decode.j0]; rfl
  rw [if_neg h1, decide_eq_false (by omega)]
  simp only [ndjqref01_Decode.j0]
  rw [if_neg (by decide), if_pos (by omega), if_pos (by omega), wrap_id (bt s i) (by omega) (by omega)]
  by_cases h2 : bt s i < 128
  · rw [if_pos h2, if_pos h2]
  rw [if_neg h2, if_neg h2]
  by_cases h3 : bt s i < 192
  · rw [if_neg (by omega), if_pos h3]
    simp only [ndjqref01_Decode.j1]
    rw [if_neg (by decide), if_neg (by omega)]
    simp only [ndjqref01_Decode.j2]
    rw [if_neg (by decide), if_neg (by omega)]
    rfl
  rw [if_pos (by omega), if_neg h3]
  by_cases h4 : bt s i < 224
  · rw [if_pos h4, decide_eq_true h4]
    simp only [ndjqref01_Decode.j1]
    rw [if_pos trivial, and31 _ (by omega) (by omega), show bt s i % 32 = bt s i - 192 from by omega]
    exact rj2 s (k + 8) i _ hs (by omega) (by omega) (by omega) (by omega)
  rw [if_neg h4, decide_eq_false h4]
  simp only [ndjqref01_Decode.j1]
  rw [if_neg (by decide), if_pos (by omega)]
  by_cases h5 : bt s i < 240
  · rw [if_pos h5, decide_eq_true h5]
    simp only [ndjqref01_Decode.j2]
    rw [if_pos trivial, and15 _ (by omega) (by omega), show bt s i % 16 = bt s i - 224 from by omega]
    exact rj3 s (k + 7) i _ hs (by omega) (by omega) (by omega) (by omega)
  rw [if_neg h5, decide_eq_false h5]
  simp only [ndjqref01_Decode.j2]
  rw [if_neg (by decide), if_pos (by omega)]
  by_cases h6 : bt s i < 248
  · rw [if_pos h6, if_pos h6, and7 _ (by omega) (by omega), show bt s i % 8 = bt s i - 240 from by omega]
    exact rj4 s (k + 7) i _ hs (by omega) (by omega) (by omega) (by omega)
  · rw [if_neg h6, if_neg h6]; rfl
/-! ### the code points from an offset on -/
def rn (s : ByteArray) : Nat → Int → Option (List Int)
  | 0, _ => none
  | m + 1, i => if i < (s.size : Int) then (if (dec s i).2.2 = true then (rn s m (i + (dec s i).2.1)).map ((dec s i).1 :: ·) else none) else some []
theorem fin_num (r n least : Int) : (fin r n least).2.2 = true → (fin r n least) = (r, n, true) := by
  unfold fin bad
  split
  · intro _; rfl
  · intro h; cases h
/-- A code point that is read takes one to four bytes and ends within the string. -/
theorem dec_len (s : ByteArray) (i : Int) (h : (dec s i).2.2 = true) : 0 ≤ i ∧ 1 ≤ (dec s i).2.1 ∧ (dec s i).2.1 ≤ 4 ∧ i + (dec s i).2.1 ≤ (s.size : Int) := by
  unfold dec at h ⊢
  by_cases h0 : i < 0
  · rw [if_pos h0] at h; cases h
  rw [if_neg h0] at h ⊢
  by_cases h1 : (s.size : Int) ≤ i
  · rw [if_pos h1] at h; cases h
  rw [if_neg h1] at h ⊢
  by_cases h2 : bt s i < 128
  · rw [if_pos h2] at h ⊢; simp only []; omega
  rw [if_neg h2] at h ⊢
  by_cases h3 : bt s i < 192
  · rw [if_pos h3] at h; cases h
  rw [if_neg h3] at h ⊢
  by_cases h4 : bt s i < 224
  · rw [if_pos h4] at h ⊢
    unfold dec2 at h ⊢
    cases hc : cb s (i + 1) with
    | none => rw [hc] at h; cases h
    | some a =>
      rw [hc] at h
      have := cb_bd hc
      simp only [] at h ⊢
      rw [fin_num _ _ _ h]; simp only []; omega
  rw [if_neg h4] at h ⊢
  by_cases h5 : bt s i < 240
  · rw [if_pos h5] at h ⊢
    unfold dec3 at h ⊢
    cases hc : cb s (i + 1) with
    | none => rw [hc] at h; cases h
    | some a =>
      rw [hc] at h
      simp only [] at h ⊢
      cases hd : cb s (i + 2) with
      | none => rw [hd] at h; cases h
      | some b =>
        rw [hd] at h
        have := cb_bd hd
        simp only [] at h ⊢
        rw [fin_num _ _ _ h]; simp only []; omega
  rw [if_neg h5] at h ⊢
  by_cases h6 : bt s i < 248
  · rw [if_pos h6] at h ⊢
    unfold dec4 at h ⊢
    cases hc : cb s (i + 1) with
    | none => rw [hc] at h; cases h
    | some a =>
      rw [hc] at h
      simp only [] at h ⊢
      cases hd : cb s (i + 2) with
      | none => rw [hd] at h; cases h
      | some b =>
        rw [hd] at h
        simp only [] at h ⊢
        cases he : cb s (i + 3) with
        | none => rw [he] at h; cases h
        | some c =>
          rw [he] at h
          have := cb_bd he
          simp only [] at h ⊢
          rw [fin_num _ _ _ h]; simp only []; omega
  · rw [if_neg h6] at h; cases h
/-- The code points from the beginning on. -/
def runes (s : ByteArray) : Option (List Int) := rn s (s.size + 1) 0
theorem rn_len (s : ByteArray) : ∀ (m : Nat) (i : Int) (l : List Int), 0 ≤ i → rn s m i = some l → i ≤ s.size → (l.length : Int) ≤ (s.size : Int) - i
  | 0, _, _, _, h, _ => by cases h
  | m + 1, i, l, h0, h, hi => by
    simp only [rn] at h
    by_cases c : i < (s.size : Int)
    · rw [if_pos c] at h
      by_cases d : (dec s i).2.2 = true
      · rw [if_pos d] at h
        have dl := dec_len s i d
        cases e : rn s m (i + (dec s i).2.1) with
        | none => rw [e] at h; cases h
        | some l' =>
          rw [e] at h
          injection h with h
          have := rn_len s m _ l' (by omega) e dl.2.2.2
          rw [← h]
          simp only [List.length_cons]
          omega
      · rw [if_neg d] at h; cases h
    · rw [if_neg c] at h
      injection h with h
      rw [← h]
      simp; omega
/-! ### Count -/
theorem count_loop (s : ByteArray) (hs : s.size ≤ 140737488351232) : ∀ (m : Nat) (i c : Int) (k : Nat), 0 ≤ i → i ≤ s.size → (s.size : Int) - i < m → 0 ≤ c → c ≤ i → m + 9 ≤ k →
    utf_Count.l0 k s c i = some (match rn s m i with
      | some l => (c + l.length, true)
      | none => (0, false))
  | 0, i, c, k, h0, hi, hm, _, _, _ => by omega
  | m + 1, i, c, k, h0, hi, hm, hc0, hc, hk => by
    obtain ⟨k, rfl⟩ : ∃ j, k = j + 1 := ⟨k - 1, by omega⟩
    simp only [utf_Count.l0, rn]
    by_cases a : i < (s.size : Int)
    · rw [if_pos a, if_pos a, decode_at s i k hs (by omega)]
      simp only [Option.bind_some]
      by_cases d : (dec s i).2.2 = true
      · rw [if_pos d, if_pos d]
        have dl := dec_len s i d
        rw [wrap_id (c + 1) (by omega) (by omega), wrap_id (i + (dec s i).2.1) (by omega) (by omega)]
        rw [count_loop s hs m (i + (dec s i).2.1) (c + 1) k (by omega) (by omega) (by omega) (by omega) (by omega) (by omega)]
        cases e : rn s m (i + (dec s i).2.1) with
        | none => rfl
        | some l => simp only [Option.map_some, List.length_cons, Option.some.injEq, Prod.mk.injEq, and_true]; omega
      · rw [if_neg d, if_neg d]
    · rw [if_neg a, if_neg a]; simp
theorem count_at (s : ByteArray) (hs : s.size ≤ 140737488351232) (k : Nat) (hk : s.size + 10 ≤ k) : utf_Count.f k s = some (match runes s with
      | some l => ((l.length : Int), true)
      | none => (0, false)) := by
  unfold utf_Count.f runes
  rw [count_loop s hs (s.size + 1) 0 0 k (by omega) (by omega) (by omega) (by omega) (by omega) (by omega)]
  cases rn s (s.size + 1) 0 with
  | none => rfl
  | some l => simp
/-! ### the reference's Runes -/
theorem rrunes_loop (s : ByteArray) (hs : s.size < 17592186044416) : ∀ (m : Nat) (i : Int) (acc : List Int) (k : Nat), 0 ≤ i → i ≤ s.size → (s.size : Int) - i < m → (acc.length : Int) ≤ i → m + 19 ≤ k →
    ndjqref01_Runes.l0 k s acc i = some (match rn s m i with
      | some l => (acc ++ l, true)
      | none => ([], false))
  | 0, i, c, k, h0, hi, hm, _, _ => by omega
  | m + 1, i, acc, k, h0, hi, hm, hc, hk => by
    obtain ⟨k, rfl⟩ : ∃ j, k = j + 1 := ⟨k - 1, by omega⟩
    simp only [ndjqref01_Runes.l0, rn]
    by_cases a : i < (s.size : Int)
    · rw [if_pos a, if_pos a, rdecode_at s i k (by omega) (by omega)]
      simp only [Option.bind_some]
      by_cases d : (dec s i).2.2 = true
      · rw [if_pos d, if_pos d, if_pos (by omega)]
        have dl := dec_len s i d
        rw [wrap_id (i + (dec s i).2.1) (by omega) (by omega)]
        rw [rrunes_loop s hs m (i + (dec s i).2.1) (acc ++ [(dec s i).1]) k (by omega) (by omega) (by omega) (by simp only [List.length_append, List.length_cons, List.length_nil]; omega) (by omega)]
        cases e : rn s m (i + (dec s i).2.1) with
        | none => rfl
        | some l => simp
      · rw [if_neg d, if_neg d]
    · rw [if_neg a, if_neg a]; simp
theorem rrunes_at (s : ByteArray) (hs : s.size < 17592186044416) (k : Nat) (hk : s.size + 20 ≤ k) : ndjqref01_Runes.f k s = some (match runes s with
      | some l => (l, true)
      | none => ([], false)) := by
  unfold ndjqref01_Runes.f runes
  rw [rrunes_loop s hs (s.size + 1) 0 [] k (by omega) (by omega) (by omega) (by simp) (by omega)]
  cases rn s (s.size + 1) 0 with
  | none => rfl
  | some l => simp
theorem valid_at (s : ByteArray) (hs : s.size ≤ 140737488351232) (k : Nat) (hk : s.size + 10 ≤ k) : utf_Valid.f k s = some (runes s).isSome := by
  unfold utf_Valid.f
  rw [count_at s hs k hk]
  cases runes s <;> rfl
def u8 (s : ByteArray) : Bool := (runes s).isSome
theorem rvalid_at (s : ByteArray) (hs : s.size < 17592186044416) (k : Nat) (hk : s.size + 20 ≤ k) : ndjqref01_Valid.f k s = some (runes s).isSome := by
  unfold ndjqref01_Valid.f
  rw [rrunes_at s hs k hk]
  cases runes s <;> rfl
end Go.Proofs.Ytgpjkojnmeaoiaa.QV
