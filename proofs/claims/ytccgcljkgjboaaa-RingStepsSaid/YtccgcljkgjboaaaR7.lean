import Derived.Test.YtccgcljkgjboaaaR6
/- The plain half of RingOrder: what the slots hold, their count, the list of Held. -/
namespace Go.Proofs.Ytccgcljkgjboaaa.Rg
open Go.RowKit Go.Proofs.YtccgcljkgjboaaaW.PrintWords Go.Proofs.YtccgcljkgjboaaaW.PrintLast Go.Proofs.YtccgcljkgjboaaaW.PrintMore
set_option linter.unusedVariables false
set_option linter.unusedSimpArgs false
def cnt (f : Nat → Option Res) : Nat → Nat
  | 0 => 0
  | k + 1 => cnt f k + (if (f k).isSome then 1 else 0)
theorem put_ne (f : Nat → Option Res) (q : Nat) (x : Option Res) (n : Nat) (h : n ≠ q) : put f q x n = f n := by unfold put; rw [if_neg h]
theorem cnt_far (f : Nat → Option Res) (q : Nat) (x : Option Res) : ∀ n, n ≤ q → cnt (put f q x) n = cnt f n
  | 0, _ => rfl
  | n + 1, h => by rw [cnt, cnt, cnt_far f q x n (by omega), put_ne f q x n (by omega)]
theorem cnt_some (f : Nat → Option Res) (q : Nat) (x : Res) (hf : f q = none) : ∀ n, q < n → cnt (put f q (some x)) n = cnt f n + 1
  | 0, h => by omega
  | n + 1, h => by
    rw [cnt, cnt]
    by_cases e : n = q
    · subst e
      rw [cnt_far f n _ n (Nat.le_refl _), hf]
      simp [put]
    · rw [cnt_some f q x hf n (by omega), put, if_neg e]
      omega
theorem cnt_none (f : Nat → Option Res) (q : Nat) (x : Res) (hf : f q = some x) : ∀ n, q < n → cnt (put f q none) n + 1 = cnt f n
  | 0, h => by omega
  | n + 1, h => by
    rw [cnt, cnt]
    by_cases e : n = q
    · subst e
      rw [cnt_far f n _ n (Nat.le_refl _), hf]
      simp [put]
    · have := cnt_none f q x hf n (by omega)
      rw [put_ne f q _ n e]
      omega
theorem cnt_zero : ∀ n, cnt (fun _ => none) n = 0
  | 0 => rfl
  | n + 1 => by rw [cnt, cnt_zero n]; rfl
theorem mod_same {a b c n : Nat} (hc : 0 < c) (ha : n ≤ a) (ha' : a < n + c) (hb : n ≤ b) (hb' : b < n + c) (h : a % c = b % c) : a = b := by
  have h1 := Nat.div_add_mod a c
  have h2 := Nat.div_add_mod b c
  rw [h] at h1
  have h3 : a / c = b / c := by
    rcases Nat.lt_trichotomy (a / c) (b / c) with h | h | h
    · have : c * (a / c + 1) ≤ c * (b / c) := Nat.mul_le_mul_left _ h
      rw [Nat.mul_add, Nat.mul_one] at this
      omega
    · exact h
    · have : c * (b / c + 1) ≤ c * (a / c) := Nat.mul_le_mul_left _ h
      rw [Nat.mul_add, Nat.mul_one] at this
      omega
  rw [h3] at h1
  omega
/-- What lies in the window bears its number. -/
def Good (f : Nat → Option Res) (next cap : Nat) : Prop :=
  ∀ m x, next ≤ m → m < next + cap → f (m % cap) = some x → x.rc = (m : Int) ∧ x.out = [((m % 256 : Nat) : Int)]
theorem Good.put {f : Nat → Option Res} {next cap : Nat} (h : Good f next cap) (hc : 0 < cap) (n : Nat) (h1 : next ≤ n) (h2 : n < next + cap) (st : Int) : Good (put f (n % cap) (some ⟨[((n % 256 : Nat) : Int)], st, (n : Int)⟩)) next cap := by
  intro m x m1 m2 hx
  unfold Rg.put at hx
  split at hx
  · next e =>
    obtain rfl := mod_same hc m1 m2 h1 h2 e
    obtain rfl := Option.some.inj hx
    exact ⟨rfl, rfl⟩
  · exact h m x m1 m2 hx
theorem Good.take {f : Nat → Option Res} {next cap : Nat} (h : Good f next cap) (hc : 0 < cap) : Good (Rg.put f (next % cap) none) (next + 1) cap := by
  intro m x m1 m2 hx
  unfold Rg.put at hx
  split at hx
  · cases hx
  · next e =>
    by_cases hm : m < next + cap
    · exact h m x (by omega) hm hx
    · obtain rfl : m = next + cap := by omega
      exact absurd (Nat.add_mod_right next cap) e
theorem heldOf_bd (f : Nat → Option Res) (next cap : Nat) : ∀ i, ∀ x ∈ heldOf f next cap i, (next : Int) ≤ x ∧ x < (next : Int) + (i : Int)
  | 0, x, h => by simp [heldOf] at h
  | i + 1, x, h => by
    have ih := heldOf_bd f next cap i
    rw [heldOf] at h
    split at h
    · rcases List.mem_append.1 h with h | h
      · have := ih x h; omega
      · rw [List.mem_singleton.1 h]; omega
    · have := ih x h; omega
theorem heldOf_sorted (f : Nat → Option Res) (next cap : Nat) : ∀ i, (heldOf f next cap i).Pairwise (· < ·)
  | 0 => List.Pairwise.nil
  | i + 1 => by
    have ih := heldOf_sorted f next cap i
    rw [heldOf]
    split
    · refine List.pairwise_append.2 ⟨ih, List.pairwise_singleton _ _, fun a ha b hb => ?_⟩
      have := heldOf_bd f next cap i a ha
      rw [List.mem_singleton.1 hb]
      omega
    · exact ih
theorem heldOf_mem (f : Nat → Option Res) (next cap : Nat) (k : Nat) : ∀ i, k < i → ((((next + k : Nat) : Int) ∈ heldOf f next cap i) ↔ (f ((next + k) % cap)).isSome = true)
  | 0, h => by omega
  | i + 1, h => by
    rw [heldOf]
    by_cases e : k = i
    · subst e
      have hn : ((next + k : Nat) : Int) ∉ heldOf f next cap k := fun h => by have := heldOf_bd f next cap k _ h; omega
      split
      · next hs => exact ⟨fun _ => hs, fun _ => List.mem_append_right _ (List.mem_singleton.2 rfl)⟩
      · next hs => exact ⟨fun h => absurd h hn, fun h => absurd h hs⟩
    · have ih := heldOf_mem f next cap k i (by omega)
      split
      · refine ⟨fun h => ?_, fun h => List.mem_append_left _ (ih.2 h)⟩
        rcases List.mem_append.1 h with h | h
        · exact ih.1 h
        · have := List.mem_singleton.1 h; omega
      · exact ih
end Go.Proofs.Ytccgcljkgjboaaa.Rg
