import Derived.Test.YtccgcljkgjboaaaR13
import Derived.Test.YtccgcljkgjboaaaR7
/- What Put answers and leaves, for the ring and for the reference; the plain half of RingRaw and RingSteps. -/
namespace Go.Proofs.Ytccgcljkgjboaaa.Rg
open Go.RowKit Go.Proofs.YtccgcljkgjboaaaW.PrintWords Go.Proofs.YtccgcljkgjboaaaW.PrintLast Go.Proofs.YtccgcljkgjboaaaW.PrintMore
set_option linter.unusedVariables false
set_option linter.unusedSimpArgs false
set_option maxRecDepth 100000
set_option maxHeartbeats 4000000
def ins (l : List Int) (M : Int) : List Int := l.take (pos l M) ++ [M] ++ l.drop (pos l M)
def insX (l : List Int) (M : Int) (xs : List Res) (x : Res) : List Res := xs.take (pos l M) ++ [x] ++ xs.drop (pos l M)
theorem ins_nil (M : Int) : ins [] M = [M] := rfl
theorem ins_lt (a : Int) (l : List Int) (M : Int) (h : a < M) : ins (a :: l) M = a :: ins l M := by
  unfold ins
  rw [pos, if_pos h]
  simp
theorem ins_ge (a : Int) (l : List Int) (M : Int) (h : ¬ a < M) : ins (a :: l) M = M :: a :: l := by
  unfold ins
  rw [pos, if_neg h]
  simp
theorem ins_mem (M a : Int) : ∀ l : List Int, a ∈ ins l M ↔ a = M ∨ a ∈ l
  | [] => by simp [ins_nil]
  | b :: l => by
    by_cases h : b < M
    · rw [ins_lt b l M h, List.mem_cons, ins_mem M a l, List.mem_cons]
      constructor
      · rintro (h | h | h)
        · exact .inr (.inl h)
        · exact .inl h
        · exact .inr (.inr h)
      · rintro (h | h | h)
        · exact .inr (.inl h)
        · exact .inl h
        · exact .inr (.inr h)
    · rw [ins_ge b l M h, List.mem_cons]
theorem ins_sorted (M : Int) : ∀ l : List Int, l.Pairwise (· < ·) → M ∉ l → (ins l M).Pairwise (· < ·)
  | [], _, _ => by rw [ins_nil]; exact List.pairwise_singleton _ _
  | b :: l, hs, hn => by
    obtain ⟨h1, h2⟩ := List.pairwise_cons.1 hs
    by_cases h : b < M
    · rw [ins_lt b l M h]
      refine List.pairwise_cons.2 ⟨fun a ha => ?_, ins_sorted M l h2 (fun e => hn (List.mem_cons_of_mem _ e))⟩
      rcases (ins_mem M a l).1 ha with rfl | ha
      · exact h
      · exact h1 a ha
    · rw [ins_ge b l M h]
      have hb : M < b := by
        have : b ≠ M := fun e => hn (by rw [e]; exact List.mem_cons_self)
        omega
      refine List.pairwise_cons.2 ⟨fun a ha => ?_, hs⟩
      rcases List.mem_cons.1 ha with rfl | ha
      · exact hb
      · have := h1 a ha; omega
theorem sorted_ext : ∀ (l1 l2 : List Int), l1.Pairwise (· < ·) → l2.Pairwise (· < ·) → (∀ a, a ∈ l1 ↔ a ∈ l2) → l1 = l2
  | [], [], _, _, _ => rfl
  | [], b :: l, _, _, h => absurd ((h b).2 List.mem_cons_self) (by simp)
  | a :: l, [], _, _, h => absurd ((h a).1 List.mem_cons_self) (by simp)
  | a :: l, b :: m, h1, h2, h => by
    obtain ⟨p1, p2⟩ := List.pairwise_cons.1 h1
    obtain ⟨q1, q2⟩ := List.pairwise_cons.1 h2
    have e : a = b := by
      rcases List.mem_cons.1 ((h a).1 List.mem_cons_self) with e | e
      · exact e
      · rcases List.mem_cons.1 ((h b).2 List.mem_cons_self) with e2 | e2
        · exact e2.symm
        · have := q1 a e; have := p1 b e2; omega
    subst e
    congr 1
    refine sorted_ext l m p2 q2 (fun c => ⟨fun hc => ?_, fun hc => ?_⟩)
    · rcases List.mem_cons.1 ((h c).1 (List.mem_cons_of_mem _ hc)) with e | e
      · have := p1 c hc; omega
      · exact e
    · rcases List.mem_cons.1 ((h c).2 (List.mem_cons_of_mem _ hc)) with e | e
      · have := q1 c hc; omega
      · exact e
theorem heldOf_iff (f : Nat → Option Res) (next cap : Nat) (m : Nat) (h1 : next ≤ m) (h2 : m < next + cap) : (m : Int) ∈ heldOf f next cap cap ↔ (f (m % cap)).isSome = true := by
  have h := heldOf_mem f next cap (m - next) cap (by omega)
  rw [show next + (m - next) = m by omega] at h
  exact h
theorem heldOf_put (f : Nat → Option Res) (next cap : Nat) (hc : 0 < cap) (m : Nat) (h1 : next ≤ m) (h2 : m < next + cap) (x : Res) (hf : f (m % cap) = none) :
    heldOf (put f (m % cap) (some x)) next cap cap = ins (heldOf f next cap cap) (m : Int) := by
  have hn : (m : Int) ∉ heldOf f next cap cap := fun h => by rw [heldOf_iff f next cap m h1 h2, hf] at h; cases h
  refine sorted_ext _ _ (heldOf_sorted _ _ _ _) (ins_sorted _ _ (heldOf_sorted _ _ _ _) hn) (fun a => ?_)
  rw [ins_mem]
  by_cases hb : (next : Int) ≤ a ∧ a < (next : Int) + (cap : Int)
  · obtain ⟨k, rfl⟩ : ∃ k : Nat, a = (k : Int) := ⟨a.toNat, by omega⟩
    rw [heldOf_iff _ _ _ k (by omega) (by omega), heldOf_iff _ _ _ k (by omega) (by omega)]
    unfold put
    by_cases e : k % cap = m % cap
    · have := mod_same hc (by omega) (by omega) h1 h2 e
      subst this
      simp
    · rw [if_neg e]
      constructor
      · exact fun h => .inr h
      · rintro (h | h)
        · have : k = m := by omega
          subst this
          exact absurd rfl e
        · exact h
  · constructor
    · intro h; exact absurd (heldOf_bd _ _ _ _ a h) hb
    · rintro (h | h)
      · exact absurd (by omega) hb
      · exact absurd (heldOf_bd _ _ _ _ a h) hb
def putRes (f : Nat → Option Res) (next cap : Nat) (M : Int) (x : Res) : Int × (Nat → Option Res) :=
  if M < (next : Int) ∨ (next : Int) + (cap : Int) ≤ M then (3, f) else if (f (M.toNat % cap)).isSome = true then (11, f) else (0, put f (M.toNat % cap) (some x))
theorem putAny (w : World) (g s cap next cr : Nat) (f : Nat → Option Res) (h : IsQ w g s cap next cr f) (M : Int) (hM : M ≤ 9223372036854775807)
    (A : Option Addr) (n c : Nat) (x : Res) (hr : ReadsInt w .u8 A n x.out) (hnil : A = none → n = 0 ∧ c = 0) (hn : n ≤ 1000) (code : Int) (f' : Nat → Option Res) (hc : putRes f next cap M x = (code, f')) :
    Calls Try.prog 11 #[P g, .int .i64 M, .agg #[.slice A n c, .int .i64 x.st, .int .i64 x.rc]] w fun e w' => e = .returned (.int .i64 code) ∧ IsQ w' g s cap next cr f' ∧ Fr g s w w' := by
  unfold putRes at hc
  by_cases h1 : M < (next : Int)
  · rw [if_pos (.inl h1)] at hc
    cases hc
    exact (putLow w g s cap next cr f h M h1 _ _ _).mono fun e w' ⟨a, b⟩ => ⟨a, h.below b, Fr.new b⟩
  by_cases h2 : (next : Int) + (cap : Int) ≤ M
  · rw [if_pos (.inr h2)] at hc
    cases hc
    exact (putHigh w g s cap next cr f h M h2 hM _ _ _).mono fun e w' ⟨a, b⟩ => ⟨a, h.below b, Fr.new b⟩
  rw [if_neg (by omega)] at hc
  have hMm : M = (M.toNat : Int) := by omega
  split at hc
  · next h3 =>
    cases hc
    exact (putTaken w g s cap next cr f h M M.toNat hMm (by omega) (by omega) h3 _ _ _).mono fun e w' ⟨a, b⟩ => ⟨a, h.below b, Fr.new b⟩
  · next h3 =>
    cases hc
    exact put_ w g s cap next cr f h M M.toNat hMm (by omega) (by omega) (by cases hh : f (M.toNat % cap) with | none => rfl | some y => rw [hh] at h3; exact absurd rfl h3) A n c x hr hnil hn
def rputRes (next cap : Nat) (ns : List Int) (xs : List Res) (M : Int) (x : Res) : Int × List Int × List Res :=
  if M < (next : Int) ∨ (next : Int) + (cap : Int) ≤ M then (3, ns, xs) else if M ∈ ns then (11, ns, xs) else (0, ins ns M, insX ns M xs x)
theorem rPutAny (w : World) (h cap next cr : Nat) (ns : List Int) (xs : List Res) (hR : IsR w h cap next cr ns xs) (hcap : cap ≤ 64) (hnx : next ≤ 1000000) (M : Int) (hM : M ≤ 9223372036854775807) (hl : ns.length ≤ 100) (hlx : xs.length = ns.length)
    (A : Option Addr) (n c : Nat) (x : Res) (hr : ReadsInt w .u8 A n x.out) (hn : n ≤ 1000) (code : Int) (ns' : List Int) (xs' : List Res) (hc : rputRes next cap ns xs M x = (code, ns', xs')) :
    Calls Try.prog 12 #[P h, .int .i64 M, .agg #[.slice A n c, .int .i64 x.st, .int .i64 x.rc]] w fun e w' => e = .returned (.int .i64 code) ∧ IsR w' h cap next cr ns' xs' ∧ Fr h h w w' := by
  unfold rputRes at hc
  by_cases h1 : M < (next : Int)
  · rw [if_pos (.inl h1)] at hc
    cases hc
    exact (rPutLow w h cap next cr ns xs hR M h1 _ _ _).mono fun e w' ⟨a, b⟩ => ⟨a, hR.below b, Fr.new b⟩
  by_cases h2 : (next : Int) + (cap : Int) ≤ M
  · rw [if_pos (.inr h2)] at hc
    cases hc
    exact (rPutHigh w h cap next cr ns xs hR hnx M h2 hM _ _ _).mono fun e w' ⟨a, b⟩ => ⟨a, hR.below b, Fr.new b⟩
  rw [if_neg (by omega)] at hc
  split at hc
  · next h3 =>
    cases hc
    exact (rPutTaken w h cap next cr ns xs hR hnx hcap M (by omega) (by omega) (by omega) h3 _ _ _).mono fun e w' ⟨a, b⟩ => ⟨a, hR.below b, Fr.new b⟩
  · next h3 =>
    cases hc
    exact rPut w h cap next cr ns xs hR hnx hcap M (by omega) (by omega) hl hlx h3 A n c x hr hn
/-- The reference holds what the slots hold. -/
structure Eq2 (f : Nat → Option Res) (next cap : Nat) (ns : List Int) (xs : List Res) : Prop where
  eqn : ns = heldOf f next cap cap
  len : xs.length = ns.length
  same : ∀ (j : Nat) (M : Int) (x : Res), ns[j]? = some M → xs[j]? = some x → f (M.toNat % cap) = some x
theorem Eq2.put {f : Nat → Option Res} {next cap : Nat} {ns : List Int} {xs : List Res} (h : Eq2 f next cap ns xs) (hc : 0 < cap) (M : Int) (x : Res) :
    ∃ code f' ns' xs', putRes f next cap M x = (code, f') ∧ rputRes next cap ns xs M x = (code, ns', xs') ∧ Eq2 f' next cap ns' xs' := by
  obtain ⟨h1, h2, h3⟩ := h
  unfold putRes rputRes
  by_cases hr : M < (next : Int) ∨ (next : Int) + (cap : Int) ≤ M
  · rw [if_pos hr, if_pos hr]
    exact ⟨_, _, _, _, rfl, rfl, h1, h2, h3⟩
  rw [if_neg hr, if_neg hr]
  have hMm : M = (M.toNat : Int) := by omega
  obtain ⟨m, hm⟩ : ∃ m, M.toNat = m := ⟨_, rfl⟩
  rw [hm] at hMm
  have hi := heldOf_iff f next cap m (by omega) (by omega)
  rw [← h1, ← hMm] at hi
  rw [hm]
  by_cases hs : (f (m % cap)).isSome = true
  · rw [if_pos hs, if_pos (hi.2 hs)]
    exact ⟨_, _, _, _, rfl, rfl, h1, h2, h3⟩
  · rw [if_neg hs, if_neg (fun e => hs (hi.1 e))]
    have hf : f (m % cap) = none := by cases hh : f (m % cap) with | none => rfl | some y => rw [hh] at hs; exact absurd rfl hs
    have hp := pos_le ns M
    refine ⟨_, _, _, _, rfl, rfl, ?_, ?_, fun j N y e1 e2 => ?_⟩
    · rw [heldOf_put f next cap hc m (by omega) (by omega) x hf, ← h1, ← hMm]
    · unfold ins insX
      simp only [List.length_append, List.length_take, List.length_drop, List.length_singleton, h2]
    · unfold ins at e1
      unfold insX at e2
      have hne : ∀ N, N ∈ ns → N ≠ M := fun N hN e => hs (hi.1 (e ▸ hN))
      have hold : ∀ (j : Nat) (N : Int) (y : Res), ns[j]? = some N → xs[j]? = some y → Rg.put f (m % cap) (some x) (N.toNat % cap) = some y := by
        intro j N y q1 q2
        have hmem := List.mem_of_getElem? q1
        have hb := heldOf_bd f next cap cap N (by rw [← h1]; exact hmem)
        rw [put_ne f _ _ _ (fun e => hne N hmem (by
          have := mod_same hc (a := N.toNat) (b := m) (n := next) (by omega) (by omega) (by omega) (by omega) e
          omega))]
        exact h3 j N y q1 q2
      rw [List.append_assoc] at e1 e2
      have lt1 : (ns.take (pos ns M)).length = pos ns M := by rw [List.length_take]; omega
      have lt2 : (xs.take (pos ns M)).length = pos ns M := by rw [List.length_take]; omega
      rcases Nat.lt_trichotomy j (pos ns M) with hj | hj | hj
      · rw [List.getElem?_append_left (by omega), List.getElem?_take, if_pos hj] at e1 e2
        exact hold j N y e1 e2
      · subst hj
        rw [List.getElem?_append_right (by omega), lt1, Nat.sub_self] at e1
        rw [List.getElem?_append_right (by omega), lt2, Nat.sub_self] at e2
        simp at e1 e2
        subst e1; subst e2
        rw [hm, Rg.put, if_pos rfl]
      · rw [List.getElem?_append_right (by omega), lt1, List.getElem?_append_right (by simp; omega), List.getElem?_drop] at e1
        rw [List.getElem?_append_right (by omega), lt2, List.getElem?_append_right (by simp; omega), List.getElem?_drop] at e2
        exact hold _ N y e1 e2
theorem Eq2.start (next cap : Nat) : Eq2 (fun _ => none) next cap [] [] := by
  refine ⟨?_, rfl, fun j M x h => by simp at h⟩
  have : ∀ i, heldOf (fun _ => none) next cap i = [] := by
    intro i
    induction i with
    | zero => rfl
    | succ i ih => rw [heldOf]; simp [ih]
  rw [this]
theorem Eq2.le {f : Nat → Option Res} {next cap : Nat} {ns : List Int} {xs : List Res} (h : Eq2 f next cap ns xs) : ns.length ≤ cap := by
  rw [h.eqn]
  exact heldOf_le f next cap cap
end Go.Proofs.Ytccgcljkgjboaaa.Rg
