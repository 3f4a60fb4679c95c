/- The walk of the law ValueOrder, by hand. -/
import Derived.Test.YtgpjkojnmeaoiaaKD
import Derived.Test.YtgpjkojnmeaoiaaKB
/- The order of values is total and transitive: the plain half. -/
namespace Go.Proofs.Ytgpjkojnmeaoiaa.QV
open Go Go.RowKit Go.Proofs.YtgpjkojnmeaoiaaW.PrintWords Go.Proofs.YtgpjkojnmeaoiaaW.PrintLast Go.Proofs.YtgpjkojnmeaoiaaW.PrintMore
set_option linter.unusedVariables false
set_option linter.unusedSimpArgs false
set_option maxRecDepth 100000
set_option maxHeartbeats 4000000
/-- First by p, then by q. -/
def lx (p q : Int) : Int := if p = 0 then q else p
def Tr0 (p q r : Int) : Prop := (p ≤ 0 → q ≤ 0 → r ≤ 0) ∧ (p ≤ 0 → q ≤ 0 → (p < 0 ∨ q < 0) → r < 0) ∧ (p = 0 → q = 0 → r = 0)
theorem Tr0.lex {p q r p2 q2 r2 : Int} (h : Tr0 p q r) (k : p = 0 → q = 0 → Tr0 p2 q2 r2) : Tr0 (lx p p2) (lx q q2) (lx r r2) := by
  unfold lx
  obtain ⟨h1, h2, h3⟩ := h
  by_cases a : p = 0 <;> by_cases b : q = 0
  · obtain ⟨k1, k2, k3⟩ := k a b
    rw [if_pos a, if_pos b, if_pos (h3 a b)]
    exact ⟨k1, k2, k3⟩
  · rw [if_pos a, if_neg b]
    refine ⟨fun x y => ?_, fun x y z => ?_, fun x y => absurd y b⟩
    · have := h2 (by omega) y (by omega); rw [if_neg (by omega)]; omega
    · have := h2 (by omega) y (by omega); rw [if_neg (by omega)]; omega
  · rw [if_neg a, if_pos b]
    refine ⟨fun x y => ?_, fun x y z => ?_, fun x y => absurd x a⟩
    · have := h2 x (by omega) (by omega); rw [if_neg (by omega)]; omega
    · have := h2 x (by omega) (by omega); rw [if_neg (by omega)]; omega
  · rw [if_neg a, if_neg b]
    refine ⟨fun x y => ?_, fun x y z => ?_, fun x y => absurd x a⟩
    · have := h2 x y (by omega); rw [if_neg (by omega)]; omega
    · have := h2 x y (by omega); rw [if_neg (by omega)]; omega
theorem oc_tr (a b c : Int) : Tr0 (oc a b) (oc b c) (oc a c) := by
  unfold oc Tr0
  by_cases h1 : a < b <;> by_cases h2 : b < a <;> by_cases h3 : b < c <;> by_cases h4 : c < b <;> simp only [h1, h2, h3, h4, if_true, if_false] <;> (try omega) <;> (refine ⟨fun x y => ?_, fun x y z => ?_, fun x y => ?_⟩ <;> (try omega) <;> (repeat' split) <;> omega)
theorem oc_neg (a b : Int) : oc b a = - oc a b := by
  unfold oc
  by_cases h1 : a < b <;> by_cases h2 : b < a <;> simp [h1, h2] <;> omega
theorem kc_neg (a b : ByteArray) : kc b a = - kc a b := by
  unfold kc
  rcases blt_tri a b with h | h | h
  · simp [h, blt_asymm h]
  · subst h; simp [blt_irrefl]
  · simp [h, blt_asymm h]
theorem kc_tr (a b c : ByteArray) : Tr0 (kc a b) (kc b c) (kc a c) := by
  rcases blt_tri a b with h | h | h
  · rcases blt_tri b c with k | k | k
    · have e1 : kc a b = -1 := by unfold kc; rw [if_pos h]
      have e2 : kc b c = -1 := by unfold kc; rw [if_pos k]
      have e3 : kc a c = -1 := by unfold kc; rw [if_pos (blt_trans h k)]
      rw [e1, e2, e3]; unfold Tr0; omega
    · subst k
      rw [kc_self]
      unfold Tr0; omega
    · have e2 : kc b c = 1 := by rw [← Int.neg_neg (kc b c), ← kc_neg b c]; unfold kc; rw [if_pos k]; rfl
      rw [e2]; unfold Tr0; omega
  · subst h
    rw [kc_self]
    unfold Tr0; omega
  · have e2 : kc a b = 1 := by rw [← Int.neg_neg (kc a b), ← kc_neg a b]; unfold kc; rw [if_pos h]; rfl
    rw [e2]; unfold Tr0; omega
theorem kcmp_lx (a b : ByteArray) (l m : List ByteArray) : kcmp (a :: l) (b :: m) = lx (kc a b) (kcmp l m) := rfl
theorem kcmp_neg (l : List ByteArray) : ∀ m, kcmp m l = - kcmp l m := by
  induction l with
  | nil => intro m; cases m <;> rfl
  | cons a l ih =>
    intro m
    cases m with
    | nil => rfl
    | cons b m =>
      rw [kcmp_lx, kcmp_lx, kc_neg a b, ih m]
      unfold lx
      by_cases h : kc a b = 0
      · rw [h]; rfl
      · rw [if_neg (by omega), if_neg h]
theorem kcmp_tr (l : List ByteArray) : ∀ m n, Tr0 (kcmp l m) (kcmp m n) (kcmp l n) := by
  induction l with
  | nil =>
    intro m n
    cases m with
    | nil => cases n <;> (simp only [kcmp]; unfold Tr0; omega)
    | cons b m => cases n <;> (simp only [kcmp]; unfold Tr0; omega)
  | cons a l ih =>
    intro m n
    cases m with
    | nil => cases n <;> (unfold Tr0; simp only [kcmp]; omega)
    | cons b m =>
      cases n with
      | nil => unfold Tr0; simp only [kcmp]; omega
      | cons c n => rw [kcmp_lx, kcmp_lx, kcmp_lx]; exact (kc_tr a b c).lex (fun _ _ => ih m n)
theorem kcmp_zero (l : List ByteArray) : ∀ m, kcmp l m = 0 → l = m := by
  induction l with
  | nil => intro m h; cases m with
    | nil => rfl
    | cons b m => simp [kcmp] at h
  | cons a l ih => intro m h; cases m with
    | nil => simp [kcmp] at h
    | cons b m =>
      rw [kcmp_lx] at h
      unfold lx at h
      by_cases c : kc a b = 0
      · rw [if_pos c] at h
        rw [kc_zero c, ih m h]
      · rw [if_neg c] at h; exact absurd h c
theorem rlc_lx (a b : S28) (l m : List S28) : rlc (a :: l) (b :: m) = lx (rcmp a b) (rlc l m) := by rw [rlc]; rfl
theorem rcmp_lx (x y : S28) : rcmp x y = lx (oc x.f0 y.f0) (lx (oc x.f1 y.f1) (lx (kc x.f2 y.f2) (lx (kcmp x.f3 y.f3) (rlc x.f4 y.f4)))) := by
  rw [rcmp_eq]
  unfold lx
  have e1 : (oc x.f0 y.f0 = 0) = (x.f0 = y.f0) := propext ⟨oc_zero, fun h => by rw [h, oc_self]⟩
  have e2 : (oc x.f1 y.f1 = 0) = (x.f1 = y.f1) := propext ⟨oc_zero, fun h => by rw [h, oc_self]⟩
  have e3 : (kc x.f2 y.f2 = 0) = (x.f2 = y.f2) := propext ⟨kc_zero, fun h => by rw [h, kc_self]⟩
  simp only [e1, e2, e3]
theorem lx_neg {p q p2 q2 : Int} (h : p2 = - p) (k : q2 = - q) : lx p2 q2 = - lx p q := by
  unfold lx
  by_cases a : p = 0
  · rw [if_pos a, if_pos (by omega)]; exact k
  · rw [if_neg a, if_neg (by omega)]; exact h
theorem rcmp_neg (s : Nat) : ∀ x y : S28, SizeOf.sizeOf x < s → rcmp y x = - rcmp x y := by
  induction s with
  | zero => intro x y h; omega
  | succ s ih =>
  intro x y hs
  have hl : ∀ l m : List S28, (∀ q ∈ l, SizeOf.sizeOf q < s) → rlc m l = - rlc l m := fun l => by
    induction l with
    | nil => intro m _; cases m <;> simp only [rlc] <;> rfl
    | cons a l ihl =>
      intro m h
      cases m with
      | nil => simp only [rlc]
      | cons b m => rw [rlc_lx, rlc_lx]; exact lx_neg (ih a b (h a List.mem_cons_self)) (ihl m (fun q hq => h q (List.mem_cons_of_mem _ hq)))
  rw [rcmp_lx, rcmp_lx]
  exact lx_neg (oc_neg _ _) (lx_neg (oc_neg _ _) (lx_neg (kc_neg _ _) (lx_neg (kcmp_neg _ _) (hl _ _ (fun q hq => by have := sz_mem hq; omega)))))
theorem rcmp_tr (s : Nat) : ∀ x y z : S28, SizeOf.sizeOf x < s → Tr0 (rcmp x y) (rcmp y z) (rcmp x z) := by
  induction s with
  | zero => intro x y z h; omega
  | succ s ih =>
  intro x y z hs
  have hl : ∀ l m n : List S28, (∀ q ∈ l, SizeOf.sizeOf q < s) → Tr0 (rlc l m) (rlc m n) (rlc l n) := fun l => by
    induction l with
    | nil => intro m n _; cases m <;> cases n <;> simp only [rlc] <;> unfold Tr0 <;> omega
    | cons a l ihl =>
      intro m n h
      cases m with
      | nil => cases n <;> simp only [rlc] <;> unfold Tr0 <;> omega
      | cons b m =>
        cases n with
        | nil => unfold Tr0; simp only [rlc]; omega
        | cons c n => rw [rlc_lx, rlc_lx, rlc_lx]; exact (ih a b c (h a List.mem_cons_self)).lex (fun _ _ => ihl m n (fun q hq => h q (List.mem_cons_of_mem _ hq)))
  rw [rcmp_lx, rcmp_lx, rcmp_lx]
  exact (oc_tr _ _ _).lex (fun _ _ => (oc_tr _ _ _).lex (fun _ _ => (kc_tr _ _ _).lex (fun _ _ => (kcmp_tr _ _ _).lex (fun _ _ => hl _ _ _ (fun q hq => by have := sz_mem hq; omega)))))
theorem lx_zero {p q : Int} (h : lx p q = 0) : p = 0 ∧ q = 0 := by
  unfold lx at h
  by_cases a : p = 0
  · rw [if_pos a] at h; exact ⟨a, h⟩
  · rw [if_neg a] at h; exact absurd h a
theorem rcmp_zero (s : Nat) : ∀ x y : S28, SizeOf.sizeOf x < s → rcmp x y = 0 → x = y := by
  induction s with
  | zero => intro x y h; omega
  | succ s ih =>
  intro x y hs h
  have hl : ∀ l m : List S28, (∀ q ∈ l, SizeOf.sizeOf q < s) → rlc l m = 0 → l = m := fun l => by
    induction l with
    | nil => intro m _ h; cases m with
      | nil => rfl
      | cons b m => rw [rlc] at h; cases h
    | cons a l ihl => intro m hq h; cases m with
      | nil => rw [rlc] at h; cases h
      | cons b m =>
        rw [rlc_lx] at h
        obtain ⟨h1, h2⟩ := lx_zero h
        rw [ih a b (hq a List.mem_cons_self) h1, ihl m (fun q hm => hq q (List.mem_cons_of_mem _ hm)) h2]
  rw [rcmp_lx] at h
  obtain ⟨h0, h⟩ := lx_zero h
  obtain ⟨h1, h⟩ := lx_zero h
  obtain ⟨h2, h⟩ := lx_zero h
  obtain ⟨h3, h⟩ := lx_zero h
  have e0 := oc_zero h0
  have e1 := oc_zero h1
  have e2 := kc_zero h2
  have e3 := kcmp_zero _ _ h3
  have e4 := hl _ _ (fun q hq => by have := sz_mem hq; omega) h
  cases x; cases y
  simp only at e0 e1 e2 e3 e4
  subst e0 e1 e2 e3 e4
  rfl
theorem lx_b {p q : Int} (h : -1 ≤ p ∧ p ≤ 1) (k : -1 ≤ q ∧ q ≤ 1) : -1 ≤ lx p q ∧ lx p q ≤ 1 := by unfold lx; split <;> assumption
theorem oc_b (a b : Int) : -1 ≤ oc a b ∧ oc a b ≤ 1 := by unfold oc; split <;> (try split) <;> omega
theorem kc_b (a b : ByteArray) : -1 ≤ kc a b ∧ kc a b ≤ 1 := by unfold kc; split <;> (try split) <;> omega
theorem kcmp_b (l : List ByteArray) : ∀ m, -1 ≤ kcmp l m ∧ kcmp l m ≤ 1 := by
  induction l with
  | nil => intro m; cases m <;> simp [kcmp]
  | cons a l ih => intro m; cases m with
    | nil => simp [kcmp]
    | cons b m => rw [kcmp_lx]; exact lx_b (kc_b a b) (ih m)
theorem rcmp_b (s : Nat) : ∀ x y : S28, SizeOf.sizeOf x < s → -1 ≤ rcmp x y ∧ rcmp x y ≤ 1 := by
  induction s with
  | zero => intro x y h; omega
  | succ s ih =>
  intro x y hs
  have hl : ∀ l m : List S28, (∀ q ∈ l, SizeOf.sizeOf q < s) → -1 ≤ rlc l m ∧ rlc l m ≤ 1 := fun l => by
    induction l with
    | nil => intro m _; cases m <;> simp [rlc]
    | cons a l ihl => intro m h; cases m with
      | nil => simp [rlc]
      | cons b m => rw [rlc_lx]; exact lx_b (ih a b (h a List.mem_cons_self)) (ihl m (fun q hq => h q (List.mem_cons_of_mem _ hq)))
  rw [rcmp_lx]
  exact lx_b (oc_b _ _) (lx_b (oc_b _ _) (lx_b (kc_b _ _) (lx_b (kcmp_b _ _) (hl _ _ (fun q hq => by have := sz_mem hq; omega)))))
/-- What the law says of the three comparisons. -/
theorem order_facts {x y z : S28} (hx : vd x = true) (hy : vd y = true) (hz : vd z = true) :
    vvc y x = - vvc x y ∧ (vvc x y = 0 ↔ x = y) ∧ (veq x y = decide (vvc x y = 0)) ∧ (0 < vvc x y ∨ 0 < vvc y z ∨ vvc x z ≤ 0) ∧ (0 < vvc x y ∨ 0 < vvc y z ∨ (vvc x y = 0 ∧ vvc y z = 0) ∨ vvc x z < 0) := by
  have e : ∀ {a b : S28}, vd a = true → vd b = true → vvc a b = rcmp a b := fun ha hb => by
    unfold vvc; rw [ha, hb]; exact vcmp_rcmp _ _ _ (Nat.lt_succ_self _) ha hb
  have q : veq x y = decide (vvc x y = 0) := by unfold veq vvc; rw [hx, hy]; rfl
  refine ⟨?_, ?_, q, ?_⟩
  · rw [e hy hx, e hx hy]; exact rcmp_neg _ x y (Nat.lt_succ_self _)
  · rw [e hx hy]
    refine ⟨rcmp_zero _ x y (Nat.lt_succ_self _), fun h => ?_⟩
    rw [h, ← vcmp_rcmp _ y y (Nat.lt_succ_self _) hy hy]
    exact vcmp_self _ y (Nat.lt_succ_self _)
  · rw [e hx hy, e hy hz, e hx hz]
    obtain ⟨t1, t2, t3⟩ := rcmp_tr _ x y z (Nat.lt_succ_self _)
    omega
end Go.Proofs.Ytgpjkojnmeaoiaa.QV

/- The order of valid values is total and transitive: the walk of the law, by hand. -/
namespace Go.Proofs.Ytgpjkojnmeaoiaa.QV
open Go Go.RowKit Go.Proofs.YtgpjkojnmeaoiaaW.PrintWords Go.Proofs.YtgpjkojnmeaoiaaW.PrintLast Go.Proofs.YtgpjkojnmeaoiaaW.PrintMore
set_option linter.unusedVariables false
set_option linter.unusedSimpArgs false
set_option maxRecDepth 100000
set_option maxHeartbeats 4000000
/-- Three values handed on as a row. -/
theorem threeLit (W : World) {x y z : S28} {A3 : Option Addr} {c3 : Nat} {A4 : Option Addr} {c4 : Nat} {B3 : Option Addr} {d3 : Nat} {B4 : Option Addr} {d4 : Nat} {C3 : Option Addr} {e3 : Nat} {C4 : Option Addr} {e4 : Nat} (h : Rd W A3 c3 A4 c4 x) (k : Rd W B3 d3 B4 d4 y) (m : Rd W C3 e3 C4 e4 z) :
    Kd.C k28 (W.alloc (.cells (#[.int .i64 x.f0, .int .i64 x.f1, .string x.f2, .slice A3 x.f3.length c3, .slice A4 x.f4.length c4, .int .i64 y.f0, .int .i64 y.f1, .string y.f2, .slice B3 y.f3.length d3, .slice B4 y.f4.length d4, .int .i64 z.f0, .int .i64 z.f1, .string z.f2, .slice C3 z.f3.length e3, .slice C4 z.f4.length e4]) 28)) (some ⟨W.heap.size, 0, none⟩) 3 [x, y, z] := by
  have hr : Reps (k28.K W) 5 [x, y, z] [.int .i64 x.f0, .int .i64 x.f1, .string x.f2, .slice A3 x.f3.length c3, .slice A4 x.f4.length c4, .int .i64 y.f0, .int .i64 y.f1, .string y.f2, .slice B3 y.f3.length d3, .slice B4 y.f4.length d4, .int .i64 z.f0, .int .i64 z.f1, .string z.f2, .slice C3 z.f3.length e3, .slice C4 z.f4.length e4] := ⟨rfl, fun j p hp => by
    match j, hp with
    | 0, hp => obtain rfl := Option.some.inj hp; exact k28_mk W x h.k3 h.r3 h.k4 h.r4
    | 1, hp => obtain rfl := Option.some.inj hp; exact k28_mk W y k.k3 k.r3 k.k4 k.r4
    | 2, hp => obtain rfl := Option.some.inj hp; exact k28_mk W z m.k3 m.r3 m.k4 m.r4
    | j + 3, hp => simp at hp⟩
  obtain ⟨A, c, e, _, hC⟩ := ((OwnRow.lit (e := 28) W 0 hr (Nat.zero_le _) (by simp)).imp_ (fun _ _ h => k28.K_below (new_below W _) h)).reads
  injection e with e1 e2 e3
  subst e1
  exact hC
theorem vvc_b (x y : S28) : -1 ≤ vvc x y ∧ vvc x y ≤ 1 := by
  unfold vvc
  split
  · rename_i h
    simp only [Bool.and_eq_true] at h
    rw [vcmp_rcmp _ x y (Nat.lt_succ_self _) h.1 h.2]
    exact rcmp_b _ x y (Nat.lt_succ_self _)
  · omega
theorem law_order (x y z : S28) (w : World) {A3 : Option Addr} {c3 : Nat} {A4 : Option Addr} {c4 : Nat} {B3 : Option Addr} {d3 : Nat} {B4 : Option Addr} {d4 : Nat} {C3 : Option Addr} {e3 : Nat} {C4 : Option Addr} {e4 : Nat} (hx : Wv x) (hy : Wv y) (hz : Wv z) (hr : Rd w A3 c3 A4 c4 x) (hr2 : Rd w B3 d3 B4 d4 y) (hr3 : Rd w C3 e3 C4 e4 z) :
    Calls Try.prog 9 #[.agg #[.int .i64 x.f0, .int .i64 x.f1, .string x.f2, .slice A3 x.f3.length c3, .slice A4 x.f4.length c4], .agg #[.int .i64 y.f0, .int .i64 y.f1, .string y.f2, .slice B3 y.f3.length d3, .slice B4 y.f4.length d4], .agg #[.int .i64 z.f0, .int .i64 z.f1, .string z.f2, .slice C3 z.f3.length e3, .slice C4 z.f4.length e4]] w fun e w' => e = .returned (.bool true) ∧ Below w.heap.size w w' := by
  obtain ⟨hB1, hB2, hb⟩ := box2 hr hr2
  have hb3 := new_below ((w.alloc (.cells #[.int .i64 x.f0, .int .i64 x.f1, .string x.f2, .slice A3 x.f3.length c3, .slice A4 x.f4.length c4] 28)).alloc (.cells #[.int .i64 y.f0, .int .i64 y.f1, .string y.f2, .slice B3 y.f3.length d3, .slice B4 y.f4.length d4] 28)) (.cells #[.int .i64 z.f0, .int .i64 z.f1, .string z.f2, .slice C3 z.f3.length e3, .slice C4 z.f4.length e4] 28)
  have hB3 : Bv (((w.alloc (.cells #[.int .i64 x.f0, .int .i64 x.f1, .string x.f2, .slice A3 x.f3.length c3, .slice A4 x.f4.length c4] 28)).alloc (.cells #[.int .i64 y.f0, .int .i64 y.f1, .string y.f2, .slice B3 y.f3.length d3, .slice B4 y.f4.length d4] 28)).alloc (.cells #[.int .i64 z.f0, .int .i64 z.f1, .string z.f2, .slice C3 z.f3.length e3, .slice C4 z.f4.length e4] 28)) (w.heap.size + 2) C3 e3 C4 e4 z := by
    have h := Bv.new (hr3.below hb)
    rw [show ((w.alloc (.cells #[.int .i64 x.f0, .int .i64 x.f1, .string x.f2, .slice A3 x.f3.length c3, .slice A4 x.f4.length c4] 28)).alloc (.cells #[.int .i64 y.f0, .int .i64 y.f1, .string y.f2, .slice B3 y.f3.length d3, .slice B4 y.f4.length d4] 28)).heap.size = w.heap.size + 2 from by simp] at h
    exact h
  obtain ⟨p0, p1, p2, p3, p4⟩ := (hB1.below hb3).cells
  obtain ⟨q0, q1, q2, q3, q4⟩ := (hB2.below hb3).cells
  obtain ⟨r0, r1, r2, r3, r4⟩ := hB3.cells
  have hs := threeLit (((w.alloc (.cells #[.int .i64 x.f0, .int .i64 x.f1, .string x.f2, .slice A3 x.f3.length c3, .slice A4 x.f4.length c4] 28)).alloc (.cells #[.int .i64 y.f0, .int .i64 y.f1, .string y.f2, .slice B3 y.f3.length d3, .slice B4 y.f4.length d4] 28)).alloc (.cells #[.int .i64 z.f0, .int .i64 z.f1, .string z.f2, .slice C3 z.f3.length e3, .slice C4 z.f4.length e4] 28)) (hB1.below hb3).rd (hB2.below hb3).rd hB3.rd
  rw [show (((w.alloc (.cells #[.int .i64 x.f0, .int .i64 x.f1, .string x.f2, .slice A3 x.f3.length c3, .slice A4 x.f4.length c4] 28)).alloc (.cells #[.int .i64 y.f0, .int .i64 y.f1, .string y.f2, .slice B3 y.f3.length d3, .slice B4 y.f4.length d4] 28)).alloc (.cells #[.int .i64 z.f0, .int .i64 z.f1, .string z.f2, .slice C3 z.f3.length e3, .slice C4 z.f4.length e4] 28)).heap.size = w.heap.size + 3 from by simp] at hs
  have hb4 := new_below (((w.alloc (.cells #[.int .i64 x.f0, .int .i64 x.f1, .string x.f2, .slice A3 x.f3.length c3, .slice A4 x.f4.length c4] 28)).alloc (.cells #[.int .i64 y.f0, .int .i64 y.f1, .string y.f2, .slice B3 y.f3.length d3, .slice B4 y.f4.length d4] 28)).alloc (.cells #[.int .i64 z.f0, .int .i64 z.f1, .string z.f2, .slice C3 z.f3.length e3, .slice C4 z.f4.length e4] 28)) (.cells (#[.int .i64 x.f0, .int .i64 x.f1, .string x.f2, .slice A3 x.f3.length c3, .slice A4 x.f4.length c4, .int .i64 y.f0, .int .i64 y.f1, .string y.f2, .slice B3 y.f3.length d3, .slice B4 y.f4.length d4, .int .i64 z.f0, .int .i64 z.f1, .string z.f2, .slice C3 z.f3.length e3, .slice C4 z.f4.length e4]) 28)
  have hq : Calls Try.prog 11 #[.int .i64 150, .slice (some ⟨w.heap.size + 3, 0, none⟩) 3 3] ((((w.alloc (.cells #[.int .i64 x.f0, .int .i64 x.f1, .string x.f2, .slice A3 x.f3.length c3, .slice A4 x.f4.length c4] 28)).alloc (.cells #[.int .i64 y.f0, .int .i64 y.f1, .string y.f2, .slice B3 y.f3.length d3, .slice B4 y.f4.length d4] 28)).alloc (.cells #[.int .i64 z.f0, .int .i64 z.f1, .string z.f2, .slice C3 z.f3.length e3, .slice C4 z.f4.length e4] 28)).alloc (.cells (#[.int .i64 x.f0, .int .i64 x.f1, .string x.f2, .slice A3 x.f3.length c3, .slice A4 x.f4.length c4, .int .i64 y.f0, .int .i64 y.f1, .string y.f2, .slice B3 y.f3.length d3, .slice B4 y.f4.length d4, .int .i64 z.f0, .int .i64 z.f1, .string z.f2, .slice C3 z.f3.length e3, .slice C4 z.f4.length e4]) 28)) _ := smallC 150 [x, y, z] _ (c := 3) (by decide) (by decide) hs (by simpa using ⟨hx, hy, hz⟩) (by simp)
  obtain ⟨W, hW⟩ : ∃ W, ((((w.alloc (.cells #[.int .i64 x.f0, .int .i64 x.f1, .string x.f2, .slice A3 x.f3.length c3, .slice A4 x.f4.length c4] 28)).alloc (.cells #[.int .i64 y.f0, .int .i64 y.f1, .string y.f2, .slice B3 y.f3.length d3, .slice B4 y.f4.length d4] 28)).alloc (.cells #[.int .i64 z.f0, .int .i64 z.f1, .string z.f2, .slice C3 z.f3.length e3, .slice C4 z.f4.length e4] 28)).alloc (.cells (#[.int .i64 x.f0, .int .i64 x.f1, .string x.f2, .slice A3 x.f3.length c3, .slice A4 x.f4.length c4, .int .i64 y.f0, .int .i64 y.f1, .string y.f2, .slice B3 y.f3.length d3, .slice B4 y.f4.length d4, .int .i64 z.f0, .int .i64 z.f1, .string z.f2, .slice C3 z.f3.length e3, .slice C4 z.f4.length e4]) 28)) = W := ⟨_, rfl⟩
  have HB := Aside0.mk (below_step (below_step hb hb3) hb4)
  have HV : Aside0 (Bv ((((w.alloc (.cells #[.int .i64 x.f0, .int .i64 x.f1, .string x.f2, .slice A3 x.f3.length c3, .slice A4 x.f4.length c4] 28)).alloc (.cells #[.int .i64 y.f0, .int .i64 y.f1, .string y.f2, .slice B3 y.f3.length d3, .slice B4 y.f4.length d4] 28)).alloc (.cells #[.int .i64 z.f0, .int .i64 z.f1, .string z.f2, .slice C3 z.f3.length e3, .slice C4 z.f4.length e4] 28)).alloc (.cells (#[.int .i64 x.f0, .int .i64 x.f1, .string x.f2, .slice A3 x.f3.length c3, .slice A4 x.f4.length c4, .int .i64 y.f0, .int .i64 y.f1, .string y.f2, .slice B3 y.f3.length d3, .slice B4 y.f4.length d4, .int .i64 z.f0, .int .i64 z.f1, .string z.f2, .slice C3 z.f3.length e3, .slice C4 z.f4.length e4]) 28)) w.heap.size A3 c3 A4 c4 x ∧ Bv ((((w.alloc (.cells #[.int .i64 x.f0, .int .i64 x.f1, .string x.f2, .slice A3 x.f3.length c3, .slice A4 x.f4.length c4] 28)).alloc (.cells #[.int .i64 y.f0, .int .i64 y.f1, .string y.f2, .slice B3 y.f3.length d3, .slice B4 y.f4.length d4] 28)).alloc (.cells #[.int .i64 z.f0, .int .i64 z.f1, .string z.f2, .slice C3 z.f3.length e3, .slice C4 z.f4.length e4] 28)).alloc (.cells (#[.int .i64 x.f0, .int .i64 x.f1, .string x.f2, .slice A3 x.f3.length c3, .slice A4 x.f4.length c4, .int .i64 y.f0, .int .i64 y.f1, .string y.f2, .slice B3 y.f3.length d3, .slice B4 y.f4.length d4, .int .i64 z.f0, .int .i64 z.f1, .string z.f2, .slice C3 z.f3.length e3, .slice C4 z.f4.length e4]) 28)) (w.heap.size + 1) B3 d3 B4 d4 y ∧ Bv ((((w.alloc (.cells #[.int .i64 x.f0, .int .i64 x.f1, .string x.f2, .slice A3 x.f3.length c3, .slice A4 x.f4.length c4] 28)).alloc (.cells #[.int .i64 y.f0, .int .i64 y.f1, .string y.f2, .slice B3 y.f3.length d3, .slice B4 y.f4.length d4] 28)).alloc (.cells #[.int .i64 z.f0, .int .i64 z.f1, .string z.f2, .slice C3 z.f3.length e3, .slice C4 z.f4.length e4] 28)).alloc (.cells (#[.int .i64 x.f0, .int .i64 x.f1, .string x.f2, .slice A3 x.f3.length c3, .slice A4 x.f4.length c4, .int .i64 y.f0, .int .i64 y.f1, .string y.f2, .slice B3 y.f3.length d3, .slice B4 y.f4.length d4, .int .i64 z.f0, .int .i64 z.f1, .string z.f2, .slice C3 z.f3.length e3, .slice C4 z.f4.length e4]) 28)) (w.heap.size + 2) C3 e3 C4 e4 z) := ⟨(hB1.below hb3).below hb4, (hB2.below hb3).below hb4, hB3.below hb4⟩
  have HWe := Aside0.mk hW
  rw [hW] at hq HB HV
  have HQ := Aside0.mk hq
  obtain ⟨sm, hsm⟩ : ∃ s, (decide ((cnt x : Int) ≤ 150) && (decide ((cnt y : Int) ≤ 150) && decide ((cnt z : Int) ≤ 150))) = s := ⟨_, rfl⟩
  simp only [List.all_cons, List.all_nil, Bool.and_true] at HQ
  rw [hsm] at HQ
  have HX := Aside0.mk (And.intro hx (And.intro hy hz))
  have HSm := Aside0.mk hsm
  clear hx hy hz hr hr2 hr3 hsm hs hb hb3 hb4 hB1 hB2 hB3 hW hq
  cases sm with
  | false =>
    go_enter Try.func9, Try.ntmps9
    go_wp2_with (first | ((rw [HWe.out]); (go_at_call 11); (with_reducible refine HQ.out.mono ?_); rintro e we ⟨rfl, hb⟩; have HW2 := Aside0.mk (below_step HB.out hb); have HV2 := Aside0.mk (And.intro (HV.out.1.below hb) (And.intro (HV.out.2.1.below hb) (HV.out.2.2.below hb))); clear HQ HWe; obtain ⟨s0, s1, s2, s3, s4⟩ := HV2.out.1.cells; clear hb) | (go_at_call 12; (with_reducible refine (awakeC _).mono ?_); rintro e we2 ⟨rfl, hb⟩; have Hb := Aside0.mk hb; clear hb))
    go_ret
    exact ⟨rfl, below_step HW2.out Hb.out⟩
  | true =>
  have hc : cnt x ≤ 150 ∧ cnt y ≤ 150 ∧ cnt z ≤ 150 := by
    have h := HSm.out
    simp only [Bool.and_eq_true, decide_eq_true_eq] at h
    omega
  obtain ⟨vx, hvx⟩ : ∃ v, vd x = v := ⟨_, rfl⟩
  obtain ⟨vy, hvy⟩ : ∃ v, vd y = v := ⟨_, rfl⟩
  obtain ⟨vz, hvz⟩ : ∃ v, vd z = v := ⟨_, rfl⟩
  have HVx : Aside0 (∀ W1, Bv W1 w.heap.size A3 c3 A4 c4 x → Calls Try.prog 24 #[.agg #[.int .i64 x.f0, .int .i64 x.f1, .string x.f2, .slice A3 x.f3.length c3, .slice A4 x.f4.length c4]] W1 fun e w' => e = .returned (.bool vx) ∧ Below W1.heap.size W1 w') := ⟨fun W1 h => by rw [← hvx]; exact valueValidC x W1 HX.out.1 (by omega) h.rd⟩
  have HVy : Aside0 (∀ W1, Bv W1 (w.heap.size + 1) B3 d3 B4 d4 y → Calls Try.prog 24 #[.agg #[.int .i64 y.f0, .int .i64 y.f1, .string y.f2, .slice B3 y.f3.length d3, .slice B4 y.f4.length d4]] W1 fun e w' => e = .returned (.bool vy) ∧ Below W1.heap.size W1 w') := ⟨fun W1 h => by rw [← hvy]; exact valueValidC y W1 HX.out.2.1 (by omega) h.rd⟩
  have HVz : Aside0 (∀ W1, Bv W1 (w.heap.size + 2) C3 e3 C4 e4 z → Calls Try.prog 24 #[.agg #[.int .i64 z.f0, .int .i64 z.f1, .string z.f2, .slice C3 z.f3.length e3, .slice C4 z.f4.length e4]] W1 fun e w' => e = .returned (.bool vz) ∧ Below W1.heap.size W1 w') := ⟨fun W1 h => by rw [← hvz]; exact valueValidC z W1 HX.out.2.2 (by omega) h.rd⟩
  have HHc := Aside0.mk hc
  have HHv := Aside0.mk (And.intro hvx (And.intro hvy hvz))
  clear hc hvx hvy hvz HSm
  cases vx with
  | false =>
    go_enter Try.func9, Try.ntmps9
    go_wp2_with (first | ((rw [HWe.out]); (go_at_call 11); (with_reducible refine HQ.out.mono ?_); rintro e we ⟨rfl, hb⟩; have HW2 := Aside0.mk (below_step HB.out hb); have HV2 := Aside0.mk (And.intro (HV.out.1.below hb) (And.intro (HV.out.2.1.below hb) (HV.out.2.2.below hb))); clear HQ HWe; obtain ⟨s0, s1, s2, s3, s4⟩ := HV2.out.1.cells; clear hb) | (go_at_call 24; (with_reducible refine (HVx.out _ HV2.out.1).mono ?_); rintro e we2 ⟨rfl, hb⟩; have HW3 := Aside0.mk (below_step HW2.out hb); have HV3 := Aside0.mk (And.intro (HV2.out.1.below hb) (And.intro (HV2.out.2.1.below hb) (HV2.out.2.2.below hb))); clear HVx; obtain ⟨t0, t1, t2, t3, t4⟩ := HV3.out.2.1.cells; clear hb) | (go_at_call 12; (with_reducible refine (awakeC _).mono ?_); rintro e we4 ⟨rfl, hb⟩; have Hb := Aside0.mk hb; clear hb))
    go_ret
    exact ⟨rfl, below_step HW3.out Hb.out⟩
  | true =>
  cases vy with
  | false =>
    go_enter Try.func9, Try.ntmps9
    go_wp2_with (first | ((rw [HWe.out]); (go_at_call 11); (with_reducible refine HQ.out.mono ?_); rintro e we ⟨rfl, hb⟩; have HW2 := Aside0.mk (below_step HB.out hb); have HV2 := Aside0.mk (And.intro (HV.out.1.below hb) (And.intro (HV.out.2.1.below hb) (HV.out.2.2.below hb))); clear HQ HWe; obtain ⟨s0, s1, s2, s3, s4⟩ := HV2.out.1.cells; clear hb) | (go_at_call 24; (with_reducible refine (HVx.out _ HV2.out.1).mono ?_); rintro e we2 ⟨rfl, hb⟩; have HW3 := Aside0.mk (below_step HW2.out hb); have HV3 := Aside0.mk (And.intro (HV2.out.1.below hb) (And.intro (HV2.out.2.1.below hb) (HV2.out.2.2.below hb))); clear HVx; obtain ⟨t0, t1, t2, t3, t4⟩ := HV3.out.2.1.cells; clear hb) | (go_at_call 24; (with_reducible refine (HVy.out _ HV3.out.2.1).mono ?_); rintro e we3 ⟨rfl, hb⟩; have HW4 := Aside0.mk (below_step HW3.out hb); have HV4 := Aside0.mk (And.intro (HV3.out.1.below hb) (And.intro (HV3.out.2.1.below hb) (HV3.out.2.2.below hb))); clear HVy; obtain ⟨u0, u1, u2, u3, u4⟩ := HV4.out.2.2.cells; clear hb) | (go_at_call 12; (with_reducible refine (awakeC _).mono ?_); rintro e we5 ⟨rfl, hb⟩; have Hb := Aside0.mk hb; clear hb))
    go_ret
    exact ⟨rfl, below_step HW4.out Hb.out⟩
  | true =>
  cases vz with
  | false =>
    go_enter Try.func9, Try.ntmps9
    go_wp2_with (first | ((rw [HWe.out]); (go_at_call 11); (with_reducible refine HQ.out.mono ?_); rintro e we ⟨rfl, hb⟩; have HW2 := Aside0.mk (below_step HB.out hb); have HV2 := Aside0.mk (And.intro (HV.out.1.below hb) (And.intro (HV.out.2.1.below hb) (HV.out.2.2.below hb))); clear HQ HWe; obtain ⟨s0, s1, s2, s3, s4⟩ := HV2.out.1.cells; clear hb) | (go_at_call 24; (with_reducible refine (HVx.out _ HV2.out.1).mono ?_); rintro e we2 ⟨rfl, hb⟩; have HW3 := Aside0.mk (below_step HW2.out hb); have HV3 := Aside0.mk (And.intro (HV2.out.1.below hb) (And.intro (HV2.out.2.1.below hb) (HV2.out.2.2.below hb))); clear HVx; obtain ⟨t0, t1, t2, t3, t4⟩ := HV3.out.2.1.cells; clear hb) | (go_at_call 24; (with_reducible refine (HVy.out _ HV3.out.2.1).mono ?_); rintro e we3 ⟨rfl, hb⟩; have HW4 := Aside0.mk (below_step HW3.out hb); have HV4 := Aside0.mk (And.intro (HV3.out.1.below hb) (And.intro (HV3.out.2.1.below hb) (HV3.out.2.2.below hb))); clear HVy; obtain ⟨u0, u1, u2, u3, u4⟩ := HV4.out.2.2.cells; clear hb) | (go_at_call 24; (with_reducible refine (HVz.out _ HV4.out.2.2).mono ?_); rintro e we4 ⟨rfl, hb⟩; have HW5 := Aside0.mk (below_step HW4.out hb); have HV5 := Aside0.mk (And.intro (HV4.out.1.below hb) (And.intro (HV4.out.2.1.below hb) (HV4.out.2.2.below hb))); clear HVz;  clear hb) | (go_at_call 12; (with_reducible refine (awakeC _).mono ?_); rintro e we6 ⟨rfl, hb⟩; have Hb := Aside0.mk hb; clear hb))
    go_ret
    exact ⟨rfl, below_step HW5.out Hb.out⟩
  | true =>
  go_enter Try.func9, Try.ntmps9
  go_upto_region 3 with (first | ((rw [HWe.out]); (go_at_call 11); (with_reducible refine HQ.out.mono ?_); rintro e we ⟨rfl, hb⟩; have HW2 := Aside0.mk (below_step HB.out hb); have HV2 := Aside0.mk (And.intro (HV.out.1.below hb) (And.intro (HV.out.2.1.below hb) (HV.out.2.2.below hb))); clear HQ HWe; obtain ⟨s0, s1, s2, s3, s4⟩ := HV2.out.1.cells; clear hb) | (go_at_call 24; (with_reducible refine (HVx.out _ HV2.out.1).mono ?_); rintro e we2 ⟨rfl, hb⟩; have HW3 := Aside0.mk (below_step HW2.out hb); have HV3 := Aside0.mk (And.intro (HV2.out.1.below hb) (And.intro (HV2.out.2.1.below hb) (HV2.out.2.2.below hb))); clear HVx; obtain ⟨t0, t1, t2, t3, t4⟩ := HV3.out.2.1.cells; clear hb) | (go_at_call 24; (with_reducible refine (HVy.out _ HV3.out.2.1).mono ?_); rintro e we3 ⟨rfl, hb⟩; have HW4 := Aside0.mk (below_step HW3.out hb); have HV4 := Aside0.mk (And.intro (HV3.out.1.below hb) (And.intro (HV3.out.2.1.below hb) (HV3.out.2.2.below hb))); clear HVy; obtain ⟨u0, u1, u2, u3, u4⟩ := HV4.out.2.2.cells; clear hb) | (go_at_call 24; (with_reducible refine (HVz.out _ HV4.out.2.2).mono ?_); rintro e we4 ⟨rfl, hb⟩; have HW5 := Aside0.mk (below_step HW4.out hb); have HV5 := Aside0.mk (And.intro (HV4.out.1.below hb) (And.intro (HV4.out.2.1.below hb) (HV4.out.2.2.below hb))); clear HVz;  clear hb))
  obtain ⟨f1, f2, f3, f4, f5⟩ := order_facts HHv.out.1 HHv.out.2.1 HHv.out.2.2
  obtain ⟨p, hp⟩ : ∃ p, vvc x y = p := ⟨_, rfl⟩
  obtain ⟨q, hq⟩ : ∃ q, vvc y z = q := ⟨_, rfl⟩
  obtain ⟨r, hrr⟩ : ∃ r, vvc x z = r := ⟨_, rfl⟩
  rw [hp] at f1 f2 f3 f4 f5
  rw [hq, hrr] at f4 f5
  have hc := HHc.out
  have HD : Aside0 (∀ w1, AB we4.drew w1 → Below we4.heap.size we4 w1) := ⟨fun w1 h1 => below_step (drawn_below ⟨1, rfl⟩) h1⟩
  have HBv : Aside0 (∀ w1, Below we4.heap.size we4 w1 → Bv w1 w.heap.size A3 c3 A4 c4 x ∧ Bv w1 (w.heap.size + 1) B3 d3 B4 d4 y ∧ Bv w1 (w.heap.size + 2) C3 e3 C4 e4 z) := ⟨fun w1 h1 => ⟨HV5.out.1.below h1, HV5.out.2.1.below h1, HV5.out.2.2.below h1⟩⟩
  have HL : Aside0 (∀ w1, AB we4.drew w1 → (w1.cell? ⟨w.heap.size, 0, none⟩ = some (.int .i64 x.f0) ∧ w1.cell? ⟨w.heap.size, 1, none⟩ = some (.int .i64 x.f1) ∧ w1.cell? ⟨w.heap.size, 2, none⟩ = some (.string x.f2) ∧ w1.cell? ⟨w.heap.size, 3, none⟩ = some (.slice A3 x.f3.length c3) ∧ w1.cell? ⟨w.heap.size, 4, none⟩ = some (.slice A4 x.f4.length c4)) ∧ (w1.cell? ⟨w.heap.size + 1, 0, none⟩ = some (.int .i64 y.f0) ∧ w1.cell? ⟨w.heap.size + 1, 1, none⟩ = some (.int .i64 y.f1) ∧ w1.cell? ⟨w.heap.size + 1, 2, none⟩ = some (.string y.f2) ∧ w1.cell? ⟨w.heap.size + 1, 3, none⟩ = some (.slice B3 y.f3.length d3) ∧ w1.cell? ⟨w.heap.size + 1, 4, none⟩ = some (.slice B4 y.f4.length d4)) ∧ (w1.cell? ⟨w.heap.size + 2, 0, none⟩ = some (.int .i64 z.f0) ∧ w1.cell? ⟨w.heap.size + 2, 1, none⟩ = some (.int .i64 z.f1) ∧ w1.cell? ⟨w.heap.size + 2, 2, none⟩ = some (.string z.f2) ∧ w1.cell? ⟨w.heap.size + 2, 3, none⟩ = some (.slice C3 z.f3.length e3) ∧ w1.cell? ⟨w.heap.size + 2, 4, none⟩ = some (.slice C4 z.f4.length e4))) := ⟨fun w1 h1 => ⟨(HBv.out w1 (HD.out w1 h1)).1.cells, (HBv.out w1 (HD.out w1 h1)).2.1.cells, (HBv.out w1 (HD.out w1 h1)).2.2.cells⟩⟩
  have HG : Aside0 (∀ w1, Bv w1 w.heap.size A3 c3 A4 c4 x ∧ Bv w1 (w.heap.size + 1) B3 d3 B4 d4 y ∧ Bv w1 (w.heap.size + 2) C3 e3 C4 e4 z →
      (Calls Try.prog 37 #[.agg #[.int .i64 x.f0, .int .i64 x.f1, .string x.f2, .slice A3 x.f3.length c3, .slice A4 x.f4.length c4], .agg #[.int .i64 y.f0, .int .i64 y.f1, .string y.f2, .slice B3 y.f3.length d3, .slice B4 y.f4.length d4]] w1 fun e w2 => e = .returned (.int .i64 p) ∧ AB w1 w2) ∧
      (Calls Try.prog 37 #[.agg #[.int .i64 y.f0, .int .i64 y.f1, .string y.f2, .slice B3 y.f3.length d3, .slice B4 y.f4.length d4], .agg #[.int .i64 z.f0, .int .i64 z.f1, .string z.f2, .slice C3 z.f3.length e3, .slice C4 z.f4.length e4]] w1 fun e w2 => e = .returned (.int .i64 q) ∧ AB w1 w2) ∧
      (Calls Try.prog 37 #[.agg #[.int .i64 x.f0, .int .i64 x.f1, .string x.f2, .slice A3 x.f3.length c3, .slice A4 x.f4.length c4], .agg #[.int .i64 z.f0, .int .i64 z.f1, .string z.f2, .slice C3 z.f3.length e3, .slice C4 z.f4.length e4]] w1 fun e w2 => e = .returned (.int .i64 r) ∧ AB w1 w2) ∧
      (Calls Try.prog 37 #[.agg #[.int .i64 y.f0, .int .i64 y.f1, .string y.f2, .slice B3 y.f3.length d3, .slice B4 y.f4.length d4], .agg #[.int .i64 x.f0, .int .i64 x.f1, .string x.f2, .slice A3 x.f3.length c3, .slice A4 x.f4.length c4]] w1 fun e w2 => e = .returned (.int .i64 (-p)) ∧ Below w1.heap.size w1 w2) ∧
      (Calls Try.prog 19 #[.agg #[.int .i64 x.f0, .int .i64 x.f1, .string x.f2, .slice A3 x.f3.length c3, .slice A4 x.f4.length c4], .agg #[.int .i64 y.f0, .int .i64 y.f1, .string y.f2, .slice B3 y.f3.length d3, .slice B4 y.f4.length d4]] w1 fun e w2 => e = .returned (.bool (p == 0)) ∧ Below w1.heap.size w1 w2) ∧
      (Calls Try.prog 39 #[.agg #[.int .i64 x.f0, .int .i64 x.f1, .string x.f2, .slice A3 x.f3.length c3, .slice A4 x.f4.length c4], .agg #[.int .i64 y.f0, .int .i64 y.f1, .string y.f2, .slice B3 y.f3.length d3, .slice B4 y.f4.length d4]] w1 fun e w2 => e = .returned (.bool (p == 0)) ∧ Below w1.heap.size w1 w2)) := ⟨fun w1 ⟨b1, b2, b3⟩ => by
    obtain ⟨hx, hy, hz⟩ := HX.out
    refine ⟨?_, ?_, ?_, ?_, ?_, ?_⟩
    · rw [← hp]; exact valueCompareC x y w1 hx hy (by omega) (by omega) b1.rd b2.rd
    · rw [← hq]; exact valueCompareC y z w1 hy hz (by omega) (by omega) b2.rd b3.rd
    · rw [← hrr]; exact valueCompareC x z w1 hx hz (by omega) (by omega) b1.rd b3.rd
    · rw [← f1]; exact valueCompareC y x w1 hy hx (by omega) (by omega) b2.rd b1.rd
    · refine (sameC _ x y w1 (Nat.lt_succ_self _) hx b1.rd b2.rd).mono ?_
      rintro e w2 ⟨v, rfl, h, hb⟩
      refine ⟨?_, hb⟩
      congr 2
      cases v with
      | true => exact (beq_iff_eq.2 (f2.2 (h.1 rfl))).symm
      | false => exact (beq_eq_false_iff_ne.2 (fun e => by have := h.2 (f2.1 e); cases this)).symm
    · have h := valueEqualC x y w1 hx hy (by omega) (by omega) b1.rd b2.rd
      rw [f3] at h
      exact h⟩
  have HCxy : Aside0 (∀ w1, AB we4.drew w1 → Calls Try.prog 37 #[.agg #[.int .i64 x.f0, .int .i64 x.f1, .string x.f2, .slice A3 x.f3.length c3, .slice A4 x.f4.length c4], .agg #[.int .i64 y.f0, .int .i64 y.f1, .string y.f2, .slice B3 y.f3.length d3, .slice B4 y.f4.length d4]] w1 fun e w2 => e = .returned (.int .i64 p) ∧ AB w1 w2) := ⟨fun w1 h1 => (HG.out w1 (HBv.out w1 (HD.out w1 h1))).1⟩
  have HCyz : Aside0 (∀ w1, AB we4.drew w1 → Calls Try.prog 37 #[.agg #[.int .i64 y.f0, .int .i64 y.f1, .string y.f2, .slice B3 y.f3.length d3, .slice B4 y.f4.length d4], .agg #[.int .i64 z.f0, .int .i64 z.f1, .string z.f2, .slice C3 z.f3.length e3, .slice C4 z.f4.length e4]] w1 fun e w2 => e = .returned (.int .i64 q) ∧ AB w1 w2) := ⟨fun w1 h1 => (HG.out w1 (HBv.out w1 (HD.out w1 h1))).2.1⟩
  have HCxz : Aside0 (∀ w1, AB we4.drew w1 → Calls Try.prog 37 #[.agg #[.int .i64 x.f0, .int .i64 x.f1, .string x.f2, .slice A3 x.f3.length c3, .slice A4 x.f4.length c4], .agg #[.int .i64 z.f0, .int .i64 z.f1, .string z.f2, .slice C3 z.f3.length e3, .slice C4 z.f4.length e4]] w1 fun e w2 => e = .returned (.int .i64 r) ∧ AB w1 w2) := ⟨fun w1 h1 => (HG.out w1 (HBv.out w1 (HD.out w1 h1))).2.2.1⟩
  have hpb : -1 ≤ p ∧ p ≤ 1 := by rw [← hp]; exact vvc_b x y
  have HF4 := Aside0.mk (And.intro f4 f5)
  have HPb := Aside0.mk hpb
  clear f1 f2 f3 f4 f5 hp hq hrr hc hpb HV HV2 HV3 HV4 HB HW2 HW3 HW4 HHc HHv p0 p1 p2 p3 p4 q0 q1 q2 q3 q4 r0 r1 r2 r3 r4
  · refine Go.Up.start_ preB (n := 12) (R := AB) (ds := []) #[false, false, false, false, false, false, false, false, false, false, false, false] (by kernel_rfl) rfl (by rfl) ?_
    refine Go.Up.take_ preB (i := 0) (N := some 32) (v := (.agg #[.int .i64 x.f0, .int .i64 x.f1, .string x.f2, .slice A3 x.f3.length c3, .slice A4 x.f4.length c4])) #[true, false, false, false, false, false, false, false, false, false, false, false] rfl rfl (by kernel_rfl) (fun _ _ _ h => h) (Go.Up.value_ preB rfl (fun w1 h1 => by (obtain ⟨⟨p0, p1, p2, p3, p4⟩, _, _⟩ := HL.out w1 h1); go_simp)) rfl ?_
    try simp only [Act.put, List.setIfInBounds_toArray, List.set_cons_zero, List.set_cons_succ]
    refine Go.Up.take_ preB (i := 1) (N := some 33) (v := (.agg #[.int .i64 y.f0, .int .i64 y.f1, .string y.f2, .slice B3 y.f3.length d3, .slice B4 y.f4.length d4])) #[true, true, false, false, false, false, false, false, false, false, false, false] rfl rfl (by kernel_rfl) (fun _ _ _ h => h) (Go.Up.value_ preB rfl (fun w1 h1 => by (obtain ⟨_, ⟨p0, p1, p2, p3, p4⟩, _⟩ := HL.out w1 h1); go_simp)) rfl ?_
    try simp only [Act.put, List.setIfInBounds_toArray, List.set_cons_zero, List.set_cons_succ]
    refine Go.Up.take_ preB (i := 2) (N := some 34) (v := (.int .i64 p)) #[true, true, true, false, false, false, false, false, false, false, false, false] rfl rfl (by kernel_rfl) (fun _ _ _ h => h) (Go.Up.call_ (f := 37) Try.func37 rfl rfl #[.agg #[.int .i64 x.f0, .int .i64 x.f1, .string x.f2, .slice A3 x.f3.length c3, .slice A4 x.f4.length c4], .agg #[.int .i64 y.f0, .int .i64 y.f1, .string y.f2, .slice B3 y.f3.length d3, .slice B4 y.f4.length d4]] rfl rfl (by simp [Act.eval]) (fun w1 h1 => HCxy.out w1 h1)) rfl ?_
    try simp only [Act.put, List.setIfInBounds_toArray, List.set_cons_zero, List.set_cons_succ]
    refine Go.Up.take_ preB (i := 3) (N := some 35) (v := (.agg #[.int .i64 y.f0, .int .i64 y.f1, .string y.f2, .slice B3 y.f3.length d3, .slice B4 y.f4.length d4])) #[true, true, true, true, false, false, false, false, false, false, false, false] rfl rfl (by kernel_rfl) (fun _ _ _ h => h) (Go.Up.value_ preB rfl (fun w1 h1 => by (obtain ⟨_, ⟨p0, p1, p2, p3, p4⟩, _⟩ := HL.out w1 h1); go_simp)) rfl ?_
    try simp only [Act.put, List.setIfInBounds_toArray, List.set_cons_zero, List.set_cons_succ]
    refine Go.Up.take_ preB (i := 4) (N := some 36) (v := (.agg #[.int .i64 z.f0, .int .i64 z.f1, .string z.f2, .slice C3 z.f3.length e3, .slice C4 z.f4.length e4])) #[true, true, true, true, true, false, false, false, false, false, false, false] rfl rfl (by kernel_rfl) (fun _ _ _ h => h) (Go.Up.value_ preB rfl (fun w1 h1 => by (obtain ⟨_, _, ⟨p0, p1, p2, p3, p4⟩⟩ := HL.out w1 h1); go_simp)) rfl ?_
    try simp only [Act.put, List.setIfInBounds_toArray, List.set_cons_zero, List.set_cons_succ]
    refine Go.Up.take_ preB (i := 5) (N := some 37) (v := (.int .i64 q)) #[true, true, true, true, true, true, false, false, false, false, false, false] rfl rfl (by kernel_rfl) (fun _ _ _ h => h) (Go.Up.call_ (f := 37) Try.func37 rfl rfl #[.agg #[.int .i64 y.f0, .int .i64 y.f1, .string y.f2, .slice B3 y.f3.length d3, .slice B4 y.f4.length d4], .agg #[.int .i64 z.f0, .int .i64 z.f1, .string z.f2, .slice C3 z.f3.length e3, .slice C4 z.f4.length e4]] rfl rfl (by simp [Act.eval]) (fun w1 h1 => HCyz.out w1 h1)) rfl ?_
    try simp only [Act.put, List.setIfInBounds_toArray, List.set_cons_zero, List.set_cons_succ]
    refine Go.Up.take_ preB (i := 6) (N := some 38) (v := (.agg #[.int .i64 x.f0, .int .i64 x.f1, .string x.f2, .slice A3 x.f3.length c3, .slice A4 x.f4.length c4])) #[true, true, true, true, true, true, true, false, false, false, false, false] rfl rfl (by kernel_rfl) (fun _ _ _ h => h) (Go.Up.value_ preB rfl (fun w1 h1 => by (obtain ⟨⟨p0, p1, p2, p3, p4⟩, _, _⟩ := HL.out w1 h1); go_simp)) rfl ?_
    try simp only [Act.put, List.setIfInBounds_toArray, List.set_cons_zero, List.set_cons_succ]
    refine Go.Up.take_ preB (i := 7) (N := some 39) (v := (.agg #[.int .i64 z.f0, .int .i64 z.f1, .string z.f2, .slice C3 z.f3.length e3, .slice C4 z.f4.length e4])) #[true, true, true, true, true, true, true, true, false, false, false, false] rfl rfl (by kernel_rfl) (fun _ _ _ h => h) (Go.Up.value_ preB rfl (fun w1 h1 => by (obtain ⟨_, _, ⟨p0, p1, p2, p3, p4⟩⟩ := HL.out w1 h1); go_simp)) rfl ?_
    try simp only [Act.put, List.setIfInBounds_toArray, List.set_cons_zero, List.set_cons_succ]
    refine Go.Up.take_ preB (i := 8) (N := some 40) (v := (.int .i64 r)) #[true, true, true, true, true, true, true, true, true, false, false, false] rfl rfl (by kernel_rfl) (fun _ _ _ h => h) (Go.Up.call_ (f := 37) Try.func37 rfl rfl #[.agg #[.int .i64 x.f0, .int .i64 x.f1, .string x.f2, .slice A3 x.f3.length c3, .slice A4 x.f4.length c4], .agg #[.int .i64 z.f0, .int .i64 z.f1, .string z.f2, .slice C3 z.f3.length e3, .slice C4 z.f4.length e4]] rfl rfl (by simp [Act.eval]) (fun w1 h1 => HCxz.out w1 h1)) rfl ?_
    try simp only [Act.put, List.setIfInBounds_toArray, List.set_cons_zero, List.set_cons_succ]
    refine Go.Up.take_ preB (i := 9) (N := some 7) (v := (.int .i64 p)) #[true, true, true, true, true, true, true, true, true, true, false, false] rfl rfl (by kernel_rfl) (fun _ _ _ h => h) (Go.Up.value_ preB rfl (fun w1 h1 => by (skip); go_simp)) rfl ?_
    try simp only [Act.put, List.setIfInBounds_toArray, List.set_cons_zero, List.set_cons_succ]
    refine Go.Up.take_ preB (i := 10) (N := some 8) (v := (.int .i64 q)) #[true, true, true, true, true, true, true, true, true, true, true, false] rfl rfl (by kernel_rfl) (fun _ _ _ h => h) (Go.Up.value_ preB rfl (fun w1 h1 => by (skip); go_simp)) rfl ?_
    try simp only [Act.put, List.setIfInBounds_toArray, List.set_cons_zero, List.set_cons_succ]
    refine Go.Up.take_ preB (i := 11) (N := some 9) (v := (.int .i64 r)) #[true, true, true, true, true, true, true, true, true, true, true, true] rfl rfl (by kernel_rfl) (fun _ _ _ h => h) (Go.Up.value_ preB rfl (fun w1 h1 => by (skip); go_simp)) rfl ?_
    try simp only [Act.put, List.setIfInBounds_toArray, List.set_cons_zero, List.set_cons_succ]
    refine Go.Up.done_ preB (by kernel_rfl) ?_
    intro w1 h1
    have HW6 := Aside0.mk (below_step HW5.out (HD.out w1 h1))
    have HV6 := Aside0.mk (HBv.out w1 (HD.out w1 h1))
    clear HD HBv HL HCxy HCyz HCxz h1 HV5
    have hA : ∀ w2, AB w1 w2 → Bv w2 w.heap.size A3 c3 A4 c4 x ∧ Bv w2 (w.heap.size + 1) B3 d3 B4 d4 y ∧ Bv w2 (w.heap.size + 2) C3 e3 C4 e4 z := fun w2 h => ⟨HV6.out.1.below h, HV6.out.2.1.below h, HV6.out.2.2.below h⟩
    have HA := Aside0.mk hA
    clear hA
    obtain ⟨p0, p1, p2, p3, p4⟩ := HV6.out.1.cells
    obtain ⟨q0, q1, q2, q3, q4⟩ := HV6.out.2.1.cells
    have hn : wrap64 (-p) = -p := wrap_id _ (by have := HPb.out; omega) (by have := HPb.out; omega)
    have hF := HF4.out
    by_cases c1 : 0 < p
    · have g1 : decide (p > 0) = true := decide_eq_true c1
      clear c1 hF
      go_wp2_with (first | (go_at_call 37; (with_reducible refine (HG.out _ HV6.out).2.2.2.1.mono ?_); rintro e v1 ⟨rfl, hb⟩; have HV7 := Aside0.mk (HA.out _ hb); have HW7 := Aside0.mk (below_step HW6.out hb); have HB7 := Aside0.mk hb; obtain ⟨s0, s1, s2, s3, s4⟩ := HV7.out.1.cells; obtain ⟨t0, t1, t2, t3, t4⟩ := HV7.out.2.1.cells; clear hb) | (go_at_call 19; (with_reducible refine (HG.out _ HV7.out).2.2.2.2.1.mono ?_); rintro e v2 ⟨rfl, hb⟩; have HV8 := Aside0.mk (HA.out _ (below_step HB7.out hb)); have HW8 := Aside0.mk (below_step HW7.out hb); obtain ⟨x0, x1, x2, x3, x4⟩ := HV8.out.1.cells; obtain ⟨y0, y1, y2, y3, y4⟩ := HV8.out.2.1.cells; clear hb) | (go_at_call 39; (with_reducible refine (HG.out _ HV8.out).2.2.2.2.2.mono ?_); rintro e v3 ⟨rfl, hb⟩; have HW9 := Aside0.mk (below_step HW8.out hb); clear hb) | (go_at_call 12; (with_reducible refine (awakeC _).mono ?_); rintro e v4 ⟨rfl, hb⟩; have HW10 := Aside0.mk (below_step HW9.out hb); clear hb))
      go_ret
      exact ⟨rfl, HW10.out⟩
    have g1 : decide (p > 0) = false := decide_eq_false c1
    by_cases c2 : 0 < q
    · have g2 : decide (q > 0) = true := decide_eq_true c2
      clear c1 c2 hF
      go_wp2_with (first | (go_at_call 37; (with_reducible refine (HG.out _ HV6.out).2.2.2.1.mono ?_); rintro e v1 ⟨rfl, hb⟩; have HV7 := Aside0.mk (HA.out _ hb); have HW7 := Aside0.mk (below_step HW6.out hb); have HB7 := Aside0.mk hb; obtain ⟨s0, s1, s2, s3, s4⟩ := HV7.out.1.cells; obtain ⟨t0, t1, t2, t3, t4⟩ := HV7.out.2.1.cells; clear hb) | (go_at_call 19; (with_reducible refine (HG.out _ HV7.out).2.2.2.2.1.mono ?_); rintro e v2 ⟨rfl, hb⟩; have HV8 := Aside0.mk (HA.out _ (below_step HB7.out hb)); have HW8 := Aside0.mk (below_step HW7.out hb); obtain ⟨x0, x1, x2, x3, x4⟩ := HV8.out.1.cells; obtain ⟨y0, y1, y2, y3, y4⟩ := HV8.out.2.1.cells; clear hb) | (go_at_call 39; (with_reducible refine (HG.out _ HV8.out).2.2.2.2.2.mono ?_); rintro e v3 ⟨rfl, hb⟩; have HW9 := Aside0.mk (below_step HW8.out hb); clear hb) | (go_at_call 12; (with_reducible refine (awakeC _).mono ?_); rintro e v4 ⟨rfl, hb⟩; have HW10 := Aside0.mk (below_step HW9.out hb); clear hb))
      go_ret
      exact ⟨rfl, HW10.out⟩
    have g2 : decide (q > 0) = false := decide_eq_false c2
    have g3 : decide (r ≤ 0) = true := decide_eq_true (by omega)
    by_cases c3 : p = 0
    · by_cases c4 : q = 0
      · have g5 : (q == 0) = true := by simpa using c4
        have g4 : (p == 0) = true := by simpa using c3
        clear c1 c2 c3 c4 hF
        go_wp2_with (first | (go_at_call 37; (with_reducible refine (HG.out _ HV6.out).2.2.2.1.mono ?_); rintro e v1 ⟨rfl, hb⟩; have HV7 := Aside0.mk (HA.out _ hb); have HW7 := Aside0.mk (below_step HW6.out hb); have HB7 := Aside0.mk hb; obtain ⟨s0, s1, s2, s3, s4⟩ := HV7.out.1.cells; obtain ⟨t0, t1, t2, t3, t4⟩ := HV7.out.2.1.cells; clear hb) | (go_at_call 19; (with_reducible refine (HG.out _ HV7.out).2.2.2.2.1.mono ?_); rintro e v2 ⟨rfl, hb⟩; have HV8 := Aside0.mk (HA.out _ (below_step HB7.out hb)); have HW8 := Aside0.mk (below_step HW7.out hb); obtain ⟨x0, x1, x2, x3, x4⟩ := HV8.out.1.cells; obtain ⟨y0, y1, y2, y3, y4⟩ := HV8.out.2.1.cells; clear hb) | (go_at_call 39; (with_reducible refine (HG.out _ HV8.out).2.2.2.2.2.mono ?_); rintro e v3 ⟨rfl, hb⟩; have HW9 := Aside0.mk (below_step HW8.out hb); clear hb) | (go_at_call 12; (with_reducible refine (awakeC _).mono ?_); rintro e v4 ⟨rfl, hb⟩; have HW10 := Aside0.mk (below_step HW9.out hb); clear hb))
        go_ret
        exact ⟨rfl, HW10.out⟩
      · have g5 : (q == 0) = false := by simpa using c4
        have g4 : (p == 0) = true := by simpa using c3
        have g6 : decide (r < 0) = true := decide_eq_true (by omega)
        clear c1 c2 c3 c4 hF
        go_wp2_with (first | (go_at_call 37; (with_reducible refine (HG.out _ HV6.out).2.2.2.1.mono ?_); rintro e v1 ⟨rfl, hb⟩; have HV7 := Aside0.mk (HA.out _ hb); have HW7 := Aside0.mk (below_step HW6.out hb); have HB7 := Aside0.mk hb; obtain ⟨s0, s1, s2, s3, s4⟩ := HV7.out.1.cells; obtain ⟨t0, t1, t2, t3, t4⟩ := HV7.out.2.1.cells; clear hb) | (go_at_call 19; (with_reducible refine (HG.out _ HV7.out).2.2.2.2.1.mono ?_); rintro e v2 ⟨rfl, hb⟩; have HV8 := Aside0.mk (HA.out _ (below_step HB7.out hb)); have HW8 := Aside0.mk (below_step HW7.out hb); obtain ⟨x0, x1, x2, x3, x4⟩ := HV8.out.1.cells; obtain ⟨y0, y1, y2, y3, y4⟩ := HV8.out.2.1.cells; clear hb) | (go_at_call 39; (with_reducible refine (HG.out _ HV8.out).2.2.2.2.2.mono ?_); rintro e v3 ⟨rfl, hb⟩; have HW9 := Aside0.mk (below_step HW8.out hb); clear hb) | (go_at_call 12; (with_reducible refine (awakeC _).mono ?_); rintro e v4 ⟨rfl, hb⟩; have HW10 := Aside0.mk (below_step HW9.out hb); clear hb))
        go_ret
        exact ⟨rfl, HW10.out⟩
    · have g4 : (p == 0) = false := by simpa using c3
      have g6 : decide (r < 0) = true := decide_eq_true (by omega)
      clear c1 c2 c3 hF
      go_wp2_with (first | (go_at_call 37; (with_reducible refine (HG.out _ HV6.out).2.2.2.1.mono ?_); rintro e v1 ⟨rfl, hb⟩; have HV7 := Aside0.mk (HA.out _ hb); have HW7 := Aside0.mk (below_step HW6.out hb); have HB7 := Aside0.mk hb; obtain ⟨s0, s1, s2, s3, s4⟩ := HV7.out.1.cells; obtain ⟨t0, t1, t2, t3, t4⟩ := HV7.out.2.1.cells; clear hb) | (go_at_call 19; (with_reducible refine (HG.out _ HV7.out).2.2.2.2.1.mono ?_); rintro e v2 ⟨rfl, hb⟩; have HV8 := Aside0.mk (HA.out _ (below_step HB7.out hb)); have HW8 := Aside0.mk (below_step HW7.out hb); obtain ⟨x0, x1, x2, x3, x4⟩ := HV8.out.1.cells; obtain ⟨y0, y1, y2, y3, y4⟩ := HV8.out.2.1.cells; clear hb) | (go_at_call 39; (with_reducible refine (HG.out _ HV8.out).2.2.2.2.2.mono ?_); rintro e v3 ⟨rfl, hb⟩; have HW9 := Aside0.mk (below_step HW8.out hb); clear hb) | (go_at_call 12; (with_reducible refine (awakeC _).mono ?_); rintro e v4 ⟨rfl, hb⟩; have HW10 := Aside0.mk (below_step HW9.out hb); clear hb))
      go_ret
      exact ⟨rfl, HW10.out⟩
end Go.Proofs.Ytgpjkojnmeaoiaa.QV
