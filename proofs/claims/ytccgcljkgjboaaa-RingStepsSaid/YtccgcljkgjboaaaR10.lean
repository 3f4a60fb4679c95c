import Derived.Test.YtccgcljkgjboaaaR7
/- The reference's ring, by hand: its state, NewRing, at, Ready, Acquire. -/
namespace Go.Proofs.Ytccgcljkgjboaaa.Rg
open Go.RowKit Go.Proofs.YtccgcljkgjboaaaW.PrintWords Go.Proofs.YtccgcljkgjboaaaW.PrintLast Go.Proofs.YtccgcljkgjboaaaW.PrintMore
set_option linter.unusedVariables false
set_option linter.unusedSimpArgs false
set_option maxRecDepth 100000
set_option maxHeartbeats 4000000
/-- A row of numbers that is read, in a block of numbers. -/
def Rd (w : World) (A : Option Addr) (l : List Int) : Prop :=
  ReadsInt w .i64 A l.length l ∧ (0 < l.length → ∃ ad cur, A = some ad ∧ w.heap[ad.block]? = some (.cells cur 3 (0, 0)))
/-- A row of results that is read, in a block of results. -/
def RX (w : World) (A : Option Addr) (xs : List Res) : Prop :=
  ∃ rows : List (List Value), rows.length = xs.length ∧ (Kd.raw 3).C w A xs.length rows ∧ (0 < xs.length → ∃ b o cur, A = some ⟨b, o, none⟩ ∧ w.heap[b]? = some (.cells cur 33 (0, 0))) ∧
    ∀ (j : Nat) (x : Res) (cs : List Value), xs[j]? = some x → rows[j]? = some cs → ∃ B c, cs = [.slice B x.out.length c, .int .i64 x.st, .int .i64 x.rc] ∧ x.out.length ≤ c ∧ RdB w B x.out
structure IsR (w : World) (h cap next cr : Nat) (ns : List Int) (xs : List Res) : Prop where
  blk : ∃ A c B d, w.heap[h]? = some (.cells #[.int .i64 (cap : Int), .int .i64 (next : Int), .int .i64 (cr : Int), .slice A ns.length c, .slice B xs.length d] 39 (0, 0)) ∧ ns.length ≤ c ∧ xs.length ≤ d ∧ Rd w A ns ∧ RX w B xs
/-- What holds the reference's ring, its rows and their bytes stays. -/
def Keeps (w w' : World) : Prop := ∀ (k : Nat) (cur : Array Value) (t : TypeId), t = 3 ∨ t = 5 ∨ t = 33 ∨ t = 39 → w.heap[k]? = some (.cells cur t (0, 0)) → w'.heap[k]? = w.heap[k]?
theorem Rd.move {w w' : World} {A : Option Addr} {l : List Int} (h : Rd w A l) (hb : ∀ (k : Nat) (cur : Array Value), w.heap[k]? = some (.cells cur 3 (0, 0)) → w'.heap[k]? = w.heap[k]?) : Rd w' A l := by
  obtain ⟨h1, h2⟩ := h
  refine ⟨⟨h1.1, h1.2.1, fun hl => ?_⟩, fun hl => ?_⟩
  · obtain ⟨ad, e, hc⟩ := h1.2.2 hl
    obtain ⟨ad', cur, e', hcur⟩ := h2 hl
    obtain rfl : ad' = ad := Option.some.inj (e'.symm.trans e)
    refine ⟨ad', e, fun j hj => ?_⟩
    have e2 : (ad'.add j).block = ad'.block := by unfold Addr.add; split <;> rfl
    rw [World.cell?_of_block (w := w) (by rw [e2]; exact hb _ _ hcur)]
    exact hc j hj
  · obtain ⟨ad, cur, e, hc⟩ := h2 hl
    exact ⟨ad, cur, e, (hb _ _ hc).trans hc⟩
theorem RX.move {w w' : World} {A : Option Addr} {xs : List Res} (h : RX w A xs) (hb : ∀ (k : Nat) (cur : Array Value) (t : TypeId), t = 5 ∨ t = 33 → w.heap[k]? = some (.cells cur t (0, 0)) → w'.heap[k]? = w.heap[k]?) : RX w' A xs := by
  obtain ⟨rows, hl, hC, hT, hE⟩ := h
  refine ⟨rows, hl, ⟨hC.1, hC.2.1, fun hp => ?_⟩, fun hp => ?_, fun j x cs h1 h2 => ?_⟩
  · obtain ⟨ad, e, hc⟩ := hC.2.2 hp
    obtain ⟨b, o, cur, e', hcur⟩ := hT hp
    obtain rfl : (⟨b, o, none⟩ : Addr) = ad := Option.some.inj (e'.symm.trans e)
    refine ⟨_, e, fun j p hj => ?_⟩
    obtain ⟨c, a1, a2, a3⟩ := hc j p hj
    refine ⟨c, a1, a2, fun i u hu => ?_⟩
    have e2 : ((⟨b, o, none⟩ : Addr).add (j * (Kd.raw 3).sz + i)).block = b := by unfold Addr.add; split <;> rfl
    rw [World.cell?_of_block (w := w) (by rw [e2]; exact hb _ _ 33 (.inr rfl) hcur)]
    exact a3 i u hu
  · obtain ⟨b, o, cur, e, hc⟩ := hT hp
    exact ⟨b, o, cur, e, (hb _ _ 33 (.inr rfl) hc).trans hc⟩
  · obtain ⟨B, c, e, hc, hr⟩ := hE j x cs h1 h2
    exact ⟨B, c, e, hc, hr.move (fun k cur hk => hb k cur 5 (.inl rfl) hk)⟩
theorem IsR.move {w w' : World} {h cap next cr : Nat} {ns : List Int} {xs : List Res} (hR : IsR w h cap next cr ns xs) (hb : Keeps w w') : IsR w' h cap next cr ns xs := by
  obtain ⟨A, c, B, d, h1, h2, h3, h4, h5⟩ := hR
  exact ⟨A, c, B, d, (hb _ _ 39 (by simp) h1).trans h1, h2, h3, h4.move (fun k cur hk => hb k cur 3 (by simp) hk), h5.move (fun k cur t ht hk => hb k cur t (by rcases ht with rfl | rfl <;> simp) hk)⟩
theorem Keeps.below {w w' : World} (hb : Below w.heap.size w w') : Keeps w w' := fun k cur t _ hc => hb.block k (hlt hc)
theorem IsR.below {w w' : World} {h cap next cr : Nat} {ns : List Int} {xs : List Res} (hR : IsR w h cap next cr ns xs) (hb : Below w.heap.size w w') : IsR w' h cap next cr ns xs := hR.move (Keeps.below hb)
/-- The program's ring has turned: the reference's stands. -/
theorem IsR.fr {w w' : World} {h cap next cr : Nat} {ns : List Int} {xs : List Res} (hR : IsR w h cap next cr ns xs) {g s cap' next' cr' : Nat} {f : Nat → Option Res} (hQ : IsQ w g s cap' next' cr' f) (hF : Fr g s w w') : IsR w' h cap next cr ns xs := by
  obtain ⟨vs, hv, _⟩ := hQ.slots
  exact hR.move (fun k cur t ht hk => hF.block k (hlt hk) (fun e => by subst e; have := type_ne hk hQ.ring; rcases ht with rfl | rfl | rfl | rfl <;> exact absurd this (by decide)) (fun e => by subst e; have := type_ne hk hv; rcases ht with rfl | rfl | rfl | rfl <;> exact absurd this (by decide)))
/-- The reference's ring has turned (its own block alone): the program's stands. -/
theorem IsQ.frH {w w' : World} {h cap next cr : Nat} {ns : List Int} {xs : List Res} (hR : IsR w h cap next cr ns xs) {g s cap' next' cr' : Nat} {f : Nat → Option Res} (hQ : IsQ w g s cap' next' cr' f) (hF : Fr h h w w') : IsQ w' g s cap' next' cr' f := by
  obtain ⟨A, c, B, d, h1, _⟩ := hR
  refine hQ.move (fun k cur t ht hk => ?_)
  have hne : k ≠ h := fun e => by subst e; have := type_ne hk h1; rcases ht with rfl | rfl | rfl | rfl <;> exact absurd this (by decide)
  exact hF.block k (hlt hk) hne hne
theorem IsR.lt {w : World} {h cap next cr : Nat} {ns : List Int} {xs : List Res} (hR : IsR w h cap next cr ns xs) : h < w.heap.size := by
  obtain ⟨A, c, B, d, h1, _⟩ := hR
  exact hlt h1
theorem cells5 {w : World} {h : Nat} {a b c d e : Value} {t : TypeId} (hb : w.heap[h]? = some (.cells #[a, b, c, d, e] t (0, 0))) :
    w.cell? ⟨h, 0, none⟩ = some a ∧ w.cell? ⟨h, 1, none⟩ = some b ∧ w.cell? ⟨h, 2, none⟩ = some c ∧ w.cell? ⟨h, 3, none⟩ = some d ∧ w.cell? ⟨h, 4, none⟩ = some e ∧ ∀ j, w.frozen? ⟨h, j, none⟩ = false := by
  refine ⟨?_, ?_, ?_, ?_, ?_, fun j => ?_⟩ <;> simp [World.cell?, World.frozen?, hb]
theorem Rd.nil (w : World) : Rd w none [] := ⟨ReadsInt.nil _ _, fun h => absurd h (Nat.lt_irrefl 0)⟩
theorem RX.nil (w : World) : RX w none [] := ⟨[], rfl, Kd.C_nil _ _, fun h => absurd h (Nat.lt_irrefl 0), fun j x cs h => by simp at h⟩
theorem rNew (w : World) (cap : Nat) : Calls Try.prog 10 #[.int .i64 (cap : Int)] w fun e w' => ∃ h, e = .returned (P h) ∧ IsR w' h cap 1 cap [] [] ∧ Below w.heap.size w w' ∧ w.heap.size ≤ h := by
  go_enter Try.func10, Try.ntmps10
  go_wp2
  repeat (go_quiet (fail); try go_wp2)
  go_ret
  exact ⟨_, rfl, ⟨none, 0, none, 0, by first | exact heap_alloc_new _ _ | (simp; done), Nat.le_refl _, Nat.le_refl _, Rd.nil _, RX.nil _⟩, (Below.refl w.heap.size w).alloc (Nat.le_refl _) _, by first | exact Nat.le_refl _ | simp⟩
theorem rAt (w : World) (h cap next cr : Nat) (ns : List Int) (xs : List Res) (hR : IsR w h cap next cr ns xs) (M : Int) (hl : ns.length ≤ 1000) :
    Calls Try.prog 26 #[P h, .int .i64 M] w fun e w' => (∃ r : Int, e = .returned (.int .i64 r) ∧ ((M ∈ ns ∧ decide (0 ≤ r) = true) ∨ (M ∉ ns ∧ decide (0 ≤ r) = false))) ∧ Drawn0 w w' := by
  obtain ⟨A, c, B, d, hb, hc, hd, hA, hX⟩ := hR
  obtain ⟨h0, h1, h2, h3, h4, hf⟩ := cells5 hb
  have HA := Aside0.mk hA
  clear hb hX hd hA
  obtain ⟨n, hn⟩ : ∃ n, ns.length = n := ⟨_, rfl⟩
  rw [hn] at h3 hc hl
  have HN := Aside0.mk hn
  clear hn
  go_enter Try.func26, Try.ntmps26
  go_wp2
  go_loopg [5] n (fun kq v5 w' => ∃ i : Nat, kq + i = n ∧ v5 = .int .i64 (i : Int) ∧ Aside0 (∀ j, j < i → ns.getD j 0 ≠ M) ∧ Drawn0 w w')
  case atStart => exact ⟨0, by omega, rfl, ⟨fun j hj => by omega⟩, Drawn0.refl _⟩
  case round =>
    obtain ⟨i, hi, rfl, HE, ⟨nd, rfl⟩⟩ := hrel
    by_cases c : i < n
    · have c0 : decide ((i : Int) < (n : Int)) = true := decide_eq_true (by omega)
      obtain ⟨k1, rfl⟩ : ∃ k1, gk = k1 + 1 := ⟨gk - 1, by omega⟩
      obtain ⟨ad, rfl, hcell⟩ := HA.out.1.2.2 (by have := HN.out; omega)
      have hx := hcell i (by have := HN.out; omega)
      obtain ⟨x, hxe⟩ : ∃ x, ns.getD i 0 = x := ⟨_, rfl⟩
      rw [hxe] at hx
      clear hcell
      by_cases e : x = M
      · subst e
        clear c
        go_wp2
        repeat (go_quiet (fail); try go_wp2)
        go_ret
        refine ⟨⟨_, rfl, .inl ⟨?_, decide_eq_true (by omega)⟩⟩, by repeat (first | exact ⟨_, rfl⟩ | exact Drawn0.refl _ | apply Drawn0.step)⟩
        rw [← hxe, List.getD_eq_getElem?_getD, List.getElem?_eq_getElem (by have := HN.out; omega), Option.getD_some]
        exact List.getElem_mem _
      · have e0 : (x == M) = false := beq_eq_false_iff_ne.mpr e
        have HE2 : Aside0 (ns.getD i 0 ≠ M) := ⟨by rw [hxe]; exact e⟩
        clear e c hxe
        go_wp2
        repeat (go_quiet (fail); try go_wp2)
        go_roundg k1
        case measure => omega
        case rel => exact ⟨i + 1, by omega, by first | rfl | (congr 1; unfold wrap64; omega), ⟨fun j hj => by rcases Nat.lt_or_ge j i with hj2 | hj2 <;> first | exact HE.out j hj2 | (obtain rfl : j = i := (by omega); exact HE2.out)⟩, by repeat (first | exact ⟨_, rfl⟩ | exact Drawn0.refl _ | apply Drawn0.step)⟩
    · obtain rfl : i = n := by omega
      go_wp2
      go_ret
      refine ⟨⟨_, rfl, .inr ⟨fun hm => ?_, by decide⟩⟩, ⟨_, rfl⟩⟩
      obtain ⟨j, hj, e⟩ := List.getElem_of_mem hm
      refine HE.out j (by have := HN.out; omega) ?_
      rw [List.getD_eq_getElem?_getD, List.getElem?_eq_getElem hj, Option.getD_some, e]
theorem rReady (w : World) (h cap next cr : Nat) (ns : List Int) (xs : List Res) (hR : IsR w h cap next cr ns xs) (hl : ns.length ≤ 1000) (b : Bool) (hb : (decide ((next : Int) ∈ ns)) = b) :
    Calls Try.prog 23 #[P h] w fun e w' => e = .returned (.bool b) ∧ Drawn0 w w' := by
  have HP := Aside0.mk (rAt w h cap next cr ns xs hR next hl)
  obtain ⟨A, c, B, d, hk, _⟩ := hR
  obtain ⟨h0, h1, h2, h3, h4, hf⟩ := cells5 hk
  have HM := Aside0.mk hb
  clear hk hb
  go_enter Try.func23, Try.ntmps23
  go_wp2_with (go_at_call 26; (with_reducible refine (HP.out).mono ?_); rintro e w_ ⟨⟨r, rfl, hr⟩, hd⟩; have HD := Aside0.mk hd; have HRr := Aside0.mk hr; clear hd hr HP)
  go_ret
  refine ⟨?_, HD.out⟩
  have hr := HRr.out
  have hM := HM.out
  rcases hr with ⟨h1, h2⟩ | ⟨h1, h2⟩
  · rw [decide_eq_true h1] at hM
    subst hM
    first | (rw [h2]; done) | (simp [h2]; done) | (simpa using h2)
  · rw [decide_eq_false h1] at hM
    subst hM
    first | (rw [h2]; done) | (simp [h2]; done) | (simpa using h2)
theorem rAcquireNone (w : World) (h cap next : Nat) (ns : List Int) (xs : List Res) (hR : IsR w h cap next 0 ns xs) : Calls Try.prog 21 #[P h] w fun e w' => e = .returned (.int .i64 11) ∧ Drawn0 w w' := by
  obtain ⟨A, c, B, d, hk, _⟩ := hR
  obtain ⟨h0, h1, h2', h3, h4, hf⟩ := cells5 hk
  have h2 : w.cell? ⟨h, 2, none⟩ = some (.int .i64 0) := h2'
  clear hk h2'
  go_enter Try.func21, Try.ntmps21
  go_wp2
  repeat (go_quiet (fail); try go_wp2)
  go_ret
  exact ⟨by first | rfl | (simp; done) | (simp [*]; done), by repeat (first | exact Drawn0.refl _ | apply Drawn0.step)⟩
/-- The reference's own block is written anew, with rows that are read. -/
theorem IsR.set {w w' : World} {h cap next cr next' cr' : Nat} {ns ns' : List Int} {xs xs' : List Res} (hR : IsR w h cap next cr ns xs) (hg : w.grownBy w' (some h)) (A c B d) (hc : ns'.length ≤ c) (hd : xs'.length ≤ d) (hA : Rd w A ns') (hB : RX w B xs')
    (hb : w'.heap[h]? = some (.cells #[.int .i64 (cap : Int), .int .i64 (next' : Int), .int .i64 (cr' : Int), .slice A ns'.length c, .slice B xs'.length d] 39 (0, 0))) : IsR w' h cap next' cr' ns' xs' := by
  obtain ⟨A0, c0, B0, d0, h1, _⟩ := hR
  have hk : ∀ (k : Nat) (cur : Array Value) (t : TypeId), t ≠ 39 → w.heap[k]? = some (.cells cur t (0, 0)) → w'.heap[k]? = w.heap[k]? := fun k cur t ht hc => hg.block k (hlt hc) (fun e => by cases e; exact ht (type_ne hc h1))
  exact ⟨A, c, B, d, hb, hc, hd, hA.move (fun k cur hc => hk k cur 3 (by decide) hc), hB.move (fun k cur t ht hc => hk k cur t (by rcases ht with rfl | rfl <;> decide) hc)⟩
theorem rAcquire (w : World) (h cap next cr : Nat) (ns : List Int) (xs : List Res) (hR : IsR w h cap next cr ns xs) (hc : 0 < cr) (hk : cr ≤ 1000) : Calls Try.prog 21 #[P h] w fun e w' => e = .returned (.int .i64 0) ∧ IsR w' h cap next (cr - 1) ns xs ∧ Fr h h w w' := by
  have H := Aside0.mk hR
  obtain ⟨A, c, B, d, hb, hc1, hd1, hA, hX⟩ := hR
  obtain ⟨h0, h1, h2, h3, h4, hf⟩ := cells5 hb
  have HB := Aside0.mk (And.intro hb (And.intro hc1 (And.intro hd1 (And.intro hA hX))))
  have hbq : ((cr : Int) == 0) = false := beq_eq_false_iff_ne.mpr (by omega)
  clear hb hc1 hd1 hA hX
  go_enter Try.func21, Try.ntmps21
  go_wp2
  go_ret
  obtain ⟨hb, hc1, hd1, hA, hX⟩ := HB.out
  refine ⟨rfl, H.out.set (grownBy_cell _ _ _ _) A c B d hc1 hd1 hA hX ?_, Fr.g (grownBy_cell _ _ _ _)⟩
  rw [heap_setCell_same _ _ _ _ _ _ hb, show ((cr - 1 : Nat) : Int) = (cr : Int) - 1 by omega]
  rfl
end Go.Proofs.Ytccgcljkgjboaaa.Rg
