import Derived.Test.YtccgcljkgjboaaaR7
import Derived.Lib.SliceRun
/- Put, told by the heap: for callers that write into the argument's bytes afterwards. -/
namespace Go.Proofs.Ytccgcljkgjboaaa.Rg
open Go.RowKit Go.Proofs.YtccgcljkgjboaaaW.PrintWords Go.Proofs.YtccgcljkgjboaaaW.PrintLast Go.Proofs.YtccgcljkgjboaaaW.PrintMore
set_option linter.unusedVariables false
set_option linter.unusedSimpArgs false
set_option maxRecDepth 100000
set_option maxHeartbeats 2000000
theorem IsQ.afterPut {w w' : World} {g s cap next cr : Nat} {f : Nat → Option Res} (h : IsQ w g s cap next cr f) (fr : Fr g s w w') (q : Nat) (hr : w'.heap[g]? = w.heap[g]?) (vs : Array Value) (hv : w.heap[s]? = some (.cells vs 50 (0, 0))) (b : Nat) (x : Res)
    (hs : w'.heap[s]? = some (.cells (vs.setIfInBounds q (P b)) 50 (0, 0))) (hx : Bx w' b x) : IsQ w' g s cap next cr (put f q (some x)) := by
  obtain ⟨h1, h2, h3, h4, h5, h6, vs0, h7, h8, h9⟩ := h
  obtain rfl : vs0 = vs := by rw [h7] at hv; injection hv with hv; injection hv
  refine ⟨h1, h2, h3, h4, h5, hr.trans h6, _, hs, by simpa using h8, fun k hk => ?_⟩
  rw [Array.getElem?_setIfInBounds, put]
  by_cases e : q = k
  · subst e
    simp only [if_true]
    rw [if_pos (by omega)]
    exact .inr ⟨b, x, rfl, rfl, hx⟩
  · rw [if_neg e, if_neg (Ne.symm e)]
    rcases h9 k hk with h | ⟨b, y, e1, e2, e3⟩
    · exact .inl h
    · refine .inr ⟨b, y, e1, e2, e3.move (fun j cur t ht hc => fr.block j (hlt hc) (fun e => ?_) (fun e => ?_))⟩
      · subst e
        have := type_ne hc h6
        rcases ht with rfl | rfl <;> exact absurd this (by decide)
      · subst e
        have := type_ne hc h7
        rcases ht with rfl | rfl <;> exact absurd this (by decide)
theorem cloneSome2 (w : World) (ad : Addr) (n c : Nat) (l : List Int) (hr : ReadsInt w .u8 (some ad) n l) (hn : n ≤ 1000) :
    Calls Try.prog 25 #[.slice (some ad) n c] w fun e w' => ∃ A' c', e = .returned (.slice A' n c') ∧ n ≤ c' ∧ RdB w' A' l ∧ Below w.heap.size w w' ∧ ∀ ad', A' = some ad' → w.heap.size ≤ ad'.block := by
  have HR := Aside0.mk hr
  have hl := hr.1
  clear hr
  have hq := fun w => eqN w (some ad) n c
  go_enter Try.func25, Try.ntmps25
  go_wp2_with (first | (at_builtin; refine rowBytes (w0 := w) rfl w.heap.size (.tmp 5) (.tmp 6) rfl (.slice (some ⟨w.heap.size, 0, none⟩) 0 0) [] l (some ad) n c (fun _ => True) rfl rfl (fun _ _ => trivial) (own_emptyB _ _ _ (Nat.le_refl _) trivial) (Kd.C_of_reads (d := (0 : Int)) (h1 := fun _ => rfl) (HR.out.allocS _)) ((Below.refl _ _).alloc (Nat.le_refl _) _) (by simp) (by simp; omega) ?_; intro v1 w1 ho hb hg hat; rw [List.nil_append] at ho; obtain ⟨A2, c2, e2⟩ := Kd.R_slice ho; rw [hl] at e2; subst e2; have HO := Aside0.mk ho; have HW := Aside0.mk hb; clear ho hb hg hat))
  go_ret
  refine ⟨A2, c2, rfl, by have := Kd.R_reads' HO.out; omega, RdB.of HO.out, HW.out, fun ad' e => ?_⟩
  subst e
  obtain ⟨inner, ho⟩ := Kd.R_own HO.out
  rcases ho.2 with ⟨e, _⟩ | ⟨b, cap, cur, e, hb, hc, _⟩
  · cases e
  · injection e with e1
    cases e1
    exact hb
theorem putRaw (w : World) (g s cap next cr : Nat) (f : Nat → Option Res) (h : IsQ w g s cap next cr f) (M : Int) (m : Nat) (hM : M = (m : Int)) (h1 : next ≤ m) (h2 : m < next + cap) (hf : f (m % cap) = none)
    (ad : Addr) (n c : Nat) (x : Res) (hr : ReadsInt w .u8 (some ad) n x.out) (hn : n ≤ 1000) :
    Calls Try.prog 11 #[P g, .int .i64 M, .agg #[.slice (some ad) n c, .int .i64 x.st, .int .i64 x.rc]] w fun e w' => ∃ vs b A' c', e = .returned (.int .i64 0) ∧ w.heap[s]? = some (.cells vs 50 (0, 0)) ∧ w'.heap[g]? = w.heap[g]? ∧ w'.heap[s]? = some (.cells (vs.setIfInBounds (m % cap) (P b)) 50 (0, 0)) ∧ w.heap.size ≤ b ∧
        w'.heap[b]? = some (.cells #[.slice A' n c', .int .i64 x.st, .int .i64 x.rc] 33 (0, 0)) ∧ n ≤ c' ∧ RdB w' A' x.out ∧ (∀ ad', A' = some ad' → w.heap.size ≤ ad'.block) ∧ Fr g s w w' := by
  have hA : Below w.heap.size w (w.alloc (.cells #[.slice (some ad) n c, .int .i64 x.st, .int .i64 x.rc] 33)) := (Below.refl w.heap.size w).alloc (Nat.le_refl _) _
  have hQ := h.below hA
  obtain ⟨k0, k1, k2, kf⟩ := cells3 hQ.ring
  have hn1 := h.n1
  have hn2 := h.n2
  have hc1 := h.c1
  have hc2 := h.c2
  have c0 : decide (M < (next : Int)) = false := decide_eq_false (by omega)
  have hs : IntKind.i64.wrap (M - (next : Int)) = M - (next : Int) := by rw [i64_w]; unfold Go.RowKit.wrap64; omega
  have c1 : decide (M - (next : Int) ≥ (cap : Int)) = false := decide_eq_false (by omega)
  have c2 : decide ((cap : Int) ≤ M - (next : Int)) = false := c1
  have hm : m ≤ 4000000000000000000 := by omega
  have hql : m % cap < cap := Nat.mod_lt _ (by omega)
  generalize hq : m % cap = q at *
  obtain ⟨hsl, hfs⟩ := hQ.empty q hql hf
  have HS := Aside0.mk (fun n => slotM _ g s cap next cr f (hQ.below (below0 (w' := World.drewN _ n) ⟨n, rfl⟩)) M m q hM hm hq)
  have HA := Aside0.mk hA
  have H := Aside0.mk h
  have HR := Aside0.mk hr
  have HK := Aside0.mk hn
  obtain ⟨vs, hv, _⟩ := h.slots
  have HV := Aside0.mk hv
  have HMq := Aside0.mk (And.intro hM (And.intro hm (And.intro hq (And.intro hql hf))))
  obtain ⟨b, hb⟩ : ∃ b, w.heap.size = b := ⟨_, rfl⟩
  have HBb := Aside0.mk hb
  clear h hA hQ hq hf h1 h2 hm hM hr hn hql hb hv
  go_enter Try.func11, Try.ntmps11
  go_wp2
  repeat (go_quiet (fail); try go_wp2_with (go_at_call 24; (with_reducible refine (HS.out _).mono ?_); rintro e w1 ⟨rfl, hd⟩; clear HS; have HF := Aside0.mk (below_D (below_D HA.out ⟨_, rfl⟩) hd); have HX := Aside0.mk (((below0 hd).block w.heap.size (by simp)).trans (heap_alloc_new w _)); obtain ⟨hsl1, hfs1⟩ := (H.out.below HF.out).empty q HMq.out.2.2.2.1 HMq.out.2.2.2.2; obtain ⟨x0, x1, x2, xf⟩ := cells3 HX.out; clear hd HA))
  have HC := Aside0.mk (cloneSome2 w1 ad n c x.out (HR.out.below HF.out) HK.out)
  go_wp2_with (go_at_call 25; (with_reducible refine (HC.out).mono ?_); rintro e w2 ⟨A', c', rfl, hnc, hrd, hb, hbd⟩; have HBD := Aside0.mk hbd; have HSZ := Aside0.mk HF.out.size; clear hbd; have HF2 := Aside0.mk (HF.out.trans (hb.mono (below_size HF.out))); have HX2 := Aside0.mk ((hb.block _ (hlt HX.out)).trans HX.out); have HRd := Aside0.mk hrd; have HN := Aside0.mk hnc; clear HC HF HX hsl1 hfs1 x0 x1 x2 xf hnc hrd hb; obtain ⟨x0, x1, x2, xf⟩ := cells3 HX2.out)
  have HF3 := Aside0.mk (HF2.out.setCell (p := ⟨w.heap.size, 0, none⟩) (Nat.le_refl _) (.slice A' n c'))
  have HX3 : Aside0 ((w2.setCell ⟨w.heap.size, 0, none⟩ (.slice A' n c')).heap[w.heap.size]? = some (.cells #[.slice A' n c', .int .i64 x.st, .int .i64 x.rc] 33 (0, 0))) := ⟨by rw [heap_setCell_same _ _ _ _ _ _ HX2.out]; rfl⟩
  have HR3 := Aside0.mk (HRd.out.move (w' := w2.setCell ⟨w.heap.size, 0, none⟩ (.slice A' n c')) (fun k cur hk => Below.heap_setCell _ _ _ _ (fun e => by have e' : k = w.heap.size := e; subst e'; exact absurd (type_ne hk HX2.out) (by decide))))
  have HS := Aside0.mk (slotM _ g s cap next cr f (H.out.below HF3.out) M m q HMq.out.1 HMq.out.2.1 HMq.out.2.2.1)
  go_wp2_with (go_at_call 24; (with_reducible refine (HS.out).mono ?_); rintro e w4 ⟨rfl, hd⟩; have HF4 := Aside0.mk (below_D HF3.out hd); have HX4 := Aside0.mk (((below0 hd).block w.heap.size (hlt HX3.out)).trans HX3.out); have HR4 := Aside0.mk (HR3.out.move (fun k cur hk => (below0 hd).block k (hlt hk))); obtain ⟨hsl1, hfs1⟩ := (H.out.below HF4.out).empty q HMq.out.2.2.2.1 HMq.out.2.2.2.2; clear hd HS HF3 HX3 HR3 HF2 HX2 HRd x0 x1 x2 xf)
  go_ret
  have g5 := grownBy_cell w4 s q (P w.heap.size)
  have hsv : w4.heap[s]? = some (.cells vs 50 (0, 0)) := (HF4.out.block s (hlt HV.out)).trans HV.out
  have m5 : ∀ (k : Nat) (cur : Array Value) (t : TypeId), t ≠ 50 → w4.heap[k]? = some (.cells cur t (0, 0)) → _ = w4.heap[k]? := fun k cur t ht hc => g5.block k (hlt hc) (fun e => by cases e; exact ht (type_ne hc hsv))
  have hr4 := (H.out.below HF4.out).ring
  refine ⟨vs, w.heap.size, A', c', rfl, HV.out, ((m5 _ _ 49 (by decide) hr4).trans hr4).trans H.out.ring.symm, heap_setCell_same _ _ _ _ _ _ hsv, Nat.le_refl _, (m5 _ _ 33 (by decide) HX4.out).trans HX4.out, HN.out, HR4.out.move (fun k cur hk => m5 k cur 5 (by decide) hk), fun ad' e => Nat.le_trans HSZ.out (HBD.out ad' e), (Fr.new HF4.out).trans (Fr.s g5)⟩
end Go.Proofs.Ytccgcljkgjboaaa.Rg
