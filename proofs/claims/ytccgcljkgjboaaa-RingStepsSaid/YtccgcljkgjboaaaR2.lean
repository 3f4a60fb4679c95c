import Derived.Test.YtccgcljkgjboaaaR1
import Derived.Lib.SliceRun
/- Put, by hand. -/
namespace Go.Proofs.Ytccgcljkgjboaaa.Rg
open Go.RowKit Go.Proofs.YtccgcljkgjboaaaW.PrintWords Go.Proofs.YtccgcljkgjboaaaW.PrintLast Go.Proofs.YtccgcljkgjboaaaW.PrintMore
set_option linter.unusedVariables false
set_option linter.unusedSimpArgs false
set_option maxRecDepth 100000
set_option maxHeartbeats 2000000
theorem inf5 : (Try.prog.info? 5).map (fun i => (i.zero, i.size, i.bytes)) = some (some (.int .u8 0), 1, 1) := by kernel_rfl
abbrev OwnB (B : Nat) (ok : Nat → Prop) (w : World) (v : Value) (l : List Int) : Prop := Kd.R (Kd.int .u8) 5 w B ok v l
theorem rowBytes {ops : Array Oper} {rest : List Oper} {o : Oper} {a : Act} {Q : Exit → Act → World → Prop} {w0 W : World} (hgd : o.guard = none) (base : Nat) (s x : Operand)
    (ho : o.op = .call { callee := .builtin .append, args := #[s, x], argTypes := #[31, 31] }) (v : Value) (xs ys : List Int) (A : Option Addr) (m c : Nat) (ok : Nat → Prop) (hs : a.eval s = v) (hx : a.eval x = .slice A m c)
    (hfresh : ∀ k, W.heap.size ≤ k → ok k) (HO : OwnB base ok W v xs) (HR : Kd.C (Kd.int .u8) W A m ys) (HB : Below base w0 W) (hbase : base ≤ W.heap.size) (hl : xs.length + m ≤ 140737488355328)
    (h : ∀ v1 w1, OwnB base ok w1 v1 (xs ++ ys) → Below base w0 w1 → W.grownBy w1 v.ownBlock → (v1.ownBlock = v.ownBlock ∨ ∃ b, v1.ownBlock = some b ∧ W.heap.size ≤ b) → wpList Try.prog ops Q rest (a.put o.dst v1) w1) :
    wpList Try.prog ops Q (o :: rest) a W :=
  Kd.R_append_row (P := Try.prog) (ops := ops) (o := o) (a := a) (Q := Q) (w0 := w0) (W := W) (h1 := fun _ => rfl) (Value.int .u8) (0 : Int) base hgd s x 31 5 (.int .u8 0) 1 ho Try.underlying31 inf5 rfl (by decide) v xs ys A m c ok hs hx hfresh HO HR HB hbase (by omega) h
theorem own_emptyB (w : World) (B : Nat) (ok : Nat → Prop) (hB : B ≤ w.heap.size) (hok : ok w.heap.size) : OwnB B ok (w.alloc (.cells #[] 5)) (.slice (some ⟨w.heap.size, 0, none⟩) 0 0) [] := by
  refine Kd.R_of_own (h1 := fun _ => rfl) ?_ (fun k hk => ?_)
  · refine ⟨by simp [encs], .inr ⟨w.heap.size, 0, #[], rfl, hB, heap_alloc_new w _, by simp, by simp [maxLen], by simp, by simp [encs]⟩⟩
  · simp [Value.ownBlock] at hk
    subst hk
    exact hok
theorem RdB.of {w : World} {B : Nat} {ok : Nat → Prop} {A : Option Addr} {n c : Nat} {l : List Int} (h : OwnB B ok w (.slice A n c) l) : RdB w A l := by
  have h1 := Kd.R_reads' h
  refine ⟨Kd.reads_of_C (d := (0 : Int)) h1.2.2, fun hl => ?_⟩
  obtain ⟨ad, e, _⟩ := h1.2.2.2.2 hl
  subst e
  obtain ⟨inner, ho⟩ := Kd.R_own h
  rcases ho.2 with ⟨e, _⟩ | ⟨b, cap, cur, e, hb, hc, _⟩
  · cases e
  · injection e with e1
    cases e1
    exact ⟨_, cur, rfl, hc⟩
theorem RdB.nil (w : World) : RdB w none [] := ⟨ReadsInt.nil _ _, fun h => absurd h (Nat.lt_irrefl 0)⟩
theorem eqN (w : World) (A : Option Addr) (n c : Nat) : (binOp .eql 31 (.slice A n c) (.slice none 0 0)).run Try.prog w = .ok (.bool A.isNone) w := Go.Lib.run_eql_slice_nil w 31 5 A n c 0 0 Try.underlying31
theorem cloneNil (w : World) : Calls Try.prog 25 #[.slice none 0 0] w fun e w' => e = .returned (.slice none 0 0) ∧ Drawn0 w w' := by
  have hq := fun w => eqN w none 0 0
  go_enter Try.func25, Try.ntmps25
  go_wp2
  repeat (go_quiet (fail); try go_wp2)
  go_ret
  exact ⟨by first | rfl | (simp; done) | (simp [*]; done), by repeat (first | exact Drawn0.refl _ | apply Drawn0.step)⟩
theorem cloneSome (w : World) (ad : Addr) (n c : Nat) (l : List Int) (hr : ReadsInt w .u8 (some ad) n l) (hn : n ≤ 1000) :
    Calls Try.prog 25 #[.slice (some ad) n c] w fun e w' => ∃ A' c', e = .returned (.slice A' n c') ∧ n ≤ c' ∧ RdB w' A' l ∧ Below w.heap.size w w' := by
  have HR := Aside0.mk hr
  have hl := hr.1
  clear hr
  have hq := fun w => eqN w (some ad) n c
  go_enter Try.func25, Try.ntmps25
  go_wp2_with (first | (at_builtin; refine rowBytes (w0 := w) rfl w.heap.size (.tmp 5) (.tmp 6) rfl (.slice (some ⟨w.heap.size, 0, none⟩) 0 0) [] l (some ad) n c (fun _ => True) rfl rfl (fun _ _ => trivial) (own_emptyB _ _ _ (Nat.le_refl _) trivial) (Kd.C_of_reads (d := (0 : Int)) (h1 := fun _ => rfl) (HR.out.allocS _)) ((Below.refl _ _).alloc (Nat.le_refl _) _) (by simp) (by simp; omega) ?_; intro v1 w1 ho hb hg hat; rw [List.nil_append] at ho; obtain ⟨A2, c2, e2⟩ := Kd.R_slice ho; rw [hl] at e2; subst e2; have HO := Aside0.mk ho; have HW := Aside0.mk hb; clear ho hb hg hat))
  go_ret
  exact ⟨A2, c2, rfl, by have := Kd.R_reads' HO.out; omega, RdB.of HO.out, HW.out⟩
theorem putNil (w : World) (m : Int) (o st rc : Value) : Calls Try.prog 11 #[.pointer none, .int .i64 m, .agg #[o, st, rc]] w fun e w' => e = .returned (.int .i64 1) ∧ Below w.heap.size w w' := by
  go_enter Try.func11, Try.ntmps11
  go_wp2
  go_ret
  exact ⟨rfl, (Below.refl w.heap.size w).alloc (Nat.le_refl _) _⟩
abbrev X3 (A : Option Addr) (n c : Nat) (st rc : Int) : Array Value := #[.slice A n c, .int .i64 st, .int .i64 rc]
theorem putLow (w : World) (g s cap next cr : Nat) (f : Nat → Option Res) (h : IsQ w g s cap next cr f) (m : Int) (hm : m < next) (o st rc : Value) :
    Calls Try.prog 11 #[P g, .int .i64 m, .agg #[o, st, rc]] w fun e w' => e = .returned (.int .i64 3) ∧ Below w.heap.size w w' := by
  have hA : Below w.heap.size w (w.alloc (.cells #[o, st, rc] 33)) := (Below.refl w.heap.size w).alloc (Nat.le_refl _) _
  obtain ⟨h0, h1, h2, hf⟩ := cells3 (h.below hA).ring
  have c0 : decide (m < (next : Int)) = true := decide_eq_true hm
  have H := Aside0.mk hA
  clear h hA hm
  go_enter Try.func11, Try.ntmps11
  go_wp2
  repeat (go_quiet (fail); try go_wp2)
  go_ret
  exact ⟨by first | rfl | (simp; done) | (simp [*]; done), ⟨H.out.os, H.out.tape, H.out.output, H.out.size, H.out.block⟩⟩
theorem putHigh (w : World) (g s cap next cr : Nat) (f : Nat → Option Res) (h : IsQ w g s cap next cr f) (m : Int) (hm : (next : Int) + cap ≤ m) (hmx : m ≤ 9223372036854775807) (o st rc : Value) :
    Calls Try.prog 11 #[P g, .int .i64 m, .agg #[o, st, rc]] w fun e w' => e = .returned (.int .i64 3) ∧ Below w.heap.size w w' := by
  have hA : Below w.heap.size w (w.alloc (.cells #[o, st, rc] 33)) := (Below.refl w.heap.size w).alloc (Nat.le_refl _) _
  obtain ⟨h0, h1, h2, hf⟩ := cells3 (h.below hA).ring
  have hn1 := h.n1
  have c0 : decide (m < (next : Int)) = false := decide_eq_false (by omega)
  have hs : IntKind.i64.wrap (m - (next : Int)) = m - (next : Int) := by rw [i64_w]; unfold Go.RowKit.wrap64; omega
  have c1 : decide (m - (next : Int) ≥ (cap : Int)) = true := decide_eq_true (by omega)
  have c2 : decide ((cap : Int) ≤ m - (next : Int)) = true := c1
  have H := Aside0.mk hA
  clear h hA hm
  go_enter Try.func11, Try.ntmps11
  go_wp2
  repeat (go_quiet (fail); try go_wp2)
  go_ret
  exact ⟨by first | rfl | (simp; done) | (simp [*]; done), ⟨H.out.os, H.out.tape, H.out.output, H.out.size, H.out.block⟩⟩
theorem slotM (w : World) (g s cap next cr : Nat) (f : Nat → Option Res) (h : IsQ w g s cap next cr f) (M : Int) (m q : Nat) (hM : M = (m : Int)) (hm : m ≤ 4000000000000000000) (hq : m % cap = q) :
    Calls Try.prog 24 #[P g, .int .i64 M] w fun e w' => e = .returned (.pointer (some ⟨s, q, none⟩)) ∧ Drawn0 w w' := by
  subst hM
  exact slot w g s cap next cr f h m q hm hq
theorem putTaken (w : World) (g s cap next cr : Nat) (f : Nat → Option Res) (h : IsQ w g s cap next cr f) (M : Int) (m : Nat) (hM : M = (m : Int)) (h1 : next ≤ m) (h2 : m < next + cap) (hf : (f (m % cap)).isSome = true) (o st rc : Value) :
    Calls Try.prog 11 #[P g, .int .i64 M, .agg #[o, st, rc]] w fun e w' => e = .returned (.int .i64 11) ∧ Below w.heap.size w w' := by
  have hA : Below w.heap.size w (w.alloc (.cells #[o, st, rc] 33)) := (Below.refl w.heap.size w).alloc (Nat.le_refl _) _
  have hQ := h.below hA
  obtain ⟨k0, k1, k2, kf⟩ := cells3 hQ.ring
  have hn1 := h.n1
  have hn2 := h.n2
  have hc1 := h.c1
  have hc2 := h.c2
  have c0 : decide (M < (next : Int)) = false := decide_eq_false (by omega)
  have hs : IntKind.i64.wrap (M - (next : Int)) = M - (next : Int) := by rw [i64_w]; unfold Go.RowKit.wrap64; omega
  have c1 : decide (M - (next : Int) ≥ (cap : Int)) = false := decide_eq_false (by omega)
  have c2 : decide ((cap : Int) ≤ M - (next : Int)) = false := c1
  have hm : m ≤ 4000000000000000000 := by omega
  obtain ⟨hsl, hfs⟩ := hQ.slot (m % cap) (Nat.mod_lt _ (by omega))
  generalize hq : m % cap = q at *
  rcases hsl with ⟨e, hc⟩ | ⟨bb, x, e, hc, hx⟩
  · rw [e] at hf; cases hf
  have HS := Aside0.mk (fun n => slotM _ g s cap next cr f (hQ.below (below0 (w' := World.drewN _ n) ⟨n, rfl⟩)) M m q hM hm hq)
  have H := Aside0.mk hA
  clear h hA hQ hq hf e hx h1 h2 hm hM
  go_enter Try.func11, Try.ntmps11
  go_wp2
  repeat (go_quiet (fail); try go_wp2_with (go_at_call 24; (with_reducible refine (HS.out _).mono ?_); rintro e w_ ⟨rfl, ⟨nd, rfl⟩⟩))
  go_ret
  exact ⟨by first | rfl | (simp; done) | (simp [*]; done), ⟨H.out.os, H.out.tape, H.out.output, H.out.size, H.out.block⟩⟩
theorem cloneC (w : World) (A : Option Addr) (n c : Nat) (l : List Int) (hr : ReadsInt w .u8 A n l) (hnil : A = none → n = 0 ∧ c = 0) (hn : n ≤ 1000) :
    Calls Try.prog 25 #[.slice A n c] w fun e w' => ∃ A' c', e = .returned (.slice A' n c') ∧ n ≤ c' ∧ RdB w' A' l ∧ Below w.heap.size w w' := by
  cases A with
  | some ad => exact cloneSome w ad n c l hr hn
  | none =>
    obtain ⟨rfl, rfl⟩ := hnil rfl
    obtain rfl : l = [] := List.eq_nil_of_length_eq_zero hr.1
    exact (cloneNil w).mono fun e w' ⟨h1, h2⟩ => ⟨none, 0, h1, Nat.le_refl _, RdB.nil _, below0 h2⟩
theorem IsQ.empty {w : World} {g s cap next cr : Nat} {f : Nat → Option Res} (h : IsQ w g s cap next cr f) (k : Nat) (hk : k < cap) (hf : f k = none) : w.cell? ⟨s, k, none⟩ = some (.pointer none) ∧ ∀ j, w.frozen? ⟨s, j, none⟩ = false := by
  obtain ⟨h1, h2⟩ := h.slot k hk
  refine ⟨?_, h2⟩
  rcases h1 with ⟨_, h⟩ | ⟨b, x, e, _⟩
  · exact h
  · rw [hf] at e; cases e
theorem below_D {B : Nat} {w0 w w' : World} (h : Below B w0 w) (hd : Drawn0 w w') : Below B w0 w' := by
  obtain ⟨n, rfl⟩ := hd
  exact ⟨h.os, h.tape, h.output, h.size, h.block⟩
theorem put_ (w : World) (g s cap next cr : Nat) (f : Nat → Option Res) (h : IsQ w g s cap next cr f) (M : Int) (m : Nat) (hM : M = (m : Int)) (h1 : next ≤ m) (h2 : m < next + cap) (hf : f (m % cap) = none)
    (A : Option Addr) (n c : Nat) (x : Res) (hr : ReadsInt w .u8 A n x.out) (hnil : A = none → n = 0 ∧ c = 0) (hn : n ≤ 1000) :
    Calls Try.prog 11 #[P g, .int .i64 M, .agg #[.slice A n c, .int .i64 x.st, .int .i64 x.rc]] w fun e w' => e = .returned (.int .i64 0) ∧ IsQ w' g s cap next cr (put f (m % cap) (some x)) ∧ Fr g s w w' := by
  have hA : Below w.heap.size w (w.alloc (.cells #[.slice A n c, .int .i64 x.st, .int .i64 x.rc] 33)) := (Below.refl w.heap.size w).alloc (Nat.le_refl _) _
  have hQ := h.below hA
  obtain ⟨k0, k1, k2, kf⟩ := cells3 hQ.ring
  have hn1 := h.n1
  have hn2 := h.n2
  have hc1 := h.c1
  have hc2 := h.c2
  have c0 : decide (M < (next : Int)) = false := decide_eq_false (by omega)
  have hs : IntKind.i64.wrap (M - (next : Int)) = M - (next : Int) := by rw [i64_w]; unfold Go.RowKit.wrap64; omega
  have c1 : decide (M - (next : Int) ≥ (cap : Int)) = false := decide_eq_false (by omega)
  have c2 : decide ((cap : Int) ≤ M - (next : Int)) = false := c1
  have hm : m ≤ 4000000000000000000 := by omega
  have hql : m % cap < cap := Nat.mod_lt _ (by omega)
  generalize hq : m % cap = q at *
  obtain ⟨hsl, hfs⟩ := hQ.empty q hql hf
  have HS := Aside0.mk (fun n => slotM _ g s cap next cr f (hQ.below (below0 (w' := World.drewN _ n) ⟨n, rfl⟩)) M m q hM hm hq)
  have HA := Aside0.mk hA
  have H := Aside0.mk h
  have HR := Aside0.mk hr
  have HK := Aside0.mk (And.intro hnil hn)
  have HMq := Aside0.mk (And.intro hM (And.intro hm (And.intro hq (And.intro hql hf))))
  obtain ⟨b, hb⟩ : ∃ b, w.heap.size = b := ⟨_, rfl⟩
  have HBb := Aside0.mk hb
  clear h hA hQ hq hf h1 h2 hm hM hr hnil hn hql hb
  go_enter Try.func11, Try.ntmps11
  go_wp2
  repeat (go_quiet (fail); try go_wp2_with (go_at_call 24; (with_reducible refine (HS.out _).mono ?_); rintro e w1 ⟨rfl, hd⟩; clear HS; have HF := Aside0.mk (below_D (below_D HA.out ⟨_, rfl⟩) hd); have HX := Aside0.mk (((below0 hd).block w.heap.size (by simp)).trans (heap_alloc_new w _)); obtain ⟨hsl1, hfs1⟩ := (H.out.below HF.out).empty q HMq.out.2.2.2.1 HMq.out.2.2.2.2; obtain ⟨x0, x1, x2, xf⟩ := cells3 HX.out; clear hd HA))
  have HC := Aside0.mk (cloneC w1 A n c x.out (HR.out.below HF.out) HK.out.1 HK.out.2)
  go_wp2_with (go_at_call 25; (with_reducible refine (HC.out).mono ?_); rintro e w2 ⟨A', c', rfl, hnc, hrd, hb⟩; have HF2 := Aside0.mk (HF.out.trans (hb.mono (below_size HF.out))); have HX2 := Aside0.mk ((hb.block _ (hlt HX.out)).trans HX.out); have HRd := Aside0.mk hrd; have HN := Aside0.mk hnc; clear HC HF HX hsl1 hfs1 x0 x1 x2 xf hnc hrd hb; obtain ⟨x0, x1, x2, xf⟩ := cells3 HX2.out)
  have HF3 := Aside0.mk (HF2.out.setCell (p := ⟨w.heap.size, 0, none⟩) (Nat.le_refl _) (.slice A' n c'))
  have HX3 : Aside0 ((w2.setCell ⟨w.heap.size, 0, none⟩ (.slice A' n c')).heap[w.heap.size]? = some (.cells #[.slice A' n c', .int .i64 x.st, .int .i64 x.rc] 33 (0, 0))) := ⟨by rw [heap_setCell_same _ _ _ _ _ _ HX2.out]; rfl⟩
  have HR3 := Aside0.mk (HRd.out.move (w' := w2.setCell ⟨w.heap.size, 0, none⟩ (.slice A' n c')) (fun k cur hk => Below.heap_setCell _ _ _ _ (fun e => by have e' : k = w.heap.size := e; subst e'; exact absurd (type_ne hk HX2.out) (by decide))))
  have HS := Aside0.mk (slotM _ g s cap next cr f (H.out.below HF3.out) M m q HMq.out.1 HMq.out.2.1 HMq.out.2.2.1)
  go_wp2_with (go_at_call 24; (with_reducible refine (HS.out).mono ?_); rintro e w4 ⟨rfl, hd⟩; have HF4 := Aside0.mk (below_D HF3.out hd); have HX4 := Aside0.mk (((below0 hd).block w.heap.size (hlt HX3.out)).trans HX3.out); have HR4 := Aside0.mk (HR3.out.move (fun k cur hk => (below0 hd).block k (hlt hk))); obtain ⟨hsl1, hfs1⟩ := (H.out.below HF4.out).empty q HMq.out.2.2.2.1 HMq.out.2.2.2.2; clear hd HS HF3 HX3 HR3 HF2 HX2 HRd x0 x1 x2 xf)
  go_ret
  have hl : x.out.length = n := HR.out.1
  refine ⟨rfl, (H.out.below HF4.out).setSlot q HMq.out.2.2.2.1 _ (some x) (.inr ⟨w.heap.size, x, rfl, rfl, A', c', by rw [hl]; exact HX4.out, by rw [hl]; exact HN.out, HR4.out⟩), (Fr.new HF4.out).trans (Fr.s (grownBy_cell _ _ _ _))⟩
end Go.Proofs.Ytccgcljkgjboaaa.Rg
