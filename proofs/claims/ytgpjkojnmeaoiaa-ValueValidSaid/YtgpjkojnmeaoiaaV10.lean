/- vals.Copy and value.copies, by hand: what they make is the call's own. -/
import Derived.Test.YtgpjkojnmeaoiaaV1
import Derived.Lib.SliceRun
namespace Go.Proofs.Ytgpjkojnmeaoiaa.QV
open Go Go.RowKit Go.Proofs.YtgpjkojnmeaoiaaW.PrintWords Go.Proofs.YtgpjkojnmeaoiaaW.PrintLast Go.Proofs.YtgpjkojnmeaoiaaW.PrintMore
set_option linter.unusedVariables false
set_option linter.unusedSimpArgs false
set_option maxRecDepth 100000
set_option maxHeartbeats 4000000
theorem clone_info9 : (Try.prog.info? 9).map (fun i => (i.zero, i.size, i.bytes)) = some (some (.string ⟨#[]⟩), 1, 16) := by kernel_rfl
theorem clone_eqN (w : World) (A : Option Addr) (n c : Nat) : (binOp .eql 22 (.slice A n c) (.slice none 0 0)).run Try.prog w = .ok (.bool A.isNone) w := Go.Lib.run_eql_slice_nil w 22 9 A n c 0 0 Try.underlying22
theorem clone_empty (w : World) : Kd.R Kd.string 9 (w.alloc (.cells #[] 9)) w.heap.size (fun k_ => w.heap.size ≤ k_) (.slice (some ⟨w.heap.size, 0, none⟩) 0 0) [] := by
  refine Kd.R_of_own (h1 := fun _ => rfl) ?_ (fun k hk => ?_)
  · refine ⟨by simp [encs], .inr ⟨w.heap.size, 0, #[], rfl, Nat.le_refl _, heap_alloc_new w _, by simp, by simp [maxLen], by simp, by simp [encs]⟩⟩
  · simp [Value.ownBlock] at hk
    subst hk
    exact Nat.le_refl _
theorem cloneC (A0 : Option Addr) (c0 : Nat) (l0 : List ByteArray) (w : World) (hr0 : Kd.C Kd.string w A0 l0.length l0) (hc0 : l0.length ≤ c0) (hl : l0.length ≤ 8000000000000) :
    Calls Try.prog 77 #[.slice A0 l0.length c0] w fun e w' => ∃ v_, e = .returned v_ ∧ Kd.R Kd.string 9 w' w.heap.size (fun k_ => w.heap.size ≤ k_) v_ l0 ∧ Below w.heap.size w w' := by
  have HR := Aside0.mk hr0
  have hq := fun w => clone_eqN w A0 l0.length c0
  clear hr0
  cases A0 with
  | none =>
    have hz : l0 = [] := by
      cases l0 with
      | nil => rfl
      | cons a l => obtain ⟨ad, e, _⟩ := HR.out.2.2 (by simp); cases e
    subst hz
    clear hq
    have hq := fun w => clone_eqN w none 0 c0
    show Calls Try.prog 77 #[.slice none 0 c0] w _
    go_enter Try.func77, Try.ntmps77
    go_wp2
    go_ret
    exact ⟨_, rfl, Kd.R_nil _ _ _ _ _, Below.refl _ _⟩
  | some ad =>
    go_enter Try.func77, Try.ntmps77
    go_wp2_with ((at_builtin; refine Kd.R_append_row (P := Try.prog) (w0 := w) (W := w.alloc (.cells #[] 9)) (h1 := fun _ => rfl) Value.string ByteArray.empty w.heap.size rfl (.tmp 5) (.tmp 6) 22 9 (.string ⟨#[]⟩) 16 rfl Try.underlying22 clone_info9 rfl (by decide) (.slice (some ⟨w.heap.size, 0, none⟩) 0 0) [] l0 (some ad) l0.length c0 (fun k_ => w.heap.size ≤ k_) rfl rfl (fun k hk => Nat.le_trans (Nat.le_of_lt (by simp)) hk) (clone_empty _) (Kd.C_below HR.out ((Below.refl _ _).alloc (Nat.le_refl _) _)) ((Below.refl _ _).alloc (Nat.le_refl _) _) (by simp) (by simp; omega) ?_; intro v1 w1 ho hb hg hat; rw [List.nil_append] at ho; have HO := Aside0.mk ho; have HW := Aside0.mk hb; clear ho hb hg hat))
    go_ret
    exact ⟨_, rfl, HO.out, HW.out⟩
theorem info28 : (Try.prog.info? 28).map (fun i => (i.zero, i.size, i.bytes)) = some (some (.agg #[.int .i64 0, .int .i64 0, .string ⟨#[]⟩, .slice none 0 0, .slice none 0 0]), 5, 80) := by kernel_rfl
theorem stepE {ops : Array Oper} {o : Oper} {a : Act} {Q : Exit → Act → World → Prop} {K : Act → World → Prop} {E : Prop} {w0 W : World} (hgd : o.guard = none) (base : Nat) (s x : Operand)
    (ho : o.op = .call { callee := .builtin .append, args := #[s, x], argTypes := #[23, 23] }) (v : Value) (xs : List S28) (y : S28) (cs : List Value) (ok okp : Nat → Prop) (hs : a.eval s = v)
    (hx : a.eval x = .slice (some ⟨W.heap.size, 0, none⟩) 1 1) (hp : k28.M W base okp y cs) (hokp : ∀ k, okp k → ok k ∧ some k ≠ v.ownBlock) (hfresh : ∀ k, W.heap.size ≤ k → ok k) (HO : k28.R 28 W base ok v xs) (HB : Below base w0 W) (hbase : base ≤ W.heap.size) (hl : xs.length + 1 ≤ 1000000000001)
    (h : ∀ v1 w1, k28.R 28 w1 base ok v1 (xs ++ [y]) → Below base w0 w1 → W.grownBy w1 v.ownBlock → K (a.put o.dst v1) w1) :
    if Region.wanted o (yielded ops a.tmps) = true then Oper.wp Try.prog o a (W.alloc (.cells cs.toArray 28)) K Q else E := by
  have hw : Region.wanted o (yielded ops a.tmps) = true := by simp [Region.wanted, hgd]
  rw [if_pos hw]
  have H := Kd.R_append_step (P := Try.prog) (ops := ops) (o := o) (a := a) (Q := Q) (Kc := K) k28 (w0 := w0) (W := W) base hw s x 23 28 (.agg #[.int .i64 0, .int .i64 0, .string ⟨#[]⟩, .slice none 0 0, .slice none 0 0]) 80 ho Try.underlying23 info28 rfl (by decide) (by omega) v xs y cs ok okp hs hx hp hokp hfresh HO HB hbase (by omega) (fun v1 w1 h1 h2 h3 _ => h v1 w1 h1 h2 h3)
  rw [if_pos hw] at H
  exact H
/-- Between two rounds of Copy: the value that is made, in the first block of the call; its keys' row below s3, its elements' rows from s3 on. -/
structure Cs (w W : World) (x : S28) (s3 : Nat) (v3 v4 : Value) (xs : List S28) : Prop where
  z : Below w.heap.size w W
  blk : W.heap[w.heap.size]? = some (.cells #[.int .i64 x.f0, .int .i64 x.f1, .string x.f2, v3, v4] 28 (0, 0))
  res : W.heap[w.heap.size + 1]? = some (.cells #[.int .i64 0, .int .i64 0, .string ⟨#[]⟩, .slice none 0 0, .slice none 0 0] 28 (0, 0))
  r3 : Kd.string.R 9 W (w.heap.size + 2) (fun k => k < s3) v3 x.f3
  r4 : k28.R 28 W (w.heap.size + 2) (fun k => s3 ≤ k) v4 xs
  lo : w.heap.size + 2 ≤ s3
  hi : s3 ≤ W.heap.size
theorem Cs.below {w W W' : World} {x : S28} {s3 : Nat} {v3 v4 : Value} {xs : List S28} (h : Cs w W x s3 v3 v4 xs) (hb : Below W.heap.size W W') : Cs w W' x s3 v3 v4 xs :=
  ⟨below_step h.z hb, (hb.block _ (Array.getElem?_eq_some_iff.1 h.blk).1).trans h.blk, (hb.block _ (Array.getElem?_eq_some_iff.1 h.res).1).trans h.res,
   (Kd.R_mono (Kd.R_move (Kd.R_bound h.r3) (fun k hk => hb.block k hk.2.2.1)) (fun k hk => hk.1)), (Kd.R_mono (Kd.R_move (Kd.R_bound h.r4) (fun k hk => hb.block k hk.2.2.1)) (fun k hk => hk.1)), h.lo, Nat.le_trans h.hi hb.size⟩
theorem Cs.cells {w W : World} {x : S28} {s3 : Nat} {v3 v4 : Value} {xs : List S28} (h : Cs w W x s3 v3 v4 xs) : W.cell? ⟨w.heap.size, 0, none⟩ = some (.int .i64 x.f0) ∧ W.cell? ⟨w.heap.size, 1, none⟩ = some (.int .i64 x.f1) ∧ W.cell? ⟨w.heap.size, 2, none⟩ = some (.string x.f2) ∧ W.cell? ⟨w.heap.size, 3, none⟩ = some v3 ∧ W.cell? ⟨w.heap.size, 4, none⟩ = some v4 ∧ ∀ j, W.frozen? ⟨w.heap.size, j, none⟩ = false := by
  have hb := h.blk
  refine ⟨?_, ?_, ?_, ?_, ?_, fun j => ?_⟩ <;> simp [World.cell?, World.frozen?, hb]
theorem set5 {w : World} {b : Nat} {u0 u1 u2 u3 u4 : Value} (h : w.heap[b]? = some (.cells #[u0, u1, u2, u3, u4] 28 (0, 0))) (v : Value) : (w.setCell ⟨b, 4, none⟩ v).heap[b]? = some (.cells #[u0, u1, u2, u3, v] 28 (0, 0)) ∧ w.grownBy (w.setCell ⟨b, 4, none⟩ v) (some b) :=
  ⟨heap_setCell_same _ _ _ _ _ _ h, ⟨rfl, rfl, rfl, by simp, fun k _ hk => Below.heap_setCell _ _ _ k (fun e => hk (by rw [e]))⟩⟩
theorem set3 {w : World} {b : Nat} {u0 u1 u2 u3 u4 : Value} (h : w.heap[b]? = some (.cells #[u0, u1, u2, u3, u4] 28 (0, 0))) (v : Value) : (w.setCell ⟨b, 3, none⟩ v).heap[b]? = some (.cells #[u0, u1, u2, v, u4] 28 (0, 0)) ∧ w.grownBy (w.setCell ⟨b, 3, none⟩ v) (some b) :=
  ⟨heap_setCell_same _ _ _ _ _ _ h, ⟨rfl, rfl, rfl, by simp, fun k _ hk => Below.heap_setCell _ _ _ k (fun e => hk (by rw [e]))⟩⟩
/-- The append in place, and the store of what it gave. -/
theorem Cs.round {w W w1 : World} {x y : S28} {s3 : Nat} {v3 v4 v1 : Value} {xs : List S28} (h : Cs w W x s3 v3 v4 xs) (ho : k28.R 28 w1 (w.heap.size + 2) (fun k => s3 ≤ k) v1 (xs ++ [y])) (hb : Below (w.heap.size + 2) W w1) (hg : W.grownBy w1 v4.ownBlock) :
    Cs w (w1.setCell ⟨w.heap.size, 4, none⟩ v1) x s3 v3 v1 (xs ++ [y]) := by
  have hlo := h.lo
  have hhi := h.hi
  have b0 := (hb.block w.heap.size (by omega)).trans h.blk
  have b1 := (hb.block (w.heap.size + 1) (by omega)).trans h.res
  obtain ⟨c0, cg⟩ := set5 b0 v1
  have hs1 := hb.size
  refine ⟨?_, c0, (cg.block _ (by omega) (fun e => by have := Option.some.inj e; omega)).trans b1, ?_, ?_, h.lo, ?_⟩
  · exact (h.z.trans (hb.mono (by omega))).trans ⟨cg.os, cg.tape, cg.output, cg.size, fun k hk => cg.block k (by omega) (fun e => by have := Option.some.inj e; omega)⟩
  · refine Kd.R_mono (Kd.R_move (Kd.R_bound h.r3) (fun k hk => ?_)) (fun k hk => hk.1)
    obtain ⟨k1, k2, k3, _⟩ := hk
    rw [cg.block k (by omega) (fun e => by have := Option.some.inj e; omega)]
    refine hg.block k k3 (fun e => ?_)
    have := h.r4.1 k e.symm
    omega
  · refine Kd.R_mono (Kd.R_move (Kd.R_bound ho) (fun k hk => ?_)) (fun k hk => hk.1)
    obtain ⟨k1, k2, k3, _⟩ := hk
    exact cg.block k k3 (fun e => by have := Option.some.inj e; omega)
  · have := cg.size
    omega
/-- The result, stored behind the loop. -/
theorem Cs.final {w W : World} {x : S28} {s3 : Nat} {v3 v4 : Value} (h : Cs w W x s3 v3 v4 x.f4) : ∃ W', ((((W.setCell ⟨w.heap.size + 1, 0, none⟩ (.int .i64 x.f0)).setCell ⟨w.heap.size + 1, 1, none⟩ (.int .i64 x.f1)).setCell ⟨w.heap.size + 1, 2, none⟩ (.string x.f2)).setCell ⟨w.heap.size + 1, 3, none⟩ v3).setCell ⟨w.heap.size + 1, 4, none⟩ v4 = W' ∧
    W'.heap[w.heap.size + 1]? = some (.cells #[.int .i64 x.f0, .int .i64 x.f1, .string x.f2, v3, v4] 28 (0, 0)) ∧ k28.M W' w.heap.size (fun _ => True) x [.int .i64 x.f0, .int .i64 x.f1, .string x.f2, v3, v4] ∧ Below w.heap.size w W' := by
  have gc : ∀ (W : World) (j : Nat) (v : Value), W.grownBy (W.setCell ⟨w.heap.size + 1, j, none⟩ v) (some (w.heap.size + 1)) := fun W j v => ⟨rfl, rfl, rfl, by simp, fun k _ hk => Below.heap_setCell _ _ _ k (fun e => hk (by rw [e]))⟩
  have hg := ((((gc W 0 (.int .i64 x.f0)).trans (gc _ 1 (.int .i64 x.f1))).trans (gc _ 2 (.string x.f2))).trans (gc _ 3 v3)).trans (gc _ 4 v4)
  have hlo := h.lo
  have hhi := h.hi
  refine ⟨_, rfl, ?_, ?_, ?_⟩
  · rw [heap_setCell_same _ _ _ _ _ _ (heap_setCell_same _ _ _ _ _ _ (heap_setCell_same _ _ _ _ _ _ (heap_setCell_same _ _ _ _ _ _ (heap_setCell_same _ _ _ _ _ _ h.res))))]
    rfl
  · refine k28.M_lower (base := w.heap.size + 2) (by omega) (k28_mkM _ _ _ _ ?_ ?_)
    · refine Kd.R_mono (Kd.R_move (Kd.R_bound h.r3) (fun k hk => ?_)) (fun k hk => trivial)
      obtain ⟨k1, k2, k3, _⟩ := hk
      exact hg.block k k3 (fun e => by have := Option.some.inj e; omega)
    · refine Kd.R_mono (Kd.R_move (Kd.R_bound h.r4) (fun k hk => ?_)) (fun k hk => trivial)
      obtain ⟨k1, k2, k3, _⟩ := hk
      exact hg.block k k3 (fun e => by have := Option.some.inj e; omega)
  · exact h.z.trans ⟨hg.os, hg.tape, hg.output, hg.size, fun k hk => hg.block k (by omega) (fun e => by have := Option.some.inj e; omega)⟩
theorem copyC (st : Nat) : ∀ (x : S28) (w : World) {A3 : Option Addr} {c3 : Nat} {A4 : Option Addr} {c4 : Nat}, SizeOf.sizeOf x < st → cnt x ≤ 1000000000000 → Rd w A3 c3 A4 c4 x →
    Calls Try.prog 66 #[.agg #[.int .i64 x.f0, .int .i64 x.f1, .string x.f2, .slice A3 x.f3.length c3, .slice A4 x.f4.length c4]] w fun e w' => ∃ v3 v4, e = .returned (.agg #[.int .i64 x.f0, .int .i64 x.f1, .string x.f2, v3, v4]) ∧ k28.M w' w.heap.size (fun _ => True) x [.int .i64 x.f0, .int .i64 x.f1, .string x.f2, v3, v4] ∧ Below w.heap.size w w' := by
  induction st with
  | zero => intro x w A3 c3 A4 c4 h; omega
  | succ st ih =>
  intro x w A3 c3 A4 c4 hs hc hr
  have HS := Aside0.mk hs
  have HC := Aside0.mk hc
  have HR := Aside0.mk hr
  have HIH := Aside0.mk ih
  have hB1 := Bv.new hr
  have ha1 := new_below w (.cells #[.int .i64 x.f0, .int .i64 x.f1, .string x.f2, .slice A3 x.f3.length c3, .slice A4 x.f4.length c4] 28)
  have ha2 := new_below (w.alloc (.cells #[.int .i64 x.f0, .int .i64 x.f1, .string x.f2, .slice A3 x.f3.length c3, .slice A4 x.f4.length c4] 28)) (.cells #[.int .i64 0, .int .i64 0, .string ⟨#[]⟩, .slice none 0 0, .slice none 0 0] 28)
  have HB := Aside0.mk (hB1.below ha2)
  have HW := Aside0.mk (below_step ha1 ha2)
  clear hs hc hr ih hB1 ha1 ha2
  go_enter Try.func66, Try.ntmps66
  go_upto_region 1 with fail
  have HRes : Aside0 (((w.alloc (.cells #[.int .i64 x.f0, .int .i64 x.f1, .string x.f2, .slice A3 x.f3.length c3, .slice A4 x.f4.length c4] 28)).alloc (.cells #[.int .i64 0, .int .i64 0, .string ⟨#[]⟩, .slice none 0 0, .slice none 0 0] 28)).heap[w.heap.size + 1]? = some (.cells #[.int .i64 0, .int .i64 0, .string ⟨#[]⟩, .slice none 0 0, .slice none 0 0] 28 (0, 0))) := ⟨by
    have h := heap_alloc_new (w.alloc (.cells #[.int .i64 x.f0, .int .i64 x.f1, .string x.f2, .slice A3 x.f3.length c3, .slice A4 x.f4.length c4] 28)) (.cells #[.int .i64 0, .int .i64 0, .string ⟨#[]⟩, .slice none 0 0, .slice none 0 0] 28)
    simpa using h⟩
  have HSz : Aside0 (((w.alloc (.cells #[.int .i64 x.f0, .int .i64 x.f1, .string x.f2, .slice A3 x.f3.length c3, .slice A4 x.f4.length c4] 28)).alloc (.cells #[.int .i64 0, .int .i64 0, .string ⟨#[]⟩, .slice none 0 0, .slice none 0 0] 28)).heap.size = w.heap.size + 2) := ⟨by simp⟩
  obtain ⟨W1, hW1⟩ : ∃ W1, (w.alloc (.cells #[.int .i64 x.f0, .int .i64 x.f1, .string x.f2, .slice A3 x.f3.length c3, .slice A4 x.f4.length c4] 28)).alloc (.cells #[.int .i64 0, .int .i64 0, .string ⟨#[]⟩, .slice none 0 0, .slice none 0 0] 28) = W1 := ⟨_, rfl⟩
  rw [hW1] at HRes HSz HB HW
  rw [hW1]
  clear hW1
  have HLn : Aside0 (x.f3.length ≤ 1000000000000 ∧ x.f4.length ≤ 1000000000000) := ⟨by
    have h1 := cnt_eq x
    have h2 : x.f3.length ≤ ksz x.f3 := by
      have : ∀ l : List ByteArray, l.length ≤ ksz l := fun l => by
        induction l with
        | nil => simp [ksz]
        | cons k l ih => simp only [List.length_cons, ksz]; omega
      exact this _
    have h3 : x.f4.length ≤ cntL x.f4 := by
      have : ∀ l : List S28, l.length ≤ cntL l := fun l => by
        induction l with
        | nil => simp [cntL]
        | cons k l ih => simp only [List.length_cons, cntL]; have := cnt_eq k; omega
      exact this _
    have := HC.out
    omega⟩
  have HCl := Aside0.mk (cloneC A3 c3 x.f3 W1 (HB.out.rd.r3) HB.out.rd.k3 (by have := HLn.out; omega))
  have hkl : x.f4.length ≤ 1000000000000 := HLn.out.2
  obtain ⟨q0, q1, q2, q3, q4⟩ := HB.out.cells
  go_upto_region 2 with (first | (go_at_call 77; (with_reducible refine HCl.out.mono ?_); rintro e we ⟨v3, rfl, h3, hb⟩; obtain ⟨X3, d3, e3⟩ := Kd.R_slice h3; obtain ⟨n3, hn3⟩ : ∃ n3, x.f3.length = n3 := ⟨_, rfl⟩; rw [hn3] at e3; clear hn3; subst e3; have H3 := Aside0.mk h3; have Hbe := Aside0.mk hb; have HBe := Aside0.mk (HB.out.below hb); obtain ⟨z0, z1, z2, z3, z4⟩ := HBe.out.cells; have zf : ∀ j, we.frozen? ⟨w.heap.size, j, none⟩ = false := (fun j => by have h := HBe.out.blk; simp [World.frozen?, h]); clear h3 hb))
  go_upto_region 4 with fail
  have HCs : Aside0 (Cs w ((we.setCell ⟨w.heap.size, 3, none⟩ (.slice X3 n3 d3)).setCell ⟨w.heap.size, 4, none⟩ (.slice none 0 0)) x we.heap.size (.slice X3 n3 d3) (.slice none 0 0) []) := ⟨by
    have hsz := HSz.out
    have hs2 := Hbe.out.size
    obtain ⟨k1, g1⟩ := set3 HBe.out.blk (.slice X3 n3 d3)
    obtain ⟨k2, g2⟩ := set5 k1 (.slice none 0 0)
    have g := g1.trans g2
    refine ⟨?_, k2, ?_, ?_, Kd.R_nil _ _ _ _ _, by omega, by have := g.size; omega⟩
    · exact (HW.out.trans (Hbe.out.mono (by omega))).trans ⟨g.os, g.tape, g.output, g.size, fun k hk => g.block k (by omega) (fun e => by have := Option.some.inj e; omega)⟩
    · rw [g.block _ (by omega) (fun e => by have := Option.some.inj e; omega), Hbe.out.block _ (by omega)]
      exact HRes.out
    · rw [← hsz]
      refine Kd.R_mono (Kd.R_move (Kd.R_bound H3.out) (fun k hk => ?_)) (fun k hk => hk.2.2.1)
      obtain ⟨c1, c2, c3, _⟩ := hk
      exact g.block k c3 (fun e => by have := Option.some.inj e; omega)⟩
  obtain ⟨s3, hs3⟩ : ∃ s3, we.heap.size = s3 := ⟨_, rfl⟩
  obtain ⟨W3, hW3⟩ : ∃ W3, (we.setCell ⟨w.heap.size, 3, none⟩ (.slice X3 n3 d3)).setCell ⟨w.heap.size, 4, none⟩ (.slice none 0 0) = W3 := ⟨_, rfl⟩
  rw [hW3, hs3] at HCs
  rw [hW3]
  clear hW3 hs3 H3 Hbe HBe HB HW HRes HSz HCl q0 q1 q2 q3 q4 z0 z1 z2 z3 z4 zf
  go_wp2_with fail
  go_loopg [15] x.f4.length (fun kq v15 w' => ∃ (i : Nat) (X4 : Option Addr) (n4 d4 : Nat), kq + i = x.f4.length ∧ v15 = .int .i64 (i : Int) ∧ Aside0 (Cs w w' x s3 (.slice X3 n3 d3) (.slice X4 n4 d4) (x.f4.take i)))
  case atStart => exact ⟨0, none, 0, 0, by omega, rfl, HCs⟩
  case round =>
    clear HCs
    obtain ⟨i, X4, n4, d4, hi, rfl, HC0⟩ := hrel
    by_cases ci : i < x.f4.length
    · have g0 : decide ((i : Int) < (x.f4.length : Int)) = true := decide_eq_true (by omega)
      have g2 : (0 ≤ (i : Int)) = True := eq_true (by omega)
      have g3 : ((i : Int) < (x.f4.length : Int)) = True := eq_true (by omega)
      obtain ⟨j1, rfl⟩ : ∃ j1, gk = j1 + 1 := ⟨gk - 1, by omega⟩
      have hil : x.f4[i]? = some x.f4[i] := List.getElem?_eq_getElem ci
      have hm := List.getElem_mem ci
      have hz := sz_mem hm
      have hcy : cnt x.f4[i] ≤ 1000000000000 := by
        have h1 := HC.out
        have h2 := cnt_eq x
        have h3 := cntL_take hil
        have h4 := cntL_le x.f4 (i + 1)
        omega
      obtain ⟨y, hq'⟩ : ∃ y, x.f4[i] = y := ⟨_, rfl⟩
      rw [hq'] at hil hz hcy
      obtain ⟨ad, Y3, y3, Y4, y4, e1, he0⟩ := el_at HR.out.r4 i ci hil
      have HTk : Aside0 (x.f4.take (i + 1) = x.f4.take i ++ [y]) := ⟨by rw [List.take_add_one, hil]; rfl⟩
      have HI := Aside0.mk hi
      have HY := Aside0.mk (fun W (hb : Below w.heap.size w W) => HIH.out y W (by have := HS.out; omega) hcy (he0.rd.below hb))
      have HEr := Aside0.mk (he0.rd.below HC0.out.z)
      obtain ⟨e0, e2, e3, e4, e5, _⟩ := he0.below HC0.out.z
      clear hil hq' hi hm hz hcy he0
      subst e1
      go_upto_region 7 with fail
      have HE := Aside0.mk (Bv.new HEr.out)
      have HCs := Aside0.mk (HC0.out.below (new_below wr (.cells #[.int .i64 y.f0, .int .i64 y.f1, .string y.f2, .slice Y3 y.f3.length y3, .slice Y4 y.f4.length y4] 28)))
      obtain ⟨eb, heb⟩ : ∃ eb, wr.heap.size = eb := ⟨_, rfl⟩
      obtain ⟨W4, hW4⟩ : ∃ W4, wr.alloc (.cells #[.int .i64 y.f0, .int .i64 y.f1, .string y.f2, .slice Y3 y.f3.length y3, .slice Y4 y.f4.length y4] 28) = W4 := ⟨_, rfl⟩
      have HEb : Aside0 (wr.heap.size ≤ eb) := ⟨by omega⟩
      rw [hW4, heb] at HE
      rw [hW4] at HCs
      rw [hW4, heb]
      clear hW4 heb e0 e2 e3 e4 e5 HEr
      have HK : Aside0 (∀ W, Below W4.heap.size W4 W → (fun w' => w'.cell? ⟨w.heap.size, 4, none⟩ = some (.slice X4 n4 d4) ∧ w'.frozen? ⟨w.heap.size, 4, none⟩ = false ∧ w'.cell? ⟨eb, 0, none⟩ = some (.int .i64 y.f0) ∧ w'.cell? ⟨eb, 1, none⟩ = some (.int .i64 y.f1) ∧ w'.cell? ⟨eb, 2, none⟩ = some (.string y.f2) ∧ w'.cell? ⟨eb, 3, none⟩ = some (.slice Y3 y.f3.length y3) ∧ w'.cell? ⟨eb, 4, none⟩ = some (.slice Y4 y.f4.length y4)) W) := ⟨fun W hb => by
        obtain ⟨a0, a1, a2, a3, a4, a5⟩ := (HCs.out.below hb).cells
        obtain ⟨b0, b1, b2, b3, b4⟩ := (HE.out.below hb).cells
        exact ⟨a4, a5 4, b0, b1, b2, b3, b4⟩⟩
      have HX : Aside0 (Below W4.heap.size W4 W4.drew) := ⟨(Below.refl _ _).drew⟩
      have HZd : Aside0 (Below w.heap.size w W4.drew) := ⟨below_step HCs.out.z HX.out⟩
      refine start_ (n := 8) (S := fun w' => w'.cell? ⟨w.heap.size, 4, none⟩ = some (.slice X4 n4 d4) ∧ w'.frozen? ⟨w.heap.size, 4, none⟩ = false ∧ w'.cell? ⟨eb, 0, none⟩ = some (.int .i64 y.f0) ∧ w'.cell? ⟨eb, 1, none⟩ = some (.int .i64 y.f1) ∧ w'.cell? ⟨eb, 2, none⟩ = some (.string y.f2) ∧ w'.cell? ⟨eb, 3, none⟩ = some (.slice Y3 y.f3.length y3) ∧ w'.cell? ⟨eb, 4, none⟩ = some (.slice Y4 y.f4.length y4)) (ds := [7]) #[false, false, false, false, false, false, false, false] (by kernel_rfl) rfl (by rfl) (HK.out _ HX.out) (fun hS => ?_)
      refine take_ (i := 0) (N := some 19) (v := (.pointer (some ⟨w.heap.size, 4, none⟩))) #[true, false, false, false, false, false, false, false] rfl rfl (by kernel_rfl) (fun _ _ _ h => h) (Or.inl ⟨by rfl, by intro w hSw; (try dsimp only at hSw); go_simp⟩) hS rfl ?_
      try simp only [Act.put, List.setIfInBounds_toArray, List.set_cons_zero, List.set_cons_succ]
      refine take_ (i := 1) (N := some 20) (v := (.slice X4 n4 d4)) #[true, true, false, false, false, false, false, false] rfl rfl (by kernel_rfl) (fun _ _ _ h => h) (Or.inl ⟨by rfl, by intro w hSw; (try dsimp only at hSw); go_simp⟩) hS rfl ?_
      try simp only [Act.put, List.setIfInBounds_toArray, List.set_cons_zero, List.set_cons_succ]
      refine take_ (i := 2) (N := some 21) (v := (.agg #[.int .i64 y.f0, .int .i64 y.f1, .string y.f2, .slice Y3 y.f3.length y3, .slice Y4 y.f4.length y4])) #[true, true, true, false, false, false, false, false] rfl rfl (by kernel_rfl) (fun _ _ _ h => h) (Or.inl ⟨by rfl, by intro w hSw; (try dsimp only at hSw); go_simp⟩) hS rfl ?_
      try simp only [Act.put, List.setIfInBounds_toArray, List.set_cons_zero, List.set_cons_succ]
      refine one_ (i := 3) (N := some 22) #[true, true, true, true, false, false, false, false] rfl rfl (by kernel_rfl) (by decide) ?_
      intro K hK
      go_simp
      go_at_call 66; (with_reducible refine (HY.out _ HZd.out).mono ?_); rintro e we ⟨u3, u4, rfl, hM, hb⟩; have HM := Aside0.mk hM; have HX2 := Aside0.mk (below_step HX.out hb); clear HX hM hb; have HX := HX2; clear HX2; have HCw := Aside0.mk (HCs.out.below HX.out)
      refine hK.out _ _ (HK.out _ HX.out) (fun hS => ?_)
      clear hK K
      try simp only [Act.put, List.setIfInBounds_toArray, List.set_cons_zero, List.set_cons_succ]
      refine one_ (i := 4) (N := some 23) #[true, true, true, true, true, false, false, false] rfl rfl (by kernel_rfl) (by decide) ?_
      intro K hK
      go_simp
      have HXs := Aside0.mk HX.out; have HX2 := Aside0.mk (below_step HX.out (new_below we (.cells #[.int .i64 y.f0, .int .i64 y.f1, .string y.f2, u3, u4] 28))); clear HX; have HX := HX2; clear HX2
      refine hK.out _ _ (HK.out _ HX.out) (fun hS => ?_)
      clear hK K
      try simp only [Act.put, List.setIfInBounds_toArray, List.set_cons_zero, List.set_cons_succ]
      refine one_ (i := 5) (N := some 24) #[true, true, true, true, true, true, false, false] rfl rfl (by kernel_rfl) (by decide) ?_
      intro K hK
      refine stepE (w0 := we) rfl (w.heap.size + 2) (.tmp 20) (.tmp 23) rfl (.slice X4 n4 d4) (x.f4.take i) y [.int .i64 y.f0, .int .i64 y.f1, .string y.f2, u3, u4] (fun k => s3 ≤ k) (fun k => W4.heap.size ≤ k) rfl rfl (k28.M_lower (Nat.le_trans HCs.out.lo HCs.out.hi) (k28.M_mono (fun k hk => hk.2.1) (k28.M_bound HM.out))) (fun k hk => ⟨by have h2 : W4.heap.size ≤ k := hk; have := HCs.out.hi; show s3 ≤ k; omega, fun e => by have h1 := ((Kd.R_bound HCs.out.r4).1 k e.symm).2.2.1; have h2 : W4.heap.size ≤ k := hk; omega⟩) (fun k hk => by have := HCw.out.hi; show s3 ≤ k; omega) HCw.out.r4 (Below.refl _ _) (by have := HCw.out.lo; have := HCw.out.hi; omega) (by rw [List.length_take]; have := HLn.out; omega) ?_; intro v1 w1 ho hb hg; obtain ⟨X5, d5, e5⟩ := Kd.R_slice ho; obtain ⟨n5, hn5⟩ : ∃ n5, (x.f4.take i ++ [y]).length = n5 := ⟨_, rfl⟩; rw [hn5] at e5; clear hn5; subst e5; have HR2 := Aside0.mk (HCw.out.round ho hb hg)
      have hS5 : (fun w' => w'.cell? ⟨w.heap.size, 4, none⟩ = some (.slice X4 n4 d4) ∧ w'.frozen? ⟨w.heap.size, 4, none⟩ = false ∧ w'.cell? ⟨eb, 0, none⟩ = some (.int .i64 y.f0) ∧ w'.cell? ⟨eb, 1, none⟩ = some (.int .i64 y.f1) ∧ w'.cell? ⟨eb, 2, none⟩ = some (.string y.f2) ∧ w'.cell? ⟨eb, 3, none⟩ = some (.slice Y3 y.f3.length y3) ∧ w'.cell? ⟨eb, 4, none⟩ = some (.slice Y4 y.f4.length y4)) w1 := by
        obtain ⟨a0, a1, a2, a3, a4, a5⟩ := HCw.out.cells
        have hne : (Value.slice X4 n4 d4).ownBlock ≠ some eb := fun e => by have h1 := ((Kd.R_bound HC0.out.r4).1 eb e).2.2.1; have := HEb.out; omega
        have hbw : w1.heap[w.heap.size]? = we.heap[w.heap.size]? := hb.block _ (by omega)
        have hew := (HE.out.below HXs.out)
        have hlt : eb < we.heap.size := (Array.getElem?_eq_some_iff.1 hew.blk).1
        have hb2 : w1.heap[eb]? = we.heap[eb]? := hg.block eb hlt (fun e => hne e.symm)
        obtain ⟨b0, b1, b2, b3, b4⟩ := hew.cells
        have c : ∀ (b j : Nat), w1.heap[b]? = we.heap[b]? → w1.cell? ⟨b, j, none⟩ = we.cell? ⟨b, j, none⟩ ∧ w1.frozen? ⟨b, j, none⟩ = we.frozen? ⟨b, j, none⟩ := fun b j h => by simp [World.cell?, World.frozen?, h]
        exact ⟨(c _ 4 hbw).1.trans a4, (c _ 4 hbw).2.trans (a5 4), (c _ 0 hb2).1.trans b0, (c _ 1 hb2).1.trans b1, (c _ 2 hb2).1.trans b2, (c _ 3 hb2).1.trans b3, (c _ 4 hb2).1.trans b4⟩
      clear ho hb hg
      refine hK.out _ _ hS5 (fun hS => ?_)
      clear hK K hS5
      try simp only [Act.put, List.setIfInBounds_toArray, List.set_cons_zero, List.set_cons_succ]
      refine take_ (i := 6) (N := some 25) (v := (.pointer (some ⟨w.heap.size, 4, none⟩))) #[true, true, true, true, true, true, true, false] rfl rfl (by kernel_rfl) (fun _ _ _ h => h) (Or.inl ⟨by rfl, by intro w hSw; (try dsimp only at hSw); go_simp⟩) hS rfl ?_
      try simp only [Act.put, List.setIfInBounds_toArray, List.set_cons_zero, List.set_cons_succ]
      have hfz := hS.2.1
      have hcl := hS.1
      refine last_ (i := 7) (N := none) #[true, true, true, true, true, true, true, true] rfl rfl (by kernel_rfl) (by decide) ?_
      intro K hK
      go_simp
      refine hK.out _ _ ?_
      clear hK K hfz hcl
      refine done_ (by kernel_rfl) ?_
      go_wp2_with fail
      go_roundg j1
      case measure => omega
      case rel => exact ⟨i + 1, X5, n5, d5, by have := HI.out; omega, rfl, ⟨by rw [HTk.out]; exact HR2.out⟩⟩
    · have g0 : decide (i < x.f4.length) = false := decide_eq_false ci
      have HC1 : Aside0 (Cs w wr x s3 (.slice X3 n3 d3) (.slice X4 n4 d4) x.f4) := ⟨by have h := HC0.out; rw [List.take_of_length_le (by omega)] at h; exact h⟩
      clear HC0 ci hi
      obtain ⟨a0, a1, a2, a3, a4, a5⟩ := HC1.out.cells
      obtain ⟨W', hW', hr1, hM, hb⟩ := HC1.out.final
      have HF := Aside0.mk hW'
      have HMf := Aside0.mk hM
      have HBf := Aside0.mk hb
      have HRf := Aside0.mk hr1
      have hres := HC1.out.res
      have t0 : ∀ j, wr.frozen? ⟨w.heap.size + 1, j, none⟩ = false := fun j => by simp [World.frozen?, hres]
      have t1 : wr.cell? ⟨w.heap.size + 1, 0, none⟩ = some (.int .i64 0) ∧ wr.cell? ⟨w.heap.size + 1, 1, none⟩ = some (.int .i64 0) ∧ wr.cell? ⟨w.heap.size + 1, 2, none⟩ = some (.string ⟨#[]⟩) ∧ wr.cell? ⟨w.heap.size + 1, 3, none⟩ = some (.slice none 0 0) ∧ wr.cell? ⟨w.heap.size + 1, 4, none⟩ = some (.slice none 0 0) := by simp [World.cell?, hres]
      obtain ⟨t1, t2, t3, t4, t5⟩ := t1
      clear hW' hr1 hM hb hres
      go_wp2_with fail
      rw [HF.out]
      have u : W'.cell? ⟨w.heap.size + 1, 0, none⟩ = some (.int .i64 x.f0) ∧ W'.cell? ⟨w.heap.size + 1, 1, none⟩ = some (.int .i64 x.f1) ∧ W'.cell? ⟨w.heap.size + 1, 2, none⟩ = some (.string x.f2) ∧ W'.cell? ⟨w.heap.size + 1, 3, none⟩ = some (.slice X3 n3 d3) ∧ W'.cell? ⟨w.heap.size + 1, 4, none⟩ = some (.slice X4 n4 d4) := by
        have h := HRf.out
        simp [World.cell?, h]
      obtain ⟨u0, u1, u2, u3, u4⟩ := u
      refine bodyPost_ret (v := .agg #[.int .i64 x.f0, .int .i64 x.f1, .string x.f2, .slice X3 n3 d3, .slice X4 n4 d4]) (by simp [results, Try.results66, go_sem, u0, u1, u2, u3, u4]) rfl ?_
      exact ⟨_, _, rfl, HMf.out, HBf.out⟩
end Go.Proofs.Ytgpjkojnmeaoiaa.QV
