import Derived.Test.YtickgiheembcjaaCh1
import Derived.Deep.RegionLaw
/- Items of a channel, by hand. -/
namespace Go.Proofs.Ytickgiheembcjaa.Ch
open Go.RowKit Go.Proofs.YtickgiheembcjaaW.PrintWords Go.Proofs.YtickgiheembcjaaW.PrintLast Go.Proofs.YtickgiheembcjaaW.PrintMore
set_option linter.unusedVariables false
set_option linter.unusedSimpArgs false
def itemsOf (ring : Nat → Int) (fr : Nat) : Nat → List Int
  | 0 => []
  | i + 1 => itemsOf ring fr i ++ [ring ((fr + i) % 64)]
theorem itemsOf_len (ring : Nat → Int) (fr : Nat) : ∀ n, (itemsOf ring fr n).length = n
  | 0 => rfl
  | n + 1 => by rw [itemsOf, List.length_append, itemsOf_len ring fr n]; rfl
theorem inf3 : (Try.prog.info? 3).map (fun i => (i.zero, i.size, i.bytes)) = some (some (.int .i64 0), 1, 8) := by kernel_rfl
abbrev Own (B : Nat) (ok : Nat → Prop) (w : World) (v : Value) (l : List Int) : Prop := Kd.R (Kd.int .i64) 3 w B ok v l
theorem stepInts {ops : Array Oper} {o : Oper} {a : Act} {Q : Exit → Act → World → Prop} {K : Act → World → Prop} {E : Prop} {w0 W W' : World} (hgd : o.guard = none) (base : Nat) (s x : Operand)
    (ho : o.op = .call { callee := .builtin .append, args := #[s, x], argTypes := #[22, 22] }) (v : Value) (xs : List Int) (p : Int) (ok : Nat → Prop) (hs : a.eval s = v) (hW : W' = W.alloc (.cells #[.int .i64 p] 3))
    (hx : a.eval x = .slice (some ⟨W.heap.size, 0, none⟩) 1 1) (hfresh : ∀ k, W.heap.size ≤ k → ok k) (HO : Own base ok W v xs) (HB : Below base w0 W) (hbase : base ≤ W.heap.size) (hl : xs.length + 1 ≤ 17592186044416)
    (h : ∀ v1 w1, Own base ok w1 v1 (xs ++ [p]) → Below base w0 w1 → W.grownBy w1 v.ownBlock → (v1.ownBlock = v.ownBlock ∨ ∃ b, v1.ownBlock = some b ∧ W.heap.size ≤ b) → K (a.put o.dst v1) w1) :
    if Region.wanted o (yielded ops a.tmps) = true then Oper.wp Try.prog o a W' K Q else E := by
  have hw : Region.wanted o (yielded ops a.tmps) = true := by simp [Region.wanted, hgd]
  rw [if_pos hw]
  have H := Kd.R_append_step (P := Try.prog) (ops := ops) (o := o) (a := a) (Q := Q) (Kc := K) (Kd.int .i64) (w0 := w0) (W := W) base hw s x 22 3 (.int .i64 0) 8 ho Try.underlying22 inf3 rfl (by decide) (by omega) v xs p [.int .i64 p] ok (fun _ => False) hs hx rfl (fun _ hk => hk.elim) hfresh HO HB hbase (by omega) h
  rw [if_pos hw] at H
  rw [hW]
  exact H
theorem listInts {ops : Array Oper} {rest : List Oper} {o : Oper} {a : Act} {Q : Exit → Act → World → Prop} {w0 W W' : World} (hgd : o.guard = none) (base : Nat) (s x : Operand)
    (ho : o.op = .call { callee := .builtin .append, args := #[s, x], argTypes := #[22, 22] }) (v : Value) (xs : List Int) (p : Int) (ok : Nat → Prop) (hs : a.eval s = v) (hW : W' = W.alloc (.cells #[.int .i64 p] 3))
    (hx : a.eval x = .slice (some ⟨W.heap.size, 0, none⟩) 1 1) (hfresh : ∀ k, W.heap.size ≤ k → ok k) (HO : Own base ok W v xs) (HB : Below base w0 W) (hbase : base ≤ W.heap.size) (hl : xs.length + 1 ≤ 17592186044416)
    (h : ∀ v1 w1, Own base ok w1 v1 (xs ++ [p]) → Below base w0 w1 → W.grownBy w1 v.ownBlock → (v1.ownBlock = v.ownBlock ∨ ∃ b, v1.ownBlock = some b ∧ W.heap.size ≤ b) → wpList Try.prog ops Q rest (a.put o.dst v1) w1) :
    wpList Try.prog ops Q (o :: rest) a W' := by
  rw [hW]
  exact Kd.R_append (P := Try.prog) (ops := ops) (o := o) (a := a) (Q := Q) (Kd.int .i64) (w0 := w0) (W := W) base hgd s x 22 3 (.int .i64 0) 8 ho Try.underlying22 inf3 rfl (by decide) (by omega) v xs p [.int .i64 p] ok (fun _ => False) hs hx rfl (fun _ hk => hk.elim) hfresh HO HB hbase (by omega) h
set_option maxRecDepth 100000
set_option maxHeartbeats 2000000
theorem items (w : World) (g : Nat) (ring : Nat → Int) (fr n cap : Nat) (cl : Bool) (h : IsC w g ring fr n cap cl) :
    Calls Try.prog 13 #[P g] w fun e w' => ∃ v, e = .returned v ∧ Own w.heap.size (fun _ => True) w' v (itemsOf ring fr n) ∧ Below w.heap.size w w' := by
  have hlt : fr < 64 := h.lt
  have hle : cap ≤ 64 := h.lc
  have hnc := h.ln
  have hgs := h.lt_size
  have H := Aside0.mk h
  clear h
  have HB := Aside0.mk (Below.refl w.heap.size w)
  go_enter Try.func13, Try.ntmps13
  go_wp2
  go_loopg [3, 4] n (fun kq v3 v4 w' => ∃ i : Nat, kq + i = n ∧ v4 = .int .i64 (i : Int) ∧ Aside0 (Own w.heap.size (fun _ => True) w' v3 (itemsOf ring fr i)) ∧ Aside0 (Below w.heap.size w w'))
  case atStart => exact ⟨0, rfl, rfl, ⟨Kd.R_nil _ _ _ _ _⟩, HB⟩
  case round =>
    obtain ⟨i, hi, rfl, HO, HB⟩ := hrel
    have hC := H.out.keep (HB.out.block g hgs)
    obtain ⟨hr, h64, h65, h66, h67, hf⟩ := hC.cells
    obtain ⟨q, hq⟩ : ∃ q, (fr + i) % 64 = q := ⟨_, rfl⟩
    have hq64 : q < 64 := by omega
    have hrk := hr q hq64
    have HQ := Aside0.mk hq
    clear hC hr
    by_cases c : i < n
    · have c0 : decide ((i : Int) < (n : Int)) = true := decide_eq_true (by omega)
      obtain ⟨k1, rfl⟩ : ∃ k1, gk = k1 + 1 := ⟨gk - 1, by omega⟩
      have hwr : IntKind.i64.wrap ((fr : Int) + (i : Int)) = (fr : Int) + (i : Int) := by rw [i64_w]; unfold Go.RowKit.wrap64; omega
      have hmod : (IntKind.i64.wrap ((fr : Int) + (i : Int))).tmod 64 = (q : Int) := by rw [hwr, Int.tmod_eq_emod_of_nonneg (by omega)]; omega
      have hq0 : (0 : Int) ≤ (q : Int) := by omega
      have hq1 : (q : Int) < 64 := by omega
      have hqt : ((q : Int)).toNat = q := by omega
      clear c hwr hq
      have n0 := below_size HB.out
      go_wp2
      go_region_law (refine stepInts (w0 := w) (W := wr.drew) rfl w.heap.size (.tmp 17) (.tmp 30) rfl u3 (itemsOf ring fr i) (ring q) (fun _ => True) rfl rfl rfl (fun _ _ => trivial) HO.out ⟨HB.out.os, HB.out.tape, HB.out.output, HB.out.size, HB.out.block⟩ n0 (by rw [itemsOf_len]; omega) ?_; intro v1 w1 ho hb hg hat; have HO1 := Aside0.mk ho; have HB1 := Aside0.mk hb; clear ho hb hg hat)
      go_wp2
      go_roundg k1
      case measure => omega
      case rel => exact ⟨i + 1, by omega, by first | rfl | (simp; done), ⟨by rw [itemsOf, HQ.out]; exact HO1.out⟩, HB1⟩
    · have c0 : decide ((i : Int) < (n : Int)) = false := decide_eq_false (by omega)
      obtain rfl : i = n := by omega
      go_wp2
      go_ret
      exact ⟨_, rfl, HO.out, HB.out⟩
end Go.Proofs.Ytickgiheembcjaa.Ch
