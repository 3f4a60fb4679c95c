import Derived.Test.YtccgcljkgjboaaaR4
import Derived.Deep.LoopGhost
import Derived.Deep.CutBlock
/- Held, by hand. -/
namespace Go.Proofs.Ytccgcljkgjboaaa.Rg
open Go.RowKit Go.Proofs.YtccgcljkgjboaaaW.PrintWords Go.Proofs.YtccgcljkgjboaaaW.PrintLast Go.Proofs.YtccgcljkgjboaaaW.PrintMore
set_option linter.unusedVariables false
set_option linter.unusedSimpArgs false
set_option maxRecDepth 100000
set_option maxHeartbeats 4000000
theorem inf3 : (Try.prog.info? 3).map (fun i => (i.zero, i.size, i.bytes)) = some (some (.int .i64 0), 1, 8) := by kernel_rfl
abbrev Own (B : Nat) (ok : Nat → Prop) (w : World) (v : Value) (l : List Int) : Prop := Kd.R (Kd.int .i64) 3 w B ok v l
theorem listInts {ops : Array Oper} {rest : List Oper} {o : Oper} {a : Act} {Q : Exit → Act → World → Prop} {w0 W W' : World} (hgd : o.guard = none) (base : Nat) (s x : Operand)
    (ho : o.op = .call { callee := .builtin .append, args := #[s, x], argTypes := #[22, 22] }) (v : Value) (xs : List Int) (p : Int) (ok : Nat → Prop) (hs : a.eval s = v) (hW : W' = W.alloc (.cells #[.int .i64 p] 3))
    (hx : a.eval x = .slice (some ⟨W.heap.size, 0, none⟩) 1 1) (hfresh : ∀ k, W.heap.size ≤ k → ok k) (HO : Own base ok W v xs) (HB : Below base w0 W) (hbase : base ≤ W.heap.size) (hl : xs.length + 1 ≤ 17592186044416)
    (h : ∀ v1 w1, Own base ok w1 v1 (xs ++ [p]) → Below base w0 w1 → W.grownBy w1 v.ownBlock → (v1.ownBlock = v.ownBlock ∨ ∃ b, v1.ownBlock = some b ∧ W.heap.size ≤ b) → wpList Try.prog ops Q rest (a.put o.dst v1) w1) :
    wpList Try.prog ops Q (o :: rest) a W' := by
  rw [hW]
  exact Kd.R_append (P := Try.prog) (ops := ops) (o := o) (a := a) (Q := Q) (Kd.int .i64) (w0 := w0) (W := W) base hgd s x 22 3 (.int .i64 0) 8 ho Try.underlying22 inf3 rfl (by decide) (by omega) v xs p [.int .i64 p] ok (fun _ => False) hs hx rfl (fun _ hk => hk.elim) hfresh HO HB hbase (by omega) h
def heldOf (f : Nat → Option Res) (next cap : Nat) : Nat → List Int
  | 0 => []
  | i + 1 => if (f ((next + i) % cap)).isSome then heldOf f next cap i ++ [((next + i : Nat) : Int)] else heldOf f next cap i
theorem heldOf_le (f : Nat → Option Res) (next cap : Nat) : ∀ i, (heldOf f next cap i).length ≤ i
  | 0 => Nat.le_refl _
  | i + 1 => by
    have h := heldOf_le f next cap i
    rw [heldOf]
    split
    · rw [List.length_append]; simp; omega
    · omega
theorem held (w : World) (g s cap next cr : Nat) (f : Nat → Option Res) (h : IsQ w g s cap next cr f) :
    Calls Try.prog 14 #[P g] w fun e w' => ∃ v, e = .returned v ∧ Own w.heap.size (fun _ => True) w' v (heldOf f next cap cap) ∧ Below w.heap.size w w' := by
  have H := Aside0.mk h
  have hc1 := h.c1
  have hc2 := h.c2
  have hn2 := h.n2
  have HB := Aside0.mk (Below.refl w.heap.size w)
  clear h
  go_enter Try.func14, Try.ntmps14
  go_wp2
  go_loopg [3, 4] cap (fun kq v3 v4 w' => ∃ i : Nat, kq + i = cap ∧ v4 = .int .i64 (i : Int) ∧ Aside0 (Own w.heap.size (fun _ => True) w' v3 (heldOf f next cap i)) ∧ Aside0 (Below w.heap.size w w'))
  case atStart => exact ⟨0, by omega, rfl, ⟨Kd.R_nil _ _ _ _ _⟩, HB⟩
  case round =>
    clear HB
    obtain ⟨i, hi, rfl, HO, HB⟩ := hrel
    obtain ⟨k0, k1, k2, kf⟩ := cells3 (H.out.below HB.out).ring
    by_cases c : i < cap
    · have c0 : decide ((i : Int) < (cap : Int)) = true := decide_eq_true (by omega)
      obtain ⟨j1, rfl⟩ : ∃ j1, gk = j1 + 1 := ⟨gk - 1, by omega⟩
      obtain ⟨M, hM⟩ : ∃ M : Int, (next : Int) + (i : Int) = M := ⟨_, rfl⟩
      have hql : (next + i) % cap < cap := Nat.mod_lt _ (by omega)
      obtain ⟨q, hq⟩ : ∃ q, (next + i) % cap = q := ⟨_, rfl⟩
      rw [hq] at hql
      have hMm : M = ((next + i : Nat) : Int) := by omega
      have HS := Aside0.mk (fun W (hb : Below w.heap.size w W) => slotM W g s cap next cr f (H.out.below hb) M (next + i) q hMm (by omega) hq)
      have HQ := Aside0.mk (And.intro hq (And.intro hql hMm))
      clear c hq hql hMm
      cases hfq : f q with
      | none =>
        have HFq := Aside0.mk hfq
        clear hfq
        go_wp2_with (go_at_call 24; (with_reducible refine (HS.out _ HB.out).mono ?_); rintro e w_ ⟨rfl, hd⟩; have HB2 := Aside0.mk (below_D HB.out hd); have HO2 := Aside0.mk (Kd.R_grown HO.out (grown0 hd none) (fun k hk e => by cases e)); clear HB HO hd; have HB := HB2; have HO := HO2; clear HB2 HO2; obtain ⟨hsl, hfs⟩ := (H.out.below HB.out).empty q HQ.out.2.1 HFq.out)
        go_roundg j1
        case measure => omega
        case rel => exact ⟨i + 1, by omega, by first | rfl | (congr 1; unfold wrap64; omega), ⟨by rw [heldOf, HQ.out.1, HFq.out]; exact HO.out⟩, HB⟩
      | some x =>
        have HFq := Aside0.mk hfq
        clear hfq
        go_wp2_with (first | (go_at_call 24; (with_reducible refine (HS.out _ HB.out).mono ?_); rintro e w_ ⟨rfl, hd⟩; have HB2 := Aside0.mk (below_D HB.out hd); have HO2 := Aside0.mk (Kd.R_grown HO.out (grown0 hd none) (fun k hk e => by cases e)); clear HB HO hd; have HB := HB2; have HO := HO2; clear HB2 HO2; have hs2 := (H.out.below HB.out).slot q HQ.out.2.1; obtain ⟨bb, y, e, hsl, hxx⟩ := slot_some hs2.1 HFq.out; have hfs := hs2.2; clear hs2 e hxx; obtain ⟨k0, k1, k2, kf⟩ := cells3 (H.out.below HB.out).ring) | (at_builtin; refine listInts (w0 := w) rfl w.heap.size (.tmp 29) (.tmp 36) rfl u3 (heldOf f next cap i) M (fun _ => True) rfl rfl rfl (fun _ _ => trivial) HO.out HB.out (below_size HB.out) (by have := heldOf_le f next cap i; omega) ?_; intro v1 w1 ho hb hg hat; have HO2 := Aside0.mk ho; have HB2 := Aside0.mk hb; clear ho hb hg hat HO HB; have HO := HO2; have HB := HB2; clear HO2 HB2))
        go_roundg j1
        case measure => omega
        case rel => exact ⟨i + 1, by omega, by first | rfl | (congr 1; unfold wrap64; omega), ⟨by rw [heldOf, HQ.out.1, HFq.out]; have h := HO.out; rw [HQ.out.2.2] at h; exact h⟩, HB⟩
    · obtain rfl : i = cap := by omega
      go_wp2
      go_ret
      exact ⟨_, rfl, HO.out, HB.out⟩
end Go.Proofs.Ytccgcljkgjboaaa.Rg
