import Derived.Test.YtccgcljkgjboaaaR11
import Derived.Deep.CutBlock
/- Put of the reference's ring, by hand. -/
namespace Go.Proofs.Ytccgcljkgjboaaa.Rg
open Go.RowKit Go.Proofs.YtccgcljkgjboaaaW.PrintWords Go.Proofs.YtccgcljkgjboaaaW.PrintLast Go.Proofs.YtccgcljkgjboaaaW.PrintMore
set_option linter.unusedVariables false
set_option linter.unusedSimpArgs false
set_option maxRecDepth 100000
set_option maxHeartbeats 4000000
theorem rPutLow (w : World) (h cap next cr : Nat) (ns : List Int) (xs : List Res) (hR : IsR w h cap next cr ns xs) (m : Int) (hm : m < next) (o st rc : Value) :
    Calls Try.prog 12 #[P h, .int .i64 m, .agg #[o, st, rc]] w fun e w' => e = .returned (.int .i64 3) ∧ Below w.heap.size w w' := by
  have hA : Below w.heap.size w (w.alloc (.cells #[o, st, rc] 33)) := (Below.refl w.heap.size w).alloc (Nat.le_refl _) _
  obtain ⟨A, c, B, d, hk, _⟩ := hR.below hA
  obtain ⟨h0, h1, h2, h3, h4, hf⟩ := cells5 hk
  have c0 : decide (m < (next : Int)) = true := decide_eq_true hm
  have H := Aside0.mk hA
  clear hR hA hm hk
  go_enter Try.func12, Try.ntmps12
  go_wp2
  repeat (go_quiet (fail); try go_wp2)
  go_ret
  exact ⟨by first | rfl | (simp; done) | (simp [*]; done), ⟨H.out.os, H.out.tape, H.out.output, H.out.size, H.out.block⟩⟩
theorem rPutHigh (w : World) (h cap next cr : Nat) (ns : List Int) (xs : List Res) (hR : IsR w h cap next cr ns xs) (hn : next ≤ 1000000) (m : Int) (hm : (next : Int) + cap ≤ m) (hmx : m ≤ 9223372036854775807) (o st rc : Value) :
    Calls Try.prog 12 #[P h, .int .i64 m, .agg #[o, st, rc]] w fun e w' => e = .returned (.int .i64 3) ∧ Below w.heap.size w w' := by
  have hA : Below w.heap.size w (w.alloc (.cells #[o, st, rc] 33)) := (Below.refl w.heap.size w).alloc (Nat.le_refl _) _
  obtain ⟨A, c, B, d, hk, _⟩ := hR.below hA
  obtain ⟨h0, h1, h2, h3, h4, hf⟩ := cells5 hk
  have c0 : decide (m < (next : Int)) = false := decide_eq_false (by omega)
  have hs : IntKind.i64.wrap (m - (next : Int)) = m - (next : Int) := by rw [i64_w]; unfold Go.RowKit.wrap64; omega
  have c1 : decide (m - (next : Int) ≥ (cap : Int)) = true := decide_eq_true (by omega)
  have c2 : decide ((cap : Int) ≤ m - (next : Int)) = true := c1
  have H := Aside0.mk hA
  clear hR hA hm hk
  go_enter Try.func12, Try.ntmps12
  go_wp2
  repeat (go_quiet (fail); try go_wp2)
  go_ret
  exact ⟨by first | rfl | (simp; done) | (simp [*]; done), ⟨H.out.os, H.out.tape, H.out.output, H.out.size, H.out.block⟩⟩
theorem rPutTaken (w : World) (h cap next cr : Nat) (ns : List Int) (xs : List Res) (hR : IsR w h cap next cr ns xs) (hn : next ≤ 1000000) (hcap : cap ≤ 64) (M : Int) (hm1 : (next : Int) ≤ M) (hm2 : M < next + cap) (hl : ns.length ≤ 1000) (hi : M ∈ ns) (o st rc : Value) :
    Calls Try.prog 12 #[P h, .int .i64 M, .agg #[o, st, rc]] w fun e w' => e = .returned (.int .i64 11) ∧ Below w.heap.size w w' := by
  have hA : Below w.heap.size w (w.alloc (.cells #[o, st, rc] 33)) := (Below.refl w.heap.size w).alloc (Nat.le_refl _) _
  have HP := Aside0.mk (fun n => rAt (World.drewN _ n) h cap next cr ns xs ((hR.below hA).below (below0 (w' := World.drewN _ n) ⟨n, rfl⟩)) M hl)
  obtain ⟨A, c, B, d, hk, _⟩ := hR.below hA
  obtain ⟨h0, h1, h2, h3, h4, hf⟩ := cells5 hk
  have c0 : decide (M < (next : Int)) = false := decide_eq_false (by omega)
  have hs : IntKind.i64.wrap (M - (next : Int)) = M - (next : Int) := by rw [i64_w]; unfold Go.RowKit.wrap64; omega
  have c1 : decide (M - (next : Int) ≥ (cap : Int)) = false := decide_eq_false (by omega)
  have c2 : decide ((cap : Int) ≤ M - (next : Int)) = false := c1
  have H := Aside0.mk hA
  have HI := Aside0.mk hi
  clear hR hA hk hi hm1 hm2
  go_enter Try.func12, Try.ntmps12
  go_wp2
  repeat (go_quiet (fail); try go_wp2_with (go_at_call 26; (with_reducible refine (HP.out _).mono ?_); rintro e w_ ⟨⟨r, rfl, hr⟩, ⟨nd, rfl⟩⟩; have hr0 : decide (0 ≤ r) = true := (by rcases hr with ⟨_, h⟩ | ⟨h, _⟩; exact h; exact absurd HI.out h); have hr1 : decide (r ≥ 0) = true := hr0; clear hr))
  go_ret
  exact ⟨by first | rfl | (simp; done) | (simp [*]; done), ⟨H.out.os, H.out.tape, H.out.output, H.out.size, H.out.block⟩⟩
end Go.Proofs.Ytccgcljkgjboaaa.Rg
