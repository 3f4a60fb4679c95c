import Derived.Test.YtickgiheembcjaaCh2
/- awake, by hand. -/
namespace Go.Proofs.Ytickgiheembcjaa.Ch
open Go.RowKit Go.Proofs.YtickgiheembcjaaW.PrintWords Go.Proofs.YtickgiheembcjaaW.PrintLast Go.Proofs.YtickgiheembcjaaW.PrintMore
set_option linter.unusedVariables false
set_option linter.unusedSimpArgs false
set_option maxRecDepth 100000
set_option maxHeartbeats 2000000
theorem below_g {B g : Nat} {w0 w w' : World} (h : Below B w0 w) (hB : B ≤ w.heap.size) (hg : w.grownBy w' (some g)) (hle : B ≤ g) : Below B w0 w' :=
  h.grown hg hB (fun k e => by cases e; exact hle)
theorem below_n {B : Nat} {w0 w w' : World} (h : Below B w0 w) (hB : B ≤ w.heap.size) (hg : w.grownBy w' none) : Below B w0 w' :=
  h.grown hg hB (fun k e => by cases e)
theorem below_0 {B : Nat} {w0 w w' : World} (h : Below B w0 w) (hd : Drawn0 w w') : Below B w0 w' := by
  obtain ⟨n, rfl⟩ := hd
  exact ⟨h.os, h.tape, h.output, h.size, h.block⟩
theorem new' (w : World) (C : Int) (c : Nat) (hC : C = (c : Int)) (h1 : 1 ≤ c) (h2 : c ≤ 64) : Calls Try.prog 6 #[.int .i64 C] w fun e w' => ∃ g, e = .returned (.tuple #[P g, .int .i64 0]) ∧ IsC w' g (fun _ => 0) 0 0 c false ∧ w.grownBy w' none ∧ w.heap.size ≤ g := by
  subst hC
  exact newGood w c h1 h2
theorem awake (w : World) : Calls Try.prog 8 #[] w fun e w' => e = .returned (.bool true) ∧ Below w.heap.size w w' := by
  have HN := Aside0.mk (new' w 1 1 rfl (by omega) (by omega))
  go_enter Try.func8, Try.ntmps8
  go_wp2_with (go_at_call 6; (with_reducible refine (HN.out).mono ?_); rintro e w1 ⟨g, rfl, hC, hg, hle⟩; have HC := Aside0.mk hC; have HB := Aside0.mk (below_n (Below.refl w.heap.size w) (Nat.le_refl _) hg); have HL := Aside0.mk hle; clear hC hg hle HN)
  have HS := Aside0.mk (send w1 g _ _ _ _ HC.out (by omega) 5)
  go_wp2_with (go_at_call 10; (with_reducible refine (HS.out).mono ?_); rintro e w2 ⟨rfl, hC, hg⟩; have HB2 := Aside0.mk (below_g HB.out (below_size HB.out) hg HL.out); clear HC HB HS; have HC := Aside0.mk hC; have HB := HB2; clear HB2 hC hg)
  have HS := Aside0.mk (canSendB w2 g _ _ _ _ _ false HC.out (by simp))
  go_wp2_with (go_at_call 9; (with_reducible refine (HS.out).mono ?_); rintro e w3 ⟨rfl, hd⟩; have HB2 := Aside0.mk (below_0 HB.out hd); have HC2 := Aside0.mk (HC.out.grown (grown0 hd none) (by simp)); clear HC HB HS; have HC := HC2; have HB := HB2; clear HB2 HC2 hd)
  have HS := Aside0.mk (receive w3 g _ _ _ _ _ HC.out (by omega))
  go_wp2_with (go_at_call 12; (with_reducible refine (HS.out).mono ?_); rintro e w4 ⟨rfl, hC, hg⟩; have HB2 := Aside0.mk (below_g HB.out (below_size HB.out) hg HL.out); clear HC HB HS; have HC := Aside0.mk hC; have HB := HB2; clear HB2 hC hg)
  go_ret
  exact ⟨by first | rfl | (simp [put]; done), HB.out⟩
end Go.Proofs.Ytickgiheembcjaa.Ch
