import Derived.Test.YtccgcljkgjboaaaR3
import Derived.Lib.SlBytesConst
import Derived.Deep.CutBlock
/- awake, by hand. -/
namespace Go.Proofs.Ytccgcljkgjboaaa.Rg
open Go.RowKit Go.Proofs.YtccgcljkgjboaaaW.PrintWords Go.Proofs.YtccgcljkgjboaaaW.PrintLast Go.Proofs.YtccgcljkgjboaaaW.PrintMore
set_option linter.unusedVariables false
set_option linter.unusedSimpArgs false
set_option maxRecDepth 100000
set_option maxHeartbeats 4000000
theorem conv31 (w : World) (C : Array Value) (n c : Nat) : (convert 31 31 (.slice (some ⟨w.heap.size, 0, none⟩) n c)).run Try.prog (w.alloc (.cells C 5)) = .ok (.slice (some ⟨w.heap.size, 0, none⟩) n c) (w.alloc (.cells C 5 (C.size, C.size + 1))) :=
  Go.Lib.run_convert_bytes_const w 31 5 C n c Try.underlying31 rfl
attribute [local go_sem] conv31
theorem reads1 (w : World) (b : Int) (fr : Nat × Nat) : ReadsInt (w.alloc (.cells #[.int .u8 b] 5 fr)) .u8 (some ⟨w.heap.size, 0, none⟩) 1 [b] := by
  have h : (w.alloc (.cells #[.int .u8 b] 5 fr)).heap[w.heap.size]? = some (.cells #[.int .u8 b] 5 fr) := by
    show (w.heap.push _)[w.heap.size]? = _
    rw [Array.getElem?_push, if_pos rfl]
  refine ⟨rfl, by omega, fun _ => ⟨_, rfl, fun j hj => ?_⟩⟩
  obtain rfl : j = 0 := by omega
  show World.cell? _ ⟨w.heap.size, 0, none⟩ = _
  unfold World.cell?
  rw [h]
  rfl
theorem RdB.fr {w w' : World} {g s cap next cr : Nat} {f : Nat → Option Res} {A : Option Addr} {l : List Int} (h : RdB w A l) (hQ : IsQ w g s cap next cr f) (hF : Fr g s w w') : RdB w' A l := by
  obtain ⟨vs, hv, _⟩ := hQ.slots
  exact h.move (fun k cur hk => hF.block k (hlt hk) (fun e => by subst e; exact absurd (type_ne hk hQ.ring) (by decide)) (fun e => by subst e; exact absurd (type_ne hk hv) (by decide)))
theorem box_fr {w w' : World} {g s cap next cr : Nat} {f : Nat → Option Res} {k : Nat} {cur : Array Value} (h : w.heap[k]? = some (.cells cur 33 (0, 0))) (hQ : IsQ w g s cap next cr f) (hF : Fr g s w w') : w'.heap[k]? = some (.cells cur 33 (0, 0)) := by
  obtain ⟨vs, hv, _⟩ := hQ.slots
  exact (hF.block k (hlt h) (fun e => by subst e; exact absurd (type_ne h hQ.ring) (by decide)) (fun e => by subst e; exact absurd (type_ne h hv) (by decide))).trans h
theorem RdB.below {w w' : World} {A : Option Addr} {l : List Int} (h : RdB w A l) (hb : Below w.heap.size w w') : RdB w' A l := h.move (fun k cur hk => hb.block k (hlt hk))
theorem conv9 {w : World} {A : Option Addr} {l : List Int} {c : Nat} (h : RdB w A l) : (convert 31 9 (.slice A l.length c)).run Try.prog w = .ok (.string (strOfNums l)) w :=
  Kd.C_string Try.underlying31 rfl rfl (Kd.C_of_reads (d := (0 : Int)) (h1 := fun _ => rfl) h.1)
theorem awake (w : World) : Calls Try.prog 9 #[] w fun e w' => e = .returned (.bool true) ∧ Below w.heap.size w w' := by
  have HN := Aside0.mk (new_ w 2 2 rfl (by omega) (by omega))
  go_enter Try.func9, Try.ntmps9
  go_wp2_with (go_at_call 8; (with_reducible refine (HN.out).mono ?_); rintro e w1 ⟨g, s, rfl, hQ, hB, hg, hs⟩; have HQ := Aside0.mk hQ; have HB := Aside0.mk hB; have HL := Aside0.mk (And.intro hg hs); clear HN hQ hB hg hs)
  have hB := HB.out.alloc HB.out.size (.cells #[.int .u8 120] 5 (1, 2))
  have HP := Aside0.mk (put_ _ g s 2 1 2 _ (HQ.out.below ((Below.refl w1.heap.size w1).alloc (Nat.le_refl _) (.cells #[.int .u8 120] 5 (1, 2)))) 2 2 rfl (by omega) (by omega) rfl (some ⟨w1.heap.size, 0, none⟩) 1 1 ⟨[120], 0, 0⟩ (reads1 w1 120 (1, 2)) (by intro e; cases e) (by omega))
  have HB' := Aside0.mk hB
  clear HQ HB hB
  go_wp2_with (go_at_call 11; refine (HP.out).mono ?_; rintro e w2 ⟨rfl, hQ, hF⟩; have HQ := Aside0.mk hQ; have HB := Aside0.mk (hF.below HB'.out HL.out.1 HL.out.2 HB'.out.size); clear HP HB' hQ hF)
  have HP := Aside0.mk (ready _ g s 2 1 2 _ HQ.out false rfl)
  go_wp2_with (go_at_call 15; (with_reducible refine (HP.out).mono ?_); rintro e w3 ⟨rfl, hd⟩; have HQ2 := Aside0.mk (HQ.out.below (below0 hd)); have HB2 := Aside0.mk (below_D HB.out hd); clear HP HQ HB hd; have HQ := HQ2; have HB := HB2; clear HQ2 HB2)
  have HP := Aside0.mk (putHigh _ g s 2 1 2 _ HQ.out 3 (by decide) (by omega) (.slice none 0 0) (.int .i64 0) (.int .i64 0))
  go_upto_region 7 with (go_at_call 11; (with_reducible refine (HP.out).mono ?_); rintro e w4 ⟨rfl, hb⟩; have HQ2 := Aside0.mk (HQ.out.below hb); have HB2 := Aside0.mk (below_step HB.out hb); clear HP HQ HB hb; have HQ := HQ2; have HB := HB2; clear HQ2 HB2)
  have HP := Aside0.mk (put_ _ g s 2 1 2 _ (HQ.out.below ((Below.refl w4.heap.size w4).alloc (Nat.le_refl _) (.cells #[.int .u8 122] 5 (1, 2)))) 1 1 rfl (by omega) (by omega) rfl (some ⟨w4.heap.size, 0, none⟩) 1 1 ⟨[122], 0, 0⟩ (reads1 w4 122 (1, 2)) (by intro e; cases e) (by omega))
  have HB' := Aside0.mk (HB.out.alloc HB.out.size (.cells #[.int .u8 122] 5 (1, 2)))
  clear HQ HB
  go_wp2_with (go_at_call 11; refine (HP.out).mono ?_; rintro e w5 ⟨rfl, hQ, hF⟩; have HQ := Aside0.mk hQ; have HB := Aside0.mk (hF.below HB'.out HL.out.1 HL.out.2 HB'.out.size); clear HP HB' hQ hF)
  have HP := Aside0.mk (take_ _ g s 2 1 2 _ HQ.out ⟨[122], 0, 0⟩ rfl (by omega))
  go_upto_region 9 with (go_at_call 16; refine (HP.out).mono ?_; rintro e w6 ⟨A6, c6, rfl, hc6, hr6, hQ, hF⟩; have HQ := Aside0.mk hQ; have HR6 := Aside0.mk (And.intro hc6 hr6); have HB2 := Aside0.mk (hF.below HB.out HL.out.1 HL.out.2 HB.out.size); clear HP HB hQ hF hc6 hr6; have HB := HB2; clear HB2)
  have ha := (Below.refl w6.heap.size w6).alloc (Nat.le_refl _) (.cells #[.slice A6 1 c6, .int .i64 0, .int .i64 0] 33)
  have hQ7 := HQ.out.below ha
  have HP := Aside0.mk (take_ _ g s 2 (1 + 1) (min (2 + 1) 2) _ hQ7 ⟨[120], 0, 0⟩ rfl (by omega))
  have HR7 := Aside0.mk (HR6.out.2.below ha)
  have HX7 := Aside0.mk (heap_alloc_new w6 (.cells #[.slice A6 1 c6, .int .i64 0, .int .i64 0] 33))
  have HB2 := Aside0.mk (HB.out.alloc HB.out.size (.cells #[.slice A6 1 c6, .int .i64 0, .int .i64 0] 33))
  have HQ7 := Aside0.mk hQ7
  clear HQ HB ha hQ7
  go_upto_region 10 with (go_at_call 16; refine (HP.out).mono ?_; rintro e w8 ⟨A8, c8, rfl, hc8, hr8, hQ, hF⟩; have HQ := Aside0.mk hQ; have HR8 := Aside0.mk hr8; have HR9 := Aside0.mk (HR7.out.fr HQ7.out hF); have HX9 := Aside0.mk (box_fr HX7.out HQ7.out hF); have HB := Aside0.mk (hF.below HB2.out HL.out.1 HL.out.2 HB2.out.size); clear HP HB2 hQ hF hc8 hr8 HQ7 HR7 HX7)
  obtain ⟨W, hW⟩ : ∃ W, w8.alloc (.cells #[.slice A8 1 c8, .int .i64 0, .int .i64 0] 33) = W := ⟨_, rfl⟩
  have ha : Below w8.heap.size w8 W := by rw [← hW]; exact (Below.refl w8.heap.size w8).alloc (Nat.le_refl _) _
  have hx1 : W.heap[w6.heap.size]? = some (.cells #[.slice A6 1 c6, .int .i64 0, .int .i64 0] 33 (0, 0)) := (ha.block _ (hlt HX9.out)).trans HX9.out
  have hx2 : W.heap[w8.heap.size]? = some (.cells #[.slice A8 1 c8, .int .i64 0, .int .i64 0] 33 (0, 0)) := by rw [← hW]; exact heap_alloc_new w8 _
  have s1 : (convert 31 9 (.slice A6 1 c6)).run Try.prog W = .ok (.string ⟨#[122]⟩) W := conv9 (l := [122]) (HR9.out.below ha)
  have s2 : (convert 31 9 (.slice A8 1 c8)).run Try.prog W = .ok (.string ⟨#[120]⟩) W := conv9 (l := [120]) (HR8.out.below ha)
  have HP := Aside0.mk (next_ W g s _ _ _ _ (HQ.out.below ha))
  have HB2 := Aside0.mk (below_step HB.out ha)
  obtain ⟨u0, u1, u2, uf⟩ := cells3 hx1
  obtain ⟨v0, v1, v2, vf⟩ := cells3 hx2
  rw [hW]
  clear hW ha hx1 hx2 HR8 HR9 HX9 HQ HB HR6
  go_wp2_with (go_at_call 17; refine (HP.out).mono ?_; rintro e w9 ⟨rfl, hd⟩; have HB3 := Aside0.mk (below_D HB2.out hd); clear hd HP HB2)
  go_ret
  exact ⟨rfl, HB3.out⟩
end Go.Proofs.Ytccgcljkgjboaaa.Rg
