/- The walk of the law ValueCompare, by hand. -/
import Derived.Test.YtgpjkojnmeaoiaaKD
import Derived.Test.YtgpjkojnmeaoiaaKB
/- Compare and Equal are as specified for arbitrary values: the walk of the law, by hand. -/
namespace Go.Proofs.Ytgpjkojnmeaoiaa.QV
open Go Go.RowKit Go.Proofs.YtgpjkojnmeaoiaaW.PrintWords Go.Proofs.YtgpjkojnmeaoiaaW.PrintLast Go.Proofs.YtgpjkojnmeaoiaaW.PrintMore
set_option linter.unusedVariables false
set_option linter.unusedSimpArgs false
set_option maxRecDepth 100000
set_option maxHeartbeats 4000000
theorem law_compare (x y : S28) (w : World) {A3 : Option Addr} {c3 : Nat} {A4 : Option Addr} {c4 : Nat} {B3 : Option Addr} {d3 : Nat} {B4 : Option Addr} {d4 : Nat} (hx : Wv x) (hy : Wv y) (hr : Rd w A3 c3 A4 c4 x) (hr2 : Rd w B3 d3 B4 d4 y) :
    Calls Try.prog 8 #[.agg #[.int .i64 x.f0, .int .i64 x.f1, .string x.f2, .slice A3 x.f3.length c3, .slice A4 x.f4.length c4], .agg #[.int .i64 y.f0, .int .i64 y.f1, .string y.f2, .slice B3 y.f3.length d3, .slice B4 y.f4.length d4]] w fun e w' => e = .returned (.bool true) ∧ Below w.heap.size w w' := by
  obtain ⟨hB1, hB2, hb⟩ := box2 hr hr2
  obtain ⟨p0, p1, p2, p3, p4⟩ := hB1.cells
  obtain ⟨q0, q1, q2, q3, q4⟩ := hB2.cells
  have hs := twoLit ((w.alloc (.cells #[.int .i64 x.f0, .int .i64 x.f1, .string x.f2, .slice A3 x.f3.length c3, .slice A4 x.f4.length c4] 28)).alloc (.cells #[.int .i64 y.f0, .int .i64 y.f1, .string y.f2, .slice B3 y.f3.length d3, .slice B4 y.f4.length d4] 28)) (hr.below hb) (hr2.below hb)
  rw [show ((w.alloc (.cells #[.int .i64 x.f0, .int .i64 x.f1, .string x.f2, .slice A3 x.f3.length c3, .slice A4 x.f4.length c4] 28)).alloc (.cells #[.int .i64 y.f0, .int .i64 y.f1, .string y.f2, .slice B3 y.f3.length d3, .slice B4 y.f4.length d4] 28)).heap.size = w.heap.size + 2 from by simp] at hs
  have hb2 := new_below ((w.alloc (.cells #[.int .i64 x.f0, .int .i64 x.f1, .string x.f2, .slice A3 x.f3.length c3, .slice A4 x.f4.length c4] 28)).alloc (.cells #[.int .i64 y.f0, .int .i64 y.f1, .string y.f2, .slice B3 y.f3.length d3, .slice B4 y.f4.length d4] 28)) (.cells (#[.int .i64 x.f0, .int .i64 x.f1, .string x.f2, .slice A3 x.f3.length c3, .slice A4 x.f4.length c4, .int .i64 y.f0, .int .i64 y.f1, .string y.f2, .slice B3 y.f3.length d3, .slice B4 y.f4.length d4]) 28)
  have hq : Calls Try.prog 11 #[.int .i64 200, .slice (some ⟨w.heap.size + 2, 0, none⟩) 2 2] (((w.alloc (.cells #[.int .i64 x.f0, .int .i64 x.f1, .string x.f2, .slice A3 x.f3.length c3, .slice A4 x.f4.length c4] 28)).alloc (.cells #[.int .i64 y.f0, .int .i64 y.f1, .string y.f2, .slice B3 y.f3.length d3, .slice B4 y.f4.length d4] 28)).alloc (.cells (#[.int .i64 x.f0, .int .i64 x.f1, .string x.f2, .slice A3 x.f3.length c3, .slice A4 x.f4.length c4, .int .i64 y.f0, .int .i64 y.f1, .string y.f2, .slice B3 y.f3.length d3, .slice B4 y.f4.length d4]) 28)) _ := smallC 200 [x, y] _ (c := 2) (by decide) (by decide) hs (by simpa using ⟨hx, hy⟩) (by simp)
  obtain ⟨W, hW⟩ : ∃ W, ((w.alloc (.cells #[.int .i64 x.f0, .int .i64 x.f1, .string x.f2, .slice A3 x.f3.length c3, .slice A4 x.f4.length c4] 28)).alloc (.cells #[.int .i64 y.f0, .int .i64 y.f1, .string y.f2, .slice B3 y.f3.length d3, .slice B4 y.f4.length d4] 28)).alloc (.cells (#[.int .i64 x.f0, .int .i64 x.f1, .string x.f2, .slice A3 x.f3.length c3, .slice A4 x.f4.length c4, .int .i64 y.f0, .int .i64 y.f1, .string y.f2, .slice B3 y.f3.length d3, .slice B4 y.f4.length d4]) 28) = W := ⟨_, rfl⟩
  have HB := Aside0.mk (below_step hb hb2)
  have HV := Aside0.mk (And.intro (hB1.below hb2) (hB2.below hb2))
  have HWe := Aside0.mk hW
  rw [hW] at hq HB HV
  have HQ := Aside0.mk hq
  obtain ⟨sm, hsm⟩ : ∃ s, (decide ((cnt x : Int) ≤ 200) && decide ((cnt y : Int) ≤ 200)) = s := ⟨_, rfl⟩
  simp only [List.all_cons, List.all_nil, Bool.and_true] at HQ
  rw [hsm] at HQ
  have HX := Aside0.mk (And.intro hx hy)
  have HSm := Aside0.mk hsm
  clear hx hy hr hr2 hsm hs hb hb2 hB1 hB2 hW hq
  cases sm with
  | false =>
    go_enter Try.func8, Try.ntmps8
    go_wp2_with (first | ((rw [HWe.out]); (go_at_call 11); (with_reducible refine HQ.out.mono ?_); rintro e we ⟨rfl, hb⟩; have HW2 := Aside0.mk (below_step HB.out hb); clear hb) | (go_at_call 12; (with_reducible refine (awakeC _).mono ?_); rintro e we2 ⟨rfl, hb⟩; have Hb := Aside0.mk hb; clear hb))
    go_ret
    exact ⟨rfl, below_step HW2.out Hb.out⟩
  | true =>
    go_enter Try.func8, Try.ntmps8
    go_upto_region 3 with (first | ((rw [HWe.out]); (go_at_call 11); (with_reducible refine HQ.out.mono ?_); rintro e we ⟨rfl, hb⟩; have HW2 := Aside0.mk (below_step HB.out hb); have HV2 := Aside0.mk (And.intro (HV.out.1.below hb) (HV.out.2.below hb)); clear hb))
    have hc : cnt x ≤ 200 ∧ cnt y ≤ 200 := by
      have h := HSm.out
      simp only [Bool.and_eq_true, decide_eq_true_eq] at h
      omega
    clear p0 p1 p2 p3 p4 q0 q1 q2 q3 q4 HQ HV HB HWe HSm
    have hv1 := HV2.out.1
    have hv2 := HV2.out.2
    have hD : ∀ w1, AB we.drew w1 → Below we.heap.size we w1 := fun w1 h1 => below_step (drawn_below ⟨1, rfl⟩) h1
    have HL : Aside0 (∀ w1, AB we.drew w1 → (w1.cell? ⟨w.heap.size, 0, none⟩ = some (.int .i64 x.f0) ∧ w1.cell? ⟨w.heap.size, 1, none⟩ = some (.int .i64 x.f1) ∧ w1.cell? ⟨w.heap.size, 2, none⟩ = some (.string x.f2) ∧ w1.cell? ⟨w.heap.size, 3, none⟩ = some (.slice A3 x.f3.length c3) ∧ w1.cell? ⟨w.heap.size, 4, none⟩ = some (.slice A4 x.f4.length c4)) ∧
        (w1.cell? ⟨w.heap.size + 1, 0, none⟩ = some (.int .i64 y.f0) ∧ w1.cell? ⟨w.heap.size + 1, 1, none⟩ = some (.int .i64 y.f1) ∧ w1.cell? ⟨w.heap.size + 1, 2, none⟩ = some (.string y.f2) ∧ w1.cell? ⟨w.heap.size + 1, 3, none⟩ = some (.slice B3 y.f3.length d3) ∧ w1.cell? ⟨w.heap.size + 1, 4, none⟩ = some (.slice B4 y.f4.length d4))) := ⟨fun w1 h1 => ⟨(hv1.below (hD w1 h1)).cells, (hv2.below (hD w1 h1)).cells⟩⟩
    have hR1 : ∀ w1, AB we.drew w1 → Rd w1 A3 c3 A4 c4 x := fun w1 h1 => hv1.rd.below (hD w1 h1)
    have hR2 : ∀ w1, AB we.drew w1 → Rd w1 B3 d3 B4 d4 y := fun w1 h1 => hv2.rd.below (hD w1 h1)
    obtain ⟨c, hcc⟩ : ∃ c, vvc x y = c := ⟨_, rfl⟩
    obtain ⟨q, hqq⟩ : ∃ q, veq x y = q := ⟨_, rfl⟩
    obtain ⟨v, hvv⟩ : ∃ v, vd x = v := ⟨_, rfl⟩
    have HC37 : Aside0 (∀ w1, AB we.drew w1 → Calls Try.prog 37 #[.agg #[.int .i64 x.f0, .int .i64 x.f1, .string x.f2, .slice A3 x.f3.length c3, .slice A4 x.f4.length c4], .agg #[.int .i64 y.f0, .int .i64 y.f1, .string y.f2, .slice B3 y.f3.length d3, .slice B4 y.f4.length d4]] w1 fun e w2 => e = .returned (.int .i64 c) ∧ AB w1 w2) := ⟨fun w1 h1 => by rw [← hcc]; exact valueCompareC x y w1 HX.out.1 HX.out.2 (by omega) (by omega) (hR1 w1 h1) (hR2 w1 h1)⟩
    have HC38 : Aside0 (∀ w1, AB we.drew w1 → Calls Try.prog 38 #[.agg #[.int .i64 x.f0, .int .i64 x.f1, .string x.f2, .slice A3 x.f3.length c3, .slice A4 x.f4.length c4], .agg #[.int .i64 y.f0, .int .i64 y.f1, .string y.f2, .slice B3 y.f3.length d3, .slice B4 y.f4.length d4]] w1 fun e w2 => e = .returned (.int .i64 c) ∧ AB w1 w2) := ⟨fun w1 h1 => by rw [← hcc]; exact refCompareC x y w1 HX.out.1 HX.out.2 (by omega) (by omega) (hR1 w1 h1) (hR2 w1 h1)⟩
    have HC39 : Aside0 (∀ w1, AB we.drew w1 → Calls Try.prog 39 #[.agg #[.int .i64 x.f0, .int .i64 x.f1, .string x.f2, .slice A3 x.f3.length c3, .slice A4 x.f4.length c4], .agg #[.int .i64 y.f0, .int .i64 y.f1, .string y.f2, .slice B3 y.f3.length d3, .slice B4 y.f4.length d4]] w1 fun e w2 => e = .returned (.bool q) ∧ AB w1 w2) := ⟨fun w1 h1 => by rw [← hqq]; exact valueEqualC x y w1 HX.out.1 HX.out.2 (by omega) (by omega) (hR1 w1 h1) (hR2 w1 h1)⟩
    have HC40 : Aside0 (∀ w1, AB we.drew w1 → Calls Try.prog 40 #[.agg #[.int .i64 x.f0, .int .i64 x.f1, .string x.f2, .slice A3 x.f3.length c3, .slice A4 x.f4.length c4], .agg #[.int .i64 y.f0, .int .i64 y.f1, .string y.f2, .slice B3 y.f3.length d3, .slice B4 y.f4.length d4]] w1 fun e w2 => e = .returned (.bool q) ∧ AB w1 w2) := ⟨fun w1 h1 => by rw [← hqq]; exact refEqualC x y w1 HX.out.1 HX.out.2 (by omega) (by omega) (hR1 w1 h1) (hR2 w1 h1)⟩
    have HC39x : Aside0 (∀ w1, AB we.drew w1 → Calls Try.prog 39 #[.agg #[.int .i64 x.f0, .int .i64 x.f1, .string x.f2, .slice A3 x.f3.length c3, .slice A4 x.f4.length c4], .agg #[.int .i64 x.f0, .int .i64 x.f1, .string x.f2, .slice A3 x.f3.length c3, .slice A4 x.f4.length c4]] w1 fun e w2 => e = .returned (.bool v) ∧ AB w1 w2) := ⟨fun w1 h1 => by rw [← hvv, ← veq_self]; exact valueEqualC x x w1 HX.out.1 HX.out.1 (by omega) (by omega) (hR1 w1 h1) (hR1 w1 h1)⟩
    have HC25 : Aside0 (∀ w1, AB we.drew w1 → Calls Try.prog 25 #[.agg #[.int .i64 x.f0, .int .i64 x.f1, .string x.f2, .slice A3 x.f3.length c3, .slice A4 x.f4.length c4]] w1 fun e w2 => e = .returned (.bool v) ∧ AB w1 w2) := ⟨fun w1 h1 => by rw [← hvv]; exact refValidC x w1 HX.out.1 (by omega) (hR1 w1 h1)⟩
    have HC12 : Aside0 (∀ w1, AB we.drew w1 → Calls Try.prog 12 #[] w1 fun e w2 => e = .returned (.bool true) ∧ AB w1 w2) := ⟨fun w1 h1 => awakeC w1⟩
    have HD := Aside0.mk hD
    clear hcc hqq hvv hR1 hR2 hv1 hv2 hD hc HV2
    · refine Go.Up.start_ preB (n := 28) (R := AB) (ds := []) #[false, false, false, false, false, false, false, false, false, false, false, false, false, false, false, false, false, false, false, false, false, false, false, false, false, false, false, false] (by kernel_rfl) rfl (by rfl) ?_
      refine Go.Up.take_ preB (i := 0) (N := some 11) (v := (.agg #[.int .i64 x.f0, .int .i64 x.f1, .string x.f2, .slice A3 x.f3.length c3, .slice A4 x.f4.length c4])) #[true, false, false, false, false, false, false, false, false, false, false, false, false, false, false, false, false, false, false, false, false, false, false, false, false, false, false, false] rfl rfl (by kernel_rfl) (fun _ _ _ h => h) (Go.Up.value_ preB rfl (fun w1 h1 => by (obtain ⟨⟨p0, p1, p2, p3, p4⟩, _⟩ := HL.out w1 h1); go_simp)) rfl ?_
      try simp only [Act.put, List.setIfInBounds_toArray, List.set_cons_zero, List.set_cons_succ]
      refine Go.Up.take_ preB (i := 1) (N := some 12) (v := (.agg #[.int .i64 y.f0, .int .i64 y.f1, .string y.f2, .slice B3 y.f3.length d3, .slice B4 y.f4.length d4])) #[true, true, false, false, false, false, false, false, false, false, false, false, false, false, false, false, false, false, false, false, false, false, false, false, false, false, false, false] rfl rfl (by kernel_rfl) (fun _ _ _ h => h) (Go.Up.value_ preB rfl (fun w1 h1 => by (obtain ⟨_, ⟨p0, p1, p2, p3, p4⟩⟩ := HL.out w1 h1); go_simp)) rfl ?_
      try simp only [Act.put, List.setIfInBounds_toArray, List.set_cons_zero, List.set_cons_succ]
      refine Go.Up.take_ preB (i := 2) (N := some 13) (v := (.int .i64 c)) #[true, true, true, false, false, false, false, false, false, false, false, false, false, false, false, false, false, false, false, false, false, false, false, false, false, false, false, false] rfl rfl (by kernel_rfl) (fun _ _ _ h => h) (Go.Up.call_ (f := 37) Try.func37 rfl rfl #[.agg #[.int .i64 x.f0, .int .i64 x.f1, .string x.f2, .slice A3 x.f3.length c3, .slice A4 x.f4.length c4], .agg #[.int .i64 y.f0, .int .i64 y.f1, .string y.f2, .slice B3 y.f3.length d3, .slice B4 y.f4.length d4]] rfl rfl (by simp [Act.eval]) (fun w1 h1 => HC37.out w1 h1)) rfl ?_
      try simp only [Act.put, List.setIfInBounds_toArray, List.set_cons_zero, List.set_cons_succ]
      refine Go.Up.take_ preB (i := 3) (N := some 14) (v := (.agg #[.int .i64 x.f0, .int .i64 x.f1, .string x.f2, .slice A3 x.f3.length c3, .slice A4 x.f4.length c4])) #[true, true, true, true, false, false, false, false, false, false, false, false, false, false, false, false, false, false, false, false, false, false, false, false, false, false, false, false] rfl rfl (by kernel_rfl) (fun _ _ _ h => h) (Go.Up.value_ preB rfl (fun w1 h1 => by (obtain ⟨⟨p0, p1, p2, p3, p4⟩, _⟩ := HL.out w1 h1); go_simp)) rfl ?_
      try simp only [Act.put, List.setIfInBounds_toArray, List.set_cons_zero, List.set_cons_succ]
      refine Go.Up.take_ preB (i := 4) (N := some 15) (v := (.agg #[.int .i64 y.f0, .int .i64 y.f1, .string y.f2, .slice B3 y.f3.length d3, .slice B4 y.f4.length d4])) #[true, true, true, true, true, false, false, false, false, false, false, false, false, false, false, false, false, false, false, false, false, false, false, false, false, false, false, false] rfl rfl (by kernel_rfl) (fun _ _ _ h => h) (Go.Up.value_ preB rfl (fun w1 h1 => by (obtain ⟨_, ⟨p0, p1, p2, p3, p4⟩⟩ := HL.out w1 h1); go_simp)) rfl ?_
      try simp only [Act.put, List.setIfInBounds_toArray, List.set_cons_zero, List.set_cons_succ]
      refine Go.Up.take_ preB (i := 5) (N := some 16) (v := (.int .i64 c)) #[true, true, true, true, true, true, false, false, false, false, false, false, false, false, false, false, false, false, false, false, false, false, false, false, false, false, false, false] rfl rfl (by kernel_rfl) (fun _ _ _ h => h) (Go.Up.call_ (f := 38) Try.func38 rfl rfl #[.agg #[.int .i64 x.f0, .int .i64 x.f1, .string x.f2, .slice A3 x.f3.length c3, .slice A4 x.f4.length c4], .agg #[.int .i64 y.f0, .int .i64 y.f1, .string y.f2, .slice B3 y.f3.length d3, .slice B4 y.f4.length d4]] rfl rfl (by simp [Act.eval]) (fun w1 h1 => HC38.out w1 h1)) rfl ?_
      try simp only [Act.put, List.setIfInBounds_toArray, List.set_cons_zero, List.set_cons_succ]
      refine Go.Up.take_ preB (i := 6) (N := some 17) (v := (.bool true)) #[true, true, true, true, true, true, true, false, false, false, false, false, false, false, false, false, false, false, false, false, false, false, false, false, false, false, false, false] rfl rfl (by kernel_rfl) (fun _ _ _ h => h) (Go.Up.value_ preB rfl (fun w1 h1 => by (skip); go_simp)) rfl ?_
      try simp only [Act.put, List.setIfInBounds_toArray, List.set_cons_zero, List.set_cons_succ]
      refine Go.Up.take_ preB (i := 7) (N := some 18) (v := (.bool true)) #[true, true, true, true, true, true, true, true, false, false, false, false, false, false, false, false, false, false, false, false, false, false, false, false, false, false, false, false] rfl rfl (by kernel_rfl) (fun _ _ _ h => h) (Go.Up.value_ preB rfl (fun w1 h1 => by (skip); go_simp)) rfl ?_
      try simp only [Act.put, List.setIfInBounds_toArray, List.set_cons_zero, List.set_cons_succ]
      refine Go.Up.take_ preB (i := 8) (N := some 19) (v := (.agg #[.int .i64 x.f0, .int .i64 x.f1, .string x.f2, .slice A3 x.f3.length c3, .slice A4 x.f4.length c4])) #[true, true, true, true, true, true, true, true, true, false, false, false, false, false, false, false, false, false, false, false, false, false, false, false, false, false, false, false] rfl rfl (by kernel_rfl) (fun _ _ _ h => h) (Go.Up.value_ preB rfl (fun w1 h1 => by (obtain ⟨⟨p0, p1, p2, p3, p4⟩, _⟩ := HL.out w1 h1); go_simp)) rfl ?_
      try simp only [Act.put, List.setIfInBounds_toArray, List.set_cons_zero, List.set_cons_succ]
      refine Go.Up.take_ preB (i := 9) (N := some 20) (v := (.agg #[.int .i64 y.f0, .int .i64 y.f1, .string y.f2, .slice B3 y.f3.length d3, .slice B4 y.f4.length d4])) #[true, true, true, true, true, true, true, true, true, true, false, false, false, false, false, false, false, false, false, false, false, false, false, false, false, false, false, false] rfl rfl (by kernel_rfl) (fun _ _ _ h => h) (Go.Up.value_ preB rfl (fun w1 h1 => by (obtain ⟨_, ⟨p0, p1, p2, p3, p4⟩⟩ := HL.out w1 h1); go_simp)) rfl ?_
      try simp only [Act.put, List.setIfInBounds_toArray, List.set_cons_zero, List.set_cons_succ]
      refine Go.Up.take_ preB (i := 10) (N := some 21) (v := (.bool q)) #[true, true, true, true, true, true, true, true, true, true, true, false, false, false, false, false, false, false, false, false, false, false, false, false, false, false, false, false] rfl rfl (by kernel_rfl) (fun _ _ _ h => h) (Go.Up.call_ (f := 39) Try.func39 rfl rfl #[.agg #[.int .i64 x.f0, .int .i64 x.f1, .string x.f2, .slice A3 x.f3.length c3, .slice A4 x.f4.length c4], .agg #[.int .i64 y.f0, .int .i64 y.f1, .string y.f2, .slice B3 y.f3.length d3, .slice B4 y.f4.length d4]] rfl rfl (by simp [Act.eval]) (fun w1 h1 => HC39.out w1 h1)) rfl ?_
      try simp only [Act.put, List.setIfInBounds_toArray, List.set_cons_zero, List.set_cons_succ]
      refine Go.Up.take_ preB (i := 11) (N := some 22) (v := (.agg #[.int .i64 x.f0, .int .i64 x.f1, .string x.f2, .slice A3 x.f3.length c3, .slice A4 x.f4.length c4])) #[true, true, true, true, true, true, true, true, true, true, true, true, false, false, false, false, false, false, false, false, false, false, false, false, false, false, false, false] rfl rfl (by kernel_rfl) (fun _ _ _ h => h) (Go.Up.value_ preB rfl (fun w1 h1 => by (obtain ⟨⟨p0, p1, p2, p3, p4⟩, _⟩ := HL.out w1 h1); go_simp)) rfl ?_
      try simp only [Act.put, List.setIfInBounds_toArray, List.set_cons_zero, List.set_cons_succ]
      refine Go.Up.take_ preB (i := 12) (N := some 23) (v := (.agg #[.int .i64 y.f0, .int .i64 y.f1, .string y.f2, .slice B3 y.f3.length d3, .slice B4 y.f4.length d4])) #[true, true, true, true, true, true, true, true, true, true, true, true, true, false, false, false, false, false, false, false, false, false, false, false, false, false, false, false] rfl rfl (by kernel_rfl) (fun _ _ _ h => h) (Go.Up.value_ preB rfl (fun w1 h1 => by (obtain ⟨_, ⟨p0, p1, p2, p3, p4⟩⟩ := HL.out w1 h1); go_simp)) rfl ?_
      try simp only [Act.put, List.setIfInBounds_toArray, List.set_cons_zero, List.set_cons_succ]
      refine Go.Up.take_ preB (i := 13) (N := some 24) (v := (.bool q)) #[true, true, true, true, true, true, true, true, true, true, true, true, true, true, false, false, false, false, false, false, false, false, false, false, false, false, false, false] rfl rfl (by kernel_rfl) (fun _ _ _ h => h) (Go.Up.call_ (f := 40) Try.func40 rfl rfl #[.agg #[.int .i64 x.f0, .int .i64 x.f1, .string x.f2, .slice A3 x.f3.length c3, .slice A4 x.f4.length c4], .agg #[.int .i64 y.f0, .int .i64 y.f1, .string y.f2, .slice B3 y.f3.length d3, .slice B4 y.f4.length d4]] rfl rfl (by simp [Act.eval]) (fun w1 h1 => HC40.out w1 h1)) rfl ?_
      try simp only [Act.put, List.setIfInBounds_toArray, List.set_cons_zero, List.set_cons_succ]
      refine Go.Up.take_ preB (i := 14) (N := some 25) (v := (.bool true)) #[true, true, true, true, true, true, true, true, true, true, true, true, true, true, true, false, false, false, false, false, false, false, false, false, false, false, false, false] rfl rfl (by kernel_rfl) (fun _ _ _ h => h) (Go.Up.value_ preB rfl (fun w1 h1 => by (skip); go_simp)) rfl ?_
      try simp only [Act.put, List.setIfInBounds_toArray, List.set_cons_zero, List.set_cons_succ]
      refine Go.Up.take_ preB (i := 15) (N := some 26) (v := (.bool true)) #[true, true, true, true, true, true, true, true, true, true, true, true, true, true, true, true, false, false, false, false, false, false, false, false, false, false, false, false] rfl rfl (by kernel_rfl) (fun _ _ _ h => h) (Go.Up.value_ preB rfl (fun w1 h1 => by (skip); go_simp)) rfl ?_
      try simp only [Act.put, List.setIfInBounds_toArray, List.set_cons_zero, List.set_cons_succ]
      refine Go.Up.take_ preB (i := 16) (N := some 27) (v := (.bool true)) #[true, true, true, true, true, true, true, true, true, true, true, true, true, true, true, true, true, false, false, false, false, false, false, false, false, false, false, false] rfl rfl (by kernel_rfl) (fun _ _ _ h => h) (Go.Up.value_ preB rfl (fun w1 h1 => by (skip); go_simp)) rfl ?_
      try simp only [Act.put, List.setIfInBounds_toArray, List.set_cons_zero, List.set_cons_succ]
      refine Go.Up.take_ preB (i := 17) (N := some 28) (v := (.agg #[.int .i64 x.f0, .int .i64 x.f1, .string x.f2, .slice A3 x.f3.length c3, .slice A4 x.f4.length c4])) #[true, true, true, true, true, true, true, true, true, true, true, true, true, true, true, true, true, true, false, false, false, false, false, false, false, false, false, false] rfl rfl (by kernel_rfl) (fun _ _ _ h => h) (Go.Up.value_ preB rfl (fun w1 h1 => by (obtain ⟨⟨p0, p1, p2, p3, p4⟩, _⟩ := HL.out w1 h1); go_simp)) rfl ?_
      try simp only [Act.put, List.setIfInBounds_toArray, List.set_cons_zero, List.set_cons_succ]
      refine Go.Up.take_ preB (i := 18) (N := some 29) (v := (.agg #[.int .i64 x.f0, .int .i64 x.f1, .string x.f2, .slice A3 x.f3.length c3, .slice A4 x.f4.length c4])) #[true, true, true, true, true, true, true, true, true, true, true, true, true, true, true, true, true, true, true, false, false, false, false, false, false, false, false, false] rfl rfl (by kernel_rfl) (fun _ _ _ h => h) (Go.Up.value_ preB rfl (fun w1 h1 => by (obtain ⟨⟨p0, p1, p2, p3, p4⟩, _⟩ := HL.out w1 h1); go_simp)) rfl ?_
      try simp only [Act.put, List.setIfInBounds_toArray, List.set_cons_zero, List.set_cons_succ]
      refine Go.Up.take_ preB (i := 19) (N := some 30) (v := (.bool v)) #[true, true, true, true, true, true, true, true, true, true, true, true, true, true, true, true, true, true, true, true, false, false, false, false, false, false, false, false] rfl rfl (by kernel_rfl) (fun _ _ _ h => h) (Go.Up.call_ (f := 39) Try.func39 rfl rfl #[.agg #[.int .i64 x.f0, .int .i64 x.f1, .string x.f2, .slice A3 x.f3.length c3, .slice A4 x.f4.length c4], .agg #[.int .i64 x.f0, .int .i64 x.f1, .string x.f2, .slice A3 x.f3.length c3, .slice A4 x.f4.length c4]] rfl rfl (by simp [Act.eval]) (fun w1 h1 => HC39x.out w1 h1)) rfl ?_
      try simp only [Act.put, List.setIfInBounds_toArray, List.set_cons_zero, List.set_cons_succ]
      refine Go.Up.take_ preB (i := 20) (N := some 31) (v := (.agg #[.int .i64 x.f0, .int .i64 x.f1, .string x.f2, .slice A3 x.f3.length c3, .slice A4 x.f4.length c4])) #[true, true, true, true, true, true, true, true, true, true, true, true, true, true, true, true, true, true, true, true, true, false, false, false, false, false, false, false] rfl rfl (by kernel_rfl) (fun _ _ _ h => h) (Go.Up.value_ preB rfl (fun w1 h1 => by (obtain ⟨⟨p0, p1, p2, p3, p4⟩, _⟩ := HL.out w1 h1); go_simp)) rfl ?_
      try simp only [Act.put, List.setIfInBounds_toArray, List.set_cons_zero, List.set_cons_succ]
      refine Go.Up.take_ preB (i := 21) (N := some 32) (v := (.bool v)) #[true, true, true, true, true, true, true, true, true, true, true, true, true, true, true, true, true, true, true, true, true, true, false, false, false, false, false, false] rfl rfl (by kernel_rfl) (fun _ _ _ h => h) (Go.Up.call_ (f := 25) Try.func25 rfl rfl #[.agg #[.int .i64 x.f0, .int .i64 x.f1, .string x.f2, .slice A3 x.f3.length c3, .slice A4 x.f4.length c4]] rfl rfl (by simp [Act.eval]) (fun w1 h1 => HC25.out w1 h1)) rfl ?_
      try simp only [Act.put, List.setIfInBounds_toArray, List.set_cons_zero, List.set_cons_succ]
      refine Go.Up.take_ preB (i := 22) (N := some 33) (v := (.bool true)) #[true, true, true, true, true, true, true, true, true, true, true, true, true, true, true, true, true, true, true, true, true, true, true, false, false, false, false, false] rfl rfl (by kernel_rfl) (fun _ _ _ h => h) (Go.Up.value_ preB rfl (fun w1 h1 => by (skip); go_simp)) rfl ?_
      try simp only [Act.put, List.setIfInBounds_toArray, List.set_cons_zero, List.set_cons_succ]
      refine Go.Up.take_ preB (i := 23) (N := some 34) (v := (.bool true)) #[true, true, true, true, true, true, true, true, true, true, true, true, true, true, true, true, true, true, true, true, true, true, true, true, false, false, false, false] rfl rfl (by kernel_rfl) (fun _ _ _ h => h) (Go.Up.value_ preB rfl (fun w1 h1 => by (skip); go_simp)) rfl ?_
      try simp only [Act.put, List.setIfInBounds_toArray, List.set_cons_zero, List.set_cons_succ]
      refine Go.Up.take_ preB (i := 24) (N := some 35) (v := (.bool true)) #[true, true, true, true, true, true, true, true, true, true, true, true, true, true, true, true, true, true, true, true, true, true, true, true, true, false, false, false] rfl rfl (by kernel_rfl) (fun _ _ _ h => h) (Go.Up.value_ preB rfl (fun w1 h1 => by (skip); go_simp)) rfl ?_
      try simp only [Act.put, List.setIfInBounds_toArray, List.set_cons_zero, List.set_cons_succ]
      refine Go.Up.take_ preB (i := 25) (N := some 36) (v := (.bool true)) #[true, true, true, true, true, true, true, true, true, true, true, true, true, true, true, true, true, true, true, true, true, true, true, true, true, true, false, false] rfl rfl (by kernel_rfl) (fun _ _ _ h => h) (Go.Up.call_ (f := 12) Try.func12 rfl rfl #[] rfl rfl (by simp [Act.eval]) (fun w1 h1 => HC12.out w1 h1)) rfl ?_
      try simp only [Act.put, List.setIfInBounds_toArray, List.set_cons_zero, List.set_cons_succ]
      refine Go.Up.take_ preB (i := 26) (N := some 37) (v := (.bool true)) #[true, true, true, true, true, true, true, true, true, true, true, true, true, true, true, true, true, true, true, true, true, true, true, true, true, true, true, false] rfl rfl (by kernel_rfl) (fun _ _ _ h => h) (Go.Up.value_ preB rfl (fun w1 h1 => by (skip); go_simp)) rfl ?_
      try simp only [Act.put, List.setIfInBounds_toArray, List.set_cons_zero, List.set_cons_succ]
      refine Go.Up.take_ preB (i := 27) (N := some 4) (v := (.bool true)) #[true, true, true, true, true, true, true, true, true, true, true, true, true, true, true, true, true, true, true, true, true, true, true, true, true, true, true, true] rfl rfl (by kernel_rfl) (fun _ _ _ h => h) (Go.Up.value_ preB rfl (fun w1 h1 => by (skip); go_simp)) rfl ?_
      try simp only [Act.put, List.setIfInBounds_toArray, List.set_cons_zero, List.set_cons_succ]
      refine Go.Up.done_ preB (by kernel_rfl) ?_
      intro w1 h1
      have HF : Aside0 (Below w.heap.size w w1) := ⟨below_step HW2.out (HD.out w1 h1)⟩
      go_wp2_with fail
      go_ret
      exact ⟨rfl, HF.out⟩
end Go.Proofs.Ytgpjkojnmeaoiaa.QV
