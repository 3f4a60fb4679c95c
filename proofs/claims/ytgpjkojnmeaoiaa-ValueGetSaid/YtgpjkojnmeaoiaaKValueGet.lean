/- The walk of the law ValueGet, by hand. -/
import Derived.Test.YtgpjkojnmeaoiaaKD
/- Get is as specified for arbitrary values: the walk of the law, by hand. -/
namespace Go.Proofs.Ytgpjkojnmeaoiaa.QV
open Go Go.RowKit Go.Proofs.YtgpjkojnmeaoiaaW.PrintWords Go.Proofs.YtgpjkojnmeaoiaaW.PrintLast Go.Proofs.YtgpjkojnmeaoiaaW.PrintMore
set_option linter.unusedVariables false
set_option linter.unusedSimpArgs false
set_option maxRecDepth 100000
set_option maxHeartbeats 4000000
theorem wv_z : Wv zV := .mk _ (by simp [zV]) (by simp [zV]) (show (⟨#[]⟩ : ByteArray).size ≤ 140737488351232 from Nat.zero_le _) (by simp [zV]) (by simp [zV]) (by simp [zV]) (by simp [zV])
theorem gp_wv {x : S28} {s : ByteArray} (hx : Wv x) : Wv (gp (gr x s)) := by
  unfold gr
  split
  · cases h : getV x.f3 x.f4 s with
    | none => exact wv_z
    | some y => exact hx.es _ (getV_mem h)
  · exact wv_z
theorem law_get (x : S28) (s : ByteArray) (w : World) {A3 : Option Addr} {c3 : Nat} {A4 : Option Addr} {c4 : Nat} (hx : Wv x) (hr : Rd w A3 c3 A4 c4 x) (hsz : s.size ≤ 140737488351232) :
    Calls Try.prog 6 #[.agg #[.int .i64 x.f0, .int .i64 x.f1, .string x.f2, .slice A3 x.f3.length c3, .slice A4 x.f4.length c4], .string s] w fun e w' => e = .returned (.bool true) ∧ Below w.heap.size w w' := by
  have hB1 : Bv (w.alloc (.cells #[.int .i64 x.f0, .int .i64 x.f1, .string x.f2, .slice A3 x.f3.length c3, .slice A4 x.f4.length c4] 28)) w.heap.size A3 c3 A4 c4 x := Bv.new hr
  have hb1 := new_below w (.cells #[.int .i64 x.f0, .int .i64 x.f1, .string x.f2, .slice A3 x.f3.length c3, .slice A4 x.f4.length c4] 28)
  have hb2 := new_below (w.alloc (.cells #[.int .i64 x.f0, .int .i64 x.f1, .string x.f2, .slice A3 x.f3.length c3, .slice A4 x.f4.length c4] 28)) (.cells #[.int .i64 x.f0, .int .i64 x.f1, .string x.f2, .slice A3 x.f3.length c3, .slice A4 x.f4.length c4] 28)
  have hb := below_step hb1 hb2
  have hs := oneLit _ (hr.below hb1)
  have hB2 := hB1.below hb2
  rw [show (w.alloc (.cells #[.int .i64 x.f0, .int .i64 x.f1, .string x.f2, .slice A3 x.f3.length c3, .slice A4 x.f4.length c4] 28)).heap.size = w.heap.size + 1 from by simp] at hs
  have hq : Calls Try.prog 11 #[.int .i64 200, .slice (some ⟨w.heap.size + 1, 0, none⟩) 1 1] ((w.alloc (.cells #[.int .i64 x.f0, .int .i64 x.f1, .string x.f2, .slice A3 x.f3.length c3, .slice A4 x.f4.length c4] 28)).alloc (.cells #[.int .i64 x.f0, .int .i64 x.f1, .string x.f2, .slice A3 x.f3.length c3, .slice A4 x.f4.length c4] 28)) _ := smallC 200 [x] ((w.alloc (.cells #[.int .i64 x.f0, .int .i64 x.f1, .string x.f2, .slice A3 x.f3.length c3, .slice A4 x.f4.length c4] 28)).alloc (.cells #[.int .i64 x.f0, .int .i64 x.f1, .string x.f2, .slice A3 x.f3.length c3, .slice A4 x.f4.length c4] 28)) (c := 1) (by decide) (by decide) hs (by simpa using hx) (by simp)
  obtain ⟨W, hW⟩ : ∃ W, (w.alloc (.cells #[.int .i64 x.f0, .int .i64 x.f1, .string x.f2, .slice A3 x.f3.length c3, .slice A4 x.f4.length c4] 28)).alloc (.cells #[.int .i64 x.f0, .int .i64 x.f1, .string x.f2, .slice A3 x.f3.length c3, .slice A4 x.f4.length c4] 28) = W := ⟨_, rfl⟩
  rw [hW] at hq hb hB2
  have HQ := Aside0.mk hq
  have HB := Aside0.mk hb
  have HV := Aside0.mk hB2
  have HWe := Aside0.mk hW
  clear hb1 hb2 hb hs hB2 hq hW
  obtain ⟨p0, p1, p2, p3, p4⟩ := hB1.cells
  obtain ⟨sm, hsm⟩ : ∃ s, decide ((cnt x : Int) ≤ 200) = s := ⟨_, rfl⟩
  rw [List.all_cons, List.all_nil, Bool.and_true, hsm] at HQ
  have HX := Aside0.mk hx
  have HSm := Aside0.mk hsm
  have HW4 := Aside0.mk (gp_wv (s := s) hx)
  clear hx hr hsm hB1
  cases sm with
  | false =>
    go_enter Try.func6, Try.ntmps6
    go_wp2_with (first | ((rw [HWe.out]); (go_at_call 11); (with_reducible refine HQ.out.mono ?_); rintro e we ⟨rfl, hb⟩; have HW2 := Aside0.mk (below_step HB.out hb); clear hb) | (go_at_call 12; (with_reducible refine (awakeC _).mono ?_); rintro e we2 ⟨rfl, hb⟩; have Hb := Aside0.mk hb; clear hb))
    go_ret
    exact ⟨rfl, below_step HW2.out Hb.out⟩
  | true =>
  by_cases cs : s.size ≤ 50
  rotate_left
  · have g1 : decide ((s.size : Int) > 50) = true := decide_eq_true (by omega)
    have g1' : decide (50 < s.size) = true := decide_eq_true (by omega)
    clear cs
    go_enter Try.func6, Try.ntmps6
    go_wp2_with (first | ((rw [HWe.out]); (go_at_call 11); (with_reducible refine HQ.out.mono ?_); rintro e we ⟨rfl, hb⟩; have HW2 := Aside0.mk (below_step HB.out hb); clear hb) | (go_at_call 12; (with_reducible refine (awakeC _).mono ?_); rintro e we2 ⟨rfl, hb⟩; have Hb := Aside0.mk hb; clear hb))
    go_ret
    exact ⟨rfl, below_step HW2.out Hb.out⟩
  have g1 : decide ((s.size : Int) > 50) = false := decide_eq_false (by omega)
  have g1' : decide (50 < s.size) = false := decide_eq_false (by omega)
  have hc : cnt x ≤ 200 := by have := of_decide_eq_true HSm.out; omega
  have HG : Aside0 (∀ W1, Bv W1 w.heap.size A3 c3 A4 c4 x → Calls Try.prog 35 #[.agg #[.int .i64 x.f0, .int .i64 x.f1, .string x.f2, .slice A3 x.f3.length c3, .slice A4 x.f4.length c4], .string s] W1 (GetPost (gr x s) W1) ∧ Calls Try.prog 36 #[.agg #[.int .i64 x.f0, .int .i64 x.f1, .string x.f2, .slice A3 x.f3.length c3, .slice A4 x.f4.length c4], .string s] W1 (GetPost (gr x s) W1)) := ⟨fun W1 h => ⟨valueGetC x s W1 HX.out (by omega) h.rd, refGetC x s W1 HX.out (by omega) h.rd⟩⟩
  obtain ⟨r, hr⟩ : ∃ r, gr x s = r := ⟨_, rfl⟩
  rw [hr] at HG HW4
  obtain ⟨y, hy⟩ : ∃ y, gp r = y := ⟨_, rfl⟩
  obtain ⟨f, hf⟩ : ∃ f, r.isSome = f := ⟨_, rfl⟩
  have HG1 : Aside0 (∀ W1, Bv W1 w.heap.size A3 c3 A4 c4 x → Calls Try.prog 35 #[.agg #[.int .i64 x.f0, .int .i64 x.f1, .string x.f2, .slice A3 x.f3.length c3, .slice A4 x.f4.length c4], .string s] W1 fun e w' => ∃ (Y3 : Option Addr) (y3 : Nat) (Y4 : Option Addr) (y4 : Nat), e = .returned (.tuple #[.agg #[.int .i64 y.f0, .int .i64 y.f1, .string y.f2, .slice Y3 y.f3.length y3, .slice Y4 y.f4.length y4], .bool f]) ∧ Rd w' Y3 y3 Y4 y4 y ∧ Below W1.heap.size W1 w') := ⟨fun W1 h => by have k := (HG.out W1 h).1; unfold GetPost at k; rw [hy, hf] at k; exact k⟩
  have HG2 : Aside0 (∀ W1, Bv W1 w.heap.size A3 c3 A4 c4 x → Calls Try.prog 36 #[.agg #[.int .i64 x.f0, .int .i64 x.f1, .string x.f2, .slice A3 x.f3.length c3, .slice A4 x.f4.length c4], .string s] W1 fun e w' => ∃ (Y3 : Option Addr) (y3 : Nat) (Y4 : Option Addr) (y4 : Nat), e = .returned (.tuple #[.agg #[.int .i64 y.f0, .int .i64 y.f1, .string y.f2, .slice Y3 y.f3.length y3, .slice Y4 y.f4.length y4], .bool f]) ∧ Rd w' Y3 y3 Y4 y4 y ∧ Below W1.heap.size W1 w') := ⟨fun W1 h => by have k := (HG.out W1 h).2; unfold GetPost at k; rw [hy, hf] at k; exact k⟩
  rw [hy] at HW4
  have HSa : Aside0 (∀ (W1 : World) (Y3 : Option Addr) (y3 : Nat) (Y4 : Option Addr) (y4 : Nat) (Z3 : Option Addr) (z3 : Nat) (Z4 : Option Addr) (z4 : Nat), Rd W1 Y3 y3 Y4 y4 y → Rd W1 Z3 z3 Z4 z4 y → Calls Try.prog 19 #[.agg #[.int .i64 y.f0, .int .i64 y.f1, .string y.f2, .slice Y3 y.f3.length y3, .slice Y4 y.f4.length y4], .agg #[.int .i64 y.f0, .int .i64 y.f1, .string y.f2, .slice Z3 y.f3.length z3, .slice Z4 y.f4.length z4]] W1 fun e w' => e = .returned (.bool true) ∧ Below W1.heap.size W1 w') := ⟨fun W1 Y3 y3 Y4 y4 Z3 z3 Z4 z4 h1 h2 => (sameC _ y y W1 (Nat.lt_succ_self _) HW4.out h1 h2).mono (by
    rintro e w' ⟨r, rfl, h, hb⟩
    rw [h.2 rfl]
    exact ⟨rfl, hb⟩)⟩
  clear hr hy hf HG cs hc HSm HX
  go_enter Try.func6, Try.ntmps6
  go_wp2_with (first | ((rw [HWe.out]); (go_at_call 11); (with_reducible refine HQ.out.mono ?_); rintro e we ⟨rfl, hb⟩; have HW2 := Aside0.mk (below_step HB.out hb); have HV2 := Aside0.mk (HV.out.below hb); obtain ⟨q0, q1, q2, q3, q4⟩ := HV2.out.cells; clear hb) | (go_at_call 35; (with_reducible refine (HG1.out _ HV2.out).mono ?_); rintro e we2 ⟨Y3, y3, Y4, y4, rfl, hrd, hb⟩; have HBy := Aside0.mk (Bv.new hrd); have hb5 := below_step hb (new_below we2 (.cells #[.int .i64 y.f0, .int .i64 y.f1, .string y.f2, .slice Y3 y.f3.length y3, .slice Y4 y.f4.length y4] 28)); have HW3 := Aside0.mk (below_step HW2.out hb5); have HV3 := Aside0.mk (HV2.out.below hb5); obtain ⟨r0, r1, r2, r3, r4⟩ := HV3.out.cells; clear hb hrd hb5) | (go_at_call 36; (with_reducible refine (HG2.out _ HV3.out).mono ?_); rintro e we3 ⟨Z3, z3, Z4, z4, rfl, hrd, hb⟩; have HBz := Aside0.mk (Bv.new hrd); have hb5 := below_step hb (new_below we3 (.cells #[.int .i64 y.f0, .int .i64 y.f1, .string y.f2, .slice Z3 y.f3.length z3, .slice Z4 y.f4.length z4] 28)); have HW5 := Aside0.mk (below_step HW3.out hb5); have HBy2 := Aside0.mk (HBy.out.below hb5); obtain ⟨s0, s1, s2, s3, s4⟩ := HBy2.out.cells; obtain ⟨t0, t1, t2, t3, t4⟩ := HBz.out.cells; clear hb hrd hb5) | (go_at_call 19; (with_reducible refine (HSa.out _ _ _ _ _ _ _ _ _ HBy2.out.rd HBz.out.rd).mono ?_); rintro e we4 ⟨rfl, hb⟩; have HW6 := Aside0.mk (below_step HW5.out hb); clear hb) | (go_at_call 12; (with_reducible refine (awakeC _).mono ?_); rintro e we5 ⟨rfl, hb⟩; have Hb := Aside0.mk hb; clear hb))
  go_ret
  exact ⟨rfl, below_step HW6.out Hb.out⟩
end Go.Proofs.Ytgpjkojnmeaoiaa.QV
