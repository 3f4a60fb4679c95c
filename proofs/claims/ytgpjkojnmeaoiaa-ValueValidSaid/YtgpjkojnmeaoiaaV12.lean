/- The reference's Valid, Depth, Nodes, Truthy, TypeName, by hand. -/
import Derived.Test.YtgpjkojnmeaoiaaV5
import Derived.Test.YtgpjkojnmeaoiaaV7
namespace Go.Proofs.Ytgpjkojnmeaoiaa.QV
open Go Go.RowKit Go.Proofs.YtgpjkojnmeaoiaaW.PrintWords Go.Proofs.YtgpjkojnmeaoiaaW.PrintLast Go.Proofs.YtgpjkojnmeaoiaaW.PrintMore
set_option linter.unusedVariables false
set_option linter.unusedSimpArgs false
set_option maxRecDepth 100000
set_option maxHeartbeats 4000000
theorem size_of_toList {s : ByteArray} (h : s.toList = []) : s.size = 0 := by
  rw [ByteArray.toList_eq] at h
  have e : s.data.toList.length = s.size := by rw [Array.length_toList]; rfl
  rw [← e, h]
  rfl
theorem okr_okv (st : Nat) : ∀ (x : S28) (ar : Nat), SizeOf.sizeOf x < st → okr ar x = okv true ar x := by
  induction st with
  | zero => intro x ar h; omega
  | succ st ih =>
  intro x ar hs
  have hl : ∀ l : List S28, (∀ y ∈ l, SizeOf.sizeOf y < st) → okrL (ar + 1) l = okL true (ar + 1) l := fun l => by
    induction l with
    | nil => intro _; simp [okrL, okL]
    | cons y l ihl =>
      intro hy
      have h1 := ih y (ar + 1) (hy y List.mem_cons_self)
      have h2 := ihl (fun z hz => hy z (List.mem_cons_of_mem _ hz))
      simp only [okrL, okL, h1, h2]
  have h1 := hl x.f4 (fun y hy => by have := sz_mem hy; omega)
  rw [okr_eq, okv_eq, h1, Bool.eq_iff_iff]
  unfold fm
  obtain ⟨a, b, s, ks, es⟩ := x
  simp only [kz, Bool.and_eq_true, Bool.or_eq_true, decide_eq_true_eq, beq_iff_eq, bne_iff_ne, Bool.not_eq_true', Bool.false_or, Bool.and_eq_false_iff, decide_eq_false_iff_not, beq_eq_false_iff_ne, ne_eq, Bool.not_true] at *
  constructor
  · rintro ⟨⟨⟨⟨⟨⟨⟨⟨⟨p0, p1⟩, p2⟩, p3⟩, p4⟩, p5⟩, p6⟩, p7⟩, p8⟩, p9⟩
    refine ⟨⟨⟨⟨p0, p1⟩, Or.inr (by omega)⟩, ⟨p2, p4⟩, ?_⟩, ?_⟩
    · rcases p6 with h | h
      · exact Or.inl h
      · exact Or.inr ⟨⟨h, by omega⟩, p8⟩
    · rcases p7 with h | h
      · exact Or.inl h
      · exact Or.inr ⟨⟨h, p5⟩, p9⟩
  · rintro ⟨⟨⟨⟨p0, p1⟩, p2⟩, ⟨p3, p4⟩, p5⟩, p6⟩
    obtain ⟨⟨⟨z1, z2⟩, z3⟩, z4⟩ := p3
    refine ⟨⟨⟨⟨⟨⟨⟨⟨⟨p0, p1⟩, ⟨⟨⟨z1, z2⟩, z3⟩, z4⟩⟩, ?_⟩, p4⟩, ?_⟩, ?_⟩, ?_⟩, ?_⟩, ?_⟩
    · rcases z2 with h | h
      · rcases p2 with h2 | h2
        · exact absurd h h2
        · omega
      · have := size_of_toList h; omega
    · rcases p6 with h | h
      · rcases z4 with h2 | h2
        · omega
        · omega
      · exact h.1.2
    · rcases p5 with h | h
      · exact Or.inl h
      · exact Or.inr h.1.1
    · rcases p6 with h | h
      · exact Or.inl h
      · exact Or.inr h.1.1
    · rcases p5 with h | h
      · rcases z3 with h2 | h2
        · exact absurd h2 h
        · rw [List.length_eq_zero_iff.1 h2, ko_nil]
      · exact h.2
    · rcases p6 with h | h
      · rcases z4 with h2 | h2
        · omega
        · rw [List.length_eq_zero_iff.1 h2]
          simp [okL]
      · exact h.2
theorem vd_eq (x : S28) : vd x = (okv true 0 x && decide ((nds x : Int) ≤ 4096) && decide ((bts x : Int) ≤ 65536)) := by
  unfold vd fitR
  rw [Int.zero_add, Int.zero_add]
/-- The answer of measure, at no nesting. -/
theorem mr_vd (x : S28) : vd x = (mr 0 x && decide ((nds x : Int) ≤ 4096) && decide ((bts x : Int) ≤ 65536)) := by
  rw [vd_eq]
  unfold mr
  rw [okr_okv _ x 0 (Nat.lt_succ_self _)]
  by_cases h1 : nds x ≤ 4096
  · by_cases h2 : bts x ≤ 65536
    · rw [decide_eq_true h1, decide_eq_true h2]
      simp
    · rw [decide_eq_false (show ¬ (bts x : Int) ≤ 65536 by omega)]
      simp
  · rw [decide_eq_false (show ¬ (nds x : Int) ≤ 4096 by omega)]
    simp
theorem meas0 (x : S28) (hx : Wv x) (hc : cnt x ≤ 1000000000000000) (w : World) {A3 : Option Addr} {c3 : Nat} {A4 : Option Addr} {c4 : Nat} (hr : Rd w A3 c3 A4 c4 x) :
    Calls Try.prog 60 #[.agg #[.int .i64 x.f0, .int .i64 x.f1, .string x.f2, .slice A3 x.f3.length c3, .slice A4 x.f4.length c4], .int .i64 0] w (MePost 0 x w) := measC _ x 0 w (Nat.lt_succ_self _) hx hc (by omega) hr
theorem refValidC (x : S28) (w : World) {A3 : Option Addr} {c3 : Nat} {A4 : Option Addr} {c4 : Nat} (hx : Wv x) (hc : cnt x ≤ 1000000000000000) (hr : Rd w A3 c3 A4 c4 x) :
    Calls Try.prog 25 #[.agg #[.int .i64 x.f0, .int .i64 x.f1, .string x.f2, .slice A3 x.f3.length c3, .slice A4 x.f4.length c4]] w fun e w' => e = .returned (.bool (vd x)) ∧ Below w.heap.size w w' := by
  have HA := Aside0.mk (new_below w (.cells #[.int .i64 x.f0, .int .i64 x.f1, .string x.f2, .slice A3 x.f3.length c3, .slice A4 x.f4.length c4] 28))
  have HB := Aside0.mk (Bv.new hr)
  have HM := Aside0.mk (meas0 x hx hc (w.alloc (.cells #[.int .i64 x.f0, .int .i64 x.f1, .string x.f2, .slice A3 x.f3.length c3, .slice A4 x.f4.length c4] 28)) (hr.below HA.out))
  have hv := mr_vd x
  obtain ⟨r, hvr⟩ : ∃ r, vd x = r := ⟨_, rfl⟩
  rw [hvr] at hv ⊢
  obtain ⟨W, hW⟩ : ∃ W, w.alloc (.cells #[.int .i64 x.f0, .int .i64 x.f1, .string x.f2, .slice A3 x.f3.length c3, .slice A4 x.f4.length c4] 28) = W := ⟨_, rfl⟩
  rw [hW] at HA HB HM
  have HWe := Aside0.mk hW
  unfold MePost at HM
  obtain ⟨n, hn⟩ : ∃ n : Int, (nds x : Int) = n := ⟨_, rfl⟩
  obtain ⟨m, hm⟩ : ∃ m : Int, (bts x : Int) = m := ⟨_, rfl⟩
  rw [hn, hm] at HM hv
  obtain ⟨q, hq⟩ : ∃ q, mr 0 x = q := ⟨_, rfl⟩
  rw [hq] at HM hv
  clear hx hc hr hvr hn hm hq hW
  cases q with
  | false =>
    have e0 : r = false := hv
    subst e0
    clear hv
    simp only [Bool.false_eq_true, if_false] at HM
    go_enter Try.func25, Try.ntmps25
    go_upto_region 1 with fail
    rw [HWe.out]
    clear HWe
    obtain ⟨q0, q1, q2, q3, q4⟩ := HB.out.cells
    go_wp2_with (first | (go_at_call 60; (with_reducible refine HM.out.mono ?_); rintro e we ⟨rfl, hb⟩; have HG := Aside0.mk (below_step HA.out hb); clear hb))
    go_ret
    exact ⟨rfl, HG.out⟩
  | true =>
    simp only [if_true] at HM
    obtain ⟨u1, hu1⟩ : ∃ u, decide (n ≤ 4096) = u := ⟨_, rfl⟩
    obtain ⟨u2, hu2⟩ : ∃ u, decide (m ≤ 65536) = u := ⟨_, rfl⟩
    rw [hu1, hu2, Bool.true_and] at hv
    subst hv
    go_enter Try.func25, Try.ntmps25
    go_upto_region 1 with fail
    rw [HWe.out]
    clear HWe
    obtain ⟨q0, q1, q2, q3, q4⟩ := HB.out.cells
    cases u1 with
    | false =>
      go_wp2_with (first | (go_at_call 60; (with_reducible refine HM.out.mono ?_); rintro e we ⟨rfl, hb⟩; have HG := Aside0.mk (below_step HA.out hb); clear hb))
      go_ret
      exact ⟨rfl, HG.out⟩
    | true =>
      go_wp2_with (first | (go_at_call 60; (with_reducible refine HM.out.mono ?_); rintro e we ⟨rfl, hb⟩; have HG := Aside0.mk (below_step HA.out hb); clear hb))
      go_ret
      exact ⟨rfl, HG.out⟩
theorem refTruthyC (x : S28) (w : World) {A3 : Option Addr} {c3 : Nat} {A4 : Option Addr} {c4 : Nat} (hx : Wv x) (hc : cnt x ≤ 1000000000000000) (hr : Rd w A3 c3 A4 c4 x) :
    Calls Try.prog 31 #[.agg #[.int .i64 x.f0, .int .i64 x.f1, .string x.f2, .slice A3 x.f3.length c3, .slice A4 x.f4.length c4]] w fun e w' => e = .returned (.bool (vd x && decide (x.f0 > 1))) ∧ Below w.heap.size w w' := by
  have HV := Aside0.mk (fun W (hb : Below w.heap.size w W) => refValidC x W hx hc (hr.below hb))
  have HA := Aside0.mk (new_below w (.cells #[.int .i64 x.f0, .int .i64 x.f1, .string x.f2, .slice A3 x.f3.length c3, .slice A4 x.f4.length c4] 28))
  have HB := Aside0.mk (Bv.new hr)
  obtain ⟨r, hvr⟩ : ∃ r, vd x = r := ⟨_, rfl⟩
  rw [hvr] at HV ⊢
  clear hx hc hr hvr
  go_enter Try.func31, Try.ntmps31
  cases r with
  | false =>
    go_wp2_with (first | (go_at_call 25; (with_reducible refine (HV.out _ HA.out).mono ?_); rintro e we ⟨rfl, hb⟩; have HB2 := Aside0.mk (below_step HA.out hb); clear hb))
    go_ret
    exact ⟨rfl, HB2.out⟩
  | true =>
    go_wp2_with (first | (go_at_call 25; (with_reducible refine (HV.out _ HA.out).mono ?_); rintro e we ⟨rfl, hb⟩; have HB2 := Aside0.mk (below_step HA.out hb); have HB3 := Aside0.mk (HB.out.below hb); obtain ⟨q0, q1, q2, q3, q4⟩ := HB3.out.cells; clear hb))
    go_ret
    exact ⟨rfl, HB2.out⟩
theorem refNodesC (x : S28) (w : World) {A3 : Option Addr} {c3 : Nat} {A4 : Option Addr} {c4 : Nat} (hx : Wv x) (hc : cnt x ≤ 1000000000000000) (hr : Rd w A3 c3 A4 c4 x) :
    Calls Try.prog 29 #[.agg #[.int .i64 x.f0, .int .i64 x.f1, .string x.f2, .slice A3 x.f3.length c3, .slice A4 x.f4.length c4]] w fun e w' => e = .returned (.int .i64 (if vd x = true then (nds x : Int) else 0)) ∧ Below w.heap.size w w' := by
  have HV := Aside0.mk (fun W (hb : Below w.heap.size w W) => refValidC x W hx hc (hr.below hb))
  have HQ := Aside0.mk (fun W (hb : Below w.heap.size w W) => meas0 x hx hc W (hr.below hb))
  have HA := Aside0.mk (new_below w (.cells #[.int .i64 x.f0, .int .i64 x.f1, .string x.f2, .slice A3 x.f3.length c3, .slice A4 x.f4.length c4] 28))
  have HB := Aside0.mk (Bv.new hr)
  have hv := mr_vd x
  unfold MePost at HQ
  obtain ⟨n, hn⟩ : ∃ n : Int, (nds x : Int) = n := ⟨_, rfl⟩
  obtain ⟨m, hm⟩ : ∃ m : Int, (bts x : Int) = m := ⟨_, rfl⟩
  rw [hn, hm] at HQ hv
  rw [hn]
  obtain ⟨r, hvr⟩ : ∃ r, vd x = r := ⟨_, rfl⟩
  rw [hvr] at HV hv ⊢
  clear hx hc hr hvr hn hm
  go_enter Try.func29, Try.ntmps29
  cases r with
  | false =>
    clear HQ hv
    go_wp2_with (first | (go_at_call 25; (with_reducible refine (HV.out _ HA.out).mono ?_); rintro e we ⟨rfl, hb⟩; have HB2 := Aside0.mk (below_step HA.out hb); clear hb))
    go_ret
    exact ⟨rfl, HB2.out⟩
  | true =>
    have e1 : mr 0 x = true := (Bool.and_eq_true_iff.1 (Bool.and_eq_true_iff.1 hv.symm).1).1
    simp only [e1, if_true] at HQ
    clear hv e1
    go_wp2_with (first | (go_at_call 25; (with_reducible refine (HV.out _ HA.out).mono ?_); rintro e we ⟨rfl, hb⟩; have HB2 := Aside0.mk (below_step HA.out hb); have HB3 := Aside0.mk (HB.out.below hb); obtain ⟨q0, q1, q2, q3, q4⟩ := HB3.out.cells; clear hb) | (go_at_call 60; (with_reducible refine (HQ.out _ HB2.out).mono ?_); rintro e we2 ⟨rfl, hb⟩; have HB4 := Aside0.mk (below_step HB2.out hb); clear hb))
    go_ret
    exact ⟨rfl, HB4.out⟩
end Go.Proofs.Ytgpjkojnmeaoiaa.QV
