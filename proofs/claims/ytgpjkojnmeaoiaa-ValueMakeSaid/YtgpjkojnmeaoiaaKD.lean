/- The reference's functions; Obj, Fit, Get, Compare; awake. -/
import Derived.Test.YtgpjkojnmeaoiaaKV
import Derived.Test.YtgpjkojnmeaoiaaKC
/- The reference's Valid, Depth, Nodes, Truthy, TypeName, by hand. -/
namespace Go.Proofs.Ytgpjkojnmeaoiaa.QV
open Go Go.RowKit Go.Proofs.YtgpjkojnmeaoiaaW.PrintWords Go.Proofs.YtgpjkojnmeaoiaaW.PrintLast Go.Proofs.YtgpjkojnmeaoiaaW.PrintMore
set_option linter.unusedVariables false
set_option linter.unusedSimpArgs false
set_option maxRecDepth 100000
set_option maxHeartbeats 4000000
theorem size_of_toList {s : ByteArray} (h : s.toList = []) : s.size = 0 := by
  rw [ByteArray.toList_eq] at h
  have e : s.data.toList.length = s.size := by rw [Array.length_toList]; rfl
  rw [← e, h]
  rfl
theorem okr_okv (st : Nat) : ∀ (x : S28) (ar : Nat), SizeOf.sizeOf x < st → okr ar x = okv true ar x := by
  induction st with
  | zero => intro x ar h; omega
  | succ st ih =>
  intro x ar hs
  have hl : ∀ l : List S28, (∀ y ∈ l, SizeOf.sizeOf y < st) → okrL (ar + 1) l = okL true (ar + 1) l := fun l => by
    induction l with
    | nil => intro _; simp [okrL, okL]
    | cons y l ihl =>
      intro hy
      have h1 := ih y (ar + 1) (hy y List.mem_cons_self)
      have h2 := ihl (fun z hz => hy z (List.mem_cons_of_mem _ hz))
      simp only [okrL, okL, h1, h2]
  have h1 := hl x.f4 (fun y hy => by have := sz_mem hy; omega)
  rw [okr_eq, okv_eq, h1, Bool.eq_iff_iff]
  unfold fm
  obtain ⟨a, b, s, ks, es⟩ := x
  simp only [kz, Bool.and_eq_true, Bool.or_eq_true, decide_eq_true_eq, beq_iff_eq, bne_iff_ne, Bool.not_eq_true', Bool.false_or, Bool.and_eq_false_iff, decide_eq_false_iff_not, beq_eq_false_iff_ne, ne_eq, Bool.not_true] at *
  constructor
  · rintro ⟨⟨⟨⟨⟨⟨⟨⟨⟨p0, p1⟩, p2⟩, p3⟩, p4⟩, p5⟩, p6⟩, p7⟩, p8⟩, p9⟩
    refine ⟨⟨⟨⟨p0, p1⟩, Or.inr (by omega)⟩, ⟨p2, p4⟩, ?_⟩, ?_⟩
    · rcases p6 with h | h
      · exact Or.inl h
      · exact Or.inr ⟨⟨h, by omega⟩, p8⟩
    · rcases p7 with h | h
      · exact Or.inl h
      · exact Or.inr ⟨⟨h, p5⟩, p9⟩
  · rintro ⟨⟨⟨⟨p0, p1⟩, p2⟩, ⟨p3, p4⟩, p5⟩, p6⟩
    obtain ⟨⟨⟨z1, z2⟩, z3⟩, z4⟩ := p3
    refine ⟨⟨⟨⟨⟨⟨⟨⟨⟨p0, p1⟩, ⟨⟨⟨z1, z2⟩, z3⟩, z4⟩⟩, ?_⟩, p4⟩, ?_⟩, ?_⟩, ?_⟩, ?_⟩, ?_⟩
    · rcases z2 with h | h
      · rcases p2 with h2 | h2
        · exact absurd h h2
        · omega
      · have := size_of_toList h; omega
    · rcases p6 with h | h
      · rcases z4 with h2 | h2
        · omega
        · omega
      · exact h.1.2
    · rcases p5 with h | h
      · exact Or.inl h
      · exact Or.inr h.1.1
    · rcases p6 with h | h
      · exact Or.inl h
      · exact Or.inr h.1.1
    · rcases p5 with h | h
      · rcases z3 with h2 | h2
        · exact absurd h2 h
        · rw [List.length_eq_zero_iff.1 h2, ko_nil]
      · exact h.2
    · rcases p6 with h | h
      · rcases z4 with h2 | h2
        · omega
        · rw [List.length_eq_zero_iff.1 h2]
          simp [okL]
      · exact h.2
theorem vd_eq (x : S28) : vd x = (okv true 0 x && decide ((nds x : Int) ≤ 4096) && decide ((bts x : Int) ≤ 65536)) := by
  unfold vd fitR
  rw [Int.zero_add, Int.zero_add]
/-- The answer of measure, at no nesting. -/
theorem mr_vd (x : S28) : vd x = (mr 0 x && decide ((nds x : Int) ≤ 4096) && decide ((bts x : Int) ≤ 65536)) := by
  rw [vd_eq]
  unfold mr
  rw [okr_okv _ x 0 (Nat.lt_succ_self _)]
  by_cases h1 : nds x ≤ 4096
  · by_cases h2 : bts x ≤ 65536
    · rw [decide_eq_true h1, decide_eq_true h2]
      simp
    · rw [decide_eq_false (show ¬ (bts x : Int) ≤ 65536 by omega)]
      simp
  · rw [decide_eq_false (show ¬ (nds x : Int) ≤ 4096 by omega)]
    simp
theorem meas0 (x : S28) (hx : Wv x) (hc : cnt x ≤ 1000000000000000) (w : World) {A3 : Option Addr} {c3 : Nat} {A4 : Option Addr} {c4 : Nat} (hr : Rd w A3 c3 A4 c4 x) :
    Calls Try.prog 60 #[.agg #[.int .i64 x.f0, .int .i64 x.f1, .string x.f2, .slice A3 x.f3.length c3, .slice A4 x.f4.length c4], .int .i64 0] w (MePost 0 x w) := measC _ x 0 w (Nat.lt_succ_self _) hx hc (by omega) hr
theorem refValidC (x : S28) (w : World) {A3 : Option Addr} {c3 : Nat} {A4 : Option Addr} {c4 : Nat} (hx : Wv x) (hc : cnt x ≤ 1000000000000000) (hr : Rd w A3 c3 A4 c4 x) :
    Calls Try.prog 25 #[.agg #[.int .i64 x.f0, .int .i64 x.f1, .string x.f2, .slice A3 x.f3.length c3, .slice A4 x.f4.length c4]] w fun e w' => e = .returned (.bool (vd x)) ∧ Below w.heap.size w w' := by
  have HA := Aside0.mk (new_below w (.cells #[.int .i64 x.f0, .int .i64 x.f1, .string x.f2, .slice A3 x.f3.length c3, .slice A4 x.f4.length c4] 28))
  have HB := Aside0.mk (Bv.new hr)
  have HM := Aside0.mk (meas0 x hx hc (w.alloc (.cells #[.int .i64 x.f0, .int .i64 x.f1, .string x.f2, .slice A3 x.f3.length c3, .slice A4 x.f4.length c4] 28)) (hr.below HA.out))
  have hv := mr_vd x
  obtain ⟨r, hvr⟩ : ∃ r, vd x = r := ⟨_, rfl⟩
  rw [hvr] at hv ⊢
  obtain ⟨W, hW⟩ : ∃ W, w.alloc (.cells #[.int .i64 x.f0, .int .i64 x.f1, .string x.f2, .slice A3 x.f3.length c3, .slice A4 x.f4.length c4] 28) = W := ⟨_, rfl⟩
  rw [hW] at HA HB HM
  have HWe := Aside0.mk hW
  unfold MePost at HM
  obtain ⟨n, hn⟩ : ∃ n : Int, (nds x : Int) = n := ⟨_, rfl⟩
  obtain ⟨m, hm⟩ : ∃ m : Int, (bts x : Int) = m := ⟨_, rfl⟩
  rw [hn, hm] at HM hv
  obtain ⟨q, hq⟩ : ∃ q, mr 0 x = q := ⟨_, rfl⟩
  rw [hq] at HM hv
  clear hx hc hr hvr hn hm hq hW
  cases q with
  | false =>
    have e0 : r = false := hv
    subst e0
    clear hv
    simp only [Bool.false_eq_true, if_false] at HM
    go_enter Try.func25, Try.ntmps25
    go_upto_region 1 with fail
    rw [HWe.out]
    clear HWe
    obtain ⟨q0, q1, q2, q3, q4⟩ := HB.out.cells
    go_wp2_with (first | (go_at_call 60; (with_reducible refine HM.out.mono ?_); rintro e we ⟨rfl, hb⟩; have HG := Aside0.mk (below_step HA.out hb); clear hb))
    go_ret
    exact ⟨rfl, HG.out⟩
  | true =>
    simp only [if_true] at HM
    obtain ⟨u1, hu1⟩ : ∃ u, decide (n ≤ 4096) = u := ⟨_, rfl⟩
    obtain ⟨u2, hu2⟩ : ∃ u, decide (m ≤ 65536) = u := ⟨_, rfl⟩
    rw [hu1, hu2, Bool.true_and] at hv
    subst hv
    go_enter Try.func25, Try.ntmps25
    go_upto_region 1 with fail
    rw [HWe.out]
    clear HWe
    obtain ⟨q0, q1, q2, q3, q4⟩ := HB.out.cells
    cases u1 with
    | false =>
      go_wp2_with (first | (go_at_call 60; (with_reducible refine HM.out.mono ?_); rintro e we ⟨rfl, hb⟩; have HG := Aside0.mk (below_step HA.out hb); clear hb))
      go_ret
      exact ⟨rfl, HG.out⟩
    | true =>
      go_wp2_with (first | (go_at_call 60; (with_reducible refine HM.out.mono ?_); rintro e we ⟨rfl, hb⟩; have HG := Aside0.mk (below_step HA.out hb); clear hb))
      go_ret
      exact ⟨rfl, HG.out⟩
theorem refTruthyC (x : S28) (w : World) {A3 : Option Addr} {c3 : Nat} {A4 : Option Addr} {c4 : Nat} (hx : Wv x) (hc : cnt x ≤ 1000000000000000) (hr : Rd w A3 c3 A4 c4 x) :
    Calls Try.prog 31 #[.agg #[.int .i64 x.f0, .int .i64 x.f1, .string x.f2, .slice A3 x.f3.length c3, .slice A4 x.f4.length c4]] w fun e w' => e = .returned (.bool (vd x && decide (x.f0 > 1))) ∧ Below w.heap.size w w' := by
  have HV := Aside0.mk (fun W (hb : Below w.heap.size w W) => refValidC x W hx hc (hr.below hb))
  have HA := Aside0.mk (new_below w (.cells #[.int .i64 x.f0, .int .i64 x.f1, .string x.f2, .slice A3 x.f3.length c3, .slice A4 x.f4.length c4] 28))
  have HB := Aside0.mk (Bv.new hr)
  obtain ⟨r, hvr⟩ : ∃ r, vd x = r := ⟨_, rfl⟩
  rw [hvr] at HV ⊢
  clear hx hc hr hvr
  go_enter Try.func31, Try.ntmps31
  cases r with
  | false =>
    go_wp2_with (first | (go_at_call 25; (with_reducible refine (HV.out _ HA.out).mono ?_); rintro e we ⟨rfl, hb⟩; have HB2 := Aside0.mk (below_step HA.out hb); clear hb))
    go_ret
    exact ⟨rfl, HB2.out⟩
  | true =>
    go_wp2_with (first | (go_at_call 25; (with_reducible refine (HV.out _ HA.out).mono ?_); rintro e we ⟨rfl, hb⟩; have HB2 := Aside0.mk (below_step HA.out hb); have HB3 := Aside0.mk (HB.out.below hb); obtain ⟨q0, q1, q2, q3, q4⟩ := HB3.out.cells; clear hb))
    go_ret
    exact ⟨rfl, HB2.out⟩
theorem refNodesC (x : S28) (w : World) {A3 : Option Addr} {c3 : Nat} {A4 : Option Addr} {c4 : Nat} (hx : Wv x) (hc : cnt x ≤ 1000000000000000) (hr : Rd w A3 c3 A4 c4 x) :
    Calls Try.prog 29 #[.agg #[.int .i64 x.f0, .int .i64 x.f1, .string x.f2, .slice A3 x.f3.length c3, .slice A4 x.f4.length c4]] w fun e w' => e = .returned (.int .i64 (if vd x = true then (nds x : Int) else 0)) ∧ Below w.heap.size w w' := by
  have HV := Aside0.mk (fun W (hb : Below w.heap.size w W) => refValidC x W hx hc (hr.below hb))
  have HQ := Aside0.mk (fun W (hb : Below w.heap.size w W) => meas0 x hx hc W (hr.below hb))
  have HA := Aside0.mk (new_below w (.cells #[.int .i64 x.f0, .int .i64 x.f1, .string x.f2, .slice A3 x.f3.length c3, .slice A4 x.f4.length c4] 28))
  have HB := Aside0.mk (Bv.new hr)
  have hv := mr_vd x
  unfold MePost at HQ
  obtain ⟨n, hn⟩ : ∃ n : Int, (nds x : Int) = n := ⟨_, rfl⟩
  obtain ⟨m, hm⟩ : ∃ m : Int, (bts x : Int) = m := ⟨_, rfl⟩
  rw [hn, hm] at HQ hv
  rw [hn]
  obtain ⟨r, hvr⟩ : ∃ r, vd x = r := ⟨_, rfl⟩
  rw [hvr] at HV hv ⊢
  clear hx hc hr hvr hn hm
  go_enter Try.func29, Try.ntmps29
  cases r with
  | false =>
    clear HQ hv
    go_wp2_with (first | (go_at_call 25; (with_reducible refine (HV.out _ HA.out).mono ?_); rintro e we ⟨rfl, hb⟩; have HB2 := Aside0.mk (below_step HA.out hb); clear hb))
    go_ret
    exact ⟨rfl, HB2.out⟩
  | true =>
    have e1 : mr 0 x = true := (Bool.and_eq_true_iff.1 (Bool.and_eq_true_iff.1 hv.symm).1).1
    simp only [e1, if_true] at HQ
    clear hv e1
    go_wp2_with (first | (go_at_call 25; (with_reducible refine (HV.out _ HA.out).mono ?_); rintro e we ⟨rfl, hb⟩; have HB2 := Aside0.mk (below_step HA.out hb); have HB3 := Aside0.mk (HB.out.below hb); obtain ⟨q0, q1, q2, q3, q4⟩ := HB3.out.cells; clear hb) | (go_at_call 60; (with_reducible refine (HQ.out _ HB2.out).mono ?_); rintro e we2 ⟨rfl, hb⟩; have HB4 := Aside0.mk (below_step HB2.out hb); clear hb))
    go_ret
    exact ⟨rfl, HB4.out⟩
end Go.Proofs.Ytgpjkojnmeaoiaa.QV

/- The reference's Depth and TypeName, by hand. -/
namespace Go.Proofs.Ytgpjkojnmeaoiaa.QV
open Go Go.RowKit Go.Proofs.YtgpjkojnmeaoiaaW.PrintWords Go.Proofs.YtgpjkojnmeaoiaaW.PrintLast Go.Proofs.YtgpjkojnmeaoiaaW.PrintMore
set_option linter.unusedVariables false
set_option linter.unusedSimpArgs false
set_option maxRecDepth 100000
set_option maxHeartbeats 4000000
theorem okv_mono (st : Nat) : ∀ (x : S28) (form : Bool) (a b : Nat), SizeOf.sizeOf x < st → a ≤ b → okv form b x = true → okv form a x = true := by
  induction st with
  | zero => intro x f a b h; omega
  | succ st ih =>
  intro x f a b hs hab h
  have hl : ∀ l : List S28, (∀ y ∈ l, SizeOf.sizeOf y < st) → okL f (b + 1) l = true → okL f (a + 1) l = true := fun l => by
    induction l with
    | nil => intro _ _; simp [okL]
    | cons y l ihl =>
      intro hy h
      simp only [okL, Bool.and_eq_true] at h ⊢
      exact ⟨ih y f (a + 1) (b + 1) (hy y List.mem_cons_self) (by omega) h.1, ihl (fun z hz => hy z (List.mem_cons_of_mem _ hz)) h.2⟩
  have h1 := hl x.f4 (fun y hy => by have := sz_mem hy; omega)
  rw [okv_eq] at h ⊢
  simp only [Bool.and_eq_true, Bool.or_eq_true, decide_eq_true_eq] at h ⊢
  refine ⟨h.1, ?_⟩
  rcases h.2 with h2 | h2
  · exact Or.inl h2
  · exact Or.inr ⟨⟨by omega, h2.1.2⟩, h1 h2.2⟩
theorem okL_mem {form : Bool} {ar : Nat} {y : S28} : ∀ {l : List S28}, okL form ar l = true → y ∈ l → okv form ar y = true := fun {l} => by
  induction l with
  | nil => intro _ h; cases h
  | cons z l ih =>
    intro h hm
    simp only [okL, Bool.and_eq_true] at h
    rcases List.mem_cons.1 hm with rfl | hm
    · exact h.1
    · exact ih h.2 hm
theorem ndsL_mem {y : S28} : ∀ {l : List S28}, y ∈ l → nds y ≤ ndsL l ∧ bts y ≤ btsL l := fun {l} => by
  induction l with
  | nil => intro h; cases h
  | cons z l ih =>
    intro hm
    simp only [ndsL, btsL]
    rcases List.mem_cons.1 hm with rfl | hm
    · omega
    · have := ih hm; omega
theorem vd_mem {x y : S28} (h : vd x = true) (h5 : ¬ x.f0 < 5) (hm : y ∈ x.f4) : vd y = true := by
  rw [vd_eq] at h ⊢
  have e1 := nds_eq x
  have e2 := bts_eq x
  rw [if_neg h5] at e1 e2
  have e3 := ndsL_mem hm
  simp only [Bool.and_eq_true, decide_eq_true_eq] at h ⊢
  obtain ⟨⟨a, b⟩, c⟩ := h
  rw [okv_eq] at a
  simp only [Bool.and_eq_true, Bool.or_eq_true, decide_eq_true_eq] at a
  rcases a.2 with h2 | h2
  · exact absurd h2 h5
  · exact ⟨⟨okv_mono _ y true 0 1 (Nat.lt_succ_self _) (by omega) (okL_mem h2.2 hm), by omega⟩, by omega⟩
theorem refDepthC (st : Nat) : ∀ (x : S28) (w : World) {A3 : Option Addr} {c3 : Nat} {A4 : Option Addr} {c4 : Nat}, SizeOf.sizeOf x < st → Wv x → cnt x ≤ 1000000000000000 → Rd w A3 c3 A4 c4 x →
    Calls Try.prog 27 #[.agg #[.int .i64 x.f0, .int .i64 x.f1, .string x.f2, .slice A3 x.f3.length c3, .slice A4 x.f4.length c4]] w fun e w' => e = .returned (.int .i64 (if vd x = true then (dpt x : Int) else 0)) ∧ Below w.heap.size w w' := by
  induction st with
  | zero => intro x w A3 c3 A4 c4 h; omega
  | succ st ih =>
  intro x w A3 c3 A4 c4 hs hx hc hr
  have HS := Aside0.mk hs
  have HV := Aside0.mk (fun W (hb : Below w.heap.size w W) => refValidC x W hx hc (hr.below hb))
  have HX := Aside0.mk hx
  have HC := Aside0.mk hc
  have HR := Aside0.mk hr
  have HIH := Aside0.mk ih
  have h3 := hx.el
  have HE := Aside0.mk (dpt_eq x)
  have HBd := Aside0.mk (nda_cnt _ x (Nat.lt_succ_self _))
  have HVM := Aside0.mk (fun y => vd_mem (x := x) (y := y))
  obtain ⟨vv, hvv⟩ : ∃ v, vd x = v := ⟨_, rfl⟩
  rw [hvv] at HV HVM ⊢
  obtain ⟨r, hfr⟩ : ∃ r : Int, (dpt x : Int) = r := ⟨_, rfl⟩
  rw [hfr]
  have HF := Aside0.mk hfr
  obtain ⟨R, hR⟩ : ∃ R : Int, (if vv = true then r else 0) = R := ⟨_, rfl⟩
  rw [hR]
  have HRR := Aside0.mk hR
  clear hR
  have HB := Aside0.mk (Bv.new hr)
  have HW := Aside0.mk (new_below w (.cells #[.int .i64 x.f0, .int .i64 x.f1, .string x.f2, .slice A3 x.f3.length c3, .slice A4 x.f4.length c4] 28))
  clear hx hr hs hc ih hfr hvv
  go_enter Try.func27, Try.ntmps27
  go_upto_region 1 with fail
  obtain ⟨bb, hb⟩ : ∃ b, w.heap.size = b := ⟨_, rfl⟩
  obtain ⟨W, hW⟩ : ∃ W, w.alloc (.cells #[.int .i64 x.f0, .int .i64 x.f1, .string x.f2, .slice A3 x.f3.length c3, .slice A4 x.f4.length c4] 28) = W := ⟨_, rfl⟩
  rw [hW, hb] at HB
  rw [hW] at HW
  rw [hW, hb]
  clear hW hb HR
  obtain ⟨q0, q1, q2, q3, q4⟩ := HB.out.cells
  cases vv with
  | false =>
    have e0 : 0 = R := by simpa using HRR.out
    subst e0
    clear HF HVM HRR
    go_wp2_with (first | (go_at_call 25; (with_reducible refine (HV.out _ HW.out).mono ?_); rintro e we ⟨rfl, hb⟩; have HW2 := Aside0.mk (below_step HW.out hb); have HB2 := Aside0.mk (HB.out.below hb); clear HW HB; have HW := HW2; have HB := HB2; clear HW2 HB2 hb; obtain ⟨q0, q1, q2, q3, q4⟩ := HB.out.cells))
    go_ret
    exact ⟨rfl, HW.out⟩
  | true =>
  have e0 : r = R := by simpa using HRR.out
  subst e0
  clear HRR
  by_cases t5 : x.f0 < 5
  · have g5 : decide (x.f0 < 5) = true := decide_eq_true t5
    have hff : r = 0 := by rw [← HF.out, HE.out, if_pos t5]; rfl
    subst hff
    clear HF
    go_wp2_with (first | (go_at_call 25; (with_reducible refine (HV.out _ HW.out).mono ?_); rintro e we ⟨rfl, hb⟩; have HW2 := Aside0.mk (below_step HW.out hb); have HB2 := Aside0.mk (HB.out.below hb); clear HW HB; have HW := HW2; have HB := HB2; clear HW2 HB2 hb; obtain ⟨q0, q1, q2, q3, q4⟩ := HB.out.cells))
    go_ret
    exact ⟨rfl, HW.out⟩
  have g5 : decide (x.f0 < 5) = false := decide_eq_false t5
  have HT5 := Aside0.mk t5
  clear t5
  go_wp2_with (first | (go_at_call 25; (with_reducible refine (HV.out _ HW.out).mono ?_); rintro e we ⟨rfl, hb⟩; have HW2 := Aside0.mk (below_step HW.out hb); have HB2 := Aside0.mk (HB.out.below hb); clear HW HB; have HW := HW2; have HB := HB2; clear HW2 HB2 hb; obtain ⟨q0, q1, q2, q3, q4⟩ := HB.out.cells))
  clear q0 q1 q2 q3 q4
  go_loopg [3, 4] x.f4.length (fun kq v3 vi w' => ∃ (i : Nat) (c : Int), kq + i = x.f4.length ∧ vi = .int .i64 (i : Int) ∧ v3 = .int .i64 c ∧ Aside0 (c = (dptL (x.f4.take i) : Nat)) ∧ (0 ≤ c ∧ c ≤ 3000000000000000) ∧ Aside0 (Bv w' bb A3 c3 A4 c4 x) ∧ Aside0 (Below w.heap.size w w'))
  case atStart => exact ⟨0, _, by omega, rfl, rfl, ⟨by simp [dptL]⟩, by omega, HB, HW⟩
  case round =>
    clear HB HW
    obtain ⟨i, c, hi, rfl, rfl, HN, hcb, HB, HW⟩ := hrel
    obtain ⟨q0, q1, q2, q3, q4⟩ := HB.out.cells
    by_cases ci : i < x.f4.length
    · have g0 : decide ((i : Int) < (x.f4.length : Int)) = true := decide_eq_true (by omega)
      have g2 : (0 ≤ (i : Int)) = True := eq_true (by omega)
      have g3 : ((i : Int) < (x.f4.length : Int)) = True := eq_true (by omega)
      obtain ⟨j1, rfl⟩ : ∃ j1, gk = j1 + 1 := ⟨gk - 1, by omega⟩
      have hil : x.f4[i]? = some x.f4[i] := List.getElem?_eq_getElem ci
      have hm := List.getElem_mem ci
      have hq := HX.out.es _ hm
      have hz := sz_mem hm
      have hcy := cnt_mem hm
      obtain ⟨y, hq'⟩ : ∃ y, x.f4[i] = y := ⟨_, rfl⟩
      rw [hq'] at hil hq hz hcy
      obtain ⟨ad, Y3, y3, Y4, y4, e1, he0⟩ := el_at HB.out.rd.r4 i ci hil
      have HT := Aside0.mk (dptL_take hil)
      have hL := dptL_take hil
      have HI := Aside0.mk hi
      have HY := Aside0.mk (HIH.out y wr (by have := HS.out; omega) hq (by have := HC.out; omega) he0.rd)
      rw [if_pos (HVM.out y trivial HT5.out (hq' ▸ hm))] at HY
      have hyb : (dpt y : Int) ≤ 1000000000000000 := by
        have h1 := nda_cnt _ y (Nat.lt_succ_self _)
        have := HC.out
        omega
      have hcn : max c (dpt y : Int) ≤ 3000000000000000 ∧ 0 ≤ max c (dpt y : Int) := by
        have h1 := HN.out
        have h2 := HBd.out
        have h3 := HE.out
        have h4 := HC.out
        have h5 := dptL_le x.f4 (i + 1)
        rw [if_neg (by have := HT5.out; omega)] at h3
        omega
      have hy0 : 0 ≤ (dpt y : Int) := by omega
      obtain ⟨d, hd⟩ : ∃ d : Int, (dpt y : Int) = d := ⟨_, rfl⟩
      rw [hd] at HY hyb hcn hy0
      have HD := Aside0.mk hd
      obtain ⟨e0, e2, e3, e4, e5, _⟩ := he0

      clear hil hq' hi hm hq hz hcy hL hd
      subst e1
      go_wp2_with (first | (go_at_call 27; (with_reducible refine HY.out.mono ?_); rintro e we ⟨rfl, hb⟩; have HW2 := Aside0.mk (below_step HW.out hb); have HB2 := Aside0.mk (HB.out.below hb); clear HW HB; have HW := HW2; have HB := HB2; clear HW2 HB2 hb))
      go_roundg j1
      case measure => omega
      case rel => exact ⟨i + 1, max c d, by have := HI.out; omega, rfl, rfl, ⟨by have h1 := HT.out; have h2 := HN.out; have h3 := HD.out; omega⟩, by omega, HB, HW⟩
    · have g0 : decide (i < x.f4.length) = false := decide_eq_false ci
      have hff : r = c + 1 := by
        have h1 := HN.out
        rw [List.take_of_length_le (by omega)] at h1
        rw [← HF.out, HE.out]
        rw [if_neg (by have := HT5.out; omega)]
        omega
      subst hff
      clear HF ci hi HN
      go_wp2
      go_ret
      exact ⟨rfl, HW.out⟩
theorem refTypeNameC (x : S28) (w : World) {A3 : Option Addr} {c3 : Nat} {A4 : Option Addr} {c4 : Nat} (hx : Wv x) (hc : cnt x ≤ 1000000000000000) (hr : Rd w A3 c3 A4 c4 x) :
    Calls Try.prog 33 #[.agg #[.int .i64 x.f0, .int .i64 x.f1, .string x.f2, .slice A3 x.f3.length c3, .slice A4 x.f4.length c4]] w fun e w' => e = .returned (.string (if vd x = true then tn x.f0 else (⟨#[]⟩ : ByteArray))) ∧ Below w.heap.size w w' := by
  have HV := Aside0.mk (fun W (hb : Below w.heap.size w W) => refValidC x W hx hc (hr.below hb))
  have HA := Aside0.mk (new_below w (.cells #[.int .i64 x.f0, .int .i64 x.f1, .string x.f2, .slice A3 x.f3.length c3, .slice A4 x.f4.length c4] 28))
  have HB := Aside0.mk (Bv.new hr)
  have hk := vd_kind (x := x)
  obtain ⟨r, hvr⟩ : ∃ r, vd x = r := ⟨_, rfl⟩
  rw [hvr] at HV hk ⊢
  cases r with
  | false =>
    clear hx hc hr hvr hk
    go_enter Try.func33, Try.ntmps33
    go_wp2_with (first | (go_at_call 25; (with_reducible refine (HV.out _ HA.out).mono ?_); rintro e we ⟨rfl, hb⟩; have HB2 := Aside0.mk (below_step HA.out hb); clear hb))
    go_ret
    exact ⟨rfl, HB2.out⟩
  | true =>
    have hk := hk rfl
    have cls : x.f0 = 0 ∨ x.f0 = 1 ∨ x.f0 = 2 ∨ x.f0 = 3 ∨ x.f0 = 4 ∨ x.f0 = 5 ∨ x.f0 = 6 := by omega
    clear hx hc hr hvr hk
    rw [if_pos rfl]
    obtain ⟨a, b, s, ks, es⟩ := x
    dsimp only at *
    rcases cls with rfl | rfl | rfl | rfl | rfl | rfl | rfl
    all_goals
      go_enter Try.func33, Try.ntmps33
      go_wp2_with (first | (go_at_call 25; (with_reducible refine (HV.out _ HA.out).mono ?_); rintro e we ⟨rfl, hb⟩; have HB2 := Aside0.mk (below_step HA.out hb); have HB3 := Aside0.mk (HB.out.below hb); obtain ⟨q0, q1, q2, q3, q4⟩ := HB3.out.cells; obtain ⟨p0, p1, p2, p3, p4⟩ := (HB3.out.below (new_below we (.cells #[.string ⟨#[110, 117, 108, 108]⟩, .string ⟨#[98, 111, 111, 108, 101, 97, 110]⟩, .string ⟨#[98, 111, 111, 108, 101, 97, 110]⟩, .string ⟨#[110, 117, 109, 98, 101, 114]⟩, .string ⟨#[115, 116, 114, 105, 110, 103]⟩, .string ⟨#[97, 114, 114, 97, 121]⟩, .string ⟨#[111, 98, 106, 101, 99, 116]⟩] 9))).cells; clear hb))
      go_ret
      exact ⟨rfl, below_step HB2.out (new_below _ _)⟩
end Go.Proofs.Ytgpjkojnmeaoiaa.QV

/- Num, the limits at the top (vals.Fit), by hand; nodes as the reference counts them. -/
namespace Go.Proofs.Ytgpjkojnmeaoiaa.QV
open Go Go.RowKit Go.Proofs.YtgpjkojnmeaoiaaW.PrintWords Go.Proofs.YtgpjkojnmeaoiaaW.PrintLast Go.Proofs.YtgpjkojnmeaoiaaW.PrintMore
set_option linter.unusedVariables false
set_option linter.unusedSimpArgs false
set_option maxRecDepth 100000
set_option maxHeartbeats 4000000
theorem okv_kz {form : Bool} {ar : Nat} {x : S28} (h : okv true ar x = true) (h5 : x.f0 < 5) : x.f4 = [] := by
  rw [okv_eq] at h
  unfold fm kz at h
  simp only [Bool.and_eq_true, Bool.or_eq_true, decide_eq_true_eq, beq_iff_eq, Bool.not_true, Bool.false_or] at h
  have h1 := h.1.2.1.1.2
  rcases h1 with h2 | h2
  · omega
  · exact List.length_eq_zero_iff.1 h2
theorem nda_nds (st : Nat) : ∀ x : S28, SizeOf.sizeOf x < st → vd x = true → nda x = nds x := by
  induction st with
  | zero => intro x h; omega
  | succ st ih =>
  intro x hs hv
  have hl : ∀ l : List S28, (∀ y ∈ l, SizeOf.sizeOf y < st ∧ vd y = true) → ndaL l = ndsL l := fun l => by
    induction l with
    | nil => intro _; rfl
    | cons y l ihl =>
      intro hy
      have h1 := hy y List.mem_cons_self
      simp only [ndaL, ndsL, ih y h1.1 h1.2, ihl (fun z hz => hy z (List.mem_cons_of_mem _ hz))]
  rw [nda_eq, nds_eq]
  by_cases h5 : x.f0 < 5
  · rw [if_pos h5]
    have hv2 := hv
    rw [vd_eq] at hv2
    simp only [Bool.and_eq_true] at hv2
    rw [okv_kz (form := true) hv2.1.1 h5]
    rfl
  · rw [if_neg h5, hl x.f4 (fun y hy => ⟨by have := sz_mem hy; omega, vd_mem hv h5 hy⟩)]
theorem fill5 {w W : World} {b : Nat} (h : W.heap[b]? = some (.cells #[.int .i64 0, .int .i64 0, .string ⟨#[]⟩, .slice none 0 0, .slice none 0 0] 28 (0, 0))) (hz : Below w.heap.size w W) (hb : w.heap.size ≤ b) (v0 v1 v2 v3 v4 : Value) : ∃ W', ((((W.setCell ⟨b, 0, none⟩ v0).setCell ⟨b, 1, none⟩ v1).setCell ⟨b, 2, none⟩ v2).setCell ⟨b, 3, none⟩ v3).setCell ⟨b, 4, none⟩ v4 = W' ∧
    (W'.cell? ⟨b, 0, none⟩ = some v0 ∧ W'.cell? ⟨b, 1, none⟩ = some v1 ∧ W'.cell? ⟨b, 2, none⟩ = some v2 ∧ W'.cell? ⟨b, 3, none⟩ = some v3 ∧ W'.cell? ⟨b, 4, none⟩ = some v4) ∧ W.grownBy W' (some b) ∧ Below w.heap.size w W' := by
  have gc : ∀ (W : World) (j : Nat) (v : Value), W.grownBy (W.setCell ⟨b, j, none⟩ v) (some b) := fun W j v => ⟨rfl, rfl, rfl, by simp, fun k _ hk => Below.heap_setCell _ _ _ k (fun e => hk (by rw [e]))⟩
  have hg := ((((gc W 0 v0).trans (gc _ 1 v1)).trans (gc _ 2 v2)).trans (gc _ 3 v3)).trans (gc _ 4 v4)
  have e : (((((W.setCell ⟨b, 0, none⟩ v0).setCell ⟨b, 1, none⟩ v1).setCell ⟨b, 2, none⟩ v2).setCell ⟨b, 3, none⟩ v3).setCell ⟨b, 4, none⟩ v4).heap[b]? = some (.cells #[v0, v1, v2, v3, v4] 28 (0, 0)) := by
    rw [heap_setCell_same _ _ _ _ _ _ (heap_setCell_same _ _ _ _ _ _ (heap_setCell_same _ _ _ _ _ _ (heap_setCell_same _ _ _ _ _ _ (heap_setCell_same _ _ _ _ _ _ h))))]
    rfl
  refine ⟨_, rfl, ?_, hg, hz.trans ⟨hg.os, hg.tape, hg.output, hg.size, fun k hk => hg.block k (by have := hz.size; omega) (fun e => by have := Option.some.inj e; omega)⟩⟩
  refine ⟨?_, ?_, ?_, ?_, ?_⟩
  all_goals
    simp only [World.cell?, e]
    rfl
theorem zero5 {W : World} {b : Nat} (h : W.heap[b]? = some (.cells #[.int .i64 0, .int .i64 0, .string ⟨#[]⟩, .slice none 0 0, .slice none 0 0] 28 (0, 0))) : (∀ j, W.frozen? ⟨b, j, none⟩ = false) ∧ W.cell? ⟨b, 0, none⟩ = some (.int .i64 0) ∧ W.cell? ⟨b, 1, none⟩ = some (.int .i64 0) ∧ W.cell? ⟨b, 2, none⟩ = some (.string ⟨#[]⟩) ∧ W.cell? ⟨b, 3, none⟩ = some (.slice none 0 0) ∧ W.cell? ⟨b, 4, none⟩ = some (.slice none 0 0) := by
  refine ⟨fun j => by simp [World.frozen?, h], ?_⟩
  simp [World.cell?, h]
theorem numC (n : Int) (w : World) : Calls Try.prog 58 #[.int .i64 n] w fun e w' => e = .returned (.agg #[.int .i64 3, .int .i64 n, .string ⟨#[]⟩, .slice none 0 0, .slice none 0 0]) ∧ Below w.heap.size w w' := by
  have HN : Aside0 ((w.alloc (.cells #[.int .i64 0, .int .i64 0, .string ⟨#[]⟩, .slice none 0 0, .slice none 0 0] 28)).heap[w.heap.size]? = some (.cells #[.int .i64 0, .int .i64 0, .string ⟨#[]⟩, .slice none 0 0, .slice none 0 0] 28 (0, 0))) := ⟨heap_alloc_new w _⟩
  have HB := Aside0.mk (new_below w (.cells #[.int .i64 0, .int .i64 0, .string ⟨#[]⟩, .slice none 0 0, .slice none 0 0] 28))
  go_enter Try.func58, Try.ntmps58
  go_upto_region 1 with fail
  obtain ⟨b, hb⟩ : ∃ b, w.heap.size = b := ⟨_, rfl⟩
  have hbb : Aside0 (w.heap.size ≤ b) := ⟨by omega⟩
  obtain ⟨W, hW⟩ : ∃ W, w.alloc (.cells #[.int .i64 0, .int .i64 0, .string ⟨#[]⟩, .slice none 0 0, .slice none 0 0] 28) = W := ⟨_, rfl⟩
  rw [hW, hb] at HN
  rw [hW] at HB
  rw [hW, hb]
  clear hW hb
  obtain ⟨t0, t1, t2, t3, t4, t5⟩ := zero5 HN.out
  obtain ⟨W', hW', ⟨u0, u1, u2, u3, u4⟩, hg, hz⟩ := fill5 HN.out HB.out hbb.out (.int .i64 3) (.int .i64 n) (.string ⟨#[]⟩) (.slice none 0 0) (.slice none 0 0)
  have HF := Aside0.mk hW'
  have HZ := Aside0.mk hz
  clear hW' hg hz
  go_wp2_with fail
  rw [HF.out]
  exact bodyPost_ret (v := .agg #[.int .i64 3, .int .i64 n, .string ⟨#[]⟩, .slice none 0 0, .slice none 0 0]) (by simp [results, Try.results58, go_sem, u0, u1, u2, u3, u4]) rfl ⟨rfl, HZ.out⟩
theorem valueNumC (n : Int) (w : World) : Calls Try.prog 22 #[.int .i64 n] w fun e w' => e = .returned (.agg #[.int .i64 3, .int .i64 n, .string ⟨#[]⟩, .slice none 0 0, .slice none 0 0]) ∧ Below w.heap.size w w' := by
  have HN : Aside0 ((w.alloc (.cells #[.int .i64 0, .int .i64 0, .string ⟨#[]⟩, .slice none 0 0, .slice none 0 0] 28)).heap[w.heap.size]? = some (.cells #[.int .i64 0, .int .i64 0, .string ⟨#[]⟩, .slice none 0 0, .slice none 0 0] 28 (0, 0))) := ⟨heap_alloc_new w _⟩
  have HB := Aside0.mk (new_below w (.cells #[.int .i64 0, .int .i64 0, .string ⟨#[]⟩, .slice none 0 0, .slice none 0 0] 28))
  go_enter Try.func22, Try.ntmps22
  go_upto_region 1 with fail
  obtain ⟨b, hb⟩ : ∃ b, w.heap.size = b := ⟨_, rfl⟩
  have hbb : Aside0 (w.heap.size ≤ b) := ⟨by omega⟩
  have hbl : Aside0 (b < (w.alloc (.cells #[.int .i64 0, .int .i64 0, .string ⟨#[]⟩, .slice none 0 0, .slice none 0 0] 28)).heap.size) := ⟨by simp; omega⟩
  obtain ⟨W, hW⟩ : ∃ W, w.alloc (.cells #[.int .i64 0, .int .i64 0, .string ⟨#[]⟩, .slice none 0 0, .slice none 0 0] 28) = W := ⟨_, rfl⟩
  rw [hW, hb] at HN
  rw [hW] at HB hbl
  rw [hW, hb]
  clear hW hb
  go_wp2_with (first | (go_at_call 58; (with_reducible refine (numC n _).mono ?_); rintro e we ⟨rfl, hc⟩; have HC := Aside0.mk hc; clear hc; have HN2 := Aside0.mk ((HC.out.block b hbl.out).trans HN.out); have HB2 := Aside0.mk (below_step HB.out HC.out); obtain ⟨t0, t1, t2, t3, t4, t5⟩ := zero5 HN2.out))
  obtain ⟨W', hW', ⟨u0, u1, u2, u3, u4⟩, hg, hz⟩ := fill5 HN2.out HB2.out hbb.out (.int .i64 3) (.int .i64 n) (.string ⟨#[]⟩) (.slice none 0 0) (.slice none 0 0)
  rw [hW']
  exact bodyPost_ret (v := .agg #[.int .i64 3, .int .i64 n, .string ⟨#[]⟩, .slice none 0 0, .slice none 0 0]) (by simp [results, Try.results22, go_sem, u0, u1, u2, u3, u4]) rfl ⟨rfl, hz⟩
end Go.Proofs.Ytgpjkojnmeaoiaa.QV

/- vals.Fit, by hand. -/
namespace Go.Proofs.Ytgpjkojnmeaoiaa.QV
open Go Go.RowKit Go.Proofs.YtgpjkojnmeaoiaaW.PrintWords Go.Proofs.YtgpjkojnmeaoiaaW.PrintLast Go.Proofs.YtgpjkojnmeaoiaaW.PrintMore
set_option linter.unusedVariables false
set_option linter.unusedSimpArgs false
set_option maxRecDepth 100000
set_option maxHeartbeats 4000000
theorem cells5 {W : World} {b : Nat} {v0 v1 v2 v3 v4 : Value} (h : W.heap[b]? = some (.cells #[v0, v1, v2, v3, v4] 28 (0, 0))) : W.cell? ⟨b, 0, none⟩ = some v0 ∧ W.cell? ⟨b, 1, none⟩ = some v1 ∧ W.cell? ⟨b, 2, none⟩ = some v2 ∧ W.cell? ⟨b, 3, none⟩ = some v3 ∧ W.cell? ⟨b, 4, none⟩ = some v4 := by
  simp [World.cell?, h]
/-- Within the limits of nodes, sizes and depth. -/
def ft (x : S28) : Bool := fitR false 0 x 0 0
theorem fitTopC (x : S28) (w : World) {A3 : Option Addr} {c3 : Nat} {A4 : Option Addr} {c4 : Nat} (hx : Wv x) (hc : cnt x ≤ 1000000000000000) (hr : Rd w A3 c3 A4 c4 x) :
    Calls Try.prog 49 #[.agg #[.int .i64 x.f0, .int .i64 x.f1, .string x.f2, .slice A3 x.f3.length c3, .slice A4 x.f4.length c4]] w fun e w' => e = .returned (if ft x = true then .tuple #[.agg #[.int .i64 x.f0, .int .i64 x.f1, .string x.f2, .slice A3 x.f3.length c3, .slice A4 x.f4.length c4], .int .i64 0] else .tuple #[.agg #[.int .i64 0, .int .i64 0, .string ⟨#[]⟩, .slice none 0 0, .slice none 0 0], .int .i64 2]) ∧ Below w.heap.size w w' := by
  obtain ⟨b, hb⟩ : ∃ b, w.heap.size = b := ⟨_, rfl⟩
  have s1 : (w.alloc (.cells #[.int .i64 x.f0, .int .i64 x.f1, .string x.f2, .slice A3 x.f3.length c3, .slice A4 x.f4.length c4] 28)).heap.size = b + 1 := by simp [hb]
  have s2 : ((w.alloc (.cells #[.int .i64 x.f0, .int .i64 x.f1, .string x.f2, .slice A3 x.f3.length c3, .slice A4 x.f4.length c4] 28)).alloc (.cells #[.int .i64 0, .int .i64 0, .string ⟨#[]⟩, .slice none 0 0, .slice none 0 0] 28)).heap.size = b + 2 := by simp [hb]
  have hB1 := Bv.new hr
  rw [hb] at hB1
  have ha1 := new_below w (.cells #[.int .i64 x.f0, .int .i64 x.f1, .string x.f2, .slice A3 x.f3.length c3, .slice A4 x.f4.length c4] 28)
  have ha2 := new_below (w.alloc (.cells #[.int .i64 x.f0, .int .i64 x.f1, .string x.f2, .slice A3 x.f3.length c3, .slice A4 x.f4.length c4] 28)) (.cells #[.int .i64 0, .int .i64 0, .string ⟨#[]⟩, .slice none 0 0, .slice none 0 0] 28)
  have hn2 := heap_alloc_new (w.alloc (.cells #[.int .i64 x.f0, .int .i64 x.f1, .string x.f2, .slice A3 x.f3.length c3, .slice A4 x.f4.length c4] 28)) (.cells #[.int .i64 0, .int .i64 0, .string ⟨#[]⟩, .slice none 0 0, .slice none 0 0] 28)
  rw [s1] at hn2
  have hB2 := hB1.below ha2
  have hbb2 := below_step ha1 ha2
  have ha3 := new_below ((w.alloc (.cells #[.int .i64 x.f0, .int .i64 x.f1, .string x.f2, .slice A3 x.f3.length c3, .slice A4 x.f4.length c4] 28)).alloc (.cells #[.int .i64 0, .int .i64 0, .string ⟨#[]⟩, .slice none 0 0, .slice none 0 0] 28)) (.cells #[.int .i64 0, .int .i64 0] 72)
  have hM3 := meter_new ((w.alloc (.cells #[.int .i64 x.f0, .int .i64 x.f1, .string x.f2, .slice A3 x.f3.length c3, .slice A4 x.f4.length c4] 28)).alloc (.cells #[.int .i64 0, .int .i64 0, .string ⟨#[]⟩, .slice none 0 0, .slice none 0 0] 28))
  rw [s2] at hM3
  have hB3 := hB2.below ha3
  have hn3 := (ha3.block (b + 1) (by omega)).trans hn2
  have hbb3 := below_step hbb2 ha3
  have HQ := Aside0.mk (fit0 false x w (((w.alloc (.cells #[.int .i64 x.f0, .int .i64 x.f1, .string x.f2, .slice A3 x.f3.length c3, .slice A4 x.f4.length c4] 28)).alloc (.cells #[.int .i64 0, .int .i64 0, .string ⟨#[]⟩, .slice none 0 0, .slice none 0 0] 28)).alloc (.cells #[.int .i64 0, .int .i64 0] 72)) hx hc hr (b + 2) (by omega) hbb3 hM3)
  have HB := Aside0.mk hB3
  have HZ := Aside0.mk hn3
  have HW := Aside0.mk hbb3
  have hq0 := hB2.cells
  have HV := Aside0.mk hb
  have HS := Aside0.mk (show (((w.alloc (.cells #[.int .i64 x.f0, .int .i64 x.f1, .string x.f2, .slice A3 x.f3.length c3, .slice A4 x.f4.length c4] 28)).alloc (.cells #[.int .i64 0, .int .i64 0, .string ⟨#[]⟩, .slice none 0 0, .slice none 0 0] 28)).alloc (.cells #[.int .i64 0, .int .i64 0] 72)).heap.size = b + 3 by simp [hb])
  obtain ⟨r, hvr⟩ : ∃ r, ft x = r := ⟨_, rfl⟩
  rw [hvr]
  unfold ft at hvr
  rw [hvr] at HQ
  clear hB1 ha1 ha2 hn2 hB2 hbb2 ha3 hM3 hB3 hn3 hbb3 hx hc hr s1 s2 hvr hq0 HV
  subst hb
  go_enter Try.func49, Try.ntmps49
  have hrow := HB.out.cells
  obtain ⟨q0, q1, q2, q3, q4⟩ := hrow
  cases r with
  | false =>
    go_wp2_with (first | (go_at_call 72; (with_reducible refine HQ.out.mono ?_); rintro e we ⟨rfl, hg⟩; have HG := Aside0.mk hg; clear hg; have hlt := HS.out; have HZ2 := Aside0.mk ((HG.out.block (w.heap.size + 1) (by omega) (fun e => by have := Option.some.inj e; omega)).trans HZ.out); have HB2 := Aside0.mk (below_of_grown HW.out (by omega) (by omega) HG.out); clear hlt; obtain ⟨t0, t1, t2, t3, t4, t5⟩ := zero5 HZ2.out))
    obtain ⟨W', hW', ⟨u0, u1, u2, u3, u4⟩, hg, hz⟩ := fill5 HZ2.out HB2.out (by omega) (.int .i64 0) (.int .i64 0) (.string ⟨#[]⟩) (.slice none 0 0) (.slice none 0 0)
    rw [hW']
    exact bodyPost_ret (v := .tuple #[.agg #[.int .i64 0, .int .i64 0, .string ⟨#[]⟩, .slice none 0 0, .slice none 0 0], .int .i64 2]) (by simp [results, Try.results49, go_sem, u0, u1, u2, u3, u4]) rfl ⟨rfl, hz⟩
  | true =>
    go_wp2_with (first | (go_at_call 72; (with_reducible refine HQ.out.mono ?_); rintro e we ⟨rfl, hg⟩; have HG := Aside0.mk hg; clear hg; have hlt := HS.out; have HZ2 := Aside0.mk ((HG.out.block (w.heap.size + 1) (by omega) (fun e => by have := Option.some.inj e; omega)).trans HZ.out); have HV2 := Aside0.mk ((HG.out.block w.heap.size (by omega) (fun e => by have := Option.some.inj e; omega)).trans HB.out.blk); have HB2 := Aside0.mk (below_of_grown HW.out (by omega) (by omega) HG.out); clear hlt; obtain ⟨t0, t1, t2, t3, t4, t5⟩ := zero5 HZ2.out; obtain ⟨p0, p1, p2, p3, p4⟩ := cells5 HV2.out))
    obtain ⟨W', hW', ⟨u0, u1, u2, u3, u4⟩, hg, hz⟩ := fill5 HZ2.out HB2.out (by omega) (.int .i64 x.f0) (.int .i64 x.f1) (.string x.f2) (.slice A3 x.f3.length c3) (.slice A4 x.f4.length c4)
    rw [hW']
    exact bodyPost_ret (v := .tuple #[.agg #[.int .i64 x.f0, .int .i64 x.f1, .string x.f2, .slice A3 x.f3.length c3, .slice A4 x.f4.length c4], .int .i64 0]) (by simp [results, Try.results49, go_sem, u0, u1, u2, u3, u4]) rfl ⟨rfl, hz⟩
end Go.Proofs.Ytgpjkojnmeaoiaa.QV

/- vals.Obj: the members' row and its sort, by hand. -/
namespace Go.Proofs.Ytgpjkojnmeaoiaa.QV
open Go Go.RowKit Go.Proofs.YtgpjkojnmeaoiaaW.PrintWords Go.Proofs.YtgpjkojnmeaoiaaW.PrintLast Go.Proofs.YtgpjkojnmeaoiaaW.PrintMore
set_option linter.unusedVariables false
set_option linter.unusedSimpArgs false
set_option maxRecDepth 100000
set_option maxHeartbeats 4000000
def memR : Mem → List Value → Prop := fun m cs => cs = [.string m.1, .int .i64 m.2]
def mems (l : List ByteArray) : List Mem := l.mapIdx (fun i k => (k, (i : Int)))
theorem mems_take {l : List ByteArray} {i : Nat} {k : ByteArray} (h : l[i]? = some k) : mems (l.take (i + 1)) = mems (l.take i) ++ [(k, (i : Int))] := by
  have hi := (List.getElem?_eq_some_iff.1 h).1
  rw [List.take_add_one, h]
  unfold mems
  rw [List.mapIdx_append]
  simp [List.length_take, Nat.min_eq_left (Nat.le_of_lt hi)]
theorem mems_len (l : List ByteArray) : (mems l).length = l.length := by unfold mems; simp
theorem mems_lt (l : List ByteArray) : (mems l).Pairwise (fun x y => x.2 < y.2) := by
  unfold mems
  rw [List.pairwise_iff_getElem]
  intro i j hi hj hij
  simp only [List.getElem_mapIdx]
  omega
theorem info76 : (Try.prog.info? 76).map (fun i => (i.zero, i.size, i.bytes)) = some (some (.agg #[.string ⟨#[]⟩, .int .i64 0]), 2, 24) := by kernel_rfl
/-- Between two rounds of the first loop of Obj. -/
structure Os (w W : World) (v : Value) (ms : List Mem) : Prop where
  z : Below w.heap.size w W
  res : W.heap[w.heap.size]? = some (.cells #[.int .i64 0, .int .i64 0, .string ⟨#[]⟩, .slice none 0 0, .slice none 0 0] 28 (0, 0))
  row : OwnRow memR 76 2 W (w.heap.size + 1) v ms
  lt : w.heap.size < W.heap.size
theorem Os.round {w W W1 : World} {v v1 : Value} {ms : List Mem} {m : Mem} (h : Os w W v ms) (hr : OwnRow memR 76 2 W1 (w.heap.size + 1) v1 (ms ++ [m])) (hb : Below (w.heap.size + 1) W W1) : Os w W1 v1 (ms ++ [m]) := by
  have h1 := h.lt
  have h2 := hb.size
  exact ⟨h.z.trans (hb.mono (by omega)), (hb.block _ (by omega)).trans h.res, hr, by omega⟩
theorem reps_flat : ∀ {ms : List Mem} {inner : List Value}, Reps memR 2 ms inner → inner = flat ms := fun {ms} => by
  induction ms with
  | nil =>
    intro inner h
    exact List.length_eq_zero_iff.1 (by have := h.1; simpa using this)
  | cons m l ih =>
    intro inner h
    obtain ⟨h1, h2⟩ := h
    rw [List.length_cons] at h1
    rcases inner with _ | ⟨a, _ | ⟨b, r⟩⟩
    · exfalso
      simp only [List.length_nil] at h1
      omega
    · exfalso
      simp only [List.length_cons, List.length_nil] at h1
      omega
    · have e := h2 0 m rfl
      have e : [a, b] = [.string m.1, .int .i64 m.2] := by simpa [memR] using e
      injection e with ea eb
      injection eb with eb _
      subst ea eb
      have hr := ih (inner := r) ⟨by simp at h1; omega, fun j p hp => by
        have h3 := h2 (j + 1) p (by simpa using hp)
        rw [show (j + 1) * 2 = j * 2 + 1 + 1 by omega] at h3
        simpa using h3⟩
      rw [hr]
      obtain ⟨k, i⟩ := m
      rfl
/-- The members as they lie. -/
def Ml (W : World) (base : Nat) (X : Option Addr) (n cp : Nat) (ms : List Mem) : Prop := (ms = [] ∧ X = none ∧ n = 0 ∧ cp = 0) ∨ ∃ g, X = some ⟨g, 0, none⟩ ∧ n = ms.length ∧ base ≤ g ∧ Mr W g cp ms
theorem Os.ml {w W : World} {X : Option Addr} {n cp : Nat} {ms : List Mem} (h : Os w W (.slice X n cp) ms) : Ml W (w.heap.size + 1) X n cp ms := by
  obtain ⟨inner, ho, hr⟩ := h.row
  have hf := reps_flat hr
  rcases ho.2 with ⟨e1, e2⟩ | ⟨g, cap, cur, e1, hb, hg, hnc, hcm, hsz, htk⟩
  · injection e1 with a1 a2 a3
    exact Or.inl ⟨List.length_eq_zero_iff.1 e2, a1, a2, a3⟩
  · injection e1 with a1 a2 a3
    subst a1 a2 a3
    exact Or.inr ⟨g, rfl, rfl, hb, ⟨⟨cur, hg, hsz, by rw [Nat.mul_comm 2, htk, hf]⟩, hnc⟩⟩
structure Ps (w W : World) (ks : List ByteArray) (X : Option Addr) (n cp : Nat) (ms : List Mem) : Prop where
  z : Below w.heap.size w W
  res : W.heap[w.heap.size]? = some (.cells #[.int .i64 0, .int .i64 0, .string ⟨#[]⟩, .slice none 0 0, .slice none 0 0] 28 (0, 0))
  row : Ml W (w.heap.size + 1) X n cp ms
  lt : w.heap.size < W.heap.size
  p : ms.Perm (mems ks)
  s : ms.Pairwise lexM
theorem sortMl {w W : World} {X : Option Addr} {n cp : Nat} {ks : List ByteArray} (h : Os w W (.slice X n cp) (mems ks)) (hn : ks.length ≤ 20) :
    Calls Try.prog 73 #[.slice X n cp, .func (.func 74) #[] #[]] W fun e W' => (∃ u, e = .returned u) ∧ ∃ ms, Ps w W' ks X n cp ms := by
  have hl := h.lt
  rcases h.ml with ⟨h1, rfl, rfl, rfl⟩ | ⟨g, rfl, rfl, hb, hm⟩
  · refine (sortStable0 W).mono ?_
    rintro e W' ⟨hu, rfl⟩
    exact ⟨hu, [], ⟨h.z, h.res, Or.inl ⟨rfl, rfl, rfl, rfl⟩, hl, by rw [h1], List.Pairwise.nil⟩⟩
  · refine (sortStableC (mems ks) g cp W hm (by rw [mems_len]; exact hn) (mems_lt ks)).mono ?_
    rintro e W' ⟨hu, ms, h1, h2, h3, h4⟩
    have h5 := h2.size
    refine ⟨hu, ms, ⟨h.z.trans ⟨h2.os, h2.tape, h2.output, h2.size, fun k hk => h2.block k (by omega) (fun e => by have := Option.some.inj e; omega)⟩, (h2.block _ hl (fun e => by have := Option.some.inj e; omega)).trans h.res, Or.inr ⟨g, rfl, h3.length_eq.symm, hb, h1⟩, by omega, h3, h4⟩⟩
end Go.Proofs.Ytgpjkojnmeaoiaa.QV

/- vals.Obj, by hand: its two loops. -/
namespace Go.Proofs.Ytgpjkojnmeaoiaa.QV
open Go Go.RowKit Go.Proofs.YtgpjkojnmeaoiaaW.PrintWords Go.Proofs.YtgpjkojnmeaoiaaW.PrintLast Go.Proofs.YtgpjkojnmeaoiaaW.PrintMore
set_option linter.unusedVariables false
set_option linter.unusedSimpArgs false
set_option maxRecDepth 100000
set_option maxHeartbeats 4000000
/-- The last of the members with the same key. -/
def dd : List Mem → List Mem
  | [] => []
  | m :: l => match l with
    | [] => [m]
    | m' :: _ => if m'.1 = m.1 then dd l else m :: dd l
theorem dd_last {ms : List Mem} {j : Nat} {m : Mem} (h : ms[j]? = some m) (hl : ¬ j + 1 < ms.length) : dd (ms.drop j) = [m] ∧ dd (ms.drop (j + 1)) = [] := by
  obtain ⟨h1, h2⟩ := List.getElem?_eq_some_iff.1 h
  have h3 : ms.drop (j + 1) = [] := List.drop_eq_nil_of_le (by omega)
  rw [List.drop_eq_getElem_cons h1, h3, h2]
  exact ⟨rfl, rfl⟩
theorem dd_next {ms : List Mem} {j : Nat} {m m' : Mem} (h : ms[j]? = some m) (h' : ms[j + 1]? = some m') : dd (ms.drop j) = if m'.1 = m.1 then dd (ms.drop (j + 1)) else m :: dd (ms.drop (j + 1)) := by
  obtain ⟨h1, h2⟩ := List.getElem?_eq_some_iff.1 h
  obtain ⟨h3, h4⟩ := List.getElem?_eq_some_iff.1 h'
  rw [List.drop_eq_getElem_cons h1, h2, List.drop_eq_getElem_cons h3, h4]
  rw [dd]
def kR : ByteArray → List Value → Prop := fun k cs => cs = [.string k]
def ge (es : List S28) (m : Mem) : S28 := (es[m.2.toNat]?).getD ⟨0, 0, ⟨#[]⟩, [], []⟩
/-- A way of being in memory that implies the readable one. -/
def Rok (R : S28 → List Value → Prop) (w : World) : Prop := ∀ y cs, R y cs → k28.K w y cs
theorem el_atR {R : S28 → List Value → Prop} {w : World} {A : Option Addr} {n : Nat} {l : List S28} (hR : Rok R w) (h : ReadsRow R 5 w A n l) (i : Nat) (hi : i < n) {x : S28} (hx : l[i]? = some x) : ∃ ad A3 c3 A4 c4, A = some ad ∧ Ce w (ad.add (i * 5)) A3 c3 A4 c4 x ∧ R x [.int .i64 x.f0, .int .i64 x.f1, .string x.f2, .slice A3 x.f3.length c3, .slice A4 x.f4.length c4] := by
  obtain ⟨ad, cs, e, hl, hr, hc⟩ := h.get_ ⟨0, 0, ⟨#[]⟩, [], []⟩ (i : Int) (by omega) (by omega)
  rw [Int.toNat_natCast, List.getD_eq_getElem?_getD, hx] at hr
  rw [Int.toNat_natCast] at hc
  simp only [Option.getD_some] at hr
  obtain ⟨A3, c3, A4, c4, rfl, l3, g3, l4, g4⟩ := k28_open (hR _ _ hr)
  refine ⟨ad, A3, c3, A4, c4, e, ⟨?_, ?_, ?_, ?_, ?_, ⟨l3, g3, l4, g4⟩⟩, hr⟩
  · exact hc 0 _ rfl
  · rw [← add_field _ _ 1 (by omega)]; exact hc 1 _ rfl
  · rw [← add_field _ _ 2 (by omega)]; exact hc 2 _ rfl
  · rw [← add_field _ _ 3 (by omega)]; exact hc 3 _ rfl
  · rw [← add_field _ _ 4 (by omega)]; exact hc 4 _ rfl
/-- Between two rounds of the second loop of Obj: the value that is made lies in block ob. -/
structure Qs (R : S28 → List Value → Prop) (w W : World) (ks : List ByteArray) (es : List S28) (X : Option Addr) (cp : Nat) (ms : List Mem) (ob : Nat) (v3 v4 : Value) (a3 : List ByteArray) (a4 : List S28) : Prop where
  z : Below w.heap.size w W
  res : W.heap[w.heap.size]? = some (.cells #[.int .i64 0, .int .i64 0, .string ⟨#[]⟩, .slice none 0 0, .slice none 0 0] 28 (0, 0))
  row : Ml W (w.heap.size + 1) X ms.length cp ms
  p : ms.Perm (mems ks)
  s : ms.Pairwise lexM
  out : W.heap[ob]? = some (.cells #[.int .i64 6, .int .i64 0, .string ⟨#[]⟩, v3, v4] 28 (0, 0))
  o1 : w.heap.size < ob
  r3 : OwnRow kR 9 1 W (ob + 1) v3 a3
  r4 : OwnRow R 28 5 W (ob + 1) v4 a4
  ml : ∀ a, X = some a → a.block < ob
theorem Qs.below {R : S28 → List Value → Prop} {w W W1 : World} {ks es X cp ms ob v3 v4 a3 a4} (h : Qs R w W ks es X cp ms ob v3 v4 a3 a4) (hb : Below W.heap.size W W1) : Qs R w W1 ks es X cp ms ob v3 v4 a3 a4 := by
  have ho : ob < W.heap.size := (Array.getElem?_eq_some_iff.1 h.out).1
  have h1 := h.o1
  refine ⟨h.z.trans (hb.mono (Below.size h.z)), (hb.block _ (by omega)).trans h.res, ?_, h.p, h.s, (hb.block _ ho).trans h.out, h.o1, h.r3.below hb, h.r4.below hb, h.ml⟩
  rcases h.row with h | ⟨g, a, b, c, d⟩
  · exact Or.inl h
  · exact Or.inr ⟨g, a, b, c, d.below hb⟩
theorem fill5h {W : World} {b : Nat} (h : W.heap[b]? = some (.cells #[.int .i64 0, .int .i64 0, .string ⟨#[]⟩, .slice none 0 0, .slice none 0 0] 28 (0, 0))) (v0 v1 v2 v3 v4 : Value) : ∃ W', ((((W.setCell ⟨b, 0, none⟩ v0).setCell ⟨b, 1, none⟩ v1).setCell ⟨b, 2, none⟩ v2).setCell ⟨b, 3, none⟩ v3).setCell ⟨b, 4, none⟩ v4 = W' ∧
    W'.heap[b]? = some (.cells #[v0, v1, v2, v3, v4] 28 (0, 0)) ∧ W.grownBy W' (some b) := by
  have gc : ∀ (W : World) (j : Nat) (v : Value), W.grownBy (W.setCell ⟨b, j, none⟩ v) (some b) := fun W j v => ⟨rfl, rfl, rfl, by simp, fun k _ hk => Below.heap_setCell _ _ _ k (fun e => hk (by rw [e]))⟩
  have hg := ((((gc W 0 v0).trans (gc _ 1 v1)).trans (gc _ 2 v2)).trans (gc _ 3 v3)).trans (gc _ 4 v4)
  refine ⟨_, rfl, ?_, hg⟩
  rw [heap_setCell_same _ _ _ _ _ _ (heap_setCell_same _ _ _ _ _ _ (heap_setCell_same _ _ _ _ _ _ (heap_setCell_same _ _ _ _ _ _ (heap_setCell_same _ _ _ _ _ _ h))))]
  rfl
/-- Where the second loop begins. -/
theorem Ps.start {R : S28 → List Value → Prop} {w W W1 : World} {ks : List ByteArray} {es : List S28} {X : Option Addr} {cp : Nat} {ms : List Mem} (h : Ps w W ks X ms.length cp ms) (hg : W.grownBy W1 none) (hb : W1.heap[W.heap.size]? = some (.cells #[.int .i64 6, .int .i64 0, .string ⟨#[]⟩, .slice none 0 0, .slice none 0 0] 28 (0, 0))) :
    Qs R w W1 ks es X cp ms W.heap.size (.slice none 0 0) (.slice none 0 0) [] [] := by
  have hb1 : Below W.heap.size W W1 := ⟨hg.os, hg.tape, hg.output, hg.size, fun k hk => hg.block k hk (by simp)⟩
  have h1 := h.lt
  refine ⟨h.z.trans (hb1.mono (Below.size h.z)), (hb1.block _ h1).trans h.res, ?_, h.p, h.s, hb, h1, OwnRow.none_ _ _ _ _ _, OwnRow.none_ _ _ _ _ _, ?_⟩
  · rcases h.row with h | ⟨g, a, b, c, d⟩
    · exact Or.inl h
    · exact Or.inr ⟨g, a, b, c, d.below hb1⟩
  · intro a e
    rcases h.row with ⟨_, e2, _⟩ | ⟨g, e2, b, c, ⟨⟨cur, d, _⟩, _⟩⟩
    · rw [e2] at e; cases e
    · rw [e2] at e
      injection e with e
      rw [← e]
      exact (Array.getElem?_eq_some_iff.1 d).1
theorem Ps.n {w W : World} {ks X n cp ms} (h : Ps w W ks X n cp ms) : n = ms.length := by
  rcases h.row with ⟨rfl, _, rfl, _⟩ | ⟨g, _, e, _⟩
  · rfl
  · exact e
theorem dd_len : ∀ l : List Mem, (dd l).length ≤ l.length := fun l => by
  induction l with
  | nil => simp [dd]
  | cons m l ih =>
    cases l with
    | nil => simp [dd]
    | cons m' l =>
    rw [dd]
    split
    · simp only [List.length_cons] at *; omega
    · simp only [List.length_cons] at *; omega
theorem own_base {α : Type} {R : α → List Value → Prop} {e size : Nat} {w : World} {base : Nat} {v : Value} {ps : List α} (h : OwnRow R e size w base v ps) {k : Nat} (hk : v.ownBlock = some k) : base ≤ k := by
  obtain ⟨inner, ho, _⟩ := h
  rcases ho.2 with ⟨rfl, _⟩ | ⟨g, cap, cur, rfl, hg, _⟩
  · simp [Value.ownBlock] at hk
  · simp [Value.ownBlock] at hk
    omega
theorem own_ty {α : Type} {R : α → List Value → Prop} {e size : Nat} {w : World} {base : Nat} {v : Value} {ps : List α} (h : OwnRow R e size w base v ps) {k : Nat} (hk : v.ownBlock = some k) : ∃ cells, w.heap[k]? = some (.cells cells e (0, 0)) := by
  obtain ⟨inner, ho, _⟩ := h
  exact own_typed ho k hk
theorem own_apart {α β : Type} {R : α → List Value → Prop} {R' : β → List Value → Prop} {e e' size size' : Nat} {w : World} {base base' : Nat} {v v' : Value} {ps : List α} {ps' : List β} (h : OwnRow R e size w base v ps) (h' : OwnRow R' e' size' w base' v' ps') (hne : e' ≠ e) : v'.ownBlock = none ∨ v'.ownBlock ≠ v.ownBlock := by
  cases hv : v.ownBlock with
  | none =>
    cases hv' : v'.ownBlock with
    | none => exact Or.inl rfl
    | some k => exact Or.inr (by simp)
  | some k =>
    obtain ⟨cells, hc⟩ := own_ty h hv
    exact Or.inr (fun e => h'.ne_block hc hne e.symm)
theorem own_set {α : Type} {R : α → List Value → Prop} {e size : Nat} {w : World} {ob : Nat} {v : Value} {ps : List α} (h : OwnRow R e size w (ob + 1) v ps) (j : Nat) (u : Value) : OwnRow R e size (w.setCell ⟨ob, j, none⟩ u) (ob + 1) v ps :=
  h.other (row := some ob) ⟨rfl, rfl, rfl, by simp, fun k _ hk => Below.heap_setCell _ _ _ k (fun e => hk (by rw [e]))⟩ (Or.inr (fun e => by have := own_base h e; omega))
theorem Qs.rest {R : S28 → List Value → Prop} {w W w1 : World} {ks es X cp ms ob v3 v4 a3 a4} (h : Qs R w W ks es X cp ms ob v3 v4 a3 a4) (hb : Below (ob + 1) W w1) (j : Nat) (u : Value) :
    Below w.heap.size w (w1.setCell ⟨ob, j, none⟩ u) ∧ (w1.setCell ⟨ob, j, none⟩ u).heap[w.heap.size]? = some (.cells #[.int .i64 0, .int .i64 0, .string ⟨#[]⟩, .slice none 0 0, .slice none 0 0] 28 (0, 0)) ∧ Ml (w1.setCell ⟨ob, j, none⟩ u) (w.heap.size + 1) X ms.length cp ms := by
  have h1 := h.o1
  have hz := Below.size h.z
  have sc : ∀ k, k ≠ ob → (w1.setCell ⟨ob, j, none⟩ u).heap[k]? = w1.heap[k]? := fun k hk => Below.heap_setCell _ _ _ k (fun e => hk e)
  refine ⟨(h.z.trans (hb.mono (by omega))).trans ⟨rfl, rfl, rfl, by simp, fun k hk => sc k (by omega)⟩, ?_, ?_⟩
  · rw [sc _ (by omega)]
    exact (hb.block _ (by omega)).trans h.res
  · rcases h.row with hr | ⟨g, a, b, c, ⟨⟨cur, d1, d2⟩, d3⟩⟩
    · exact Or.inl hr
    · have hg : g < ob := h.ml _ a
      exact Or.inr ⟨g, a, b, c, ⟨⟨cur, by rw [sc _ (by omega)]; exact (hb.block _ (by omega)).trans d1, d2⟩, d3⟩⟩
theorem Qs.put3 {R : S28 → List Value → Prop} {w W w1 : World} {ks es X cp ms ob v3 v4 v a3 a3' a4} (h : Qs R w W ks es X cp ms ob v3 v4 a3 a4) (hr : OwnRow kR 9 1 w1 (ob + 1) v a3') (hb : Below (ob + 1) W w1) (hg : W.grownBy w1 v3.ownBlock) : Qs R w (w1.setCell ⟨ob, 3, none⟩ v) ks es X cp ms ob v v4 a3' a4 := by
  obtain ⟨r1, r2, r3⟩ := h.rest hb 3 v
  refine ⟨r1, r2, r3, h.p, h.s, (QV.set3 ((hb.block ob (by omega)).trans h.out) v).1, h.o1, own_set hr 3 v, own_set (h.r4.other hg (own_apart h.r3 h.r4 (by decide))) 3 v, h.ml⟩
theorem Qs.put4 {R : S28 → List Value → Prop} {w W w1 : World} {ks es X cp ms ob v3 v4 v a3 a4 a4'} (h : Qs R w W ks es X cp ms ob v3 v4 a3 a4) (hr : OwnRow R 28 5 w1 (ob + 1) v a4') (hb : Below (ob + 1) W w1) (hg : W.grownBy w1 v4.ownBlock) : Qs R w (w1.setCell ⟨ob, 4, none⟩ v) ks es X cp ms ob v3 v a3 a4' := by
  obtain ⟨r1, r2, r3⟩ := h.rest hb 4 v
  refine ⟨r1, r2, r3, h.p, h.s, (set5 ((hb.block ob (by omega)).trans h.out) v).1, h.o1, own_set (h.r3.other hg (own_apart h.r4 h.r3 (by decide))) 4 v, own_set hr 4 v, h.ml⟩
end Go.Proofs.Ytgpjkojnmeaoiaa.QV

/- vals.Obj, by hand: the walk. -/
namespace Go.Proofs.Ytgpjkojnmeaoiaa.QV
open Go Go.RowKit Go.Proofs.YtgpjkojnmeaoiaaW.PrintWords Go.Proofs.YtgpjkojnmeaoiaaW.PrintLast Go.Proofs.YtgpjkojnmeaoiaaW.PrintMore
set_option linter.unusedVariables false
set_option linter.unusedSimpArgs false
set_option maxRecDepth 100000
set_option maxHeartbeats 4000000
theorem stepO {R : S28 → List Value → Prop} {w0 : World} (hRok : Rok R w0) {ops : Array Oper} {o : Oper} {a : Act} {Q : Exit → Act → World → Prop} {K : Act → World → Prop} {E : Prop} {W : World} (hgd : o.guard = none) (base : Nat) (s x : Operand)
    (ho : o.op = .call { callee := .builtin .append, args := #[s, x], argTypes := #[23, 23] }) (v : Value) (xs : List S28) (y : S28) (cs : List Value) (hs : a.eval s = v)
    (hx : a.eval x = .slice (some ⟨W.heap.size, 0, none⟩) 1 1) (hp : R y cs) (HO : OwnRow R 28 5 W base v xs) (hbase : base ≤ W.heap.size) (hl : xs.length + 1 ≤ 100)
    (h : ∀ v1 w1, OwnRow R 28 5 w1 base v1 (xs ++ [y]) → Below base W w1 → W.grownBy w1 v.ownBlock → K (a.put o.dst v1) w1) :
    if Region.wanted o (yielded ops a.tmps) = true then Oper.wp Try.prog o a (W.alloc (.cells cs.toArray 28)) K Q else E := by
  have hw : Region.wanted o (yielded ops a.tmps) = true := by simp [Region.wanted, hgd]
  rw [if_pos hw]
  have H := OwnRow.append_step (P := Try.prog) (ops := ops) (o := o) (a := a) (Q := Q) (K := K) (R := R) (w0 := W) (W := W) base hw s x 23 28 (.agg #[.int .i64 0, .int .i64 0, .string ⟨#[]⟩, .slice none 0 0, .slice none 0 0]) 5 80 ho Try.underlying23 info28 rfl (by decide) (by decide) v xs y cs hs hx hp (k28.K_len (hRok _ _ hp)) (k28.K_one (hRok _ _ hp)) HO (Below.refl _ _) hbase (by omega) (fun v1 w1 h1 h2 h3 _ => h v1 w1 h1 h2 h3)
  rw [if_pos hw] at H
  exact H
/-- The object that Obj makes of sorted members. -/
def ov (es : List S28) (ms : List Mem) : S28 := ⟨6, 0, ⟨#[]⟩, (dd ms).map (·.1), (dd ms).map (ge es)⟩
def ObjPost (R : S28 → List Value → Prop) (ks : List ByteArray) (es : List S28) (w : World) (e : Ending) (w' : World) : Prop := ∃ (ms : List Mem) (X3 : Option Addr) (d3 : Nat) (X4 : Option Addr) (d4 : Nat), e = .returned (.agg #[.int .i64 ((ov es ms)).f0, .int .i64 ((ov es ms)).f1, .string ((ov es ms)).f2, .slice X3 ((ov es ms)).f3.length d3, .slice X4 ((ov es ms)).f4.length d4]) ∧ OwnRow kR 9 1 w' w.heap.size (.slice X3 (ov es ms).f3.length d3) (ov es ms).f3 ∧ OwnRow R 28 5 w' w.heap.size (.slice X4 (ov es ms).f4.length d4) (ov es ms).f4 ∧ ms.Perm (mems ks) ∧ ms.Pairwise lexM ∧ Below w.heap.size w w'
theorem mems_mem {l : List ByteArray} {k : ByteArray} {i : Int} (h : (k, i) ∈ mems l) : ∃ p : Nat, p < l.length ∧ i = (p : Int) ∧ l[p]? = some k := by
  unfold mems at h
  obtain ⟨p, hp, e⟩ := List.mem_mapIdx.1 h
  injection e with e1 e2
  exact ⟨p, hp, e2.symm, by rw [List.getElem?_eq_getElem hp, e1]⟩
theorem objC {R : S28 → List Value → Prop} (ks : List ByteArray) (es : List S28) (w : World) {A : Option Addr} {c : Nat} {B : Option Addr} {d : Nat} (hk : Kd.C Kd.string w A ks.length ks) (hRok : Rok R w) (he : ReadsRow R 5 w B es.length es) (hlen : ks.length = es.length) (hn : ks.length ≤ 20) :
    Calls Try.prog 54 #[.slice A ks.length c, .slice B es.length d] w (ObjPost R ks es w) := by
  have HK := Aside0.mk hk
  have HE := Aside0.mk he
  have HRo := Aside0.mk hRok
  have HLen := Aside0.mk hlen
  have H0 : Aside0 (Os w (w.alloc (.cells #[.int .i64 0, .int .i64 0, .string ⟨#[]⟩, .slice none 0 0, .slice none 0 0] 28)) (.slice none 0 0) (mems (ks.take 0))) := ⟨⟨new_below _ _, heap_alloc_new w _, OwnRow.none_ _ _ _ _ _, by simp⟩⟩
  clear hk he hlen hRok
  go_enter Try.func54, Try.ntmps54
  go_wp2_with fail
  go_loopg [5, 13] ks.length (fun kq v5 v13 w' => ∃ (i : Nat) (X : Option Addr) (n cp : Nat), kq + i = ks.length ∧ v13 = .int .i64 (i : Int) ∧ v5 = .slice X n cp ∧ Aside0 (Os w w' (.slice X n cp) (mems (ks.take i))))
  case atStart => exact ⟨0, none, 0, 0, by omega, rfl, rfl, H0⟩
  case round =>
    clear H0
    obtain ⟨i, X, n, cp, hi, rfl, rfl, HS⟩ := hrel
    by_cases ci : i < ks.length
    · have g0 : decide ((i : Int) < (ks.length : Int)) = true := decide_eq_true (by omega)
      have g2 : (0 ≤ (i : Int)) = True := eq_true (by omega)
      have g3 : ((i : Int) < (ks.length : Int)) = True := eq_true (by omega)
      obtain ⟨j1, rfl⟩ : ∃ j1, gk = j1 + 1 := ⟨gk - 1, by omega⟩
      have hil : ks[i]? = some ks[i] := List.getElem?_eq_getElem ci
      obtain ⟨y, hq'⟩ : ∃ y, ks[i] = y := ⟨_, rfl⟩
      rw [hq'] at hil
      obtain ⟨ad, e1, he0⟩ := str_at (Kd.C_below HK.out HS.out.z) i ci hil
      have HTk := Aside0.mk (mems_take hil)
      have HI := Aside0.mk hi
      have HLe : Aside0 ((mems (ks.take i)).length + 1 ≤ 21) := ⟨by rw [mems_len, List.length_take]; omega⟩
      clear hil hq' hi
      subst e1
      go_wp2_with ((at_builtin; refine OwnRow.append (P := Try.prog) (R := memR) (w0 := wr) (W := wr) (w.heap.size + 1) rfl (.tmp 18) (.tmp 22) 74 76 (.agg #[.string ⟨#[]⟩, .int .i64 0]) 2 24 rfl Try.underlying74 info76 rfl (by decide) (by decide) (.slice X n cp) (mems (ks.take i)) (y, (i : Int)) [.string y, .int .i64 (i : Int)] rfl rfl rfl rfl (by simp [Value.oneCell']) HS.out.row (Below.refl _ _) HS.out.lt (by have := HLe.out; omega) ?_; intro v1 w1 hr hb hg hat; obtain ⟨X5, d5, e5, _⟩ := hr.slice_; obtain ⟨n5, hn5⟩ : ∃ n5, (mems (ks.take i) ++ [(y, (i : Int))]).length = n5 := ⟨_, rfl⟩; rw [hn5] at e5; subst e5; have HS2 := Aside0.mk (HS.out.round hr hb); clear hr hb hg hat hn5))
      go_roundg j1
      case measure => omega
      case rel => exact ⟨i + 1, X5, n5, d5, by have := HI.out; omega, rfl, rfl, ⟨by rw [HTk.out]; exact HS2.out⟩⟩
    · have g0 : decide (i < ks.length) = false := decide_eq_false ci
      have HS1 : Aside0 (Os w wr (.slice X n cp) (mems ks)) := ⟨by have h := HS.out; rw [List.take_of_length_le (by omega)] at h; exact h⟩
      clear HS ci hi
      have HSrt := Aside0.mk (sortMl HS1.out hn)
      have HLt := Aside0.mk HS1.out.lt
      clear HS1
      go_upto_region 8 with (first | (go_at_call 73; (with_reducible refine HSrt.out.mono ?_); rintro e we ⟨⟨u, rfl⟩, ms, hms⟩; have HM := Aside0.mk hms; clear hms))
      have hnn := HM.out.n
      subst hnn
      have HQ := Aside0.mk (HM.out.start (R := R) (es := es) (grown_of_below (new_below we (.cells #[.int .i64 6, .int .i64 0, .string ⟨#[]⟩, .slice none 0 0, .slice none 0 0] 28))) (heap_alloc_new we _))
      obtain ⟨ob, hob⟩ : ∃ ob, we.heap.size = ob := ⟨_, rfl⟩
      obtain ⟨W', hW'⟩ : ∃ W', we.alloc (.cells #[.int .i64 6, .int .i64 0, .string ⟨#[]⟩, .slice none 0 0, .slice none 0 0] 28) = W' := ⟨_, rfl⟩
      have HW := Aside0.mk hW'
      rw [hob, hW'] at HQ
      clear hW' HLt HSrt
      go_upto_region 9 with fail
      rw [HW.out]
      clear HW HM hob
      go_wp2_with fail
      have hb20 : ms.length ≤ 20 := by rw [HQ.out.p.length_eq, mems_len]; exact hn
      go_loopg [30] ms.length (fun kq v30 w' => ∃ (j : Nat) (acc : List Mem) (X3 : Option Addr) (n3 d3 : Nat) (X4 : Option Addr) (n4 d4 : Nat), kq + j = ms.length ∧ v30 = .int .i64 (j : Int) ∧ Aside0 (Qs R w w' ks es X cp ms ob (.slice X3 n3 d3) (.slice X4 n4 d4) (acc.map (·.1)) (acc.map (ge es)) ∧ acc ++ dd (ms.drop j) = dd ms))
      case atStart => exact ⟨0, [], none, 0, 0, none, 0, 0, by omega, rfl, ⟨HQ.out, rfl⟩⟩
      case round =>
        clear HQ
        obtain ⟨j, acc, X3, n3, d3, X4, n4, d4, hj, rfl, HQ⟩ := hrel
        by_cases cj : j < ms.length
        · have g0 : decide ((j : Int) < (ms.length : Int)) = true := decide_eq_true (by omega)
          have g2 : (0 ≤ (j : Int)) = True := eq_true (by omega)
          have g3 : ((j : Int) < (ms.length : Int)) = True := eq_true (by omega)
          obtain ⟨j1, rfl⟩ : ∃ j1, gk = j1 + 1 := ⟨gk - 1, by omega⟩
          have hjl : ms[j]? = some ms[j] := List.getElem?_eq_getElem cj
          obtain ⟨⟨k, ix⟩, hm'⟩ : ∃ m, ms[j] = m := ⟨_, rfl⟩
          rw [hm'] at hjl
          obtain ⟨p, hp, rfl, hkp⟩ := mems_mem (HQ.out.1.p.mem_iff.1 (List.mem_of_getElem? hjl))
          have hpe : p < es.length := by have := HLen.out; omega
          obtain ⟨y, hy⟩ : ∃ y, es[p]? = some y := ⟨_, List.getElem?_eq_getElem hpe⟩
          obtain ⟨ad, Y3, y3, Y4, y4, eB, he0, hRy⟩ := el_atR HRo.out HE.out p hpe hy
          have HRy := Aside0.mk hRy
          clear hRy
          have HCe := Aside0.mk he0
          have HGe : Aside0 (ge es (k, (p : Int)) = y) := ⟨by unfold ge; simp [hy]⟩
          have HBd := Aside0.mk eB
          clear he0 hy hkp hp eB
          obtain ⟨g, rfl, hMr⟩ : ∃ g, X = some ⟨g, 0, none⟩ ∧ Mr wr g cp ms := by
            rcases HQ.out.1.row with ⟨e, _⟩ | ⟨g, e, _, _, h⟩
            · rw [e] at cj; simp at cj
            · exact ⟨g, e, h⟩
          obtain ⟨m0, m1⟩ := hMr.at j hjl
          have HJ := Aside0.mk hj
          have HMr := Aside0.mk hMr
          have HJl := Aside0.mk hjl
          clear hm' hMr hj hjl
          go_upto_region 12 with fail
          have hbn := new_below wr (.cells #[.string k, .int .i64 (p : Int)] 76)
          have HQ2 := Aside0.mk (HQ.out.1.below hbn)
          have HMr2 := Aside0.mk (HMr.out.below hbn)
          have HAc := Aside0.mk HQ.out.2
          have hnw := heap_alloc_new wr (.cells #[.string k, .int .i64 (p : Int)] 76)
          obtain ⟨eb, heb⟩ : ∃ eb, wr.heap.size = eb := ⟨_, rfl⟩
          rw [heb] at hnw
          obtain ⟨W2, hW2⟩ : ∃ W2, wr.alloc (.cells #[.string k, .int .i64 (p : Int)] 76) = W2 := ⟨_, rfl⟩
          rw [hW2] at HQ2 HMr2 hnw
          rw [hW2]
          try rw [heb]
          clear hbn heb hW2 HQ HMr m0 m1
          have n0 : W2.cell? ⟨eb, 0, none⟩ = some (.string k) := by simp [World.cell?, hnw]
          have n1 : W2.cell? ⟨eb, 1, none⟩ = some (.int .i64 (p : Int)) := by simp [World.cell?, hnw]
          have HNw := Aside0.mk hnw
          clear hnw
          by_cases cn : j + 1 < ms.length
          · have gA : decide ((j : Int) + 1 < (ms.length : Int)) = true := decide_eq_true (by omega)
            have gB : decide (j + 1 < ms.length) = true := decide_eq_true cn
            have gC : (0 ≤ (j : Int) + 1) = True := eq_true (by omega)
            have gD : ((j : Int) + 1 < (ms.length : Int)) = True := eq_true (by omega)
            have hjl : ms[j + 1]? = some ms[j + 1] := List.getElem?_eq_getElem cn
            obtain ⟨⟨k', ix'⟩, hm'⟩ : ∃ m, ms[j + 1] = m := ⟨_, rfl⟩
            rw [hm'] at hjl
            obtain ⟨p0, p1⟩ := HMr2.out.at (j + 1) hjl
            have HDd := Aside0.mk (dd_next HJl.out hjl)
            clear hm' hjl
            by_cases ck : k' = k
            · subst ck
              have q1 : (k'.toList == k'.toList) = true := by simp
              go_quiet (fail)
              go_wp2_with fail
              go_roundg j1
              case measure => omega
              case rel => exact ⟨j + 1, acc, X3, n3, d3, X4, n4, d4, by have := HJ.out; omega, rfl, ⟨HQ2.out.below (drawn_below ⟨_, rfl⟩), by rw [← HAc.out, HDd.out]; simp⟩⟩
            · have q1 : (k'.toList == k.toList) = false := by
                rw [beq_eq_false_iff_ne]
                exact fun e => ck (ByteArray.ext (Array.ext' (by rw [← ByteArray.toList_eq, ← ByteArray.toList_eq]; exact e)))
              go_quiet (fail)
              have HDn : Aside0 ((acc ++ [(k, (p : Int))]) ++ dd (ms.drop (j + 1)) = dd ms) := ⟨by rw [← HAc.out, HDd.out, if_neg ck, List.append_assoc]; rfl⟩
              clear HDd HAc
              go_upto_region 13 with fail
              obtain ⟨W3, hW3⟩ : ∃ W3, W2.drewN nq = W3 := ⟨_, rfl⟩
              have hdw : Below W2.heap.size W2 W3 := by rw [← hW3]; exact drawn_below ⟨nq, rfl⟩
              have HQ3 := Aside0.mk (HQ2.out.below hdw)
              have HNw3 := Aside0.mk ((hdw.block eb (Array.getElem?_eq_some_iff.1 HNw.out).1).trans HNw.out)
              rw [hW3]
              clear hW3 hdw HQ2 n0 n1 HNw
              have n0 : W3.cell? ⟨eb, 0, none⟩ = some (.string k) := by have h := HNw3.out; simp [World.cell?, h]
              obtain ⟨o0, o1, o2, o3, o4⟩ := cells5 HQ3.out.out
              have HAl : Aside0 (acc.length ≤ 20) := ⟨by
                have h1 := congrArg List.length HDn.out
                have h2 := dd_len ms
                rw [List.length_append, List.length_append] at h1
                omega⟩
              have HOb : Aside0 (ob + 1 ≤ W3.heap.size) := ⟨(Array.getElem?_eq_some_iff.1 HQ3.out.out).1⟩
              go_upto_region 14 with ((at_builtin; refine OwnRow.append (P := Try.prog) (R := kR) (w0 := W3) (W := W3) (ob + 1) rfl (.tmp 52) (.tmp 55) 22 9 (.string ⟨#[]⟩) 1 16 rfl Try.underlying22 clone_info9 rfl (by decide) (by decide) (.slice X3 n3 d3) (acc.map (·.1)) k [.string k] rfl rfl rfl rfl (by simp [Value.oneCell']) HQ3.out.r3 (Below.refl _ _) HOb.out (by rw [List.length_map]; have := HAl.out; omega) ?_; intro v1 w1 hr hb hg hat; obtain ⟨X5, d5, e5, _⟩ := hr.slice_; obtain ⟨n5, hn5⟩ : ∃ n5, (acc.map (·.1) ++ [k]).length = n5 := ⟨_, rfl⟩; rw [hn5] at e5; subst e5; have HQ4 := Aside0.mk (HQ3.out.put3 hr hb hg); have HO1 := Aside0.mk ((hb.block ob (by omega)).trans HQ3.out.out); have HNw4 := Aside0.mk ((hg.block eb (Array.getElem?_eq_some_iff.1 HNw3.out).1 (HQ3.out.r3.ne_block HNw3.out (by decide))).trans HNw3.out); have zf : ∀ j, w1.frozen? ⟨ob, j, none⟩ = false := (fun j => by have h := HO1.out; simp [World.frozen?, h]); obtain ⟨s0, s1, s2, s3, s4⟩ := cells5 HO1.out; clear hr hb hg hat hn5))
              have HneB : Aside0 (eb ≠ ob) := ⟨fun e => by have h1 := HO1.out; rw [← e, HNw4.out] at h1; simp at h1⟩
              obtain ⟨W5, hW5⟩ : ∃ W5, w1.setCell ⟨ob, 3, none⟩ (.slice X5 n5 d5) = W5 := ⟨_, rfl⟩
              have HNw5 : Aside0 (W5.heap[eb]? = some (.cells #[.string k, .int .i64 (p : Int)] 76 (0, 0))) := ⟨by rw [← hW5, Below.heap_setCell _ _ _ eb (fun e => HneB.out (by first | exact e | exact e.symm))]; exact HNw4.out⟩
              rw [hW5] at HQ4
              rw [hW5]
              clear hW5 zf s0 s1 s2 s3 s4 HNw4 HNw3 HO1 HQ3 o0 o1 o2 o3 o4 n0
              have eB := HBd.out
              subst eB
              have HSt : Aside0 (∀ W, Below W5.heap.size W5 W → (fun w' => w'.cell? ⟨ob, 4, none⟩ = some (.slice X4 n4 d4) ∧ w'.frozen? ⟨ob, 4, none⟩ = false ∧ w'.cell? ⟨eb, 1, none⟩ = some (.int .i64 (p : Int)) ∧ w'.cell? (ad.add (p * 5)) = some (.int .i64 y.f0) ∧ w'.cell? ⟨(ad.add (p * 5)).block, (ad.add (p * 5)).off + 1, none⟩ = some (.int .i64 y.f1) ∧ w'.cell? ⟨(ad.add (p * 5)).block, (ad.add (p * 5)).off + 2, none⟩ = some (.string y.f2) ∧ w'.cell? ⟨(ad.add (p * 5)).block, (ad.add (p * 5)).off + 3, none⟩ = some (.slice Y3 y.f3.length y3) ∧ w'.cell? ⟨(ad.add (p * 5)).block, (ad.add (p * 5)).off + 4, none⟩ = some (.slice Y4 y.f4.length y4)) W) := ⟨fun W hb => by
                have h1 := (HQ4.out.below hb).out
                have h2 := (hb.block eb (Array.getElem?_eq_some_iff.1 HNw5.out).1).trans HNw5.out
                obtain ⟨e0, e2, e3, e4, e5, _⟩ := HCe.out.below (HQ4.out.below hb).z
                refine ⟨by simp [World.cell?, h1], by simp [World.frozen?, h1], by simp [World.cell?, h2], e0, e2, e3, e4, e5⟩⟩
              have g4 : (0 ≤ (p : Int)) = True := eq_true (by omega)
              have g5 : ((p : Int) < (es.length : Int)) = True := eq_true (by omega)
              have HX : Aside0 (Below W5.heap.size W5 W5.drew) := ⟨(Below.refl _ _).drew⟩
              go_upto_region 14 with fail
              refine start_ (n := 11) (S := fun w' => w'.cell? ⟨ob, 4, none⟩ = some (.slice X4 n4 d4) ∧ w'.frozen? ⟨ob, 4, none⟩ = false ∧ w'.cell? ⟨eb, 1, none⟩ = some (.int .i64 (p : Int)) ∧ w'.cell? (ad.add (p * 5)) = some (.int .i64 y.f0) ∧ w'.cell? ⟨(ad.add (p * 5)).block, (ad.add (p * 5)).off + 1, none⟩ = some (.int .i64 y.f1) ∧ w'.cell? ⟨(ad.add (p * 5)).block, (ad.add (p * 5)).off + 2, none⟩ = some (.string y.f2) ∧ w'.cell? ⟨(ad.add (p * 5)).block, (ad.add (p * 5)).off + 3, none⟩ = some (.slice Y3 y.f3.length y3) ∧ w'.cell? ⟨(ad.add (p * 5)).block, (ad.add (p * 5)).off + 4, none⟩ = some (.slice Y4 y.f4.length y4)) (ds := [10]) #[false, false, false, false, false, false, false, false, false, false, false] (by kernel_rfl) rfl (by rfl) (HSt.out _ HX.out) (fun hS => ?_)
              refine take_ (i := 0) (N := some 58) (v := (.pointer (some ⟨ob, 4, none⟩))) #[true, false, false, false, false, false, false, false, false, false, false] rfl rfl (by kernel_rfl) (fun _ _ _ h => h) (Or.inl ⟨by rfl, by intro w hSw; (try dsimp only at hSw); go_simp⟩) hS rfl ?_
              try simp only [Act.put, List.setIfInBounds_toArray, List.set_cons_zero, List.set_cons_succ]
              refine take_ (i := 1) (N := some 59) (v := (.slice X4 n4 d4)) #[true, true, false, false, false, false, false, false, false, false, false] rfl rfl (by kernel_rfl) (fun _ _ _ h => h) (Or.inl ⟨by rfl, by intro w hSw; (try dsimp only at hSw); go_simp⟩) hS rfl ?_
              try simp only [Act.put, List.setIfInBounds_toArray, List.set_cons_zero, List.set_cons_succ]
              refine take_ (i := 2) (N := some 60) (v := (.slice (some ad) es.length d)) #[true, true, true, false, false, false, false, false, false, false, false] rfl rfl (by kernel_rfl) (fun _ _ _ h => h) (Or.inl ⟨by rfl, by intro w hSw; (try dsimp only at hSw); go_simp⟩) hS rfl ?_
              try simp only [Act.put, List.setIfInBounds_toArray, List.set_cons_zero, List.set_cons_succ]
              refine take_ (i := 3) (N := some 61) (v := (.pointer (some ⟨eb, 1, none⟩))) #[true, true, true, true, false, false, false, false, false, false, false] rfl rfl (by kernel_rfl) (fun _ _ _ h => h) (Or.inl ⟨by rfl, by intro w hSw; (try dsimp only at hSw); go_simp⟩) hS rfl ?_
              try simp only [Act.put, List.setIfInBounds_toArray, List.set_cons_zero, List.set_cons_succ]
              refine take_ (i := 4) (N := some 62) (v := (.int .i64 (p : Int))) #[true, true, true, true, true, false, false, false, false, false, false] rfl rfl (by kernel_rfl) (fun _ _ _ h => h) (Or.inl ⟨by rfl, by intro w hSw; (try dsimp only at hSw); go_simp⟩) hS rfl ?_
              try simp only [Act.put, List.setIfInBounds_toArray, List.set_cons_zero, List.set_cons_succ]
              refine take_ (i := 5) (N := some 63) (v := (.pointer (some (ad.add (p * 5))))) #[true, true, true, true, true, true, false, false, false, false, false] rfl rfl (by kernel_rfl) (fun _ _ _ h => h) (Or.inl ⟨by rfl, by intro w hSw; (try dsimp only at hSw); go_simp⟩) hS rfl ?_
              try simp only [Act.put, List.setIfInBounds_toArray, List.set_cons_zero, List.set_cons_succ]
              refine take_ (i := 6) (N := some 64) (v := (.agg #[.int .i64 y.f0, .int .i64 y.f1, .string y.f2, .slice Y3 y.f3.length y3, .slice Y4 y.f4.length y4])) #[true, true, true, true, true, true, true, false, false, false, false] rfl rfl (by kernel_rfl) (fun _ _ _ h => h) (Or.inl ⟨by rfl, by intro w hSw; (try dsimp only at hSw); go_simp⟩) hS rfl ?_
              try simp only [Act.put, List.setIfInBounds_toArray, List.set_cons_zero, List.set_cons_succ]
              have HSg : Aside0 (∀ W, W.heap[ob]? = W5.heap[ob]? → W.heap[eb]? = W5.heap[eb]? → Below w.heap.size w W → (fun w' => w'.cell? ⟨ob, 4, none⟩ = some (.slice X4 n4 d4) ∧ w'.frozen? ⟨ob, 4, none⟩ = false ∧ w'.cell? ⟨eb, 1, none⟩ = some (.int .i64 (p : Int)) ∧ w'.cell? (ad.add (p * 5)) = some (.int .i64 y.f0) ∧ w'.cell? ⟨(ad.add (p * 5)).block, (ad.add (p * 5)).off + 1, none⟩ = some (.int .i64 y.f1) ∧ w'.cell? ⟨(ad.add (p * 5)).block, (ad.add (p * 5)).off + 2, none⟩ = some (.string y.f2) ∧ w'.cell? ⟨(ad.add (p * 5)).block, (ad.add (p * 5)).off + 3, none⟩ = some (.slice Y3 y.f3.length y3) ∧ w'.cell? ⟨(ad.add (p * 5)).block, (ad.add (p * 5)).off + 4, none⟩ = some (.slice Y4 y.f4.length y4)) W) := ⟨fun W hb1 hb2 hz => by
                have h1 := hb1.trans HQ4.out.out
                have h2 := hb2.trans HNw5.out
                obtain ⟨e0, e2, e3, e4, e5, _⟩ := HCe.out.below hz
                refine ⟨by simp [World.cell?, h1], by simp [World.frozen?, h1], by simp [World.cell?, h2], e0, e2, e3, e4, e5⟩⟩
              have HK28 : Aside0 (R y [.int .i64 y.f0, .int .i64 y.f1, .string y.f2, .slice Y3 y.f3.length y3, .slice Y4 y.f4.length y4]) := HRy
              have HQ5 := Aside0.mk (HQ4.out.below HX.out)
              have HNw6 := Aside0.mk ((HX.out.block eb (Array.getElem?_eq_some_iff.1 HNw5.out).1).trans HNw5.out)
              refine one_ (i := 7) (N := some 65) #[true, true, true, true, true, true, true, true, false, false, false] rfl rfl (by kernel_rfl) (by decide) ?_
              intro K hK
              go_simp
              refine hK.out _ _ (HSt.out _ (below_step HX.out (new_below W5.drew _))) (fun hS => ?_)
              clear hK K
              try simp only [Act.put, List.setIfInBounds_toArray, List.set_cons_zero, List.set_cons_succ]
              refine one_ (i := 8) (N := some 66) #[true, true, true, true, true, true, true, true, true, false, false] rfl rfl (by kernel_rfl) (by decide) ?_
              intro K hK
              refine stepO (w0 := w) HRo.out (W := W5.drew) rfl (ob + 1) (.tmp 59) (.tmp 65) rfl (.slice X4 n4 d4) (acc.map (ge es)) y [.int .i64 y.f0, .int .i64 y.f1, .string y.f2, .slice Y3 y.f3.length y3, .slice Y4 y.f4.length y4] rfl rfl HK28.out HQ5.out.r4 ((Array.getElem?_eq_some_iff.1 HQ5.out.out).1) (by rw [List.length_map]; have := HAl.out; omega) ?_
              intro v1 w1' hr hb hg
              obtain ⟨X6, d6, e6, _⟩ := hr.slice_
              obtain ⟨n6, hn6⟩ : ∃ n6, (acc.map (ge es) ++ [y]).length = n6 := ⟨_, rfl⟩
              rw [hn6] at e6
              subst e6
              have HQ6 := Aside0.mk (HQ5.out.put4 hr hb hg)
              have hS5 := HSg.out w1' ((hb.block ob (by omega)).trans (HX.out.block ob (Array.getElem?_eq_some_iff.1 HQ4.out.out).1)) ((hg.block eb (Array.getElem?_eq_some_iff.1 HNw6.out).1 (HQ5.out.r4.ne_block HNw6.out (by decide))).trans (HNw6.out.trans HNw5.out.symm)) (HQ5.out.z.trans (hb.mono (by have := HQ5.out.o1; omega)))
              clear hr hb hg hn6
              refine hK.out _ _ hS5 (fun hS => ?_)
              clear hK K hS5
              try simp only [Act.put, List.setIfInBounds_toArray, List.set_cons_zero, List.set_cons_succ]
              refine take_ (i := 9) (N := some 67) (v := (.pointer (some ⟨ob, 4, none⟩))) #[true, true, true, true, true, true, true, true, true, true, false] rfl rfl (by kernel_rfl) (fun _ _ _ h => h) (Or.inl ⟨by rfl, by intro w hSw; (try dsimp only at hSw); go_simp⟩) hS rfl ?_
              try simp only [Act.put, List.setIfInBounds_toArray, List.set_cons_zero, List.set_cons_succ]
              have hfz := hS.2.1
              have hcl := hS.1
              refine last_ (i := 10) (N := none) #[true, true, true, true, true, true, true, true, true, true, true] rfl rfl (by kernel_rfl) (by decide) ?_
              intro K hK
              go_simp
              refine hK.out _ _ ?_
              clear hK K hfz hcl
              refine done_ (by kernel_rfl) ?_
              go_wp2_with fail
              go_roundg j1
              case measure => omega
              case rel => exact ⟨j + 1, acc ++ [(k, (p : Int))], X5, n5, d5, X6, n6, d6, by have := HJ.out; omega, rfl, ⟨by rw [List.map_append, List.map_append]; simp only [List.map_cons, List.map_nil, HGe.out]; exact HQ6.out, HDn.out⟩⟩
          · have gA : decide ((j : Int) + 1 < (ms.length : Int)) = false := decide_eq_false (by omega)
            have gB : decide (j + 1 < ms.length) = false := decide_eq_false cn
            go_quiet (fail)
            have HDn : Aside0 ((acc ++ [(k, (p : Int))]) ++ dd (ms.drop (j + 1)) = dd ms) := ⟨by rw [← HAc.out, (dd_last HJl.out cn).1, (dd_last HJl.out cn).2, List.append_nil]⟩
            clear HAc
            go_upto_region 13 with fail
            obtain ⟨W3, hW3⟩ : ∃ W3, W2.drewN nq = W3 := ⟨_, rfl⟩
            have hdw : Below W2.heap.size W2 W3 := by rw [← hW3]; exact drawn_below ⟨nq, rfl⟩
            have HQ3 := Aside0.mk (HQ2.out.below hdw)
            have HNw3 := Aside0.mk ((hdw.block eb (Array.getElem?_eq_some_iff.1 HNw.out).1).trans HNw.out)
            rw [hW3]
            clear hW3 hdw HQ2 n0 n1 HNw
            have n0 : W3.cell? ⟨eb, 0, none⟩ = some (.string k) := by have h := HNw3.out; simp [World.cell?, h]
            obtain ⟨o0, o1, o2, o3, o4⟩ := cells5 HQ3.out.out
            have HAl : Aside0 (acc.length ≤ 20) := ⟨by
              have h1 := congrArg List.length HDn.out
              have h2 := dd_len ms
              rw [List.length_append, List.length_append] at h1
              omega⟩
            have HOb : Aside0 (ob + 1 ≤ W3.heap.size) := ⟨(Array.getElem?_eq_some_iff.1 HQ3.out.out).1⟩
            go_upto_region 14 with ((at_builtin; refine OwnRow.append (P := Try.prog) (R := kR) (w0 := W3) (W := W3) (ob + 1) rfl (.tmp 52) (.tmp 55) 22 9 (.string ⟨#[]⟩) 1 16 rfl Try.underlying22 clone_info9 rfl (by decide) (by decide) (.slice X3 n3 d3) (acc.map (·.1)) k [.string k] rfl rfl rfl rfl (by simp [Value.oneCell']) HQ3.out.r3 (Below.refl _ _) HOb.out (by rw [List.length_map]; have := HAl.out; omega) ?_; intro v1 w1 hr hb hg hat; obtain ⟨X5, d5, e5, _⟩ := hr.slice_; obtain ⟨n5, hn5⟩ : ∃ n5, (acc.map (·.1) ++ [k]).length = n5 := ⟨_, rfl⟩; rw [hn5] at e5; subst e5; have HQ4 := Aside0.mk (HQ3.out.put3 hr hb hg); have HO1 := Aside0.mk ((hb.block ob (by omega)).trans HQ3.out.out); have HNw4 := Aside0.mk ((hg.block eb (Array.getElem?_eq_some_iff.1 HNw3.out).1 (HQ3.out.r3.ne_block HNw3.out (by decide))).trans HNw3.out); have zf : ∀ j, w1.frozen? ⟨ob, j, none⟩ = false := (fun j => by have h := HO1.out; simp [World.frozen?, h]); obtain ⟨s0, s1, s2, s3, s4⟩ := cells5 HO1.out; clear hr hb hg hat hn5))
            have HneB : Aside0 (eb ≠ ob) := ⟨fun e => by have h1 := HO1.out; rw [← e, HNw4.out] at h1; simp at h1⟩
            obtain ⟨W5, hW5⟩ : ∃ W5, w1.setCell ⟨ob, 3, none⟩ (.slice X5 n5 d5) = W5 := ⟨_, rfl⟩
            have HNw5 : Aside0 (W5.heap[eb]? = some (.cells #[.string k, .int .i64 (p : Int)] 76 (0, 0))) := ⟨by rw [← hW5, Below.heap_setCell _ _ _ eb (fun e => HneB.out (by first | exact e | exact e.symm))]; exact HNw4.out⟩
            rw [hW5] at HQ4
            rw [hW5]
            clear hW5 zf s0 s1 s2 s3 s4 HNw4 HNw3 HO1 HQ3 o0 o1 o2 o3 o4 n0
            have eB := HBd.out
            subst eB
            have HSt : Aside0 (∀ W, Below W5.heap.size W5 W → (fun w' => w'.cell? ⟨ob, 4, none⟩ = some (.slice X4 n4 d4) ∧ w'.frozen? ⟨ob, 4, none⟩ = false ∧ w'.cell? ⟨eb, 1, none⟩ = some (.int .i64 (p : Int)) ∧ w'.cell? (ad.add (p * 5)) = some (.int .i64 y.f0) ∧ w'.cell? ⟨(ad.add (p * 5)).block, (ad.add (p * 5)).off + 1, none⟩ = some (.int .i64 y.f1) ∧ w'.cell? ⟨(ad.add (p * 5)).block, (ad.add (p * 5)).off + 2, none⟩ = some (.string y.f2) ∧ w'.cell? ⟨(ad.add (p * 5)).block, (ad.add (p * 5)).off + 3, none⟩ = some (.slice Y3 y.f3.length y3) ∧ w'.cell? ⟨(ad.add (p * 5)).block, (ad.add (p * 5)).off + 4, none⟩ = some (.slice Y4 y.f4.length y4)) W) := ⟨fun W hb => by
              have h1 := (HQ4.out.below hb).out
              have h2 := (hb.block eb (Array.getElem?_eq_some_iff.1 HNw5.out).1).trans HNw5.out
              obtain ⟨e0, e2, e3, e4, e5, _⟩ := HCe.out.below (HQ4.out.below hb).z
              refine ⟨by simp [World.cell?, h1], by simp [World.frozen?, h1], by simp [World.cell?, h2], e0, e2, e3, e4, e5⟩⟩
            have g4 : (0 ≤ (p : Int)) = True := eq_true (by omega)
            have g5 : ((p : Int) < (es.length : Int)) = True := eq_true (by omega)
            have HX : Aside0 (Below W5.heap.size W5 W5.drew) := ⟨(Below.refl _ _).drew⟩
            go_upto_region 14 with fail
            refine start_ (n := 11) (S := fun w' => w'.cell? ⟨ob, 4, none⟩ = some (.slice X4 n4 d4) ∧ w'.frozen? ⟨ob, 4, none⟩ = false ∧ w'.cell? ⟨eb, 1, none⟩ = some (.int .i64 (p : Int)) ∧ w'.cell? (ad.add (p * 5)) = some (.int .i64 y.f0) ∧ w'.cell? ⟨(ad.add (p * 5)).block, (ad.add (p * 5)).off + 1, none⟩ = some (.int .i64 y.f1) ∧ w'.cell? ⟨(ad.add (p * 5)).block, (ad.add (p * 5)).off + 2, none⟩ = some (.string y.f2) ∧ w'.cell? ⟨(ad.add (p * 5)).block, (ad.add (p * 5)).off + 3, none⟩ = some (.slice Y3 y.f3.length y3) ∧ w'.cell? ⟨(ad.add (p * 5)).block, (ad.add (p * 5)).off + 4, none⟩ = some (.slice Y4 y.f4.length y4)) (ds := [10]) #[false, false, false, false, false, false, false, false, false, false, false] (by kernel_rfl) rfl (by rfl) (HSt.out _ HX.out) (fun hS => ?_)
            refine take_ (i := 0) (N := some 58) (v := (.pointer (some ⟨ob, 4, none⟩))) #[true, false, false, false, false, false, false, false, false, false, false] rfl rfl (by kernel_rfl) (fun _ _ _ h => h) (Or.inl ⟨by rfl, by intro w hSw; (try dsimp only at hSw); go_simp⟩) hS rfl ?_
            try simp only [Act.put, List.setIfInBounds_toArray, List.set_cons_zero, List.set_cons_succ]
            refine take_ (i := 1) (N := some 59) (v := (.slice X4 n4 d4)) #[true, true, false, false, false, false, false, false, false, false, false] rfl rfl (by kernel_rfl) (fun _ _ _ h => h) (Or.inl ⟨by rfl, by intro w hSw; (try dsimp only at hSw); go_simp⟩) hS rfl ?_
            try simp only [Act.put, List.setIfInBounds_toArray, List.set_cons_zero, List.set_cons_succ]
            refine take_ (i := 2) (N := some 60) (v := (.slice (some ad) es.length d)) #[true, true, true, false, false, false, false, false, false, false, false] rfl rfl (by kernel_rfl) (fun _ _ _ h => h) (Or.inl ⟨by rfl, by intro w hSw; (try dsimp only at hSw); go_simp⟩) hS rfl ?_
            try simp only [Act.put, List.setIfInBounds_toArray, List.set_cons_zero, List.set_cons_succ]
            refine take_ (i := 3) (N := some 61) (v := (.pointer (some ⟨eb, 1, none⟩))) #[true, true, true, true, false, false, false, false, false, false, false] rfl rfl (by kernel_rfl) (fun _ _ _ h => h) (Or.inl ⟨by rfl, by intro w hSw; (try dsimp only at hSw); go_simp⟩) hS rfl ?_
            try simp only [Act.put, List.setIfInBounds_toArray, List.set_cons_zero, List.set_cons_succ]
            refine take_ (i := 4) (N := some 62) (v := (.int .i64 (p : Int))) #[true, true, true, true, true, false, false, false, false, false, false] rfl rfl (by kernel_rfl) (fun _ _ _ h => h) (Or.inl ⟨by rfl, by intro w hSw; (try dsimp only at hSw); go_simp⟩) hS rfl ?_
            try simp only [Act.put, List.setIfInBounds_toArray, List.set_cons_zero, List.set_cons_succ]
            refine take_ (i := 5) (N := some 63) (v := (.pointer (some (ad.add (p * 5))))) #[true, true, true, true, true, true, false, false, false, false, false] rfl rfl (by kernel_rfl) (fun _ _ _ h => h) (Or.inl ⟨by rfl, by intro w hSw; (try dsimp only at hSw); go_simp⟩) hS rfl ?_
            try simp only [Act.put, List.setIfInBounds_toArray, List.set_cons_zero, List.set_cons_succ]
            refine take_ (i := 6) (N := some 64) (v := (.agg #[.int .i64 y.f0, .int .i64 y.f1, .string y.f2, .slice Y3 y.f3.length y3, .slice Y4 y.f4.length y4])) #[true, true, true, true, true, true, true, false, false, false, false] rfl rfl (by kernel_rfl) (fun _ _ _ h => h) (Or.inl ⟨by rfl, by intro w hSw; (try dsimp only at hSw); go_simp⟩) hS rfl ?_
            try simp only [Act.put, List.setIfInBounds_toArray, List.set_cons_zero, List.set_cons_succ]
            have HSg : Aside0 (∀ W, W.heap[ob]? = W5.heap[ob]? → W.heap[eb]? = W5.heap[eb]? → Below w.heap.size w W → (fun w' => w'.cell? ⟨ob, 4, none⟩ = some (.slice X4 n4 d4) ∧ w'.frozen? ⟨ob, 4, none⟩ = false ∧ w'.cell? ⟨eb, 1, none⟩ = some (.int .i64 (p : Int)) ∧ w'.cell? (ad.add (p * 5)) = some (.int .i64 y.f0) ∧ w'.cell? ⟨(ad.add (p * 5)).block, (ad.add (p * 5)).off + 1, none⟩ = some (.int .i64 y.f1) ∧ w'.cell? ⟨(ad.add (p * 5)).block, (ad.add (p * 5)).off + 2, none⟩ = some (.string y.f2) ∧ w'.cell? ⟨(ad.add (p * 5)).block, (ad.add (p * 5)).off + 3, none⟩ = some (.slice Y3 y.f3.length y3) ∧ w'.cell? ⟨(ad.add (p * 5)).block, (ad.add (p * 5)).off + 4, none⟩ = some (.slice Y4 y.f4.length y4)) W) := ⟨fun W hb1 hb2 hz => by
              have h1 := hb1.trans HQ4.out.out
              have h2 := hb2.trans HNw5.out
              obtain ⟨e0, e2, e3, e4, e5, _⟩ := HCe.out.below hz
              refine ⟨by simp [World.cell?, h1], by simp [World.frozen?, h1], by simp [World.cell?, h2], e0, e2, e3, e4, e5⟩⟩
            have HK28 : Aside0 (R y [.int .i64 y.f0, .int .i64 y.f1, .string y.f2, .slice Y3 y.f3.length y3, .slice Y4 y.f4.length y4]) := HRy
            have HQ5 := Aside0.mk (HQ4.out.below HX.out)
            have HNw6 := Aside0.mk ((HX.out.block eb (Array.getElem?_eq_some_iff.1 HNw5.out).1).trans HNw5.out)
            refine one_ (i := 7) (N := some 65) #[true, true, true, true, true, true, true, true, false, false, false] rfl rfl (by kernel_rfl) (by decide) ?_
            intro K hK
            go_simp
            refine hK.out _ _ (HSt.out _ (below_step HX.out (new_below W5.drew _))) (fun hS => ?_)
            clear hK K
            try simp only [Act.put, List.setIfInBounds_toArray, List.set_cons_zero, List.set_cons_succ]
            refine one_ (i := 8) (N := some 66) #[true, true, true, true, true, true, true, true, true, false, false] rfl rfl (by kernel_rfl) (by decide) ?_
            intro K hK
            refine stepO (w0 := w) HRo.out (W := W5.drew) rfl (ob + 1) (.tmp 59) (.tmp 65) rfl (.slice X4 n4 d4) (acc.map (ge es)) y [.int .i64 y.f0, .int .i64 y.f1, .string y.f2, .slice Y3 y.f3.length y3, .slice Y4 y.f4.length y4] rfl rfl HK28.out HQ5.out.r4 ((Array.getElem?_eq_some_iff.1 HQ5.out.out).1) (by rw [List.length_map]; have := HAl.out; omega) ?_
            intro v1 w1' hr hb hg
            obtain ⟨X6, d6, e6, _⟩ := hr.slice_
            obtain ⟨n6, hn6⟩ : ∃ n6, (acc.map (ge es) ++ [y]).length = n6 := ⟨_, rfl⟩
            rw [hn6] at e6
            subst e6
            have HQ6 := Aside0.mk (HQ5.out.put4 hr hb hg)
            have hS5 := HSg.out w1' ((hb.block ob (by omega)).trans (HX.out.block ob (Array.getElem?_eq_some_iff.1 HQ4.out.out).1)) ((hg.block eb (Array.getElem?_eq_some_iff.1 HNw6.out).1 (HQ5.out.r4.ne_block HNw6.out (by decide))).trans (HNw6.out.trans HNw5.out.symm)) (HQ5.out.z.trans (hb.mono (by have := HQ5.out.o1; omega)))
            clear hr hb hg hn6
            refine hK.out _ _ hS5 (fun hS => ?_)
            clear hK K hS5
            try simp only [Act.put, List.setIfInBounds_toArray, List.set_cons_zero, List.set_cons_succ]
            refine take_ (i := 9) (N := some 67) (v := (.pointer (some ⟨ob, 4, none⟩))) #[true, true, true, true, true, true, true, true, true, true, false] rfl rfl (by kernel_rfl) (fun _ _ _ h => h) (Or.inl ⟨by rfl, by intro w hSw; (try dsimp only at hSw); go_simp⟩) hS rfl ?_
            try simp only [Act.put, List.setIfInBounds_toArray, List.set_cons_zero, List.set_cons_succ]
            have hfz := hS.2.1
            have hcl := hS.1
            refine last_ (i := 10) (N := none) #[true, true, true, true, true, true, true, true, true, true, true] rfl rfl (by kernel_rfl) (by decide) ?_
            intro K hK
            go_simp
            refine hK.out _ _ ?_
            clear hK K hfz hcl
            refine done_ (by kernel_rfl) ?_
            go_wp2_with fail
            go_roundg j1
            case measure => omega
            case rel => exact ⟨j + 1, acc ++ [(k, (p : Int))], X5, n5, d5, X6, n6, d6, by have := HJ.out; omega, rfl, ⟨by rw [List.map_append, List.map_append]; simp only [List.map_cons, List.map_nil, HGe.out]; exact HQ6.out, HDn.out⟩⟩
        · have g0 : decide (j < ms.length) = false := decide_eq_false cj
          have hacc : acc = dd ms := by
            have h := HQ.out.2
            rw [List.drop_eq_nil_of_le (by omega)] at h
            simpa [dd] using h
          have HQf : Aside0 (Qs R w wr ks es X cp ms ob (.slice X3 n3 d3) (.slice X4 n4 d4) ((dd ms).map (·.1)) ((dd ms).map (ge es))) := ⟨by rw [← hacc]; exact HQ.out.1⟩
          clear HQ hacc cj hj
          obtain ⟨o0, o1, o2, o3, o4⟩ := cells5 HQf.out.out
          obtain ⟨t0, t1, t2, t3, t4, t5⟩ := zero5 HQf.out.res
          obtain ⟨W', hW', hh, hgr⟩ := fill5h HQf.out.res (.int .i64 6) (.int .i64 0) (.string ⟨#[]⟩) (.slice X3 n3 d3) (.slice X4 n4 d4)
          have HWf := Aside0.mk hW'
          obtain ⟨u0, u1, u2, u3, u4⟩ := cells5 hh
          have HFin : Aside0 (ObjPost R ks es w (.returned (.agg #[.int .i64 6, .int .i64 0, .string ⟨#[]⟩, .slice X3 n3 d3, .slice X4 n4 d4])) W') := ⟨by
            have hq := HQf.out
            have ho1 := hq.o1
            have hz : Below w.heap.size w W' := hq.z.trans ⟨hgr.os, hgr.tape, hgr.output, hgr.size, fun k hk => hgr.block k (by have := Below.size hq.z; omega) (fun e => by have := Option.some.inj e; omega)⟩
            have r3 := hq.r3.other hgr (Or.inr (fun e => by have := own_base hq.r3 e; omega))
            have r4 := hq.r4.other hgr (Or.inr (fun e => by have := own_base hq.r4 e; omega))
            obtain ⟨A3, c3, e3, l3, g3⟩ := r3.reads
            obtain ⟨A4, c4, e4, l4, g4⟩ := r4.reads
            injection e3 with a1 a2 a3
            injection e4 with b1 b2 b3
            subst a1 a2 a3 b1 b2 b3
            exact ⟨ms, X3, d3, X4, d4, rfl, r3.lower (by omega), r4.lower (by omega), hq.p, hq.s, hz⟩⟩
          clear hW' hh hgr
          go_wp2_with fail
          rw [HWf.out]
          exact bodyPost_ret (v := .agg #[.int .i64 6, .int .i64 0, .string ⟨#[]⟩, .slice X3 n3 d3, .slice X4 n4 d4]) (by simp [results, Try.results54, go_sem, u0, u1, u2, u3, u4]) rfl HFin.out
end Go.Proofs.Ytgpjkojnmeaoiaa.QV

/- value.Obj, by hand. -/
namespace Go.Proofs.Ytgpjkojnmeaoiaa.QV
open Go Go.RowKit Go.Proofs.YtgpjkojnmeaoiaaW.PrintWords Go.Proofs.YtgpjkojnmeaoiaaW.PrintLast Go.Proofs.YtgpjkojnmeaoiaaW.PrintMore
set_option linter.unusedVariables false
set_option linter.unusedSimpArgs false
set_option maxRecDepth 100000
set_option maxHeartbeats 4000000
def BadObj (w : World) (n : Int) (e : Ending) (w' : World) : Prop := e = .returned (.tuple #[.agg #[.int .i64 0, .int .i64 0, .string ⟨#[]⟩, .slice none 0 0, .slice none 0 0], .int .i64 n]) ∧ Below w.heap.size w w'
theorem valueObj_len (ks : List ByteArray) (es : List S28) (w : World) {A : Option Addr} {c : Nat} {B : Option Addr} {d : Nat} (hne : ks.length ≠ es.length) (hk : ks.length ≤ 140737488351232) (he : es.length ≤ 140737488351232) :
    Calls Try.prog 17 #[.slice A ks.length c, .slice B es.length d] w (BadObj w 3) := by
  have HN : Aside0 ((w.alloc (.cells #[.int .i64 0, .int .i64 0, .string ⟨#[]⟩, .slice none 0 0, .slice none 0 0] 28)).heap[w.heap.size]? = some (.cells #[.int .i64 0, .int .i64 0, .string ⟨#[]⟩, .slice none 0 0, .slice none 0 0] 28 (0, 0))) := ⟨heap_alloc_new w _⟩
  have HB := Aside0.mk (new_below w (.cells #[.int .i64 0, .int .i64 0, .string ⟨#[]⟩, .slice none 0 0, .slice none 0 0] 28))
  have g1 : decide ((ks.length : Int) = (es.length : Int)) = false := decide_eq_false (by omega)
  have g2 : decide (ks.length = es.length) = false := decide_eq_false hne
  have g3 : ((ks.length : Int) == (es.length : Int)) = false := by rw [beq_eq_false_iff_ne]; omega
  have g4 : (ks.length == es.length) = false := by rw [beq_eq_false_iff_ne]; exact hne
  clear hk he
  go_enter Try.func17, Try.ntmps17
  obtain ⟨t0, t1, t2, t3, t4, t5⟩ := zero5 HN.out
  go_wp2_with fail
  exact bodyPost_ret (v := .tuple #[.agg #[.int .i64 0, .int .i64 0, .string ⟨#[]⟩, .slice none 0 0, .slice none 0 0], .int .i64 3]) (by simp [results, Try.results17, go_sem, t1, t2, t3, t4, t5]) rfl ⟨rfl, HB.out⟩
theorem valueObj_inv (ks : List ByteArray) (es : List S28) (w : World) {A : Option Addr} {c : Nat} {B : Option Addr} {d : Nat} (hlen : ks.length = es.length) (he : Kd.C k28 w B es.length es) (hw : ∀ y ∈ es, Wv y ∧ cnt y ≤ 1000000000000000) (hm : es.length ≤ 140737488351232) (hall : es.all vd = false) :
    Calls Try.prog 17 #[.slice A ks.length c, .slice B es.length d] w (BadObj w 1) := by
  have HN : Aside0 ((w.alloc (.cells #[.int .i64 0, .int .i64 0, .string ⟨#[]⟩, .slice none 0 0, .slice none 0 0] 28)).heap[w.heap.size]? = some (.cells #[.int .i64 0, .int .i64 0, .string ⟨#[]⟩, .slice none 0 0, .slice none 0 0] 28 (0, 0))) := ⟨heap_alloc_new w _⟩
  have HB := Aside0.mk (new_below w (.cells #[.int .i64 0, .int .i64 0, .string ⟨#[]⟩, .slice none 0 0, .slice none 0 0] 28))
  have HL : Aside0 (w.heap.size < (w.alloc (.cells #[.int .i64 0, .int .i64 0, .string ⟨#[]⟩, .slice none 0 0, .slice none 0 0] 28)).heap.size) := ⟨by simp⟩
  have HQ := Aside0.mk (allC (c := d) es (w.alloc (.cells #[.int .i64 0, .int .i64 0, .string ⟨#[]⟩, .slice none 0 0, .slice none 0 0] 28)) (Kd.C_below he HB.out) hw hm)
  rw [hall] at HQ
  rw [hlen]
  clear he hw hall hlen
  go_enter Try.func17, Try.ntmps17
  go_wp2_with (first | (go_at_call 48; (with_reducible refine HQ.out.mono ?_); rintro e we ⟨rfl, hb⟩; have HC := Aside0.mk hb; clear hb; have HN2 := Aside0.mk ((HC.out.block _ HL.out).trans HN.out); have HB2 := Aside0.mk (below_step HB.out HC.out); obtain ⟨t0, t1, t2, t3, t4, t5⟩ := zero5 HN2.out))
  obtain ⟨W', hW', ⟨u0, u1, u2, u3, u4⟩, hg, hz⟩ := fill5 HN2.out HB2.out (Nat.le_refl _) (.int .i64 0) (.int .i64 0) (.string ⟨#[]⟩) (.slice none 0 0) (.slice none 0 0)
  rw [hW']
  exact bodyPost_ret (v := .tuple #[.agg #[.int .i64 0, .int .i64 0, .string ⟨#[]⟩, .slice none 0 0, .slice none 0 0], .int .i64 1]) (by simp [results, Try.results17, go_sem, u0, u1, u2, u3, u4]) rfl ⟨rfl, hz⟩
end Go.Proofs.Ytgpjkojnmeaoiaa.QV

/- value.Obj, by hand: the loop over the keys. -/
namespace Go.Proofs.Ytgpjkojnmeaoiaa.QV
open Go Go.RowKit Go.Proofs.YtgpjkojnmeaoiaaW.PrintWords Go.Proofs.YtgpjkojnmeaoiaaW.PrintLast Go.Proofs.YtgpjkojnmeaoiaaW.PrintMore
set_option linter.unusedVariables false
set_option linter.unusedSimpArgs false
set_option maxRecDepth 100000
set_option maxHeartbeats 4000000
def lg (l : List ByteArray) : Bool := l.any (fun k => decide (k.size > 4096))
theorem lg_take {l : List ByteArray} {i : Nat} {k : ByteArray} (h : l[i]? = some k) : lg (l.take (i + 1)) = (lg (l.take i) || decide (k.size > 4096)) := by
  unfold lg
  rw [List.take_add_one, h, List.any_append]
  simp
theorem valueObj_bad (ks : List ByteArray) (es : List S28) (w : World) {A : Option Addr} {c : Nat} {B : Option Addr} {d : Nat} (hlen : ks.length = es.length) (hk : Kd.C Kd.string w A ks.length ks) (hks : ∀ q ∈ ks, q.size ≤ 140737488351232) (he : Kd.C k28 w B es.length es) (hw : ∀ y ∈ es, Wv y ∧ cnt y ≤ 1000000000000000) (hm : es.length ≤ 140737488351232) (hall : es.all vd = true) (hu : ks.all QV.u8 = false) :
    Calls Try.prog 17 #[.slice A ks.length c, .slice B es.length d] w (BadObj w 6) := by
  have HN : Aside0 ((w.alloc (.cells #[.int .i64 0, .int .i64 0, .string ⟨#[]⟩, .slice none 0 0, .slice none 0 0] 28)).heap[w.heap.size]? = some (.cells #[.int .i64 0, .int .i64 0, .string ⟨#[]⟩, .slice none 0 0, .slice none 0 0] 28 (0, 0))) := ⟨heap_alloc_new w _⟩
  have HB := Aside0.mk (new_below w (.cells #[.int .i64 0, .int .i64 0, .string ⟨#[]⟩, .slice none 0 0, .slice none 0 0] 28))
  have HL : Aside0 (w.heap.size < (w.alloc (.cells #[.int .i64 0, .int .i64 0, .string ⟨#[]⟩, .slice none 0 0, .slice none 0 0] 28)).heap.size) := ⟨by simp⟩
  have HQ := Aside0.mk (allC (c := d) es (w.alloc (.cells #[.int .i64 0, .int .i64 0, .string ⟨#[]⟩, .slice none 0 0, .slice none 0 0] 28)) (Kd.C_below he HB.out) hw hm)
  rw [hall, ← hlen] at HQ
  have hkm : ks.length ≤ 140737488351232 := by omega
  have HK := Aside0.mk hk
  have HKs := Aside0.mk hks
  have HU : Aside0 ((ks.drop 0).all QV.u8 = false) := ⟨hu⟩
  rw [← hlen]
  clear he hw hall hlen hk hks hu hm
  go_enter Try.func17, Try.ntmps17
  go_upto_region 6 with (first | (go_at_call 48; (with_reducible refine HQ.out.mono ?_); rintro e we ⟨rfl, hb⟩; have HC := Aside0.mk hb; clear hb; have HN2 := Aside0.mk ((HC.out.block _ HL.out).trans HN.out); have HB2 := Aside0.mk (below_step HB.out HC.out)))
  have H0 : Aside0 (Below w.heap.size w we ∧ we.heap[w.heap.size]? = some (.cells #[.int .i64 0, .int .i64 0, .string ⟨#[]⟩, .slice none 0 0, .slice none 0 0] 28 (0, 0))) := ⟨HB2.out, HN2.out⟩
  clear HN HB HL HQ HC HN2 HB2
  go_wp2_with fail
  go_loopg [6, 23] ks.length (fun kq v6 v23 w' => ∃ (i : Nat), kq + i = ks.length ∧ v23 = .int .i64 (i : Int) ∧ v6 = .bool (lg (ks.take i)) ∧ Aside0 ((ks.drop i).all QV.u8 = false) ∧ Aside0 (Below w.heap.size w w' ∧ w'.heap[w.heap.size]? = some (.cells #[.int .i64 0, .int .i64 0, .string ⟨#[]⟩, .slice none 0 0, .slice none 0 0] 28 (0, 0))))
  case atStart => exact ⟨0, by omega, rfl, rfl, HU, H0⟩
  case round =>
    clear HU H0
    obtain ⟨i, hi, rfl, rfl, HU, HW⟩ := hrel
    have ci : i < ks.length := by
      rcases Nat.lt_or_ge i ks.length with h | h
      · exact h
      · have h2 := HU.out
        rw [List.drop_eq_nil_of_le h] at h2
        cases h2
    have g0 : decide ((i : Int) < (ks.length : Int)) = true := decide_eq_true (by omega)
    have g2 : (0 ≤ (i : Int)) = True := eq_true (by omega)
    have g3 : ((i : Int) < (ks.length : Int)) = True := eq_true (by omega)
    obtain ⟨j1, rfl⟩ : ∃ j1, gk = j1 + 1 := ⟨gk - 1, by omega⟩
    have hil : ks[i]? = some ks[i] := List.getElem?_eq_getElem ci
    have hq := HKs.out _ (List.getElem_mem ci)
    have hd := List.drop_eq_getElem_cons ci
    obtain ⟨y, hq'⟩ : ∃ y, ks[i] = y := ⟨_, rfl⟩
    rw [hq'] at hil hq hd
    obtain ⟨ad, e1, he0⟩ := str_at (Kd.C_below HK.out HW.out.1) i ci hil
    have HT := Aside0.mk (lg_take hil)
    have HU2 : Aside0 ((QV.u8 y && (ks.drop (i + 1)).all QV.u8) = false) := ⟨by have h := HU.out; rw [hd, List.all_cons] at h; exact h⟩
    have HI := Aside0.mk hi
    have HUC := Aside0.mk (fun W => u8C y hq W)
    obtain ⟨b, hb⟩ : ∃ b, QV.u8 y = b := ⟨_, rfl⟩
    obtain ⟨L, hL⟩ : ∃ L, lg (ks.take i) = L := ⟨_, rfl⟩
    rw [hb] at HU2 HUC
    rw [hL] at HT ⊢
    clear hil hq' hi hd hb hL HU
    subst e1
    cases b with
    | false =>
      go_wp2_with (first | (go_at_call 43; (with_reducible refine (HUC.out _).mono ?_); rintro e we2 ⟨rfl, hd⟩; have HN2 := Aside0.mk (((drawn_below hd).block _ (Array.getElem?_eq_some_iff.1 HW.out.2).1).trans HW.out.2); have HB2 := Aside0.mk (step_drawn HW.out.1 hd); clear hd; obtain ⟨t0, t1, t2, t3, t4, t5⟩ := zero5 HN2.out))
      obtain ⟨W', hW', ⟨u0, u1, u2, u3, u4⟩, hg, hz⟩ := fill5 HN2.out HB2.out (Nat.le_refl _) (.int .i64 0) (.int .i64 0) (.string ⟨#[]⟩) (.slice none 0 0) (.slice none 0 0)
      rw [hW']
      exact bodyPost_ret (v := .tuple #[.agg #[.int .i64 0, .int .i64 0, .string ⟨#[]⟩, .slice none 0 0, .slice none 0 0], .int .i64 6]) (by simp [results, Try.results17, go_sem, u0, u1, u2, u3, u4]) rfl ⟨rfl, hz⟩
    | true =>
      cases L with
      | false =>
        go_wp2_with (first | (go_at_call 43; (with_reducible refine (HUC.out _).mono ?_); rintro e we2 ⟨rfl, hd⟩; have HN2 := Aside0.mk (((drawn_below hd).block _ (Array.getElem?_eq_some_iff.1 HW.out.2).1).trans HW.out.2); have HB2 := Aside0.mk (step_drawn HW.out.1 hd); clear hd))
        go_roundg j1
        case measure => omega
        case rel => exact ⟨i + 1, by have := HI.out; omega, rfl, by rw [HT.out, Bool.false_or]; exact congrArg Value.bool (decide_eq_decide.2 (by omega)), ⟨by simpa using HU2.out⟩, ⟨HB2.out, HN2.out⟩⟩
      | true =>
        go_wp2_with (first | (go_at_call 43; (with_reducible refine (HUC.out _).mono ?_); rintro e we2 ⟨rfl, hd⟩; have HN2 := Aside0.mk (((drawn_below hd).block _ (Array.getElem?_eq_some_iff.1 HW.out.2).1).trans HW.out.2); have HB2 := Aside0.mk (step_drawn HW.out.1 hd); clear hd))
        go_roundg j1
        case measure => omega
        case rel => exact ⟨i + 1, by have := HI.out; omega, rfl, by rw [HT.out]; rfl, ⟨by simpa using HU2.out⟩, ⟨HB2.out, HN2.out⟩⟩
end Go.Proofs.Ytgpjkojnmeaoiaa.QV

/- value.Obj, by hand: all keys are UTF-8. -/
namespace Go.Proofs.Ytgpjkojnmeaoiaa.QV
open Go Go.RowKit Go.Proofs.YtgpjkojnmeaoiaaW.PrintWords Go.Proofs.YtgpjkojnmeaoiaaW.PrintLast Go.Proofs.YtgpjkojnmeaoiaaW.PrintMore
set_option linter.unusedVariables false
set_option linter.unusedSimpArgs false
set_option maxRecDepth 100000
set_option maxHeartbeats 4000000
theorem dd_mem : ∀ {l : List Mem} {m : Mem}, m ∈ dd l → m ∈ l := by
  intro l
  induction l with
  | nil => intro m h; simp [dd] at h
  | cons a l ih =>
    intro m h
    cases l with
    | nil => simpa [dd] using h
    | cons b l =>
      rw [dd] at h
      by_cases c : b.1 = a.1
      · rw [if_pos c] at h
        exact List.mem_cons_of_mem _ (ih h)
      · rw [if_neg c] at h
        rcases List.mem_cons.1 h with rfl | h
        · exact List.mem_cons_self
        · exact List.mem_cons_of_mem _ (ih h)
theorem ksz_bound {l : List ByteArray} {n : Nat} (h : ∀ q ∈ l, q.size ≤ n) : ksz l ≤ l.length * (n + 1) := by
  induction l with
  | nil => simp [ksz]
  | cons a l ih =>
    have h1 := h a List.mem_cons_self
    have h2 := ih (fun q hq => h q (List.mem_cons_of_mem _ hq))
    simp only [ksz, List.length_cons, Nat.add_mul]
    omega
theorem cntL_bound {l : List S28} {n : Nat} (h : ∀ q ∈ l, cnt q ≤ n) : cntL l ≤ l.length * n := by
  induction l with
  | nil => simp [cntL]
  | cons a l ih =>
    have h1 := h a List.mem_cons_self
    have h2 := ih (fun q hq => h q (List.mem_cons_of_mem _ hq))
    simp only [cntL, List.length_cons, Nat.add_mul]
    omega
theorem ov_keys {ks : List ByteArray} {ms : List Mem} (hp : ms.Perm (mems ks)) {k : ByteArray} (h : k ∈ (dd ms).map (·.1)) : k ∈ ks := by
  obtain ⟨m, hm, rfl⟩ := List.mem_map.1 h
  obtain ⟨k, ix⟩ := m
  obtain ⟨p, hp2, rfl, hkp⟩ := mems_mem (hp.mem_iff.1 (dd_mem hm))
  exact List.mem_of_getElem? hkp
theorem ov_elems {ks : List ByteArray} {es : List S28} {ms : List Mem} (hp : ms.Perm (mems ks)) (hlen : ks.length = es.length) {y : S28} (h : y ∈ (dd ms).map (ge es)) : y ∈ es := by
  obtain ⟨m, hm, rfl⟩ := List.mem_map.1 h
  obtain ⟨k, ix⟩ := m
  obtain ⟨p, hp2, rfl, hkp⟩ := mems_mem (hp.mem_iff.1 (dd_mem hm))
  have hpe : p < es.length := by omega
  unfold ge
  simp [hpe]
theorem ov_wv {ks : List ByteArray} {es : List S28} {ms : List Mem} (hp : ms.Perm (mems ks)) (hlen : ks.length = es.length) (hks : ∀ q ∈ ks, q.size ≤ 140737488351232) (hw : ∀ y ∈ es, Wv y ∧ cnt y ≤ 1000000000000) (hn : ks.length ≤ 20) : Wv (ov es ms) ∧ (lg ks = false → cnt (ov es ms) ≤ 1000000000000000) := by
  have h1 : (dd ms).length ≤ 20 := by
    have := dd_len ms
    have h2 := hp.length_eq
    rw [mems_len] at h2
    omega
  refine ⟨.mk _ (by simp [ov]) (by simp [ov]) (show (⟨#[]⟩ : ByteArray).size ≤ 140737488351232 from Nat.zero_le _) (by simp [ov]; omega) (fun q hq => hks q (ov_keys hp hq)) (by simp [ov]; omega) (fun q hq => (hw q (ov_elems hp hlen hq)).1), fun hl => ?_⟩
  have h2 := ksz_bound (l := (dd ms).map (·.1)) (n := 4096) (fun q hq => by
    have h3 := ov_keys hp hq
    unfold lg at hl
    have h4 := List.any_eq_false.1 hl q h3
    simpa using h4)
  have h3 := cntL_bound (l := (dd ms).map (ge es)) (n := 1000000000000) (fun q hq => (hw q (ov_elems hp hlen hq)).2)
  rw [cnt_eq]
  simp only [ov, List.length_map] at *
  have h4 : (dd ms).length * (4096 + 1) ≤ 20 * 4097 := Nat.mul_le_mul h1 (by omega)
  have h5 : (dd ms).length * 1000000000000 ≤ 20 * 1000000000000 := Nat.mul_le_mul h1 (by omega)
  have h6 : (⟨#[]⟩ : ByteArray).size = 0 := rfl
  omega
/-- Rows of the call's own above block b stay where block b alone is written. -/
theorem rd_end {we1 we2 W' : World} {base b : Nat} {X3 : Option Addr} {d3 : Nat} {X4 : Option Addr} {d4 : Nat} {x : S28} (h3 : OwnRow kR 9 1 we2 we1.heap.size (.slice X3 x.f3.length d3) x.f3) (h4 : OwnRow (k28.M we1 base (fun _ => True)) 28 5 we2 we1.heap.size (.slice X4 x.f4.length d4) x.f4)
    (hb : b < base) (hbase : base ≤ we1.heap.size) (h12 : Below we1.heap.size we1 we2) (hk : ∀ k, k ≠ b → k < we2.heap.size → W'.heap[k]? = we2.heap[k]?) : Rd W' X3 d3 X4 d4 x := by
  obtain ⟨i3, o3, r3⟩ := h3
  obtain ⟨i4, o4, r4⟩ := h4
  have m3 : OwnRow kR 9 1 W' we1.heap.size (.slice X3 x.f3.length d3) x.f3 := ⟨i3, own_move o3 (fun k hq => hk k (by have := Go.Proofs.YtgpjkojnmeaoiaaW.PrintWords.own_base o3 k hq; omega) (own_lt o3 k hq)), r3⟩
  have m4 : OwnRow (k28.K W') 28 5 W' we1.heap.size (.slice X4 x.f4.length d4) x.f4 := ⟨i4, own_move o4 (fun k hq => hk k (by have := Go.Proofs.YtgpjkojnmeaoiaaW.PrintWords.own_base o4 k hq; omega) (own_lt o4 k hq)), r4.imp_ (fun y cs hM => k28.K_of_M (k28.M_move (fun k hq => (hk k (by have := hq.2.1; omega) (by have := hq.2.2.1; have := Below.size h12; omega)).trans (h12.block k hq.2.2.1)) (k28.M_bound hM)))⟩
  obtain ⟨A3, c3, e3, l3, g3⟩ := m3.reads
  obtain ⟨A4, c4, e4, l4, g4⟩ := m4.reads
  injection e3 with a1 a2 a3
  injection e4 with b1 b2 b3
  subst a1 a3 b1 b3
  exact ⟨l3, g3, l4, g4⟩
/-- The same, told by what lies above base. -/
theorem rd_end2 {we1 we2 W' : World} {base : Nat} {X3 : Option Addr} {d3 : Nat} {X4 : Option Addr} {d4 : Nat} {x : S28} (h3 : OwnRow kR 9 1 we2 we1.heap.size (.slice X3 x.f3.length d3) x.f3) (h4 : OwnRow (k28.M we1 base (fun _ => True)) 28 5 we2 we1.heap.size (.slice X4 x.f4.length d4) x.f4)
    (hbase : base ≤ we1.heap.size) (h12 : Below we1.heap.size we1 we2) (hk : ∀ k, base ≤ k → k < we2.heap.size → W'.heap[k]? = we2.heap[k]?) : Rd W' X3 d3 X4 d4 x := by
  obtain ⟨i3, o3, r3⟩ := h3
  obtain ⟨i4, o4, r4⟩ := h4
  have m3 : OwnRow kR 9 1 W' we1.heap.size (.slice X3 x.f3.length d3) x.f3 := ⟨i3, own_move o3 (fun k hq => hk k (by have := Go.Proofs.YtgpjkojnmeaoiaaW.PrintWords.own_base o3 k hq; omega) (own_lt o3 k hq)), r3⟩
  have m4 : OwnRow (k28.K W') 28 5 W' we1.heap.size (.slice X4 x.f4.length d4) x.f4 := ⟨i4, own_move o4 (fun k hq => hk k (by have := Go.Proofs.YtgpjkojnmeaoiaaW.PrintWords.own_base o4 k hq; omega) (own_lt o4 k hq)), r4.imp_ (fun y cs hM => k28.K_of_M (k28.M_move (fun k hq => (hk k (by have := hq.2.1; omega) (by have := hq.2.2.1; have := Below.size h12; omega)).trans (h12.block k hq.2.2.1)) (k28.M_bound hM)))⟩
  obtain ⟨A3, c3, e3, l3, g3⟩ := m3.reads
  obtain ⟨A4, c4, e4, l4, g4⟩ := m4.reads
  injection e3 with a1 a2 a3
  injection e4 with b1 b2 b3
  subst a1 a3 b1 b3
  exact ⟨l3, g3, l4, g4⟩
def OkObj (ks : List ByteArray) (es : List S28) (w : World) (e : Ending) (w' : World) : Prop := ∃ (ms : List Mem) (X3 : Option Addr) (d3 : Nat) (X4 : Option Addr) (d4 : Nat),
  e = .returned (if ft (ov es ms) = true then .tuple #[.agg #[.int .i64 ((ov es ms)).f0, .int .i64 ((ov es ms)).f1, .string ((ov es ms)).f2, .slice X3 ((ov es ms)).f3.length d3, .slice X4 ((ov es ms)).f4.length d4], .int .i64 0] else .tuple #[.agg #[.int .i64 0, .int .i64 0, .string ⟨#[]⟩, .slice none 0 0, .slice none 0 0], .int .i64 2]) ∧
  Rd w' X3 d3 X4 d4 (ov es ms) ∧ ms.Perm (mems ks) ∧ ms.Pairwise lexM ∧ Below w.heap.size w w' ∧ ∀ (W2 : World) (b : Nat), b < w.heap.size → (∀ k, k ≠ b → k < w'.heap.size → W2.heap[k]? = w'.heap[k]?) → Rd W2 X3 d3 X4 d4 (ov es ms)
def UObj (ks : List ByteArray) (es : List S28) (w : World) (e : Ending) (w' : World) : Prop := if lg ks = true then BadObj w 2 e w' else OkObj ks es w e w'
theorem valueObj_ok (ks : List ByteArray) (es : List S28) (w : World) {A : Option Addr} {c : Nat} {B : Option Addr} {d : Nat} (hlen : ks.length = es.length) (hk : Kd.C Kd.string w A ks.length ks) (hks : ∀ q ∈ ks, q.size ≤ 140737488351232) (he : Kd.C k28 w B es.length es) (hw : ∀ y ∈ es, Wv y ∧ cnt y ≤ 1000000000000) (hn : ks.length ≤ 20) (hall : es.all vd = true) (hu : ks.all QV.u8 = true) :
    Calls Try.prog 17 #[.slice A ks.length c, .slice B es.length d] w (UObj ks es w) := by
  have HN : Aside0 ((w.alloc (.cells #[.int .i64 0, .int .i64 0, .string ⟨#[]⟩, .slice none 0 0, .slice none 0 0] 28)).heap[w.heap.size]? = some (.cells #[.int .i64 0, .int .i64 0, .string ⟨#[]⟩, .slice none 0 0, .slice none 0 0] 28 (0, 0))) := ⟨heap_alloc_new w _⟩
  have HB := Aside0.mk (new_below w (.cells #[.int .i64 0, .int .i64 0, .string ⟨#[]⟩, .slice none 0 0, .slice none 0 0] 28))
  have HL : Aside0 (w.heap.size < (w.alloc (.cells #[.int .i64 0, .int .i64 0, .string ⟨#[]⟩, .slice none 0 0, .slice none 0 0] 28)).heap.size) := ⟨by simp⟩
  have HQ := Aside0.mk (allC (c := d) es (w.alloc (.cells #[.int .i64 0, .int .i64 0, .string ⟨#[]⟩, .slice none 0 0, .slice none 0 0] 28)) (Kd.C_below he HB.out) (fun y hy => ⟨(hw y hy).1, by have := (hw y hy).2; omega⟩) (by omega))
  have HCo : Aside0 (∀ W, Below w.heap.size w W → Calls Try.prog 51 #[.slice B ks.length d] W fun e w' => ∃ X d, e = .returned (.slice X ks.length d) ∧ ReadsRow (k28.M w' W.heap.size (fun _ => True)) 5 w' X es.length es ∧ Below W.heap.size W w') := ⟨fun W hb => by
    rw [hlen]
    refine (copiesC (c := d) es W (Kd.C_below he hb) (fun y hy => (hw y hy).2) (by omega)).mono ?_
    rintro e w' ⟨X, d, rfl, hR, hB⟩
    obtain ⟨A2, c2, e2, _, hC⟩ := (hR.2.imp_ (fun _ _ hM => k28.M_mono (fun k hk => hk.1) hM)).reads
    injection e2 with e3 e4 e5
    subst e3
    exact ⟨X, d, rfl, hC, hB⟩⟩
  have HOb : Aside0 (∀ W X d (base : Nat), Below w.heap.size w W → ReadsRow (k28.M W base (fun _ => True)) 5 W X es.length es → Calls Try.prog 54 #[.slice A ks.length c, .slice X ks.length d] W (ObjPost (k28.M W base (fun _ => True)) ks es W)) := ⟨fun W X d base hb hC => by
    have h := objC (c := c) (d := d) ks es W (Kd.C_below hk hb) (fun _ _ h => k28.K_of_M h) hC hlen hn
    rw [← hlen] at h
    exact h⟩
  have HFt : Aside0 (lg ks = false → ∀ (ms : List Mem) (W : World) (X3 : Option Addr) (d3 : Nat) (X4 : Option Addr) (d4 : Nat), ms.Perm (mems ks) → Rd W X3 d3 X4 d4 (ov es ms) → Calls Try.prog 49 #[.agg #[.int .i64 ((ov es ms)).f0, .int .i64 ((ov es ms)).f1, .string ((ov es ms)).f2, .slice X3 ((ov es ms)).f3.length d3, .slice X4 ((ov es ms)).f4.length d4]] W fun e w' => e = .returned (if ft (ov es ms) = true then .tuple #[.agg #[.int .i64 ((ov es ms)).f0, .int .i64 ((ov es ms)).f1, .string ((ov es ms)).f2, .slice X3 ((ov es ms)).f3.length d3, .slice X4 ((ov es ms)).f4.length d4], .int .i64 0] else .tuple #[.agg #[.int .i64 0, .int .i64 0, .string ⟨#[]⟩, .slice none 0 0, .slice none 0 0], .int .i64 2]) ∧ Below W.heap.size W w') :=
    ⟨fun hl ms W X3 d3 X4 d4 hp hr => fitTopC (ov es ms) W (ov_wv hp hlen hks hw hn).1 ((ov_wv hp hlen hks hw hn).2 hl) hr⟩
  rw [hall, ← hlen] at HQ
  have HK := Aside0.mk hk
  have HKs := Aside0.mk hks
  have HU : Aside0 (∀ q ∈ ks, QV.u8 q = true) := ⟨fun q hq => List.all_eq_true.1 hu q hq⟩
  rw [← hlen]
  clear he hw hall hlen hk hks hu
  go_enter Try.func17, Try.ntmps17
  go_upto_region 6 with (first | (go_at_call 48; (with_reducible refine HQ.out.mono ?_); rintro e we ⟨rfl, hb⟩; have HC := Aside0.mk hb; clear hb; have HN2 := Aside0.mk ((HC.out.block _ HL.out).trans HN.out); have HB2 := Aside0.mk (below_step HB.out HC.out)))
  have H0 : Aside0 (Below w.heap.size w we ∧ we.heap[w.heap.size]? = some (.cells #[.int .i64 0, .int .i64 0, .string ⟨#[]⟩, .slice none 0 0, .slice none 0 0] 28 (0, 0))) := ⟨HB2.out, HN2.out⟩
  clear HN HB HL HQ HC HN2 HB2
  go_wp2_with fail
  go_loopg [6, 23] ks.length (fun kq v6 v23 w' => ∃ (i : Nat), kq + i = ks.length ∧ v23 = .int .i64 (i : Int) ∧ v6 = .bool (lg (ks.take i)) ∧ Aside0 (Below w.heap.size w w' ∧ w'.heap[w.heap.size]? = some (.cells #[.int .i64 0, .int .i64 0, .string ⟨#[]⟩, .slice none 0 0, .slice none 0 0] 28 (0, 0))))
  case atStart => exact ⟨0, by omega, rfl, rfl, H0⟩
  case round =>
    clear H0
    obtain ⟨i, hi, rfl, rfl, HW⟩ := hrel
    by_cases ci : i < ks.length
    rotate_left
    · have g0 : decide (i < ks.length) = false := decide_eq_false ci
      have e1 : lg (ks.take i) = lg ks := by rw [List.take_of_length_le (by omega)]
      obtain ⟨L, hL⟩ : ∃ L, lg ks = L := ⟨_, rfl⟩
      have HO : Aside0 (∀ e w', (if L = true then BadObj w 2 e w' else OkObj ks es w e w') → UObj ks es w e w') := ⟨fun e w' h => by unfold UObj; rw [hL]; exact h⟩
      rw [e1, hL]
      rw [hL] at HFt
      clear e1 hL ci hi HU HKs
      cases L with
      | true =>
        obtain ⟨t0, t1, t2, t3, t4, t5⟩ := zero5 HW.out.2
        go_wp2_with fail
        obtain ⟨W', hW', ⟨u0, u1, u2, u3, u4⟩, hg, hz⟩ := fill5 HW.out.2 HW.out.1 (Nat.le_refl _) (.int .i64 0) (.int .i64 0) (.string ⟨#[]⟩) (.slice none 0 0) (.slice none 0 0)
        rw [hW']
        exact bodyPost_ret (v := .tuple #[.agg #[.int .i64 0, .int .i64 0, .string ⟨#[]⟩, .slice none 0 0, .slice none 0 0], .int .i64 2]) (by simp [results, Try.results17, go_sem, u0, u1, u2, u3, u4]) rfl (HO.out _ _ ⟨rfl, hz⟩)
      | false =>
        have HF2 := Aside0.mk (HFt.out rfl)
        clear HFt
        go_wp2_with (first | (go_at_call 51; (with_reducible refine (HCo.out _ HW.out.1).mono ?_); rintro e we1 ⟨X, dX, rfl, hC, hb⟩; have HC := Aside0.mk hC; have HC1 := Aside0.mk hb; have HN2 := Aside0.mk ((hb.block _ (Array.getElem?_eq_some_iff.1 HW.out.2).1).trans HW.out.2); have HB2 := Aside0.mk (below_step HW.out.1 hb); clear hC hb) | (go_at_call 54; (with_reducible refine (HOb.out _ _ _ _ HB2.out HC.out).mono ?_); rintro e we2 ⟨ms, X3, d3, X4, d4, rfl, hr3, hr4, hp, hs, hb⟩; have HRr := Aside0.mk (And.intro hr3 hr4); have HR := Aside0.mk (rd_end hr3 hr4 (Nat.lt_of_lt_of_le (Array.getElem?_eq_some_iff.1 HW.out.2).1 (Nat.le_refl _)) (Below.size HC1.out) hb (fun k _ _ => rfl)); have HC2 := Aside0.mk hb; have HP := Aside0.mk (And.intro hp hs); have HN3 := Aside0.mk ((hb.block _ (Array.getElem?_eq_some_iff.1 HN2.out).1).trans HN2.out); have HB3 := Aside0.mk (below_step HB2.out hb); clear hr3 hr4 hp hs hb))
        go_at_call 49
        refine (HF2.out _ _ _ _ _ _ HP.out.1 HR.out).mono ?_
        rintro e we3 ⟨rfl, hb⟩; have HC3 := Aside0.mk hb; have HN4 := Aside0.mk ((hb.block _ (Array.getElem?_eq_some_iff.1 HN3.out).1).trans HN3.out); have HB4 := Aside0.mk (below_step HB3.out hb); clear hb; obtain ⟨t0, t1, t2, t3, t4, t5⟩ := zero5 HN4.out; clear HN2 HN3
        have HFin : Aside0 (∀ W', we3.grownBy W' (some w.heap.size) → Rd W' X3 d3 X4 d4 (ov es ms)) := ⟨fun W' hg => rd_end HRr.out.1 HRr.out.2 (Nat.lt_of_lt_of_le (Array.getElem?_eq_some_iff.1 HW.out.2).1 (Nat.le_refl _)) (Below.size HC1.out) HC2.out (fun k hk hlt => (hg.block k (by have := Below.size HC3.out; omega) (fun e => hk (Option.some.inj e))).trans (HC3.out.block k hlt))⟩
        have HFin2 : Aside0 (∀ W' W2 b, we3.grownBy W' (some w.heap.size) → b < w.heap.size → (∀ k, k ≠ b → k < W'.heap.size → W2.heap[k]? = W'.heap[k]?) → Rd W2 X3 d3 X4 d4 (ov es ms)) := ⟨fun W' W2 b hg hb hk => rd_end2 HRr.out.1 HRr.out.2 (Below.size HC1.out) HC2.out (fun k hk1 hlt => by
          have hlo : w.heap.size < wr.heap.size := (Array.getElem?_eq_some_iff.1 HW.out.2).1
          have h3 := Below.size HC3.out
          have h4 := hg.size
          exact ((hk k (by omega) (by omega)).trans (hg.block k (by omega) (fun e => by have := Option.some.inj e; omega))).trans (HC3.out.block k hlt))⟩
        by_cases hft : ft (ov es ms) = true
        · rw [if_pos hft]
          have HFT := Aside0.mk hft
          clear hft
          go_wp2_with fail
          obtain ⟨W', hW', ⟨u0, u1, u2, u3, u4⟩, hg, hz⟩ := fill5 HN4.out HB4.out (Nat.le_refl _) (.int .i64 (ov es ms).f0) (.int .i64 (ov es ms).f1) (.string (ov es ms).f2) (.slice X3 (ov es ms).f3.length d3) (.slice X4 (ov es ms).f4.length d4)
          rw [hW']
          exact bodyPost_ret (v := .tuple #[.agg #[.int .i64 ((ov es ms)).f0, .int .i64 ((ov es ms)).f1, .string ((ov es ms)).f2, .slice X3 ((ov es ms)).f3.length d3, .slice X4 ((ov es ms)).f4.length d4], .int .i64 0]) (by simp [results, Try.results17, go_sem, u0, u1, u2, u3, u4]) rfl (HO.out _ _ ⟨ms, X3, d3, X4, d4, by rw [if_pos HFT.out], HFin.out _ hg, HP.out.1, HP.out.2, hz, fun W2 b hb hk => HFin2.out _ W2 b hg hb hk⟩)
        · rw [if_neg hft]
          have HFT := Aside0.mk hft
          clear hft
          go_wp2_with fail
          obtain ⟨W', hW', ⟨u0, u1, u2, u3, u4⟩, hg, hz⟩ := fill5 HN4.out HB4.out (Nat.le_refl _) (.int .i64 0) (.int .i64 0) (.string ⟨#[]⟩) (.slice none 0 0) (.slice none 0 0)
          rw [hW']
          exact bodyPost_ret (v := .tuple #[.agg #[.int .i64 0, .int .i64 0, .string ⟨#[]⟩, .slice none 0 0, .slice none 0 0], .int .i64 2]) (by simp [results, Try.results17, go_sem, u0, u1, u2, u3, u4]) rfl (HO.out _ _ ⟨ms, X3, d3, X4, d4, by rw [if_neg HFT.out], HFin.out _ hg, HP.out.1, HP.out.2, hz, fun W2 b hb hk => HFin2.out _ W2 b hg hb hk⟩)
    have g0 : decide ((i : Int) < (ks.length : Int)) = true := decide_eq_true (by omega)
    have g2 : (0 ≤ (i : Int)) = True := eq_true (by omega)
    have g3 : ((i : Int) < (ks.length : Int)) = True := eq_true (by omega)
    obtain ⟨j1, rfl⟩ : ∃ j1, gk = j1 + 1 := ⟨gk - 1, by omega⟩
    have hil : ks[i]? = some ks[i] := List.getElem?_eq_getElem ci
    have hq := HKs.out _ (List.getElem_mem ci)
    have hqu := HU.out _ (List.getElem_mem ci)
    obtain ⟨y, hq'⟩ : ∃ y, ks[i] = y := ⟨_, rfl⟩
    rw [hq'] at hil hq hqu
    obtain ⟨ad, e1, he0⟩ := str_at (Kd.C_below HK.out HW.out.1) i ci hil
    have HT := Aside0.mk (lg_take hil)
    have HI := Aside0.mk hi
    have HUC := Aside0.mk (fun W => u8C y hq W)
    obtain ⟨L, hL⟩ : ∃ L, lg (ks.take i) = L := ⟨_, rfl⟩
    rw [hqu] at HUC
    rw [hL] at HT ⊢
    clear hil hq' hi hL hqu
    subst e1
    cases L with
    | false =>
      go_wp2_with (first | (go_at_call 43; (with_reducible refine (HUC.out _).mono ?_); rintro e we2 ⟨rfl, hd⟩; have HN2 := Aside0.mk (((drawn_below hd).block _ (Array.getElem?_eq_some_iff.1 HW.out.2).1).trans HW.out.2); have HB2 := Aside0.mk (step_drawn HW.out.1 hd); clear hd))
      go_roundg j1
      case measure => omega
      case rel => exact ⟨i + 1, by have := HI.out; omega, rfl, by rw [HT.out, Bool.false_or]; exact congrArg Value.bool (decide_eq_decide.2 (by omega)), ⟨HB2.out, HN2.out⟩⟩
    | true =>
      go_wp2_with (first | (go_at_call 43; (with_reducible refine (HUC.out _).mono ?_); rintro e we2 ⟨rfl, hd⟩; have HN2 := Aside0.mk (((drawn_below hd).block _ (Array.getElem?_eq_some_iff.1 HW.out.2).1).trans HW.out.2); have HB2 := Aside0.mk (step_drawn HW.out.1 hd); clear hd))
      go_roundg j1
      case measure => omega
      case rel => exact ⟨i + 1, by have := HI.out; omega, rfl, by rw [HT.out]; rfl, ⟨HB2.out, HN2.out⟩⟩
end Go.Proofs.Ytgpjkojnmeaoiaa.QV

/- awake, by hand: the plain half. -/
namespace Go.Proofs.Ytgpjkojnmeaoiaa.QV
open Go Go.RowKit Go.Proofs.YtgpjkojnmeaoiaaW.PrintWords Go.Proofs.YtgpjkojnmeaoiaaW.PrintLast Go.Proofs.YtgpjkojnmeaoiaaW.PrintMore
set_option linter.unusedVariables false
set_option linter.unusedSimpArgs false
set_option maxRecDepth 100000
set_option maxHeartbeats 4000000
theorem perm_unique {α : Type} {r : α → α → Prop} (ha : ∀ a b, r a b → r b a → False) : ∀ (l m : List α), l.Perm m → l.Pairwise r → m.Pairwise r → l = m
  | [], m, h, _, _ => (List.Perm.nil_eq h)
  | a :: l, [], h, _, _ => absurd h.length_eq (by simp)
  | a :: l, b :: m, h, h1, h2 => by
    have hab : a = b := by
      have m1 := h.mem_iff.1 (List.mem_cons_self (a := a) (l := l))
      have m2 := h.mem_iff.2 (List.mem_cons_self (a := b) (l := m))
      rcases List.mem_cons.1 m1 with e | m1
      · exact e
      rcases List.mem_cons.1 m2 with e | m2
      · exact e.symm
      exact (ha a b ((List.pairwise_cons.1 h1).1 b m2) ((List.pairwise_cons.1 h2).1 a m1)).elim
    subst hab
    rw [perm_unique ha l m (List.Perm.cons_inv h) (List.pairwise_cons.1 h1).2 (List.pairwise_cons.1 h2).2]
def sA : ByteArray := ⟨#[97]⟩
def sB : ByteArray := ⟨#[98]⟩
def nm1 (n : Int) : S28 := ⟨3, n, ⟨#[]⟩, [], []⟩
def awX : S28 := ⟨6, 0, ⟨#[]⟩, [sA, sB], [nm1 2, nm1 3]⟩
theorem u8A : QV.u8 sA = true := by kernel_rfl
theorem u8B : QV.u8 sB = true := by kernel_rfl
theorem u8E : QV.u8 (⟨#[]⟩ : ByteArray) = true := by kernel_rfl
theorem vd_nm (n : Int) : vd (nm1 n) = true := by
  unfold vd fitR nm1
  rw [okv_eq, nds_eq, bts_eq]
  simp [fm, kz, u8E, ksum]
  show (0 : Int) ≤ 65536
  decide
theorem bltAB : blt sA sB = true := by kernel_rfl
theorem okv_nm (form : Bool) (ar : Nat) (n : Int) : okv form ar (nm1 n) = true := by
  rw [okv_eq]
  simp [nm1, fm, kz, u8E]
theorem nds_nm (n : Int) : nds (nm1 n) = 1 := by rw [nds_eq]; simp [nm1]
theorem bts_nm (n : Int) : bts (nm1 n) = 0 := by rw [bts_eq]; simp [nm1, ksum]; rfl
theorem awFit (form : Bool) : fitR form 0 awX 0 0 = true := by
  unfold fitR
  rw [okv_eq, nds_eq, bts_eq]
  have h1 : sA.size = 1 := rfl
  have h2 : sB.size = 1 := rfl
  simp [awX, fm, kz, ko, u8A, u8B, u8E, bltAB, okL, okv_nm, ndsL, nds_nm, btsL, bts_nm, ksum, h1, h2]
  show (0 : Int) + _ ≤ 65536
  decide
theorem vd_awX : vd awX = true := awFit true
def awKs : List ByteArray := [sB, sA, sB]
def awEs : List S28 := [nm1 1, nm1 2, nm1 3]
theorem wv_nm (n : Int) (h : -9223372036854775808 ≤ n ∧ n ≤ 9223372036854775807) : Wv (nm1 n) := .mk _ (by simp [nm1]) h (show (⟨#[]⟩ : ByteArray).size ≤ 140737488351232 from Nat.zero_le _) (by simp [nm1]) (by simp [nm1]) (by simp [nm1]) (by simp [nm1])
theorem wv_awX : Wv awX := .mk _ (by simp [awX]) (by simp [awX]) (show (⟨#[]⟩ : ByteArray).size ≤ 140737488351232 from Nat.zero_le _) (by simp [awX]) (by simp [awX, show sA.size = 1 from rfl, show sB.size = 1 from rfl]) (by simp [awX]) (by simp [awX, wv_nm])
theorem cnt_nm (n : Int) : cnt (nm1 n) = 1 := by rw [cnt_eq]; simp [nm1, ksz, cntL]; rfl
theorem cnt_awX : cnt awX ≤ 100 := by
  rw [cnt_eq]
  simp [awX, ksz, cntL, cnt_nm, show sA.size = 1 from rfl, show sB.size = 1 from rfl]
  show 1 + 0 ≤ 94
  decide
theorem aw_ov {ms : List Mem} (hp : ms.Perm (mems awKs)) (hs : ms.Pairwise lexM) : ov awEs ms = awX := by
  have e : ms = [(sA, 1), (sB, 0), (sB, 2)] := by
    refine perm_unique (r := lexM) (fun a b h k => ?_) _ _ (hp.trans ?_) hs ?_
    · have h1 := lexM_trans h k
      rcases h1 with h1 | ⟨_, h1⟩
      · rw [blt_irrefl] at h1; cases h1
      · omega
    · show List.Perm [(sB, 0), (sA, 1), (sB, 2)] [(sA, 1), (sB, 0), (sB, 2)]
      exact List.Perm.swap _ _ _
    · simp [lexM, bltAB]
  subst e
  have hAB : ¬ sB = sA := by intro h; have := congrArg (fun x : ByteArray => x.data) h; revert this; decide
  simp [ov, dd, awX, ge, awEs, hAB]
end Go.Proofs.Ytgpjkojnmeaoiaa.QV

/- awake, by hand. -/
namespace Go.Proofs.Ytgpjkojnmeaoiaa.QV
open Go Go.RowKit Go.Proofs.YtgpjkojnmeaoiaaW.PrintWords Go.Proofs.YtgpjkojnmeaoiaaW.PrintLast Go.Proofs.YtgpjkojnmeaoiaaW.PrintMore
set_option linter.unusedVariables false
set_option linter.unusedSimpArgs false
set_option maxRecDepth 100000
set_option maxHeartbeats 4000000
/-- A row of strings that a literal makes. -/
theorem strLit (W : World) (l : List ByteArray) (hl : l.length ≤ 1000000) : Kd.C Kd.string (W.alloc (.cells (l.map Value.string).toArray 9)) (some ⟨W.heap.size, 0, none⟩) l.length l := by
  have hr : Reps kR 1 l (l.map Value.string) := ⟨by simp, fun j p h => by
    have : (List.take 1 (List.drop (j * 1) (l.map Value.string))) = [Value.string p] := by
      obtain ⟨h1, h2⟩ := List.getElem?_eq_some_iff.1 h
      rw [Nat.mul_one, List.drop_eq_getElem_cons (by simpa using h1)]
      simp [h2]
    rw [this]; rfl⟩
  obtain ⟨A, c, e, _, hC⟩ := (OwnRow.lit (e := 9) W 0 hr (Nat.zero_le _) (by omega)).reads
  injection e with e1 e2 e3
  subst e1
  exact hC
/-- One value handed on as a row. -/
theorem oneLit (W : World) {A3 : Option Addr} {c3 : Nat} {A4 : Option Addr} {c4 : Nat} {x : S28} (h : Rd W A3 c3 A4 c4 x) : Kd.C k28 (W.alloc (.cells #[.int .i64 x.f0, .int .i64 x.f1, .string x.f2, .slice A3 x.f3.length c3, .slice A4 x.f4.length c4] 28)) (some ⟨W.heap.size, 0, none⟩) [x].length [x] := by
  have hr : Reps (k28.K W) 5 [x] [.int .i64 x.f0, .int .i64 x.f1, .string x.f2, .slice A3 x.f3.length c3, .slice A4 x.f4.length c4] := ⟨rfl, fun j p hp => by
    match j, hp with
    | 0, hp => obtain rfl := Option.some.inj hp; exact k28_mk W x h.k3 h.r3 h.k4 h.r4
    | j + 1, hp => simp at hp⟩
  obtain ⟨A, c, e, _, hC⟩ := ((OwnRow.lit (e := 28) W 0 hr (Nat.zero_le _) (by simp)).imp_ (fun _ _ h => k28.K_below (new_below W _) h)).reads
  injection e with e1 e2 e3
  subst e1
  exact hC
theorem k28_nm (w : World) (n : Int) : k28.K w (nm1 n) [.int .i64 3, .int .i64 n, .string ⟨#[]⟩, .slice none 0 0, .slice none 0 0] :=
  k28_mk w (nm1 n) (A3 := none) (c3 := 0) (Nat.le_refl _) ⟨rfl, by simp [nm1], fun h => absurd h (by simp [nm1])⟩ (A4 := none) (c4 := 0) (Nat.le_refl _) ⟨rfl, by simp [nm1], fun h => absurd h (by simp [nm1])⟩
theorem aw_lit (W : World) : Kd.C k28 (W.alloc (.cells #[.int .i64 3, .int .i64 1, .string ⟨#[]⟩, .slice none 0 0, .slice none 0 0, .int .i64 3, .int .i64 2, .string ⟨#[]⟩, .slice none 0 0, .slice none 0 0, .int .i64 3, .int .i64 3, .string ⟨#[]⟩, .slice none 0 0, .slice none 0 0] 28)) (some ⟨W.heap.size, 0, none⟩) awEs.length awEs := by
  have hr : Reps (k28.K W) 5 awEs [.int .i64 3, .int .i64 1, .string ⟨#[]⟩, .slice none 0 0, .slice none 0 0, .int .i64 3, .int .i64 2, .string ⟨#[]⟩, .slice none 0 0, .slice none 0 0, .int .i64 3, .int .i64 3, .string ⟨#[]⟩, .slice none 0 0, .slice none 0 0] := ⟨rfl, fun j p h => by
    match j, h with
    | 0, h => obtain rfl := Option.some.inj h; exact k28_nm W 1
    | 1, h => obtain rfl := Option.some.inj h; exact k28_nm W 2
    | 2, h => obtain rfl := Option.some.inj h; exact k28_nm W 3
    | j + 3, h => simp [awEs] at h⟩
  obtain ⟨A, c, e, _, hC⟩ := ((OwnRow.lit (e := 28) W 0 hr (Nat.zero_le _) (by simp [awEs])).imp_ (fun _ _ h => k28.K_below (new_below W _) h)).reads
  injection e with e1 e2 e3
  subst e1
  exact hC
theorem awObjC (W : World) (A B : Option Addr) (hk : Kd.C Kd.string W A awKs.length awKs) (he : Kd.C k28 W B awEs.length awEs) :
    Calls Try.prog 17 #[.slice A 3 3, .slice B 3 3] W fun e w' => ∃ (X3 : Option Addr) (d3 : Nat) (X4 : Option Addr) (d4 : Nat), e = .returned (.tuple #[.agg #[.int .i64 6, .int .i64 0, .string ⟨#[]⟩, .slice X3 2 d3, .slice X4 2 d4], .int .i64 0]) ∧ Rd w' X3 d3 X4 d4 awX ∧ Below W.heap.size W w' := by
  have h := valueObj_ok (c := 3) (d := 3) awKs awEs W rfl hk (by simp [awKs, show sA.size = 1 from rfl, show sB.size = 1 from rfl]) he (by simp [awEs, wv_nm, cnt_nm]) (by simp [awKs]) (by simp [awEs, vd_nm]) (by simp [awKs, u8A, u8B])
  refine h.mono ?_
  intro e w' hu
  unfold UObj at hu
  rw [if_neg (by simp [lg, awKs, show sA.size = 1 from rfl, show sB.size = 1 from rfl])] at hu
  obtain ⟨ms, X3, d3, X4, d4, rfl, hr, hp, hs, hb, _⟩ := hu
  have e1 := aw_ov hp hs
  rw [e1] at hr ⊢
  exact ⟨X3, d3, X4, d4, by rw [if_pos (show ft awX = true from awFit false)]; rfl, hr, hb⟩
theorem awTail (W : World) {X3 : Option Addr} {d3 : Nat} {ad : Addr} {d4 : Nat} (hr : Rd W X3 d3 (some ad) d4 awX) :
    (Calls Try.prog 42 #[.slice X3 2 d3, .slice (some ⟨W.heap.size + 1, 0, none⟩) 2 2] ((W.alloc (.cells #[.int .i64 6, .int .i64 0, .string ⟨#[]⟩, .slice X3 2 d3, .slice (some ad) 2 d4] 28)).alloc (.cells #[.string ⟨#[97]⟩, .string ⟨#[98]⟩] 9)) fun e w' => e = .returned (.bool true) ∧ Below ((W.alloc (.cells #[.int .i64 6, .int .i64 0, .string ⟨#[]⟩, .slice X3 2 d3, .slice (some ad) 2 d4] 28)).alloc (.cells #[.string ⟨#[97]⟩, .string ⟨#[98]⟩] 9)).heap.size ((W.alloc (.cells #[.int .i64 6, .int .i64 0, .string ⟨#[]⟩, .slice X3 2 d3, .slice (some ad) 2 d4] 28)).alloc (.cells #[.string ⟨#[97]⟩, .string ⟨#[98]⟩] 9)) w') ∧
    (∀ W', Below ((W.alloc (.cells #[.int .i64 6, .int .i64 0, .string ⟨#[]⟩, .slice X3 2 d3, .slice (some ad) 2 d4] 28)).alloc (.cells #[.string ⟨#[97]⟩, .string ⟨#[98]⟩] 9)).heap.size ((W.alloc (.cells #[.int .i64 6, .int .i64 0, .string ⟨#[]⟩, .slice X3 2 d3, .slice (some ad) 2 d4] 28)).alloc (.cells #[.string ⟨#[97]⟩, .string ⟨#[98]⟩] 9)) W' → W'.cell? ⟨W.heap.size, 0, none⟩ = some (.int .i64 6) ∧ W'.cell? ⟨W.heap.size, 1, none⟩ = some (.int .i64 0) ∧ W'.cell? ⟨W.heap.size, 2, none⟩ = some (.string ⟨#[]⟩) ∧ W'.cell? ⟨W.heap.size, 3, none⟩ = some (.slice X3 2 d3) ∧ W'.cell? ⟨W.heap.size, 4, none⟩ = some (.slice (some ad) 2 d4)) ∧
    (∀ W', Below ((W.alloc (.cells #[.int .i64 6, .int .i64 0, .string ⟨#[]⟩, .slice X3 2 d3, .slice (some ad) 2 d4] 28)).alloc (.cells #[.string ⟨#[97]⟩, .string ⟨#[98]⟩] 9)).heap.size ((W.alloc (.cells #[.int .i64 6, .int .i64 0, .string ⟨#[]⟩, .slice X3 2 d3, .slice (some ad) 2 d4] 28)).alloc (.cells #[.string ⟨#[97]⟩, .string ⟨#[98]⟩] 9)) W' → (Calls Try.prog 30 #[.agg #[.int .i64 6, .int .i64 0, .string ⟨#[]⟩, .slice X3 2 d3, .slice (some ad) 2 d4]] W' fun e w' => e = .returned (.bool true) ∧ Below W'.heap.size W' w') ∧
      (∀ W2, Below W'.heap.size W' W2 → Calls Try.prog 32 #[.agg #[.int .i64 6, .int .i64 0, .string ⟨#[]⟩, .slice X3 2 d3, .slice (some ad) 2 d4]] W2 fun e w' => e = .returned (.string ⟨#[111, 98, 106, 101, 99, 116]⟩) ∧ Below W2.heap.size W2 w') ∧
      (∀ W2, Below W'.heap.size W' W2 → W2.cell? ⟨W.heap.size, 0, none⟩ = some (.int .i64 6) ∧ W2.cell? ⟨W.heap.size, 1, none⟩ = some (.int .i64 0) ∧ W2.cell? ⟨W.heap.size, 2, none⟩ = some (.string ⟨#[]⟩) ∧ W2.cell? ⟨W.heap.size, 3, none⟩ = some (.slice X3 2 d3) ∧ W2.cell? ⟨W.heap.size, 4, none⟩ = some (.slice (some ad) 2 d4))) := by
  have hB : Bv (W.alloc (.cells #[.int .i64 6, .int .i64 0, .string ⟨#[]⟩, .slice X3 2 d3, .slice (some ad) 2 d4] 28)) W.heap.size X3 d3 (some ad) d4 awX := Bv.new hr
  have hB2 : Bv ((W.alloc (.cells #[.int .i64 6, .int .i64 0, .string ⟨#[]⟩, .slice X3 2 d3, .slice (some ad) 2 d4] 28)).alloc (.cells #[.string ⟨#[97]⟩, .string ⟨#[98]⟩] 9)) W.heap.size X3 d3 (some ad) d4 awX := hB.below (new_below _ _)
  have hb2 := below_step (new_below W (.cells #[.int .i64 6, .int .i64 0, .string ⟨#[]⟩, .slice X3 2 d3, .slice (some ad) 2 d4] 28)) (new_below (W.alloc (.cells #[.int .i64 6, .int .i64 0, .string ⟨#[]⟩, .slice X3 2 d3, .slice (some ad) 2 d4] 28)) (.cells #[.string ⟨#[97]⟩, .string ⟨#[98]⟩] 9))
  have hs : Kd.C Kd.string ((W.alloc (.cells #[.int .i64 6, .int .i64 0, .string ⟨#[]⟩, .slice X3 2 d3, .slice (some ad) 2 d4] 28)).alloc (.cells #[.string ⟨#[97]⟩, .string ⟨#[98]⟩] 9)) (some ⟨W.heap.size + 1, 0, none⟩) [sA, sB].length [sA, sB] := by
    have h := strLit (W.alloc (.cells #[.int .i64 6, .int .i64 0, .string ⟨#[]⟩, .slice X3 2 d3, .slice (some ad) 2 d4] 28)) [sA, sB] (by simp)
    rw [show (W.alloc (.cells #[.int .i64 6, .int .i64 0, .string ⟨#[]⟩, .slice X3 2 d3, .slice (some ad) 2 d4] 28)).heap.size = W.heap.size + 1 from by simp] at h
    exact h
  refine ⟨?_, fun W' hb => (hB2.below hb).cells, fun W' hb => ⟨?_, fun W2 hb2 => ?_, fun W2 hb2 => (hB2.below (below_step hb hb2)).cells⟩⟩
  · refine (stringsC (d := 2) awX.f3 [sA, sB] _ hB2.rd.r3 hB2.rd.k3 hs (Nat.le_refl _) (by decide)).mono ?_
    rintro e w' ⟨r, rfl, hq, hb⟩
    rw [hq.2 rfl]
    exact ⟨rfl, hb⟩
  · refine (valueTruthyC awX W' wv_awX (by have := cnt_awX; omega) (hB2.rd.below hb)).mono ?_
    rintro e w' ⟨rfl, hb⟩
    rw [vd_awX]
    exact ⟨rfl, hb⟩
  · refine (valueTypeNameC awX W2 wv_awX (by have := cnt_awX; omega) (hB2.rd.below (below_step hb hb2))).mono ?_
    rintro e w' ⟨rfl, hb⟩
    rw [vd_awX]
    exact ⟨rfl, hb⟩
theorem awakeC (w : World) : Calls Try.prog 12 #[] w fun e w' => e = .returned (.bool true) ∧ Below w.heap.size w w' := by
  have HN : Aside0 (∀ n W, Calls Try.prog 22 #[.int .i64 n] W fun e w' => e = .returned (.agg #[.int .i64 3, .int .i64 n, .string ⟨#[]⟩, .slice none 0 0, .slice none 0 0]) ∧ Below W.heap.size W w') := ⟨fun n W => valueNumC n W⟩
  have HK : Aside0 (Kd.C Kd.string (w.alloc (.cells #[.string ⟨#[98]⟩, .string ⟨#[97]⟩, .string ⟨#[98]⟩] 9)) (some ⟨w.heap.size, 0, none⟩) awKs.length awKs) := ⟨strLit w awKs (by simp [awKs])⟩
  have HB := Aside0.mk (new_below w (.cells #[.string ⟨#[98]⟩, .string ⟨#[97]⟩, .string ⟨#[98]⟩] 9))
  have HB1 : Aside0 (Below (w.alloc (.cells #[.string ⟨#[98]⟩, .string ⟨#[97]⟩, .string ⟨#[98]⟩] 9)).heap.size (w.alloc (.cells #[.string ⟨#[98]⟩, .string ⟨#[97]⟩, .string ⟨#[98]⟩] 9)) (w.alloc (.cells #[.string ⟨#[98]⟩, .string ⟨#[97]⟩, .string ⟨#[98]⟩] 9))) := ⟨Below.refl _ _⟩
  go_enter Try.func12, Try.ntmps12
  go_wp2_with (first | (go_at_call 22; (with_reducible refine (HN.out _ _).mono ?_); rintro e we ⟨rfl, hb⟩; have HB2 := Aside0.mk (below_step HB1.out hb); clear hb HB1; have HB1 := HB2; clear HB2) | (go_at_call 17; (with_reducible refine (awObjC _ _ _ (Kd.C_below HK.out (below_step HB1.out (new_below _ _))) (aw_lit _)).mono ?_); rintro e we2 ⟨X3, d3, X4, d4, rfl, hr, hb⟩; obtain ⟨ad, Y3, y3, Y4, y4, rfl, hce⟩ := el_at hr.r4 1 (by decide) (x := nm1 3) rfl; have HF := Aside0.mk (awTail we2 hr); have HCe := Aside0.mk hce; have HB2 := Aside0.mk (below_step HB.out (below_step HB1.out (below_step (new_below _ _) hb))); clear hr hb hce) | (go_at_call 42; (with_reducible refine HF.out.1.mono ?_); rintro e we3 ⟨rfl, hb⟩; obtain ⟨c0, c1, c2, c3, c4⟩ := HF.out.2.1 _ hb; have HB3 := Aside0.mk (below_step HB2.out (below_step (below_step (new_below _ _) (new_below _ _)) hb)); have e1 : we3.cell? ⟨ad.block, ad.off + 5 + 1, none⟩ = some (.int .i64 3) := (HCe.out.below (below_step (below_step (new_below _ _) (new_below _ _)) hb)).h1; have HT := Aside0.mk (HF.out.2.2 _ hb); clear hb HCe HF) | (go_at_call 30; (with_reducible refine (HT.out.1).mono ?_); rintro e we4 ⟨rfl, hb⟩; have HB4 := Aside0.mk (below_step HB3.out hb); obtain ⟨c0, c1, c2, c3, c4⟩ := HT.out.2.2 _ hb; have HU := Aside0.mk (HT.out.2.1 _ hb); clear hb HT) | (go_at_call 32; (with_reducible refine (HU.out).mono ?_); rintro e we5 ⟨rfl, hb⟩; have HB5 := Aside0.mk (below_step HB4.out hb); clear hb HU))
  go_ret
  exact ⟨rfl, HB5.out⟩
end Go.Proofs.Ytgpjkojnmeaoiaa.QV

/- value.Compare, value.Equal and the reference's, by hand; they agree. -/
namespace Go.Proofs.Ytgpjkojnmeaoiaa.QV
open Go Go.RowKit Go.Proofs.YtgpjkojnmeaoiaaW.PrintWords Go.Proofs.YtgpjkojnmeaoiaaW.PrintLast Go.Proofs.YtgpjkojnmeaoiaaW.PrintMore
set_option linter.unusedVariables false
set_option linter.unusedSimpArgs false
set_option maxRecDepth 100000
set_option maxHeartbeats 4000000
/-! ### the plain half -/
theorem oc_self (a : Int) : oc a a = 0 := by unfold oc; rw [if_neg (by omega), if_neg (by omega)]
theorem kcmp_self (l : List ByteArray) : kcmp l l = 0 := by
  induction l with
  | nil => rfl
  | cons a l ih => unfold kcmp; rw [kc_self, if_pos rfl, ih]
theorem vcmp_self (s : Nat) : ∀ x : S28, SizeOf.sizeOf x < s → vcmp x x = 0 := by
  induction s with
  | zero => intro x h; omega
  | succ s ih =>
  intro x hs
  have hl : ∀ l : List S28, (∀ q ∈ l, SizeOf.sizeOf q < s) → lcmp l l = 0 := fun l => by
    induction l with
    | nil => intro _; rw [lcmp]
    | cons a l ihl => intro h; rw [lcmp, ih a (h a List.mem_cons_self), if_pos rfl]; exact ihl (fun q hq => h q (List.mem_cons_of_mem _ hq))
  have h4 := hl x.f4 (fun q hq => by have := sz_mem hq; omega)
  rw [vcmp_eq, if_pos rfl, oc_self, kc_self, kcmp_self, h4]
  simp
theorem vd_k {x : S28} (h : vd x = true) : (x.f0 = 3 ∨ x.f1 = 0) ∧ (x.f0 = 4 ∨ x.f2 = ⟨#[]⟩) ∧ (x.f0 = 6 ∨ x.f3 = []) ∧ (5 ≤ x.f0 ∨ x.f4 = []) := by
  rw [vd_eq] at h
  simp only [Bool.and_eq_true] at h
  have h1 := h.1.1
  rw [okv_eq] at h1
  unfold fm kz at h1
  simp only [Bool.and_eq_true, Bool.or_eq_true, decide_eq_true_eq, beq_iff_eq, Bool.not_true, Bool.false_or] at h1
  obtain ⟨⟨⟨e1, e2⟩, e3⟩, e4⟩ := h1.1.2.1.1
  refine ⟨e1, e2.imp id (fun e => tl_inj.1 (e.trans (by rw [ByteArray.toList_eq]))), e3.imp id (fun e => List.length_eq_zero_iff.1 e), e4.imp id (fun e => List.length_eq_zero_iff.1 e)⟩
theorem vcmp_rcmp (s : Nat) : ∀ x y : S28, SizeOf.sizeOf x < s → vd x = true → vd y = true → vcmp x y = rcmp x y := by
  induction s with
  | zero => intro x y h; omega
  | succ s ih =>
  intro x y hs hx hy
  have hl : ∀ l m : List S28, (∀ q ∈ l, SizeOf.sizeOf q < s ∧ vd q = true) → (∀ q ∈ m, vd q = true) → lcmp l m = rlc l m := fun l => by
    induction l with
    | nil => intro m _ _; cases m <;> rw [lcmp, rlc]
    | cons a l ihl =>
      intro m h1 h2
      cases m with
      | nil => rw [lcmp, rlc]
      | cons b m =>
        rw [lcmp, rlc, ih a b (h1 a List.mem_cons_self).1 (h1 a List.mem_cons_self).2 (h2 b List.mem_cons_self), ihl m (fun q hq => h1 q (List.mem_cons_of_mem _ hq)) (fun q hq => h2 q (List.mem_cons_of_mem _ hq))]
  obtain ⟨a1, a2, a3, a4⟩ := vd_k hx
  obtain ⟨b1, b2, b3, b4⟩ := vd_k hy
  rw [vcmp_eq, rcmp_eq]
  by_cases h0 : x.f0 = y.f0
  rotate_left
  · rw [if_neg h0, if_neg h0]
  rw [if_pos h0, if_pos h0]
  have hl4 : lcmp x.f4 y.f4 = rlc x.f4 y.f4 := by
    by_cases h5 : x.f0 < 5
    · rw [a4.resolve_left (by omega), b4.resolve_left (by omega), lcmp, rlc]
    · exact hl _ _ (fun q hq => ⟨by have := sz_mem hq; omega, vd_mem hx h5 hq⟩) (fun q hq => vd_mem hy (by omega) hq)
  rw [← hl4]
  by_cases h3 : x.f0 = 3
  · rw [if_pos h3, a2.resolve_left (by omega), b2.resolve_left (by omega), a3.resolve_left (by omega), b3.resolve_left (by omega), a4.resolve_left (by omega), b4.resolve_left (by omega), if_pos rfl, lcmp]
    by_cases h1 : x.f1 = y.f1
    · rw [if_pos h1, h1, oc_self]; rfl
    · rw [if_neg h1]
  rw [if_neg h3, a1.resolve_left h3, b1.resolve_left (by omega), if_pos rfl]
  by_cases h4 : x.f0 = 4
  · rw [if_pos h4, a3.resolve_left (by omega), b3.resolve_left (by omega), a4.resolve_left (by omega), b4.resolve_left (by omega), lcmp]
    by_cases h2 : x.f2 = y.f2
    · rw [if_pos h2, h2, kc_self]; rfl
    · rw [if_neg h2]
  rw [if_neg h4, a2.resolve_left h4, b2.resolve_left (by omega), if_pos rfl]
  by_cases h6 : x.f0 = 6
  · rw [if_pos h6]
  · rw [if_neg h6, a3.resolve_left h6, b3.resolve_left (by omega)]; rfl
def vvc (x y : S28) : Int := if (vd x && vd y) = true then vcmp x y else 0
def veq (x y : S28) : Bool := vd x && (vd y && decide (vcmp x y = 0))
theorem veq_self (x : S28) : veq x x = vd x := by
  unfold veq
  rw [vcmp_self _ x (Nat.lt_succ_self _)]
  cases vd x <;> rfl
/-- Two values handed on as a row. -/
theorem twoLit (W : World) {x y : S28} {A3 : Option Addr} {c3 : Nat} {A4 : Option Addr} {c4 : Nat} {B3 : Option Addr} {d3 : Nat} {B4 : Option Addr} {d4 : Nat} (h : Rd W A3 c3 A4 c4 x) (k : Rd W B3 d3 B4 d4 y) :
    Kd.C k28 (W.alloc (.cells (#[.int .i64 x.f0, .int .i64 x.f1, .string x.f2, .slice A3 x.f3.length c3, .slice A4 x.f4.length c4] ++ #[.int .i64 y.f0, .int .i64 y.f1, .string y.f2, .slice B3 y.f3.length d3, .slice B4 y.f4.length d4]) 28)) (some ⟨W.heap.size, 0, none⟩) 2 [x, y] := by
  have hr : Reps (k28.K W) 5 [x, y] ([.int .i64 x.f0, .int .i64 x.f1, .string x.f2, .slice A3 x.f3.length c3, .slice A4 x.f4.length c4] ++ [.int .i64 y.f0, .int .i64 y.f1, .string y.f2, .slice B3 y.f3.length d3, .slice B4 y.f4.length d4]) := ⟨rfl, fun j p hp => by
    match j, hp with
    | 0, hp => obtain rfl := Option.some.inj hp; exact k28_mk W x h.k3 h.r3 h.k4 h.r4
    | 1, hp => obtain rfl := Option.some.inj hp; exact k28_mk W y k.k3 k.r3 k.k4 k.r4
    | j + 2, hp => simp at hp⟩
  obtain ⟨A, c, e, _, hC⟩ := ((OwnRow.lit (e := 28) W 0 hr (Nat.zero_le _) (by simp)).imp_ (fun _ _ h => k28.K_below (new_below W _) h)).reads
  injection e with e1 e2 e3
  subst e1
  exact hC
end Go.Proofs.Ytgpjkojnmeaoiaa.QV

/- value.Compare, value.Equal, the reference's Compare and Equal, by hand. -/
namespace Go.Proofs.Ytgpjkojnmeaoiaa.QV
open Go Go.RowKit Go.Proofs.YtgpjkojnmeaoiaaW.PrintWords Go.Proofs.YtgpjkojnmeaoiaaW.PrintLast Go.Proofs.YtgpjkojnmeaoiaaW.PrintMore
set_option linter.unusedVariables false
set_option linter.unusedSimpArgs false
set_option maxRecDepth 100000
set_option maxHeartbeats 4000000
section
variable (x y : S28) (w : World) {A3 : Option Addr} {c3 : Nat} {A4 : Option Addr} {c4 : Nat} {B3 : Option Addr} {d3 : Nat} {B4 : Option Addr} {d4 : Nat} (hx : Wv x) (hy : Wv y) (hcx : cnt x ≤ 1000000000000000) (hcy : cnt y ≤ 1000000000000000) (hr : Rd w A3 c3 A4 c4 x) (hr2 : Rd w B3 d3 B4 d4 y)
include hx hy hcx hcy hr hr2
/-- The two boxes and the row of both. -/
theorem box3 : ∃ W, ((w.alloc (.cells #[.int .i64 x.f0, .int .i64 x.f1, .string x.f2, .slice A3 x.f3.length c3, .slice A4 x.f4.length c4] 28)).alloc (.cells #[.int .i64 y.f0, .int .i64 y.f1, .string y.f2, .slice B3 y.f3.length d3, .slice B4 y.f4.length d4] 28)).alloc (.cells (#[.int .i64 x.f0, .int .i64 x.f1, .string x.f2, .slice A3 x.f3.length c3, .slice A4 x.f4.length c4, .int .i64 y.f0, .int .i64 y.f1, .string y.f2, .slice B3 y.f3.length d3, .slice B4 y.f4.length d4]) 28) = W ∧
    Below w.heap.size w W ∧ Bv W w.heap.size A3 c3 A4 c4 x ∧ Bv W (w.heap.size + 1) B3 d3 B4 d4 y ∧ Kd.C k28 W (some ⟨w.heap.size + 2, 0, none⟩) 2 [x, y] ∧ Calls Try.prog 48 #[.slice (some ⟨w.heap.size + 2, 0, none⟩) 2 2] W fun e w' => e = .returned (.bool (vd x && vd y)) ∧ Below W.heap.size W w' := by
  obtain ⟨hB1, hB2, hb⟩ := box2 hr hr2
  have hs := twoLit ((w.alloc (.cells #[.int .i64 x.f0, .int .i64 x.f1, .string x.f2, .slice A3 x.f3.length c3, .slice A4 x.f4.length c4] 28)).alloc (.cells #[.int .i64 y.f0, .int .i64 y.f1, .string y.f2, .slice B3 y.f3.length d3, .slice B4 y.f4.length d4] 28)) (hr.below hb) (hr2.below hb)
  rw [show ((w.alloc (.cells #[.int .i64 x.f0, .int .i64 x.f1, .string x.f2, .slice A3 x.f3.length c3, .slice A4 x.f4.length c4] 28)).alloc (.cells #[.int .i64 y.f0, .int .i64 y.f1, .string y.f2, .slice B3 y.f3.length d3, .slice B4 y.f4.length d4] 28)).heap.size = w.heap.size + 2 from by simp] at hs
  have hb2 := new_below ((w.alloc (.cells #[.int .i64 x.f0, .int .i64 x.f1, .string x.f2, .slice A3 x.f3.length c3, .slice A4 x.f4.length c4] 28)).alloc (.cells #[.int .i64 y.f0, .int .i64 y.f1, .string y.f2, .slice B3 y.f3.length d3, .slice B4 y.f4.length d4] 28)) (.cells (#[.int .i64 x.f0, .int .i64 x.f1, .string x.f2, .slice A3 x.f3.length c3, .slice A4 x.f4.length c4, .int .i64 y.f0, .int .i64 y.f1, .string y.f2, .slice B3 y.f3.length d3, .slice B4 y.f4.length d4]) 28)
  refine ⟨_, rfl, below_step hb hb2, hB1.below hb2, hB2.below hb2, hs, ?_⟩
  have h := allC (c := 2) [x, y] _ hs (by simp; exact ⟨⟨hx, hcx⟩, ⟨hy, hcy⟩⟩) (by simp)
  simp only [List.all_cons, List.all_nil, Bool.and_true] at h
  exact h
theorem valueCompareC : Calls Try.prog 37 #[.agg #[.int .i64 x.f0, .int .i64 x.f1, .string x.f2, .slice A3 x.f3.length c3, .slice A4 x.f4.length c4], .agg #[.int .i64 y.f0, .int .i64 y.f1, .string y.f2, .slice B3 y.f3.length d3, .slice B4 y.f4.length d4]] w (NumPost (vvc x y) w) := by
  obtain ⟨W, hW, hb, hB1, hB2, hs, hc⟩ := box3 x y w hx hy hcx hcy hr hr2
  obtain ⟨h1, h2, _⟩ := box2 hr hr2
  obtain ⟨p0, p1, p2, p3, p4⟩ := h1.cells
  obtain ⟨q0, q1, q2, q3, q4⟩ := h2.cells
  have HA := Aside0.mk hc
  have HW := Aside0.mk hb
  have HV := Aside0.mk (And.intro hB1 hB2)
  have HX := Aside0.mk hx
  have HWe := Aside0.mk hW
  have HO : Aside0 (vvc x y = if (vd x && vd y) = true then vcmp x y else 0) := ⟨rfl⟩
  obtain ⟨va, hva⟩ : ∃ va, (vd x && vd y) = va := ⟨_, rfl⟩
  rw [hva] at HA HO
  clear hW hb hB1 hB2 hs hc h1 h2 hx hy hcx hcy hr hr2 hva
  cases va with
  | false =>
    have HR : Aside0 (vvc x y = 0) := ⟨by rw [HO.out]; rfl⟩
    clear HO
    go_enter Try.func37, Try.ntmps37
    go_wp2_with (first | ((rw [HWe.out]); (go_at_call 48); (with_reducible refine HA.out.mono ?_); rintro e we ⟨rfl, hb⟩; have HW2 := Aside0.mk (below_step HW.out hb); clear hb))
    go_ret
    exact ⟨by rw [HR.out]; rfl, HW2.out⟩
  | true =>
    have HR : Aside0 (vvc x y = vcmp x y) := ⟨by rw [HO.out]; rfl⟩
    clear HO
    go_enter Try.func37, Try.ntmps37
    go_upto_region 3 with (first | ((rw [HWe.out]); (go_at_call 48); (with_reducible refine HA.out.mono ?_); rintro e we ⟨rfl, hb⟩; have HW2 := Aside0.mk (below_step HW.out hb); have HV2 := Aside0.mk (And.intro (HV.out.1.below hb) (HV.out.2.below hb)); clear hb))
    clear p0 p1 p2 p3 p4 q0 q1 q2 q3 q4
    obtain ⟨p0, p1, p2, p3, p4⟩ := HV2.out.1.cells
    obtain ⟨q0, q1, q2, q3, q4⟩ := HV2.out.2.cells
    have HC := Aside0.mk (vcmpC _ x y we (Nat.lt_succ_self _) HX.out HV2.out.1.rd HV2.out.2.rd)
    obtain ⟨r, hr⟩ : ∃ r, vcmp x y = r := ⟨_, rfl⟩
    rw [hr] at HC HR
    clear hr
    go_wp2_with (first | (go_at_call 67; (with_reducible refine HC.out.mono ?_); rintro e we2 ⟨rfl, hb⟩; have HW3 := Aside0.mk (below_step HW2.out hb); clear hb))
    go_ret
    exact ⟨by rw [HR.out]; rfl, HW3.out⟩
theorem valueEqualC : Calls Try.prog 39 #[.agg #[.int .i64 x.f0, .int .i64 x.f1, .string x.f2, .slice A3 x.f3.length c3, .slice A4 x.f4.length c4], .agg #[.int .i64 y.f0, .int .i64 y.f1, .string y.f2, .slice B3 y.f3.length d3, .slice B4 y.f4.length d4]] w fun e w' => e = .returned (.bool (veq x y)) ∧ Below w.heap.size w w' := by
  obtain ⟨W, hW, hb, hB1, hB2, hs, hc⟩ := box3 x y w hx hy hcx hcy hr hr2
  obtain ⟨h1, h2, _⟩ := box2 hr hr2
  obtain ⟨p0, p1, p2, p3, p4⟩ := h1.cells
  obtain ⟨q0, q1, q2, q3, q4⟩ := h2.cells
  have HA := Aside0.mk hc
  have HW := Aside0.mk hb
  have HV := Aside0.mk (And.intro hB1 hB2)
  have HX := Aside0.mk hx
  have HWe := Aside0.mk hW
  have HO : Aside0 (veq x y = ((vd x && vd y) && decide (vcmp x y = 0))) := ⟨by unfold veq; rw [Bool.and_assoc]⟩
  obtain ⟨va, hva⟩ : ∃ va, (vd x && vd y) = va := ⟨_, rfl⟩
  rw [hva] at HA HO
  clear hW hb hB1 hB2 hs hc h1 h2 hx hy hcx hcy hr hr2 hva
  cases va with
  | false =>
    have HR : Aside0 (veq x y = false) := ⟨by rw [HO.out]; rfl⟩
    clear HO
    go_enter Try.func39, Try.ntmps39
    go_wp2_with (first | ((rw [HWe.out]); (go_at_call 48); (with_reducible refine HA.out.mono ?_); rintro e we ⟨rfl, hb⟩; have HW2 := Aside0.mk (below_step HW.out hb); clear hb))
    go_ret
    exact ⟨by rw [HR.out]; rfl, HW2.out⟩
  | true =>
    obtain ⟨r, hr⟩ : ∃ r, decide (vcmp x y = 0) = r := ⟨_, rfl⟩
    have HC : Aside0 (∀ W1, Below W.heap.size W W1 → Calls Try.prog 69 #[.agg #[.int .i64 x.f0, .int .i64 x.f1, .string x.f2, .slice A3 x.f3.length c3, .slice A4 x.f4.length c4], .agg #[.int .i64 y.f0, .int .i64 y.f1, .string y.f2, .slice B3 y.f3.length d3, .slice B4 y.f4.length d4]] W1 fun e w' => e = .returned (.bool r) ∧ Below W1.heap.size W1 w') := ⟨fun W1 hb => by rw [← hr]; exact equalC x y W1 HX.out (HV.out.1.below hb).rd (HV.out.2.below hb).rd⟩
    have HR : Aside0 (veq x y = r) := ⟨by rw [HO.out, hr]; rfl⟩
    clear HO hr
    go_enter Try.func39, Try.ntmps39
    go_wp2_with (first | ((rw [HWe.out]); (go_at_call 48); (with_reducible refine HA.out.mono ?_); rintro e we ⟨rfl, hb⟩; have HW2 := Aside0.mk (below_step HW.out hb); have HC2 := Aside0.mk (HC.out _ hb); obtain ⟨u0, u1, u2, u3, u4⟩ := (HV.out.1.below hb).cells; obtain ⟨t0, t1, t2, t3, t4⟩ := (HV.out.2.below hb).cells; clear hb) | (go_at_call 69; (with_reducible refine HC2.out.mono ?_); rintro e we2 ⟨rfl, hb⟩; have HW3 := Aside0.mk (below_step HW2.out hb); clear hb))
    go_ret
    exact ⟨by rw [HR.out]; rfl, HW3.out⟩
theorem refCompareC : Calls Try.prog 38 #[.agg #[.int .i64 x.f0, .int .i64 x.f1, .string x.f2, .slice A3 x.f3.length c3, .slice A4 x.f4.length c4], .agg #[.int .i64 y.f0, .int .i64 y.f1, .string y.f2, .slice B3 y.f3.length d3, .slice B4 y.f4.length d4]] w (NumPost (vvc x y) w) := by
  obtain ⟨h1, h2, hb⟩ := box2 hr hr2
  have HVx := Aside0.mk (refValidC x _ hx hcx h1.rd)
  have HVy : Aside0 (∀ W1, Below ((w.alloc (.cells #[.int .i64 x.f0, .int .i64 x.f1, .string x.f2, .slice A3 x.f3.length c3, .slice A4 x.f4.length c4] 28)).alloc (.cells #[.int .i64 y.f0, .int .i64 y.f1, .string y.f2, .slice B3 y.f3.length d3, .slice B4 y.f4.length d4] 28)).heap.size ((w.alloc (.cells #[.int .i64 x.f0, .int .i64 x.f1, .string x.f2, .slice A3 x.f3.length c3, .slice A4 x.f4.length c4] 28)).alloc (.cells #[.int .i64 y.f0, .int .i64 y.f1, .string y.f2, .slice B3 y.f3.length d3, .slice B4 y.f4.length d4] 28)) W1 → Bv W1 w.heap.size A3 c3 A4 c4 x ∧ Bv W1 (w.heap.size + 1) B3 d3 B4 d4 y ∧ Below w.heap.size w W1 ∧ Calls Try.prog 25 #[.agg #[.int .i64 y.f0, .int .i64 y.f1, .string y.f2, .slice B3 y.f3.length d3, .slice B4 y.f4.length d4]] W1 fun e w' => e = .returned (.bool (vd y)) ∧ Below W1.heap.size W1 w') :=
    ⟨fun W1 hb2 => ⟨h1.below hb2, h2.below hb2, below_step hb hb2, refValidC y W1 hy hcy (h2.below hb2).rd⟩⟩
  have HW := Aside0.mk hb
  have HX := Aside0.mk hx
  obtain ⟨p0, p1, p2, p3, p4⟩ := h1.cells
  have HO : Aside0 (vvc x y = if (vd x && vd y) = true then rcmp x y else 0) := ⟨by
    unfold vvc
    by_cases h : (vd x && vd y) = true
    · rw [if_pos h, if_pos h]
      simp only [Bool.and_eq_true] at h
      exact vcmp_rcmp _ x y (Nat.lt_succ_self _) h.1 h.2
    · rw [if_neg h, if_neg h]⟩
  obtain ⟨va, hva⟩ : ∃ va, vd x = va := ⟨_, rfl⟩
  obtain ⟨vb, hvb⟩ : ∃ vb, vd y = vb := ⟨_, rfl⟩
  rw [hva] at HVx HO
  rw [hvb] at HVy HO
  clear hb h1 h2 hx hy hcx hcy hr hr2 hva hvb
  cases va with
  | false =>
    have HR : Aside0 (vvc x y = 0) := ⟨by rw [HO.out]; rfl⟩
    clear HO HVy
    go_enter Try.func38, Try.ntmps38
    go_wp2_with (first | (go_at_call 25; (with_reducible refine HVx.out.mono ?_); rintro e we ⟨rfl, hb⟩; have HW2 := Aside0.mk (below_step HW.out hb); clear hb))
    go_ret
    exact ⟨by rw [HR.out]; rfl, HW2.out⟩
  | true =>
    cases vb with
    | false =>
      have HR : Aside0 (vvc x y = 0) := ⟨by rw [HO.out]; rfl⟩
      clear HO
      go_enter Try.func38, Try.ntmps38
      go_wp2_with (first | (go_at_call 25; (with_reducible refine HVx.out.mono ?_); rintro e we ⟨rfl, hb⟩; have HVy2 := Aside0.mk (HVy.out _ hb); clear hb HVx HVy; obtain ⟨q0, q1, q2, q3, q4⟩ := HVy2.out.2.1.cells) | (go_at_call 25; (with_reducible refine HVy2.out.2.2.2.mono ?_); rintro e we2 ⟨rfl, hb⟩; have HW2 := Aside0.mk (below_step HVy2.out.2.2.1 hb); clear hb))
      go_ret
      exact ⟨by rw [HR.out]; rfl, HW2.out⟩
    | true =>
      obtain ⟨r, hr⟩ : ∃ r, rcmp x y = r := ⟨_, rfl⟩
      have HR : Aside0 (vvc x y = r) := ⟨by rw [HO.out, hr]; rfl⟩
      have HC : Aside0 (∀ W1, Bv W1 w.heap.size A3 c3 A4 c4 x → Bv W1 (w.heap.size + 1) B3 d3 B4 d4 y → Calls Try.prog 68 #[.agg #[.int .i64 x.f0, .int .i64 x.f1, .string x.f2, .slice A3 x.f3.length c3, .slice A4 x.f4.length c4], .agg #[.int .i64 y.f0, .int .i64 y.f1, .string y.f2, .slice B3 y.f3.length d3, .slice B4 y.f4.length d4]] W1 fun e w' => e = .returned (.int .i64 r) ∧ Below W1.heap.size W1 w') := ⟨fun W1 k1 k2 => by rw [← hr]; exact orderC _ x y W1 (Nat.lt_succ_self _) HX.out k1.rd k2.rd⟩
      clear HO hr
      go_enter Try.func38, Try.ntmps38
      go_wp2_with (first | (go_at_call 25; (with_reducible refine HVx.out.mono ?_); rintro e we ⟨rfl, hb⟩; have HVy2 := Aside0.mk (HVy.out _ hb); clear hb HVx HVy; obtain ⟨q0, q1, q2, q3, q4⟩ := HVy2.out.2.1.cells) | (go_at_call 25; (with_reducible refine HVy2.out.2.2.2.mono ?_); rintro e we2 ⟨rfl, hb⟩; have HW2 := Aside0.mk (below_step HVy2.out.2.2.1 hb); have HC2 := Aside0.mk (HC.out _ (HVy2.out.1.below hb) (HVy2.out.2.1.below hb)); obtain ⟨u0, u1, u2, u3, u4⟩ := (HVy2.out.1.below hb).cells; obtain ⟨t0, t1, t2, t3, t4⟩ := (HVy2.out.2.1.below hb).cells; clear hb) | (go_at_call 68; (with_reducible refine HC2.out.mono ?_); rintro e we3 ⟨rfl, hb⟩; have HW3 := Aside0.mk (below_step HW2.out hb); clear hb))
      go_ret
      exact ⟨by rw [HR.out]; rfl, HW3.out⟩
theorem refEqualC : Calls Try.prog 40 #[.agg #[.int .i64 x.f0, .int .i64 x.f1, .string x.f2, .slice A3 x.f3.length c3, .slice A4 x.f4.length c4], .agg #[.int .i64 y.f0, .int .i64 y.f1, .string y.f2, .slice B3 y.f3.length d3, .slice B4 y.f4.length d4]] w fun e w' => e = .returned (.bool (veq x y)) ∧ Below w.heap.size w w' := by
  obtain ⟨h1, h2, hb⟩ := box2 hr hr2
  have HVx := Aside0.mk (refValidC x _ hx hcx h1.rd)
  have HVy : Aside0 (∀ W1, Below ((w.alloc (.cells #[.int .i64 x.f0, .int .i64 x.f1, .string x.f2, .slice A3 x.f3.length c3, .slice A4 x.f4.length c4] 28)).alloc (.cells #[.int .i64 y.f0, .int .i64 y.f1, .string y.f2, .slice B3 y.f3.length d3, .slice B4 y.f4.length d4] 28)).heap.size ((w.alloc (.cells #[.int .i64 x.f0, .int .i64 x.f1, .string x.f2, .slice A3 x.f3.length c3, .slice A4 x.f4.length c4] 28)).alloc (.cells #[.int .i64 y.f0, .int .i64 y.f1, .string y.f2, .slice B3 y.f3.length d3, .slice B4 y.f4.length d4] 28)) W1 → Bv W1 w.heap.size A3 c3 A4 c4 x ∧ Bv W1 (w.heap.size + 1) B3 d3 B4 d4 y ∧ Below w.heap.size w W1 ∧ Calls Try.prog 25 #[.agg #[.int .i64 y.f0, .int .i64 y.f1, .string y.f2, .slice B3 y.f3.length d3, .slice B4 y.f4.length d4]] W1 fun e w' => e = .returned (.bool (vd y)) ∧ Below W1.heap.size W1 w') :=
    ⟨fun W1 hb2 => ⟨h1.below hb2, h2.below hb2, below_step hb hb2, refValidC y W1 hy hcy (h2.below hb2).rd⟩⟩
  have HW := Aside0.mk hb
  have HX := Aside0.mk hx
  obtain ⟨p0, p1, p2, p3, p4⟩ := h1.cells
  have HO : Aside0 (veq x y = ((vd x && vd y) && decide (rcmp x y = 0))) := ⟨by
    unfold veq
    rw [← Bool.and_assoc]
    by_cases h : (vd x && vd y) = true
    · rw [h]
      simp only [Bool.and_eq_true] at h
      rw [vcmp_rcmp _ x y (Nat.lt_succ_self _) h.1 h.2]
    · rw [Bool.not_eq_true] at h
      rw [h]; rfl⟩
  obtain ⟨va, hva⟩ : ∃ va, vd x = va := ⟨_, rfl⟩
  obtain ⟨vb, hvb⟩ : ∃ vb, vd y = vb := ⟨_, rfl⟩
  rw [hva] at HVx HO
  rw [hvb] at HVy HO
  clear hb h1 h2 hx hy hcx hcy hr hr2 hva hvb
  cases va with
  | false =>
    have HR : Aside0 (veq x y = false) := ⟨by rw [HO.out]; rfl⟩
    clear HO HVy
    go_enter Try.func40, Try.ntmps40
    go_wp2_with (first | (go_at_call 25; (with_reducible refine HVx.out.mono ?_); rintro e we ⟨rfl, hb⟩; have HW2 := Aside0.mk (below_step HW.out hb); clear hb))
    go_ret
    exact ⟨by rw [HR.out]; rfl, HW2.out⟩
  | true =>
    cases vb with
    | false =>
      have HR : Aside0 (veq x y = false) := ⟨by rw [HO.out]; rfl⟩
      clear HO
      go_enter Try.func40, Try.ntmps40
      go_wp2_with (first | (go_at_call 25; (with_reducible refine HVx.out.mono ?_); rintro e we ⟨rfl, hb⟩; have HVy2 := Aside0.mk (HVy.out _ hb); clear hb HVx HVy; obtain ⟨q0, q1, q2, q3, q4⟩ := HVy2.out.2.1.cells) | (go_at_call 25; (with_reducible refine HVy2.out.2.2.2.mono ?_); rintro e we2 ⟨rfl, hb⟩; have HW2 := Aside0.mk (below_step HVy2.out.2.2.1 hb); clear hb))
      go_ret
      exact ⟨by rw [HR.out]; rfl, HW2.out⟩
    | true =>
      obtain ⟨r, hr⟩ : ∃ r, rcmp x y = r := ⟨_, rfl⟩
      have HR : Aside0 (veq x y = decide (r = 0)) := ⟨by rw [HO.out, hr]; rfl⟩
      have HC : Aside0 (∀ W1, Bv W1 w.heap.size A3 c3 A4 c4 x → Bv W1 (w.heap.size + 1) B3 d3 B4 d4 y → Calls Try.prog 68 #[.agg #[.int .i64 x.f0, .int .i64 x.f1, .string x.f2, .slice A3 x.f3.length c3, .slice A4 x.f4.length c4], .agg #[.int .i64 y.f0, .int .i64 y.f1, .string y.f2, .slice B3 y.f3.length d3, .slice B4 y.f4.length d4]] W1 fun e w' => e = .returned (.int .i64 r) ∧ Below W1.heap.size W1 w') := ⟨fun W1 k1 k2 => by rw [← hr]; exact orderC _ x y W1 (Nat.lt_succ_self _) HX.out k1.rd k2.rd⟩
      clear HO hr
      go_enter Try.func40, Try.ntmps40
      go_wp2_with (first | (go_at_call 25; (with_reducible refine HVx.out.mono ?_); rintro e we ⟨rfl, hb⟩; have HVy2 := Aside0.mk (HVy.out _ hb); clear hb HVx HVy; obtain ⟨q0, q1, q2, q3, q4⟩ := HVy2.out.2.1.cells) | (go_at_call 25; (with_reducible refine HVy2.out.2.2.2.mono ?_); rintro e we2 ⟨rfl, hb⟩; have HW2 := Aside0.mk (below_step HVy2.out.2.2.1 hb); have HC2 := Aside0.mk (HC.out _ (HVy2.out.1.below hb) (HVy2.out.2.1.below hb)); obtain ⟨u0, u1, u2, u3, u4⟩ := (HVy2.out.1.below hb).cells; obtain ⟨t0, t1, t2, t3, t4⟩ := (HVy2.out.2.1.below hb).cells; clear hb) | (go_at_call 68; (with_reducible refine HC2.out.mono ?_); rintro e we3 ⟨rfl, hb⟩; have HW3 := Aside0.mk (below_step HW2.out hb); clear hb))
      go_ret
      exact ⟨by rw [HR.out]; by_cases h : r = 0 <;> simp [h], HW3.out⟩
end
end Go.Proofs.Ytgpjkojnmeaoiaa.QV

/- vals.Get, value.Get, by hand. -/
namespace Go.Proofs.Ytgpjkojnmeaoiaa.QV
open Go Go.RowKit Go.Proofs.YtgpjkojnmeaoiaaW.PrintWords Go.Proofs.YtgpjkojnmeaoiaaW.PrintLast Go.Proofs.YtgpjkojnmeaoiaaW.PrintMore
set_option linter.unusedVariables false
set_option linter.unusedSimpArgs false
set_option maxRecDepth 100000
set_option maxHeartbeats 4000000
def zV : S28 := ⟨0, 0, ⟨#[]⟩, [], []⟩
def getV : List ByteArray → List S28 → ByteArray → Option S28
  | k :: ks, e :: es, s => if k = s then some e else getV ks es s
  | _, _, _ => none
theorem getV_none {ks : List ByteArray} {es : List S28} {s : ByteArray} (h : ¬ s ∈ ks) : getV ks es s = none := by
  induction ks generalizing es with
  | nil => cases es <;> rfl
  | cons k ks ih =>
    cases es with
    | nil => rfl
    | cons e es =>
      unfold getV
      rw [if_neg (fun hk => h (by rw [hk]; exact List.mem_cons_self)), ih (fun hm => h (List.mem_cons_of_mem _ hm))]
theorem getV_at {ks : List ByteArray} {es : List S28} {s : ByteArray} (hs : Sk ks) (hl : ks.length = es.length) : ∀ {i : Nat}, ks[i]? = some s → getV ks es s = es[i]? := by
  induction ks generalizing es with
  | nil => intro i h; simp at h
  | cons k ks ih =>
    intro i h
    cases es with
    | nil => simp at hl
    | cons e es =>
      unfold getV
      cases i with
      | zero =>
        simp only [List.getElem?_cons_zero, Option.some.injEq] at h
        rw [if_pos h]; rfl
      | succ i =>
        have hk : blt k s = true := hs.at (i := 0) (j := i + 1) (by omega) rfl h
        rw [if_neg (fun e => by rw [e, blt_irrefl] at hk; cases hk)]
        exact ih (List.pairwise_cons.1 hs).2 (by simpa using hl) (by simpa using h)
/-- A member, or the zero value. -/
def gp (r : Option S28) : S28 := r.getD zV
def GetPost (r : Option S28) (w : World) (e : Ending) (w' : World) : Prop := ∃ (Y3 : Option Addr) (y3 : Nat) (Y4 : Option Addr) (y4 : Nat), e = .returned (.tuple #[.agg #[.int .i64 ((gp r)).f0, .int .i64 ((gp r)).f1, .string ((gp r)).f2, .slice Y3 ((gp r)).f3.length y3, .slice Y4 ((gp r)).f4.length y4], .bool r.isSome]) ∧ Rd w' Y3 y3 Y4 y4 (gp r) ∧ Below w.heap.size w w'
/-- The same, and the value's rows stay where a block that stood before is written. -/
def GetM (r : Option S28) (w : World) (e : Ending) (w' : World) : Prop := ∃ (Y3 : Option Addr) (y3 : Nat) (Y4 : Option Addr) (y4 : Nat), e = .returned (.tuple #[.agg #[.int .i64 ((gp r)).f0, .int .i64 ((gp r)).f1, .string ((gp r)).f2, .slice Y3 ((gp r)).f3.length y3, .slice Y4 ((gp r)).f4.length y4], .bool r.isSome]) ∧ Rd w' Y3 y3 Y4 y4 (gp r) ∧ Below w.heap.size w w' ∧ ∀ (W' : World) (b : Nat), b < w.heap.size → (∀ k, k ≠ b → k < w'.heap.size → W'.heap[k]? = w'.heap[k]?) → Rd W' Y3 y3 Y4 y4 (gp r)
theorem rd_z (w : World) : Rd w none 0 none 0 zV := ⟨Nat.le_refl _, ⟨rfl, by simp [zV], fun h => absurd h (by simp [zV])⟩, Nat.le_refl _, ⟨rfl, by simp [zV], fun h => absurd h (by simp [zV])⟩⟩
theorem valsGetC (x : S28) (s : ByteArray) (w : World) {A3 : Option Addr} {c3 : Nat} {A4 : Option Addr} {c4 : Nat} (hr : Rd w A3 c3 A4 c4 x) (hn : x.f3.length ≤ 1000000000) (hl : x.f3.length = x.f4.length) (hs : Sk x.f3) :
    Calls Try.prog 65 #[.agg #[.int .i64 x.f0, .int .i64 x.f1, .string x.f2, .slice A3 x.f3.length c3, .slice A4 x.f4.length c4], .string s] w (GetPost (getV x.f3 x.f4 s) w) := by
  have hB := Bv.new hr
  have hb1 := new_below w (.cells #[.int .i64 x.f0, .int .i64 x.f1, .string x.f2, .slice A3 x.f3.length c3, .slice A4 x.f4.length c4] 28)
  have hb2 := new_below (w.alloc (.cells #[.int .i64 x.f0, .int .i64 x.f1, .string x.f2, .slice A3 x.f3.length c3, .slice A4 x.f4.length c4] 28)) (.cells #[.int .i64 0, .int .i64 0, .string ⟨#[]⟩, .slice none 0 0, .slice none 0 0] 28)
  have hZ := heap_alloc_new (w.alloc (.cells #[.int .i64 x.f0, .int .i64 x.f1, .string x.f2, .slice A3 x.f3.length c3, .slice A4 x.f4.length c4] 28)) (.cells #[.int .i64 0, .int .i64 0, .string ⟨#[]⟩, .slice none 0 0, .slice none 0 0] 28)
  rw [show (w.alloc (.cells #[.int .i64 x.f0, .int .i64 x.f1, .string x.f2, .slice A3 x.f3.length c3, .slice A4 x.f4.length c4] 28)).heap.size = w.heap.size + 1 from by simp] at hZ
  have hB2 := hB.below hb2
  obtain ⟨p0, p1, p2, p3, p4⟩ := hB2.cells
  have HV := Aside0.mk hB2
  have HC := Aside0.mk (findC x s _ hB2.rd hn hs)
  have HZ := Aside0.mk hZ
  have HW := Aside0.mk (below_step hb1 hb2)
  have HE : Aside0 (∀ (i : Nat), x.f3[i]? = some s → getV x.f3 x.f4 s = x.f4[i]? ∧ i < x.f4.length) := ⟨fun i h => ⟨getV_at hs hl h, by have := (List.getElem?_eq_some_iff.1 h).1; omega⟩⟩
  have HRd := Aside0.mk hr
  have HNo : Aside0 (¬ s ∈ x.f3 → getV x.f3 x.f4 s = none) := ⟨fun h => getV_none h⟩
  clear hB hb1 hb2 hZ hB2 hr hs hl hn
  go_enter Try.func65, Try.ntmps65
  go_upto_region 2 with (first | (go_at_call 76; (with_reducible refine HC.out.mono ?_); rintro e we ⟨i, f, h1, h2, h3, rfl, hb⟩; have H := Aside0.mk (And.intro h1 (And.intro h2 h3)); have HW2 := Aside0.mk (below_step HW.out hb); have HZ2 := Aside0.mk ((hb.block _ (Array.getElem?_eq_some_iff.1 HZ.out).1).trans HZ.out); have HV2 := Aside0.mk (HV.out.below hb); clear h1 h2 h3 hb))
  clear HC HW HZ HV p0 p1 p2 p3 p4
  obtain ⟨p0, p1, p2, p3, p4⟩ := HV2.out.cells
  obtain ⟨t0, t1, t2, t3, t4, t5⟩ := zero5 HZ2.out
  cases f with
  | true =>
    have hi := H.out.2.2 rfl
    obtain ⟨e1, hlt⟩ := HE.out i hi
    have hil : x.f4[i]? = some x.f4[i] := List.getElem?_eq_getElem hlt
    obtain ⟨y, hy⟩ : ∃ y, x.f4[i] = y := ⟨_, rfl⟩
    rw [hy] at hil
    obtain ⟨ad, Y3, y3, Y4, y4, e2, he0⟩ := el_at HRd.out.r4 i hlt hil
    have he := he0.below HW2.out
    have HR : Aside0 (getV x.f3 x.f4 s = some y ∧ Rd w Y3 y3 Y4 y4 y) := ⟨e1.trans hil, he0.rd⟩
    have g2 : (0 ≤ (i : Int)) = True := eq_true (by omega)
    have g3 : ((i : Int) < (x.f4.length : Int)) = True := eq_true (by omega)
    obtain ⟨a0, a1, a2, a3, a4, _⟩ := he
    clear hi e1 hil hy H HE HNo he0 HRd
    subst e2
    go_wp2_with fail
    obtain ⟨W', hW', ⟨u0, u1, u2, u3, u4⟩, hg, hz⟩ := fill5 HZ2.out HW2.out (by omega) (.int .i64 y.f0) (.int .i64 y.f1) (.string y.f2) (.slice Y3 y.f3.length y3) (.slice Y4 y.f4.length y4)
    rw [hW']
    refine bodyPost_ret (v := .tuple #[.agg #[.int .i64 y.f0, .int .i64 y.f1, .string y.f2, .slice Y3 y.f3.length y3, .slice Y4 y.f4.length y4], .bool true]) (by simp [results, Try.results65, go_sem, u0, u1, u2, u3, u4]) rfl ?_
    rw [HR.out.1]
    exact ⟨Y3, y3, Y4, y4, rfl, HR.out.2.below hz, hz⟩
  | false =>
    have HR : Aside0 (getV x.f3 x.f4 s = none) := ⟨HNo.out (fun h => by have := H.out.2.1.2 h; cases this)⟩
    clear H HE HNo
    go_wp2_with fail
    obtain ⟨W', hW', ⟨u0, u1, u2, u3, u4⟩, hg, hz⟩ := fill5 HZ2.out HW2.out (by omega) (.int .i64 0) (.int .i64 0) (.string ⟨#[]⟩) (.slice none 0 0) (.slice none 0 0)
    rw [hW']
    refine bodyPost_ret (v := .tuple #[.agg #[.int .i64 0, .int .i64 0, .string ⟨#[]⟩, .slice none 0 0, .slice none 0 0], .bool false]) (by simp [results, Try.results65, go_sem, u0, u1, u2, u3, u4]) rfl ?_
    rw [HR.out]
    exact ⟨none, 0, none, 0, rfl, rd_z _, hz⟩
/-- A copy's rows lie above base: they stay where a block below it is written. -/
theorem rd_of_M {w W' : World} {base b : Nat} {x : S28} {v3 v4 : Value} (h : k28.M w base (fun _ => True) x [.int .i64 x.f0, .int .i64 x.f1, .string x.f2, v3, v4]) (hb : b < base) (hk : ∀ k, k ≠ b → k < w.heap.size → W'.heap[k]? = w.heap[k]?) :
    ∃ (X3 : Option Addr) (d3 : Nat) (X4 : Option Addr) (d4 : Nat), v3 = .slice X3 x.f3.length d3 ∧ v4 = .slice X4 x.f4.length d4 ∧ Rd W' X3 d3 X4 d4 x := by
  obtain ⟨w3, w4, e, r3, r4⟩ := k28_openM h
  obtain ⟨rfl, rfl⟩ : w3 = v3 ∧ w4 = v4 := by simp at e; exact ⟨e.1.symm, e.2.symm⟩
  have q3 := Kd.R_move (w1 := W') (Kd.R_bound r3) (fun k hq => hk k (by have := hq.2.1; omega) hq.2.2.1)
  have q4 := Kd.R_move (w1 := W') (Kd.R_bound r4) (fun k hq => hk k (by have := hq.2.1; omega) hq.2.2.1)
  obtain ⟨A3, c3, e3, l3, g3⟩ := Kd.R_reads q3
  obtain ⟨A4, c4, e4, l4, g4⟩ := Kd.R_reads q4
  exact ⟨A3, c3, A4, c4, e3, e4, ⟨l3, g3, l4, g4⟩⟩
theorem rd_of_M2 {w W' : World} {base : Nat} {x : S28} {X3 : Option Addr} {d3 : Nat} {X4 : Option Addr} {d4 : Nat} (h : k28.M w base (fun _ => True) x [.int .i64 x.f0, .int .i64 x.f1, .string x.f2, .slice X3 x.f3.length d3, .slice X4 x.f4.length d4]) (hk : ∀ k, base ≤ k → k < w.heap.size → W'.heap[k]? = w.heap[k]?) : Rd W' X3 d3 X4 d4 x := by
  obtain ⟨w3, w4, e, r3, r4⟩ := k28_openM h
  obtain ⟨rfl, rfl⟩ : w3 = .slice X3 x.f3.length d3 ∧ w4 = .slice X4 x.f4.length d4 := by simp at e; exact ⟨e.1.symm, e.2.symm⟩
  have q3 := Kd.R_move (w1 := W') (Kd.R_bound r3) (fun k hq => hk k hq.2.1 hq.2.2.1)
  have q4 := Kd.R_move (w1 := W') (Kd.R_bound r4) (fun k hq => hk k hq.2.1 hq.2.2.1)
  obtain ⟨A3, c3, e3, l3, g3⟩ := Kd.R_reads q3
  obtain ⟨A4, c4, e4, l4, g4⟩ := Kd.R_reads q4
  injection e3 with a1 a2 a3
  injection e4 with b1 b2 b3
  subst a1 a3 b1 b3
  exact ⟨l3, g3, l4, g4⟩
def gr (x : S28) (s : ByteArray) : Option S28 := if vd x = true ∧ x.f0 = 6 then getV x.f3 x.f4 s else none
theorem ko_sk : ∀ {l : List ByteArray} {p : Option ByteArray}, ko p l = true → Sk l ∧ (∀ q, p = some q → ∀ k ∈ l, blt q k = true) := by
  intro l
  induction l with
  | nil => intro p _; exact ⟨List.Pairwise.nil, by simp⟩
  | cons k l ih =>
    intro p h
    rw [ko_cons] at h
    simp only [Bool.and_eq_true] at h
    obtain ⟨h1, h2⟩ := ih h.2
    refine ⟨List.pairwise_cons.2 ⟨fun a ha => h2 k rfl a ha, h1⟩, fun q hq a ha => ?_⟩
    subst hq
    have hqk : blt q k = true := h.1.2
    rcases List.mem_cons.1 ha with rfl | ha
    · exact hqk
    · exact blt_trans hqk (h2 k rfl a ha)
theorem vd_obj {x : S28} (h : vd x = true) (h6 : x.f0 = 6) : x.f3.length = x.f4.length ∧ x.f3.length ≤ 1024 ∧ Sk x.f3 := by
  rw [vd_eq] at h
  simp only [Bool.and_eq_true] at h
  have h1 := h.1.1
  rw [okv_eq] at h1
  unfold fm at h1
  simp only [Bool.and_eq_true, Bool.or_eq_true, decide_eq_true_eq, beq_iff_eq, Bool.not_true, Bool.false_or, h6] at h1
  have h2 := h1.1.2.2.resolve_left (by simp)
  exact ⟨h2.1.1, h2.1.2, (ko_sk h2.2).1⟩
theorem getV_mem {ks : List ByteArray} {es : List S28} {s : ByteArray} {y : S28} (h : getV ks es s = some y) : y ∈ es := by
  induction ks generalizing es with
  | nil => cases es <;> simp [getV] at h
  | cons k ks ih =>
    cases es with
    | nil => simp [getV] at h
    | cons e es =>
      unfold getV at h
      by_cases c : k = s
      · rw [if_pos c] at h; rw [Option.some.inj h]; exact List.mem_cons_self
      · rw [if_neg c] at h; exact List.mem_cons_of_mem _ (ih h)
theorem cntL_mem {l : List S28} {y : S28} (h : y ∈ l) : cnt y ≤ cntL l := by
  induction l with
  | nil => simp at h
  | cons a l ih =>
    simp only [cntL]
    rcases List.mem_cons.1 h with rfl | h
    · omega
    · have := ih h; omega
theorem gp_cnt {x : S28} {s : ByteArray} (hc : cnt x ≤ 1000000000000) : cnt (gp (getV x.f3 x.f4 s)) ≤ 1000000000000 := by
  cases h : getV x.f3 x.f4 s with
  | none => show cnt zV ≤ _; rw [cnt_eq]; simp [zV, ksz, cntL]; show 1 + 0 ≤ _; omega
  | some y => have := cntL_mem (getV_mem h); have := cnt_eq x; show cnt y ≤ _; omega
theorem valueGetM (x : S28) (s : ByteArray) (w : World) {A3 : Option Addr} {c3 : Nat} {A4 : Option Addr} {c4 : Nat} (hx : Wv x) (hc : cnt x ≤ 1000000000000) (hr : Rd w A3 c3 A4 c4 x) :
    Calls Try.prog 35 #[.agg #[.int .i64 x.f0, .int .i64 x.f1, .string x.f2, .slice A3 x.f3.length c3, .slice A4 x.f4.length c4], .string s] w (GetM (gr x s) w) := by
  have hB := Bv.new hr
  have hb1 := new_below w (.cells #[.int .i64 x.f0, .int .i64 x.f1, .string x.f2, .slice A3 x.f3.length c3, .slice A4 x.f4.length c4] 28)
  have hb2 := new_below (w.alloc (.cells #[.int .i64 x.f0, .int .i64 x.f1, .string x.f2, .slice A3 x.f3.length c3, .slice A4 x.f4.length c4] 28)) (.cells #[.int .i64 0, .int .i64 0, .string ⟨#[]⟩, .slice none 0 0, .slice none 0 0] 28)
  have hZ := heap_alloc_new (w.alloc (.cells #[.int .i64 x.f0, .int .i64 x.f1, .string x.f2, .slice A3 x.f3.length c3, .slice A4 x.f4.length c4] 28)) (.cells #[.int .i64 0, .int .i64 0, .string ⟨#[]⟩, .slice none 0 0, .slice none 0 0] 28)
  rw [show (w.alloc (.cells #[.int .i64 x.f0, .int .i64 x.f1, .string x.f2, .slice A3 x.f3.length c3, .slice A4 x.f4.length c4] 28)).heap.size = w.heap.size + 1 from by simp] at hZ
  have hB2 := hB.below hb2
  obtain ⟨p0, p1, p2, p3, p4⟩ := hB2.cells
  have HV := Aside0.mk hB2
  have HC := Aside0.mk (validC x _ hx (by omega) hB2.rd)
  have HZ := Aside0.mk hZ
  have HW := Aside0.mk (below_step hb1 hb2)
  have HG : Aside0 (gr x s = if vd x = true ∧ x.f0 = 6 then getV x.f3 x.f4 s else none) := ⟨rfl⟩
  have HO : Aside0 (vd x = true → x.f0 = 6 → x.f3.length = x.f4.length ∧ x.f3.length ≤ 1024 ∧ Sk x.f3) := ⟨fun h k => vd_obj h k⟩
  have HCn := Aside0.mk (gp_cnt (s := s) hc)
  obtain ⟨va, hva⟩ : ∃ v, vd x = v := ⟨_, rfl⟩
  rw [hva] at HC HG HO
  clear hB hb1 hb2 hZ hB2 hr hx hc hva
  have noway : ∀ we : World, Below w.heap.size w we → we.heap[w.heap.size + 1]? = some (.cells #[.int .i64 0, .int .i64 0, .string ⟨#[]⟩, .slice none 0 0, .slice none 0 0] 28 (0, 0)) → True := fun _ _ _ => trivial
  clear noway
  cases va with
  | false =>
    have HR : Aside0 (gr x s = none) := ⟨by rw [HG.out, if_neg (by simp)]⟩
    clear HG HO
    go_enter Try.func35, Try.ntmps35
    go_wp2_with (first | (go_at_call 59; (with_reducible refine HC.out.mono ?_); rintro e we ⟨rfl, hb⟩; have HW2 := Aside0.mk (below_step HW.out hb); have HZ2 := Aside0.mk ((hb.block _ (Array.getElem?_eq_some_iff.1 HZ.out).1).trans HZ.out); clear hb; obtain ⟨t0, t1, t2, t3, t4, t5⟩ := zero5 HZ2.out))
    obtain ⟨W', hW', ⟨u0, u1, u2, u3, u4⟩, hg, hz⟩ := fill5 HZ2.out HW2.out (by omega) (.int .i64 0) (.int .i64 0) (.string ⟨#[]⟩) (.slice none 0 0) (.slice none 0 0)
    rw [hW']
    refine bodyPost_ret (v := .tuple #[.agg #[.int .i64 0, .int .i64 0, .string ⟨#[]⟩, .slice none 0 0, .slice none 0 0], .bool false]) (by simp [results, Try.results35, go_sem, u0, u1, u2, u3, u4]) rfl ?_
    rw [HR.out]
    exact ⟨none, 0, none, 0, rfl, rd_z _, hz, fun W' _ _ _ => rd_z W'⟩
  | true =>
  by_cases h6 : x.f0 = 6
  rotate_left
  · have g6 : (x.f0 != 6) = true := by simpa using h6
    have HR : Aside0 (gr x s = none) := ⟨by rw [HG.out, if_neg (by simp [h6])]⟩
    clear HG HO h6
    go_enter Try.func35, Try.ntmps35
    go_wp2_with (first | (go_at_call 59; (with_reducible refine HC.out.mono ?_); rintro e we ⟨rfl, hb⟩; have HW2 := Aside0.mk (below_step HW.out hb); have HZ2 := Aside0.mk ((hb.block _ (Array.getElem?_eq_some_iff.1 HZ.out).1).trans HZ.out); obtain ⟨q0, q1, q2, q3, q4⟩ := (HV.out.below hb).cells; clear hb; obtain ⟨t0, t1, t2, t3, t4, t5⟩ := zero5 HZ2.out))
    obtain ⟨W', hW', ⟨u0, u1, u2, u3, u4⟩, hg, hz⟩ := fill5 HZ2.out HW2.out (by omega) (.int .i64 0) (.int .i64 0) (.string ⟨#[]⟩) (.slice none 0 0) (.slice none 0 0)
    rw [hW']
    refine bodyPost_ret (v := .tuple #[.agg #[.int .i64 0, .int .i64 0, .string ⟨#[]⟩, .slice none 0 0, .slice none 0 0], .bool false]) (by simp [results, Try.results35, go_sem, u0, u1, u2, u3, u4]) rfl ?_
    rw [HR.out]
    exact ⟨none, 0, none, 0, rfl, rd_z _, hz, fun W' _ _ _ => rd_z W'⟩
  have g6 : (x.f0 != 6) = false := by simpa using h6
  have HR : Aside0 (gr x s = getV x.f3 x.f4 s) := ⟨by rw [HG.out, if_pos ⟨rfl, h6⟩]⟩
  have ho := HO.out rfl h6
  have HC2 : Aside0 (∀ W, Bv W w.heap.size A3 c3 A4 c4 x → Calls Try.prog 65 #[.agg #[.int .i64 x.f0, .int .i64 x.f1, .string x.f2, .slice A3 x.f3.length c3, .slice A4 x.f4.length c4], .string s] W (GetPost (getV x.f3 x.f4 s) W)) := ⟨fun W h => valsGetC x s W h.rd (by omega) ho.1 ho.2.2⟩
  obtain ⟨r, hrr⟩ : ∃ r, getV x.f3 x.f4 s = r := ⟨_, rfl⟩
  rw [hrr] at HR HC2 HCn
  obtain ⟨y, hy⟩ : ∃ y, gp r = y := ⟨_, rfl⟩
  obtain ⟨f, hf⟩ : ∃ f, r.isSome = f := ⟨_, rfl⟩
  have HGP : Aside0 (∀ W, Bv W w.heap.size A3 c3 A4 c4 x → Calls Try.prog 65 #[.agg #[.int .i64 x.f0, .int .i64 x.f1, .string x.f2, .slice A3 x.f3.length c3, .slice A4 x.f4.length c4], .string s] W fun e w' => ∃ (Y3 : Option Addr) (y3 : Nat) (Y4 : Option Addr) (y4 : Nat), e = .returned (.tuple #[.agg #[.int .i64 y.f0, .int .i64 y.f1, .string y.f2, .slice Y3 y.f3.length y3, .slice Y4 y.f4.length y4], .bool f]) ∧ Rd w' Y3 y3 Y4 y4 y ∧ Below W.heap.size W w') := ⟨fun W h => by
    have k := HC2.out W h
    unfold GetPost at k
    rw [hy, hf] at k
    exact k⟩
  have HFin : Aside0 (∀ (X3 : Option Addr) (d3 : Nat) (X4 : Option Addr) (d4 : Nat) (W' : World), Rd W' X3 d3 X4 d4 y → Below w.heap.size w W' → (∀ (W2 : World) (b : Nat), b < w.heap.size → (∀ k, k ≠ b → k < W'.heap.size → W2.heap[k]? = W'.heap[k]?) → Rd W2 X3 d3 X4 d4 y) → GetM (gr x s) w (.returned (.tuple #[.agg #[.int .i64 y.f0, .int .i64 y.f1, .string y.f2, .slice X3 y.f3.length d3, .slice X4 y.f4.length d4], .bool f])) W') := ⟨fun X3 d3 X4 d4 W' h1 h2 h3 => by
    rw [HR.out]
    refine ⟨X3, d3, X4, d4, ?_, ?_, h2, ?_⟩
    · rw [hy, hf]
    · rw [hy]; exact h1
    · rw [hy]; exact h3⟩
  rw [hy] at HCn
  clear hrr hy hf ho HG HO h6 HC2 HR
  go_enter Try.func35, Try.ntmps35
  go_wp2_with (first | (go_at_call 59; (with_reducible refine HC.out.mono ?_); rintro e we ⟨rfl, hb⟩; have HW2 := Aside0.mk (below_step HW.out hb); have HZ2 := Aside0.mk ((hb.block _ (Array.getElem?_eq_some_iff.1 HZ.out).1).trans HZ.out); have HV2 := Aside0.mk (HV.out.below hb); obtain ⟨q0, q1, q2, q3, q4⟩ := HV2.out.cells; clear hb) | (go_at_call 65; (with_reducible refine (HGP.out _ HV2.out).mono ?_); rintro e we2 ⟨Y3, y3, Y4, y4, rfl, hrd, hb⟩; have HRy := Aside0.mk (hrd.below (new_below we2 (.cells #[.int .i64 y.f0, .int .i64 y.f1, .string y.f2, .slice Y3 y.f3.length y3, .slice Y4 y.f4.length y4] 28))); have HC3 := Aside0.mk (copyC _ y (we2.alloc (.cells #[.int .i64 y.f0, .int .i64 y.f1, .string y.f2, .slice Y3 y.f3.length y3, .slice Y4 y.f4.length y4] 28)) (Nat.lt_succ_self _) HCn.out HRy.out); have HW3 := Aside0.mk (below_step (below_step HW2.out hb) (new_below we2 (.cells #[.int .i64 y.f0, .int .i64 y.f1, .string y.f2, .slice Y3 y.f3.length y3, .slice Y4 y.f4.length y4] 28))); have HZ3 := Aside0.mk (((new_below we2 (.cells #[.int .i64 y.f0, .int .i64 y.f1, .string y.f2, .slice Y3 y.f3.length y3, .slice Y4 y.f4.length y4] 28)).block _ (Nat.lt_of_lt_of_le (Array.getElem?_eq_some_iff.1 HZ2.out).1 (Below.size hb))).trans ((hb.block _ (Array.getElem?_eq_some_iff.1 HZ2.out).1).trans HZ2.out)); clear hrd hb) | (go_at_call 66; (with_reducible refine HC3.out.mono ?_); rintro e we3 ⟨v3, v4, rfl, hM, hb⟩; obtain ⟨X3, d3, X4, d4, rfl, rfl, _⟩ := rd_of_M (W' := we3) hM (Array.getElem?_eq_some_iff.1 HZ3.out).1 (fun _ _ _ => rfl); have HM := Aside0.mk hM; have HW4 := Aside0.mk (below_step HW3.out hb); have HZ4 := Aside0.mk ((hb.block _ (Array.getElem?_eq_some_iff.1 HZ3.out).1).trans HZ3.out); have HLt := Aside0.mk (Array.getElem?_eq_some_iff.1 HZ3.out).1; have HLo := Aside0.mk (Below.size HW3.out); clear hM hb; obtain ⟨t0, t1, t2, t3, t4, t5⟩ := zero5 HZ4.out))
  obtain ⟨W', hW', ⟨u0, u1, u2, u3, u4⟩, hg, hz⟩ := fill5 HZ4.out HW4.out (by omega) (.int .i64 y.f0) (.int .i64 y.f1) (.string y.f2) (.slice X3 y.f3.length d3) (.slice X4 y.f4.length d4)
  obtain ⟨X3', d3', X4', d4', e3, e4, hrd⟩ := rd_of_M (W' := W') HM.out HLt.out (fun k hk hlt => hg.block k hlt (fun e => hk (Option.some.inj e)))
  injection e3 with a1 a2 a3
  injection e4 with b1 b2 b3
  subst a1 a3 b1 b3
  rw [hW']
  exact bodyPost_ret (v := .tuple #[.agg #[.int .i64 y.f0, .int .i64 y.f1, .string y.f2, .slice X3 y.f3.length d3, .slice X4 y.f4.length d4], .bool f]) (by simp [results, Try.results35, go_sem, u0, u1, u2, u3, u4]) rfl (HFin.out X3 d3 X4 d4 W' hrd hz (fun W2 b hb hk => rd_of_M2 HM.out (fun k hk1 hk2 => (hk k (by have := HLt.out; have := HLo.out; omega) (by have := hg.size; omega)).trans (hg.block k hk2 (fun e => by have := Option.some.inj e; have := HLt.out; omega)))))
theorem valueGetC (x : S28) (s : ByteArray) (w : World) {A3 : Option Addr} {c3 : Nat} {A4 : Option Addr} {c4 : Nat} (hx : Wv x) (hc : cnt x ≤ 1000000000000) (hr : Rd w A3 c3 A4 c4 x) :
    Calls Try.prog 35 #[.agg #[.int .i64 x.f0, .int .i64 x.f1, .string x.f2, .slice A3 x.f3.length c3, .slice A4 x.f4.length c4], .string s] w (GetPost (gr x s) w) :=
  (valueGetM x s w hx hc hr).mono (fun e w' ⟨Y3, y3, Y4, y4, h1, h2, h3, _⟩ => ⟨Y3, y3, Y4, y4, h1, h2, h3⟩)
end Go.Proofs.Ytgpjkojnmeaoiaa.QV

/- The reference's Get, by hand. -/
namespace Go.Proofs.Ytgpjkojnmeaoiaa.QV
open Go Go.RowKit Go.Proofs.YtgpjkojnmeaoiaaW.PrintWords Go.Proofs.YtgpjkojnmeaoiaaW.PrintLast Go.Proofs.YtgpjkojnmeaoiaaW.PrintMore
set_option linter.unusedVariables false
set_option linter.unusedSimpArgs false
set_option maxRecDepth 100000
set_option maxHeartbeats 4000000
theorem getV_cons (k : ByteArray) (ks : List ByteArray) (e : S28) (es : List S28) (s : ByteArray) : getV (k :: ks) (e :: es) s = if k = s then some e else getV ks es s := rfl
theorem refGetC (x : S28) (s : ByteArray) (w : World) {A3 : Option Addr} {c3 : Nat} {A4 : Option Addr} {c4 : Nat} (hx : Wv x) (hc : cnt x ≤ 1000000000000) (hr : Rd w A3 c3 A4 c4 x) :
    Calls Try.prog 36 #[.agg #[.int .i64 x.f0, .int .i64 x.f1, .string x.f2, .slice A3 x.f3.length c3, .slice A4 x.f4.length c4], .string s] w (GetPost (gr x s) w) := by
  have hB := Bv.new hr
  have hb1 := new_below w (.cells #[.int .i64 x.f0, .int .i64 x.f1, .string x.f2, .slice A3 x.f3.length c3, .slice A4 x.f4.length c4] 28)
  have hb2 := new_below (w.alloc (.cells #[.int .i64 x.f0, .int .i64 x.f1, .string x.f2, .slice A3 x.f3.length c3, .slice A4 x.f4.length c4] 28)) (.cells #[.int .i64 0, .int .i64 0, .string ⟨#[]⟩, .slice none 0 0, .slice none 0 0] 28)
  have hZ := heap_alloc_new (w.alloc (.cells #[.int .i64 x.f0, .int .i64 x.f1, .string x.f2, .slice A3 x.f3.length c3, .slice A4 x.f4.length c4] 28)) (.cells #[.int .i64 0, .int .i64 0, .string ⟨#[]⟩, .slice none 0 0, .slice none 0 0] 28)
  rw [show (w.alloc (.cells #[.int .i64 x.f0, .int .i64 x.f1, .string x.f2, .slice A3 x.f3.length c3, .slice A4 x.f4.length c4] 28)).heap.size = w.heap.size + 1 from by simp] at hZ
  have hB2 := hB.below hb2
  obtain ⟨p0, p1, p2, p3, p4⟩ := hB2.cells
  have HV := Aside0.mk hB2
  have HC := Aside0.mk (refValidC x _ hx (by omega) hB2.rd)
  have HZ := Aside0.mk hZ
  have HW := Aside0.mk (below_step hb1 hb2)
  have HRd := Aside0.mk hr
  have HG : Aside0 (gr x s = if vd x = true ∧ x.f0 = 6 then getV x.f3 x.f4 s else none) := ⟨rfl⟩
  have HO : Aside0 (vd x = true → x.f0 = 6 → x.f3.length = x.f4.length ∧ x.f3.length ≤ 1024 ∧ Sk x.f3) := ⟨fun h k => vd_obj h k⟩
  obtain ⟨va, hva⟩ : ∃ v, vd x = v := ⟨_, rfl⟩
  rw [hva] at HC HG HO
  clear hB hb1 hb2 hZ hB2 hr hx hc hva
  cases va with
  | false =>
    have HR : Aside0 (gr x s = none) := ⟨by rw [HG.out, if_neg (by simp)]⟩
    clear HG HO
    go_enter Try.func36, Try.ntmps36
    go_wp2_with (first | (go_at_call 25; (with_reducible refine HC.out.mono ?_); rintro e we ⟨rfl, hb⟩; have HW2 := Aside0.mk (below_step HW.out hb); have HZ2 := Aside0.mk ((hb.block _ (Array.getElem?_eq_some_iff.1 HZ.out).1).trans HZ.out); clear hb; obtain ⟨t0, t1, t2, t3, t4, t5⟩ := zero5 HZ2.out))
    obtain ⟨W', hW', ⟨u0, u1, u2, u3, u4⟩, hg, hz⟩ := fill5 HZ2.out HW2.out (by omega) (.int .i64 0) (.int .i64 0) (.string ⟨#[]⟩) (.slice none 0 0) (.slice none 0 0)
    rw [hW']
    refine bodyPost_ret (v := .tuple #[.agg #[.int .i64 0, .int .i64 0, .string ⟨#[]⟩, .slice none 0 0, .slice none 0 0], .bool false]) (by simp [results, Try.results36, go_sem, u0, u1, u2, u3, u4]) rfl ?_
    rw [HR.out]
    exact ⟨none, 0, none, 0, rfl, rd_z _, hz⟩
  | true =>
  by_cases h6 : x.f0 = 6
  rotate_left
  · have g6 : (x.f0 != 6) = true := by simpa using h6
    have HR : Aside0 (gr x s = none) := ⟨by rw [HG.out, if_neg (by simp [h6])]⟩
    clear HG HO h6
    go_enter Try.func36, Try.ntmps36
    go_wp2_with (first | (go_at_call 25; (with_reducible refine HC.out.mono ?_); rintro e we ⟨rfl, hb⟩; have HW2 := Aside0.mk (below_step HW.out hb); have HZ2 := Aside0.mk ((hb.block _ (Array.getElem?_eq_some_iff.1 HZ.out).1).trans HZ.out); obtain ⟨q0, q1, q2, q3, q4⟩ := (HV.out.below hb).cells; clear hb; obtain ⟨t0, t1, t2, t3, t4, t5⟩ := zero5 HZ2.out))
    obtain ⟨W', hW', ⟨u0, u1, u2, u3, u4⟩, hg, hz⟩ := fill5 HZ2.out HW2.out (by omega) (.int .i64 0) (.int .i64 0) (.string ⟨#[]⟩) (.slice none 0 0) (.slice none 0 0)
    rw [hW']
    refine bodyPost_ret (v := .tuple #[.agg #[.int .i64 0, .int .i64 0, .string ⟨#[]⟩, .slice none 0 0, .slice none 0 0], .bool false]) (by simp [results, Try.results36, go_sem, u0, u1, u2, u3, u4]) rfl ?_
    rw [HR.out]
    exact ⟨none, 0, none, 0, rfl, rd_z _, hz⟩
  have g6 : (x.f0 != 6) = false := by simpa using h6
  have HR : Aside0 (gr x s = getV x.f3 x.f4 s) := ⟨by rw [HG.out, if_pos ⟨rfl, h6⟩]⟩
  have ho := HO.out rfl h6
  have HLn := Aside0.mk (And.intro ho.1 ho.2.1)
  have H0 : Aside0 (getV x.f3 x.f4 s = getV (x.f3.drop 0) (x.f4.drop 0) s) := ⟨rfl⟩
  clear ho HG HO h6
  go_enter Try.func36, Try.ntmps36
  go_upto_region 3 with (first | (go_at_call 25; (with_reducible refine HC.out.mono ?_); rintro e we ⟨rfl, hb⟩; have HW2 := Aside0.mk (below_step HW.out hb); have HZ2 := Aside0.mk ((hb.block _ (Array.getElem?_eq_some_iff.1 HZ.out).1).trans HZ.out); have HV2 := Aside0.mk (HV.out.below hb); obtain ⟨q0, q1, q2, q3, q4⟩ := HV2.out.cells; clear hb))
  have HS0 : Aside0 (Bv we w.heap.size A3 c3 A4 c4 x ∧ we.heap[w.heap.size + 1]? = some (.cells #[.int .i64 0, .int .i64 0, .string ⟨#[]⟩, .slice none 0 0, .slice none 0 0] 28 (0, 0)) ∧ Below w.heap.size w we) := ⟨HV2.out, HZ2.out, HW2.out⟩
  clear HC HV HZ HW p0 p1 p2 p3 p4 HW2 HZ2 HV2 q0 q1 q2 q3 q4
  go_wp2_with fail
  go_loopg [6] x.f3.length (fun kq v6 w' => ∃ (i : Nat), kq + i = x.f3.length ∧ v6 = .int .i64 (i : Int) ∧ Aside0 (getV x.f3 x.f4 s = getV (x.f3.drop i) (x.f4.drop i) s) ∧ Aside0 (Bv w' w.heap.size A3 c3 A4 c4 x ∧ w'.heap[w.heap.size + 1]? = some (.cells #[.int .i64 0, .int .i64 0, .string ⟨#[]⟩, .slice none 0 0, .slice none 0 0] 28 (0, 0)) ∧ Below w.heap.size w w'))
  case atStart => exact ⟨0, by omega, rfl, H0, HS0⟩
  case round =>
    clear H0 HS0
    obtain ⟨i, hi, rfl, HQ, HS⟩ := hrel
    obtain ⟨p0, p1, p2, p3, p4⟩ := HS.out.1.cells
    have hl := HLn.out
    obtain ⟨t0, t1, t2, t3, t4, t5⟩ := zero5 HS.out.2.1
    by_cases ci : i < x.f3.length
    rotate_left
    · have g0 : decide ((i : Int) < (x.f3.length : Int)) = false := decide_eq_false (by omega)
      have g0' : decide (i < x.f3.length) = false := decide_eq_false ci
      have HR2 : Aside0 (gr x s = none) := ⟨by rw [HR.out, HQ.out, show x.f3.drop i = [] from List.drop_eq_nil_of_le (by omega)]; cases x.f4.drop i <;> rfl⟩
      clear HQ hi ci HR hl
      go_wp2_with fail
      obtain ⟨W', hW', ⟨u0, u1, u2, u3, u4⟩, hg, hz⟩ := fill5 HS.out.2.1 HS.out.2.2 (by omega) (.int .i64 0) (.int .i64 0) (.string ⟨#[]⟩) (.slice none 0 0) (.slice none 0 0)
      rw [hW']
      refine bodyPost_ret (v := .tuple #[.agg #[.int .i64 0, .int .i64 0, .string ⟨#[]⟩, .slice none 0 0, .slice none 0 0], .bool false]) (by simp [results, Try.results36, go_sem, u0, u1, u2, u3, u4]) rfl ?_
      rw [HR2.out]
      exact ⟨none, 0, none, 0, rfl, rd_z _, hz⟩
    have g0 : decide ((i : Int) < (x.f3.length : Int)) = true := decide_eq_true (by omega)
    have g0' : decide (i < x.f3.length) = true := decide_eq_true ci
    have g2 : (0 ≤ (i : Int)) = True := eq_true (by omega)
    have g3 : ((i : Int) < (x.f3.length : Int)) = True := eq_true (by omega)
    have g4 : ((i : Int) < (x.f4.length : Int)) = True := eq_true (by omega)
    have hib : i < 2000 := by omega
    obtain ⟨j1, rfl⟩ : ∃ j1, gk = j1 + 1 := ⟨gk - 1, by omega⟩
    have hil : x.f3[i]? = some x.f3[i] := List.getElem?_eq_getElem ci
    have hd1 := List.drop_eq_getElem_cons ci
    obtain ⟨k, hk⟩ : ∃ k, x.f3[i] = k := ⟨_, rfl⟩
    rw [hk] at hil hd1
    have cj : i < x.f4.length := by omega
    have hjl : x.f4[i]? = some x.f4[i] := List.getElem?_eq_getElem cj
    have hd2 := List.drop_eq_getElem_cons cj
    obtain ⟨y, hy⟩ : ∃ y, x.f4[i] = y := ⟨_, rfl⟩
    rw [hy] at hjl hd2
    have HQ2 : Aside0 (getV x.f3 x.f4 s = if k = s then some y else getV (x.f3.drop (i + 1)) (x.f4.drop (i + 1)) s) := ⟨by rw [HQ.out, hd1, hd2, getV_cons]⟩
    obtain ⟨ad, e1, he⟩ := str_at HS.out.1.rd.r3 i ci hil
    obtain ⟨ad2, Y3, y3, Y4, y4, e2, hq0⟩ := el_at HRd.out.r4 i cj hjl
    have hq := hq0.below HS.out.2.2
    have HQ0 := Aside0.mk hq0.rd
    obtain ⟨b0, b1, b2, b3, b4, _⟩ := hq
    have HII := Aside0.mk hi
    clear hil hjl hd1 hd2 hk hy HQ hi ci cj hq0 hl
    subst e1
    by_cases ck : k = s
    · have g5 : (k.toList == s.toList) = true := by rw [ck]; simp
      have HR2 : Aside0 (gr x s = some y) := ⟨by rw [HR.out, HQ2.out, if_pos ck]⟩
      clear ck HQ2 HR
      subst e2
      go_wp2_with fail
      obtain ⟨W', hW', ⟨u0, u1, u2, u3, u4⟩, hg, hz⟩ := fill5 HS.out.2.1 HS.out.2.2 (by omega) (.int .i64 y.f0) (.int .i64 y.f1) (.string y.f2) (.slice Y3 y.f3.length y3) (.slice Y4 y.f4.length y4)
      rw [hW']
      refine bodyPost_ret (v := .tuple #[.agg #[.int .i64 y.f0, .int .i64 y.f1, .string y.f2, .slice Y3 y.f3.length y3, .slice Y4 y.f4.length y4], .bool true]) (by simp [results, Try.results36, go_sem, u0, u1, u2, u3, u4]) rfl ?_
      rw [HR2.out]
      exact ⟨Y3, y3, Y4, y4, rfl, HQ0.out.below hz, hz⟩
    · have g5 : (k.toList == s.toList) = false := by rw [beq_eq_false_iff_ne]; exact fun h => ck (tl_inj.1 h)
      have HQ3 : Aside0 (getV x.f3 x.f4 s = getV (x.f3.drop (i + 1)) (x.f4.drop (i + 1)) s) := ⟨by rw [HQ2.out, if_neg ck]⟩
      clear ck HQ2 e2
      go_wp2_with fail
      go_roundg j1
      case measure => omega
      case rel => exact ⟨i + 1, by have := HII.out; omega, rfl, HQ3, HS⟩
end Go.Proofs.Ytgpjkojnmeaoiaa.QV
