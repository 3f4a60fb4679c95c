-- by a program of this session (print2.py): the machine's side of one law; Lean checks it.
import Derived.Test.YtkhnifehcnlpjaaDoorQScanRecordsx0
import Derived.Test.YtkhnifehcnlpjaaDoorQScanRecordsx2
import Derived.Test.YtkhnifehcnlpjaaDoorQScanRecordsx7
namespace Go.Proofs.YtkhnifehcnlpjaaDoor.QScanRecords
open Go.RowKit Go.Proofs.YtkhnifehcnlpjaaDoorW.PrintWords Go.Proofs.YtkhnifehcnlpjaaDoorW.PrintLast Go.Proofs.YtkhnifehcnlpjaaDoorW.PrintMore
attribute [local go_sem] max2_int min2_int max_two min_two max_three min_three max_four min_four   -- for this text's walks alone
set_option linter.unusedVariables false
set_option linter.unusedSimpArgs false

/-! ### ndjqlaw20_ScanRecords: function 5 -/
def ndjqlaw20_ScanRecords.j0 : Nat → ByteArray → List (S51) → Int → Bool → Option (Bool)
 | 0, _, _, _, _ => none
 | k + 1, x0, x5, x6, x24 => if x24 = true then (if x6 = 3 then (if (x5.length : Int) = 0 then ((ndjqlaw20_awake.f k).bind fun t238 => (some t238)) else (some false)) else (some false)) else ((split_Records.f k x0).bind fun bt239 => (if x6 = 0 then (if bt239.2 = 0 then ((ndjqkeep_Spans.f k x5 bt239.1).bind fun t243 => (if t243 = true then ((ndjqlaw20_awake.f k).bind fun t244 => (some t244)) else (some false))) else (some false)) else (some false)))
def ndjqlaw20_ScanRecords.f (k : Nat) (a0 : ByteArray) (a1 : Int) : Option (Bool) := if (a0.size : Int) > 200 then ((ndjqlaw20_awake.f k).bind fun t233 => (some t233)) else ((scan_Records.f k a0 a1).bind fun bt234 => (if a1 < 1 then (ndjqlaw20_ScanRecords.j0 k a0 bt234.1 bt234.2 true) else (ndjqlaw20_ScanRecords.j0 k a0 bt234.1 bt234.2 (decide (a1 > 65536)))))
theorem ndjqlaw20_ScanRecords.mono_l : ∀ k, (∀ y0 y1 y2 y3, LeO (ndjqlaw20_ScanRecords.j0 k y0 y1 y2 y3) (ndjqlaw20_ScanRecords.j0 (k + 1) y0 y1 y2 y3))
 | 0 => fun _ _ _ _ r h => by simp [ndjqlaw20_ScanRecords.j0] at h
 | k + 1 => by
  have ih0 := ndjqlaw20_ScanRecords.mono_l k
  ·intro y0 y1 y2 y3
   unfold ndjqlaw20_ScanRecords.j0
   repeat' first
   | (with_reducible exact ih0 _ _ _ _)
   | (with_reducible exact ndjqkeep_Spans.mono _ _ _)
   | (with_reducible exact ndjqlaw20_awake.mono _)
   | (with_reducible exact scan_Records.mono _ _ _)
   | (with_reducible exact split_Records.mono _ _)
   | (with_reducible exact LeO.refl _)
   | (with_reducible exact LeO.none _)
   | (with_reducible refine LeO.ite ?_ ?_)
   | (with_reducible refine LeO.bind ?_ (fun _ => ?_))
   | exact ih0 _ _ _ _
   | exact ndjqkeep_Spans.mono _ _ _
   | exact ndjqlaw20_awake.mono _
   | exact scan_Records.mono _ _ _
   | exact split_Records.mono _ _
   | exact LeO.none _
   | refine LeO.ite ?_ ?_
   | refine LeO.bind ?_ (fun _ => ?_)
theorem ndjqlaw20_ScanRecords.mono : ∀ a0 a1 k, LeO (ndjqlaw20_ScanRecords.f k a0 a1) (ndjqlaw20_ScanRecords.f (k + 1) a0 a1) := by
 intro a0 a1 k
 have ih0 := ndjqlaw20_ScanRecords.mono_l k
 unfold ndjqlaw20_ScanRecords.f
 repeat' first
   | (with_reducible exact ih0 _ _ _ _)
   | (with_reducible exact ndjqkeep_Spans.mono _ _ _)
   | (with_reducible exact ndjqlaw20_awake.mono _)
   | (with_reducible exact scan_Records.mono _ _ _)
   | (with_reducible exact split_Records.mono _ _)
   | (with_reducible exact LeO.refl _)
   | (with_reducible exact LeO.none _)
   | (with_reducible refine LeO.ite ?_ ?_)
   | (with_reducible refine LeO.bind ?_ (fun _ => ?_))
   | exact ih0 _ _ _ _
   | exact ndjqkeep_Spans.mono _ _ _
   | exact ndjqlaw20_awake.mono _
   | exact scan_Records.mono _ _ _
   | exact split_Records.mono _ _
   | exact LeO.none _
   | refine LeO.ite ?_ ?_
   | refine LeO.bind ?_ (fun _ => ?_)
set_option maxHeartbeats 8000000 in
set_option maxRecDepth 100000 in
theorem ndjqlaw20_ScanRecords.calls (k : Nat) (a0 : ByteArray) (a1 : Int) (r : Bool) (w : World) (hG : GlbLaid w) (h : ndjqlaw20_ScanRecords.f k a0 a1 = some r) :
  Calls Tryd.prog 5 #[.string a0, .int .i64 a1] w fun e w' => e = .returned (.bool r) ∧ Below w.heap.size w w' := by
 have HG := Aside0.mk hG
 clear hG
 have HB := Aside0.mk (Below.refl w.heap.size w)
 have H : (if (a0.size : Int) > 200 then ((ndjqlaw20_awake.f k).bind fun t233 => (some t233)) else ((scan_Records.f k a0 a1).bind fun bt234 => (if a1 < 1 then (ndjqlaw20_ScanRecords.j0 k a0 bt234.1 bt234.2 true) else (ndjqlaw20_ScanRecords.j0 k a0 bt234.1 bt234.2 (decide (a1 > 65536)))))) = some r := h
 clear h
 by_cases c3 : (a0.size : Int) > 200
 ·rw [if_pos c3] at H
  have c3b0 : decide (200 < (a0.size : Int)) = true := decide_eq_true c3
  have c3b1 : decide (200 < a0.size) = true := decide_eq_true (by omega)
  clear c3
  replace H := Option.bind_eq_some_iff.mp H
  obtain ⟨t233, A40, H⟩ := H
  replace H : (some t233) = some r := H
  have A4 := Aside0.mk A40
  clear A40
  obtain rfl := Option.some.inj H
  go_enter Tryd.func5, Tryd.ntmps5
  go_wp2_with (first | ((with_reducible refine gate_callee (f := 9) rfl ?_); refine goesL_ (some 12) rfl rfl Tryd.func9 (by kernel_rfl) rfl #[] rfl (by (try simp only [List.map_toArray, List.map_cons, List.map_nil]); first | done | rfl | (simp only [List.length_drop, List.length_take]; rfl)) ?_; (with_reducible refine (ndjqlaw20_awake.calls k  t233 _ ?side1 A4.out).mono ?_); (case side1 => exact GlbLaid.below HG.out (by repeat (first | (with_reducible first | exact HB.out | apply wA | apply wN | apply wD) | exact HB.out))); rintro e w5 ⟨rfl, hb⟩; refine ⟨_, rfl, ?_⟩; have n0_ := Aside0.mk (below_step (by repeat (first | (with_reducible first | exact HB.out | apply wA | apply wN | apply wD) | exact HB.out)) hb); clear HB; have HB := n0_; clear n0_; (try clear hb); (try clear hb2); (try clear hk); (try clear hi)))
  go_ret
  exact ⟨by first | rfl | (simp [errW_none, errW_some] <;> rfl) | (simp [*, errW_none, errW_some] <;> rfl), by repeat (first | (with_reducible first | exact HB.out | apply wA | apply wN | apply wD) | exact HB.out)⟩
 ·rw [if_neg c3] at H
  have c3b0 : decide (200 < (a0.size : Int)) = false := decide_eq_false c3
  have c3b1 : decide (200 < a0.size) = false := decide_eq_false (by omega)
  clear c3
  replace H := Option.bind_eq_some_iff.mp H
  obtain ⟨⟨t234, t235⟩, A60, H⟩ := H
  replace H : (if a1 < 1 then (ndjqlaw20_ScanRecords.j0 k a0 t234 t235 true) else (ndjqlaw20_ScanRecords.j0 k a0 t234 t235 (decide (a1 > 65536)))) = some r := H
  have A6 := Aside0.mk A60
  clear A60
  have HC7 := Aside0.mk H
  clear H
  go_enter Tryd.func5, Tryd.ntmps5
  go_upto_region 4 with (first | ((with_reducible refine gate_callee (f := 21) rfl ?_); refine goesL_ (some 16) rfl rfl Tryd.func21 (by kernel_rfl) rfl #[.string a0, .int .i64 a1] rfl (by (try simp only [List.map_toArray, List.map_cons, List.map_nil]); first | done | rfl | (simp only [List.length_drop, List.length_take]; rfl)) ?_; (with_reducible refine (scan_Records.calls k a0 a1 t234 t235 _ ?side1 A6.out).mono ?_); (case side1 => exact GlbLaid.below HG.out (by repeat (first | (with_reducible first | exact HB.out | apply wA | apply wN | apply wD) | exact HB.out))); rintro e w8 ⟨v236, rfl, ho0, hb⟩; refine ⟨_, rfl, ?_⟩; have n0_ := Aside0.mk (Kd.R_lower ho0 (below_size (by repeat (first | (with_reducible first | exact HB.out | apply wA | apply wN | apply wD) | exact HB.out)))); have n1_ := Aside0.mk (below_step (by repeat (first | (with_reducible first | exact HB.out | apply wA | apply wN | apply wD) | exact HB.out)) hb); clear HB; have HO237 := n0_; have HB := n1_; clear n0_ n1_; (try clear hb); (try clear hb2); (try clear hk); (try clear hi); (try clear ho0)))
  (try simp only [Act.put, List.setIfInBounds_toArray, List.set_cons_zero, List.set_cons_succ])
  go_cut [24] (fun v24 wc => ∃ (kq : Nat) (x24_6 : Bool), v24 = .bool x24_6 ∧ Aside0 (ndjqlaw20_ScanRecords.j0 kq a0 t234 t235 x24_6 = some r) ∧ Aside0 (kq ≤ k) ∧ Aside0 (Kd.R k51 51 wc w.heap.size (fun _ => True) v236 t234) ∧ Aside0 (Below w.heap.size w wc))
  case first =>
   have H := HC7.out
   clear HC7
   by_cases c9 : a1 < 1
   ·rw [if_pos c9] at H
    have c9b0 : decide (a1 < 1) = true := decide_eq_true c9
    clear c9
    (first | rw [c9b0] | (simp only [i64_w, i32_w]; rw [c9b0]) | skip)
    have H' := Aside0.mk H
    clear H
    go_wp2
    go_meet
    case rel => exact ⟨_, (true), (by first | rfl | (simp; done) | (simp [*]; done)), H', ⟨by first | omega | exact Nat.le_refl _⟩, ⟨by (with_reducible repeat (first | apply rA | apply rN | apply rD)); exact HO237.out⟩, ⟨by repeat (first | (with_reducible first | exact HB.out | apply wA | apply wN | apply wD) | exact HB.out)⟩⟩
   ·rw [if_neg c9] at H
    have c9b0 : decide (a1 < 1) = false := decide_eq_false c9
    clear c9
    (first | rw [c9b0] | (simp only [i64_w, i32_w]; rw [c9b0]) | skip)
    have H' := Aside0.mk H
    clear H
    go_wp2
    go_meet
    case rel => exact ⟨_, (decide (a1 > 65536)), (by first | rfl | (simp; done) | (simp [*]; done)), H', ⟨by first | omega | exact Nat.le_refl _⟩, ⟨by (with_reducible repeat (first | apply rA | apply rN | apply rD)); exact HO237.out⟩, ⟨by repeat (first | (with_reducible first | exact HB.out | apply wA | apply wN | apply wD) | exact HB.out)⟩⟩
  case rest =>
   clear HC7
   (try clear c2); (try clear p2); (try clear c3); (try clear c3b0); (try clear c3b1); (try clear c5); (try clear c9); (try clear c9b0)
   obtain ⟨kq, x24_6, rfl, HA, HJ6, HO_5, HB⟩ := hcut
   cases kq with
   | zero => exact absurd HA.out (by simp [ndjqlaw20_ScanRecords.j0])
   | succ kj6 =>
    have H := HA.out
    clear HA
    simp only [ndjqlaw20_ScanRecords.j0] at H
    by_cases c10 : x24_6 = true
    ·subst c10
     have H1 : (if t235 = 3 then (if (t234.length : Int) = 0 then ((ndjqlaw20_awake.f kj6).bind fun t238 => (some t238)) else (some false)) else (some false)) = some r := by rw [if_pos rfl] at H; exact H
     clear H; have H := H1; clear H1
     by_cases c11 : t235 = 3
     ·rw [if_pos c11] at H
      have c11b0 : (t235 == 3) = true := beq_iff_eq.mpr c11
      have c11b1 : (t235 != 3) = false := bne_eq_false_iff_eq.mpr c11
      clear c11
      by_cases c12 : (t234.length : Int) = 0
      ·rw [if_pos c12] at H
       have c12b0 : ((t234.length : Int) == 0) = true := beq_iff_eq.mpr c12
       have c12b1 : ((t234.length : Int) != 0) = false := bne_eq_false_iff_eq.mpr c12
       clear c12
       replace H := Option.bind_eq_some_iff.mp H
       obtain ⟨t238, A130, H⟩ := H
       replace H : (some t238) = some r := H
       have A13 := Aside0.mk A130
       clear A130
       obtain rfl := Option.some.inj H
       obtain ⟨Ao14, co14, eo14⟩ := Kd.R_slice HO_5.out
       subst eo14
       go_wp2_with (first | (go_at_call 9; (with_reducible refine (ndjqlaw20_awake.calls kj6  t238 _ ?side1 A13.out).mono ?_); (case side1 => exact GlbLaid.below HG.out (by repeat (first | (with_reducible first | exact HB.out | apply wA | apply wN | apply wD) | exact HB.out))); rintro e w15 ⟨rfl, hb⟩; have n0_ := Aside0.mk (Kd.R_below (by (with_reducible repeat (first | apply rA | apply rN | apply rD)); exact HO_5.out) hb); have n1_ := Aside0.mk (below_step (by repeat (first | (with_reducible first | exact HB.out | apply wA | apply wN | apply wD) | exact HB.out)) hb); clear HO_5; clear HB; have HO_5 := n0_; have HB := n1_; clear n0_ n1_; (try clear hb); (try clear hb2); (try clear hk); (try clear hi)))
       go_ret
       exact ⟨by first | rfl | (simp [errW_none, errW_some] <;> rfl) | (simp [*, errW_none, errW_some] <;> rfl), by repeat (first | (with_reducible first | exact HB.out | apply wA | apply wN | apply wD) | exact HB.out)⟩
      ·rw [if_neg c12] at H
       have c12b0 : ((t234.length : Int) == 0) = false := beq_eq_false_iff_ne.mpr c12
       have c12b1 : ((t234.length : Int) != 0) = true := bne_iff_ne.mpr c12
       have c12b2 : ¬ (t234 = []) := fun h_ => c12 (by rw [h_]; rfl)
       obtain rfl := Option.some.inj H
       obtain ⟨Ao16, co16, eo16⟩ := Kd.R_slice HO_5.out
       subst eo16
       go_wp2
       go_ret
       exact ⟨by first | rfl | (simp [errW_none, errW_some] <;> rfl) | (simp [*, errW_none, errW_some] <;> rfl), by repeat (first | (with_reducible first | exact HB.out | apply wA | apply wN | apply wD) | exact HB.out)⟩
     ·rw [if_neg c11] at H
      have c11b0 : (t235 == 3) = false := beq_eq_false_iff_ne.mpr c11
      have c11b1 : (t235 != 3) = true := bne_iff_ne.mpr c11
      obtain rfl := Option.some.inj H
      go_wp2
      go_ret
      exact ⟨by first | rfl | (simp [errW_none, errW_some] <;> rfl) | (simp [*, errW_none, errW_some] <;> rfl), by repeat (first | (with_reducible first | exact HB.out | apply wA | apply wN | apply wD) | exact HB.out)⟩
    ·replace c10 := Bool.eq_false_iff.mpr c10
     subst c10
     have H1 : ((split_Records.f kj6 a0).bind fun bt239 => (if t235 = 0 then (if bt239.2 = 0 then ((ndjqkeep_Spans.f kj6 t234 bt239.1).bind fun t243 => (if t243 = true then ((ndjqlaw20_awake.f kj6).bind fun t244 => (some t244)) else (some false))) else (some false)) else (some false))) = some r := by rw [if_neg (show ¬ (false = true) by decide)] at H; exact H
     clear H; have H := H1; clear H1
     replace H := Option.bind_eq_some_iff.mp H
     obtain ⟨⟨t239, t240⟩, A170, H⟩ := H
     replace H : (if t235 = 0 then (if t240 = 0 then ((ndjqkeep_Spans.f kj6 t234 t239).bind fun t243 => (if t243 = true then ((ndjqlaw20_awake.f kj6).bind fun t244 => (some t244)) else (some false))) else (some false)) else (some false)) = some r := H
     have A17 := Aside0.mk A170
     clear A170
     by_cases c18 : t235 = 0
     ·rw [if_pos c18] at H
      have c18b0 : (t235 == 0) = true := beq_iff_eq.mpr c18
      have c18b1 : (t235 != 0) = false := bne_eq_false_iff_eq.mpr c18
      clear c18
      by_cases c19 : t240 = 0
      ·rw [if_pos c19] at H
       have c19b0 : (t240 == 0) = true := beq_iff_eq.mpr c19
       have c19b1 : (t240 != 0) = false := bne_eq_false_iff_eq.mpr c19
       clear c19
       replace H := Option.bind_eq_some_iff.mp H
       obtain ⟨t243, A200, H⟩ := H
       replace H : (if t243 = true then ((ndjqlaw20_awake.f kj6).bind fun t244 => (some t244)) else (some false)) = some r := H
       have A20 := Aside0.mk A200
       clear A200
       have HF21 := Aside0.mk H
       clear H
       go_wp2_with (first | ((with_reducible refine gate_callee (f := 22) rfl ?_); refine goesL_ (some 37) rfl rfl Tryd.func22 (by kernel_rfl) rfl #[.string a0] rfl (by (try simp only [List.map_toArray, List.map_cons, List.map_nil]); first | done | rfl | (simp only [List.length_drop, List.length_take]; rfl)) ?_; (with_reducible refine (split_Records.calls kj6 a0 t239 t240 _ ?side1 A17.out).mono ?_); (case side1 => exact GlbLaid.below HG.out (by repeat (first | (with_reducible first | exact HB.out | apply wA | apply wN | apply wD) | exact HB.out))); rintro e w22 ⟨v241, rfl, ho0, hb⟩; refine ⟨_, rfl, ?_⟩; have n0_ := Aside0.mk (Kd.R_elder' (by (with_reducible repeat (first | apply rA | apply rN | apply rD)); exact HO_5.out) (Kd.R_base ho0) hb); have n1_ := Aside0.mk (Kd.R_lower (Kd.R_new' ho0 (Kd.R_lt (by (with_reducible repeat (first | apply rA | apply rN | apply rD)); exact HO_5.out))) (below_size (by repeat (first | (with_reducible first | exact HB.out | apply wA | apply wN | apply wD) | exact HB.out)))); have n2_ := Aside0.mk (below_step (by repeat (first | (with_reducible first | exact HB.out | apply wA | apply wN | apply wD) | exact HB.out)) hb); clear HO_5; clear HB; have HO_5 := n0_; have HO242 := n1_; have HB := n2_; clear n0_ n1_ n2_; (try clear hb); (try clear hb2); (try clear hk); (try clear hi); (try clear ho0)))
       have H := HF21.out
       clear HF21
       by_cases c23 : t243 = true
       ·subst c23
        have H1 : ((ndjqlaw20_awake.f kj6).bind fun t244 => (some t244)) = some r := by rw [if_pos rfl] at H; exact H
        clear H; have H := H1; clear H1
        replace H := Option.bind_eq_some_iff.mp H
        obtain ⟨t244, A240, H⟩ := H
        replace H : (some t244) = some r := H
        have A24 := Aside0.mk A240
        clear A240
        obtain rfl := Option.some.inj H
        obtain ⟨Ao25, co25, eo25⟩ := Kd.R_slice HO_5.out
        subst eo25
        obtain ⟨Ao26, co26, eo26⟩ := Kd.R_slice HO242.out
        subst eo26
        go_wp2_with (first | (go_at_call 12; (with_reducible refine (ndjqkeep_Spans.calls kj6 _ _ t234 _ _ t239 true _ ?side1 ?side2 ?side3 ?side4 A20.out).mono ?_); (case side1 => repeat (first | exact (Kd.R_reads' HO_5.out).2.2 | (with_reducible refine Kd.C_alloc ?_ _) | (with_reducible refine Kd.C_drewN ?_ _) | (with_reducible refine Kd.C_drew ?_))); (case side2 => exact (Kd.R_reads' HO_5.out).2.1); (case side3 => repeat (first | exact (Kd.R_reads' HO242.out).2.2 | (with_reducible refine Kd.C_alloc ?_ _) | (with_reducible refine Kd.C_drewN ?_ _) | (with_reducible refine Kd.C_drew ?_))); (case side4 => exact (Kd.R_reads' HO242.out).2.1); rintro e w' ⟨rfl, ⟨nd, rfl⟩⟩) | (go_at_call 9; (with_reducible refine (ndjqlaw20_awake.calls kj6  t244 _ ?side1 A24.out).mono ?_); (case side1 => exact GlbLaid.below HG.out (by repeat (first | (with_reducible first | exact HB.out | apply wA | apply wN | apply wD) | exact HB.out))); rintro e w27 ⟨rfl, hb⟩; have n0_ := Aside0.mk (Kd.R_below (by (with_reducible repeat (first | apply rA | apply rN | apply rD)); exact HO_5.out) hb); have n1_ := Aside0.mk (Kd.R_below (by (with_reducible repeat (first | apply rA | apply rN | apply rD)); exact HO242.out) hb); have n2_ := Aside0.mk (below_step (by repeat (first | (with_reducible first | exact HB.out | apply wA | apply wN | apply wD) | exact HB.out)) hb); clear HO_5; clear HO242; clear HB; have HO_5 := n0_; have HO242 := n1_; have HB := n2_; clear n0_ n1_ n2_; (try clear hb); (try clear hb2); (try clear hk); (try clear hi)))
        go_ret
        exact ⟨by first | rfl | (simp [errW_none, errW_some] <;> rfl) | (simp [*, errW_none, errW_some] <;> rfl), by repeat (first | (with_reducible first | exact HB.out | apply wA | apply wN | apply wD) | exact HB.out)⟩
       ·replace c23 := Bool.eq_false_iff.mpr c23
        subst c23
        have H1 : (some false) = some r := by rw [if_neg (show ¬ (false = true) by decide)] at H; exact H
        clear H; have H := H1; clear H1
        obtain rfl := Option.some.inj H
        obtain ⟨Ao28, co28, eo28⟩ := Kd.R_slice HO_5.out
        subst eo28
        obtain ⟨Ao29, co29, eo29⟩ := Kd.R_slice HO242.out
        subst eo29
        go_wp2_with (first | (go_at_call 12; (with_reducible refine (ndjqkeep_Spans.calls kj6 _ _ t234 _ _ t239 false _ ?side1 ?side2 ?side3 ?side4 A20.out).mono ?_); (case side1 => repeat (first | exact (Kd.R_reads' HO_5.out).2.2 | (with_reducible refine Kd.C_alloc ?_ _) | (with_reducible refine Kd.C_drewN ?_ _) | (with_reducible refine Kd.C_drew ?_))); (case side2 => exact (Kd.R_reads' HO_5.out).2.1); (case side3 => repeat (first | exact (Kd.R_reads' HO242.out).2.2 | (with_reducible refine Kd.C_alloc ?_ _) | (with_reducible refine Kd.C_drewN ?_ _) | (with_reducible refine Kd.C_drew ?_))); (case side4 => exact (Kd.R_reads' HO242.out).2.1); rintro e w' ⟨rfl, ⟨nd, rfl⟩⟩))
        go_ret
        exact ⟨by first | rfl | (simp [errW_none, errW_some] <;> rfl) | (simp [*, errW_none, errW_some] <;> rfl), by repeat (first | (with_reducible first | exact HB.out | apply wA | apply wN | apply wD) | exact HB.out)⟩
      ·rw [if_neg c19] at H
       have c19b0 : (t240 == 0) = false := beq_eq_false_iff_ne.mpr c19
       have c19b1 : (t240 != 0) = true := bne_iff_ne.mpr c19
       obtain rfl := Option.some.inj H
       go_wp2_with (first | ((with_reducible refine gate_callee (f := 22) rfl ?_); refine goesL_ (some 37) rfl rfl Tryd.func22 (by kernel_rfl) rfl #[.string a0] rfl (by (try simp only [List.map_toArray, List.map_cons, List.map_nil]); first | done | rfl | (simp only [List.length_drop, List.length_take]; rfl)) ?_; (with_reducible refine (split_Records.calls kj6 a0 t239 t240 _ ?side1 A17.out).mono ?_); (case side1 => exact GlbLaid.below HG.out (by repeat (first | (with_reducible first | exact HB.out | apply wA | apply wN | apply wD) | exact HB.out))); rintro e w30 ⟨v241, rfl, ho0, hb⟩; refine ⟨_, rfl, ?_⟩; have n0_ := Aside0.mk (Kd.R_elder' (by (with_reducible repeat (first | apply rA | apply rN | apply rD)); exact HO_5.out) (Kd.R_base ho0) hb); have n1_ := Aside0.mk (Kd.R_lower (Kd.R_new' ho0 (Kd.R_lt (by (with_reducible repeat (first | apply rA | apply rN | apply rD)); exact HO_5.out))) (below_size (by repeat (first | (with_reducible first | exact HB.out | apply wA | apply wN | apply wD) | exact HB.out)))); have n2_ := Aside0.mk (below_step (by repeat (first | (with_reducible first | exact HB.out | apply wA | apply wN | apply wD) | exact HB.out)) hb); clear HO_5; clear HB; have HO_5 := n0_; have HO242 := n1_; have HB := n2_; clear n0_ n1_ n2_; (try clear hb); (try clear hb2); (try clear hk); (try clear hi); (try clear ho0)))
       go_ret
       exact ⟨by first | rfl | (simp [errW_none, errW_some] <;> rfl) | (simp [*, errW_none, errW_some] <;> rfl), by repeat (first | (with_reducible first | exact HB.out | apply wA | apply wN | apply wD) | exact HB.out)⟩
     ·rw [if_neg c18] at H
      have c18b0 : (t235 == 0) = false := beq_eq_false_iff_ne.mpr c18
      have c18b1 : (t235 != 0) = true := bne_iff_ne.mpr c18
      obtain rfl := Option.some.inj H
      go_wp2_with (first | ((with_reducible refine gate_callee (f := 22) rfl ?_); refine goesL_ (some 37) rfl rfl Tryd.func22 (by kernel_rfl) rfl #[.string a0] rfl (by (try simp only [List.map_toArray, List.map_cons, List.map_nil]); first | done | rfl | (simp only [List.length_drop, List.length_take]; rfl)) ?_; (with_reducible refine (split_Records.calls kj6 a0 t239 t240 _ ?side1 A17.out).mono ?_); (case side1 => exact GlbLaid.below HG.out (by repeat (first | (with_reducible first | exact HB.out | apply wA | apply wN | apply wD) | exact HB.out))); rintro e w31 ⟨v241, rfl, ho0, hb⟩; refine ⟨_, rfl, ?_⟩; have n0_ := Aside0.mk (Kd.R_elder' (by (with_reducible repeat (first | apply rA | apply rN | apply rD)); exact HO_5.out) (Kd.R_base ho0) hb); have n1_ := Aside0.mk (Kd.R_lower (Kd.R_new' ho0 (Kd.R_lt (by (with_reducible repeat (first | apply rA | apply rN | apply rD)); exact HO_5.out))) (below_size (by repeat (first | (with_reducible first | exact HB.out | apply wA | apply wN | apply wD) | exact HB.out)))); have n2_ := Aside0.mk (below_step (by repeat (first | (with_reducible first | exact HB.out | apply wA | apply wN | apply wD) | exact HB.out)) hb); clear HO_5; clear HB; have HO_5 := n0_; have HO242 := n1_; have HB := n2_; clear n0_ n1_ n2_; (try clear hb); (try clear hb2); (try clear hk); (try clear hi); (try clear ho0)))
      go_ret
      exact ⟨by first | rfl | (simp [errW_none, errW_some] <;> rfl) | (simp [*, errW_none, errW_some] <;> rfl), by repeat (first | (with_reducible first | exact HB.out | apply wA | apply wN | apply wD) | exact HB.out)⟩

/-- THE ONE PURE STATEMENT of ndjqlaw20_ScanRecords: yours. -/
def ndjqlaw20_ScanRecords.Pure : Prop := ∀ (a0 : ByteArray) (a1 : Int), a0.size ≤ 140737488351232 → (Lit.int .i64 a1).wf = true → ∃ k, ndjqlaw20_ScanRecords.f k a0 a1 = some true
theorem ndjqlaw20_ScanRecords.walk (P : ndjqlaw20_ScanRecords.Pure) (a0 : ByteArray) (a1 : Int) (w : World) (w0 : a0.size ≤ 140737488351232) (w1 : (Lit.int .i64 a1).wf = true) (hG : GlbLaid w) :
  Calls Tryd.prog 5 #[.string a0, .int .i64 a1] w fun e w' => e = .returned (.bool true) ∧ Below w.heap.size w w' := by
 obtain ⟨k, h⟩ := P a0 a1 w0 w1
 refine (ndjqlaw20_ScanRecords.calls k a0 a1 true w hG h).mono ?_
 rintro e w' ⟨rfl, hd⟩
 exact ⟨rfl, hd⟩

end Go.Proofs.YtkhnifehcnlpjaaDoor.QScanRecords
