-- by a program of this session (print2.py): the machine's side of one law; Lean checks it.
import Derived.Test.YtkhnifehcnlpjaaDoorQScanCarryx0
import Derived.Test.YtkhnifehcnlpjaaDoorQScanCarryx2
import Derived.Test.YtkhnifehcnlpjaaDoorQScanCarryx4
import Derived.Test.YtkhnifehcnlpjaaDoorQScanCarryx6
import Derived.Test.YtkhnifehcnlpjaaDoorQScanCarryx7
namespace Go.Proofs.YtkhnifehcnlpjaaDoor.QScanCarry
open Go.RowKit Go.Proofs.YtkhnifehcnlpjaaDoorW.PrintWords Go.Proofs.YtkhnifehcnlpjaaDoorW.PrintLast Go.Proofs.YtkhnifehcnlpjaaDoorW.PrintMore
attribute [local go_sem] max2_int min2_int max_two min_two max_three min_three max_four min_four   -- for this text's walks alone
set_option linter.unusedVariables false
set_option linter.unusedSimpArgs false

/-! ### ndjqlaw20_ScanCarry: function 6 -/
mutual
def ndjqlaw20_ScanCarry.j0 : Nat → ByteArray → List Int → Bool → Option (Bool)
 | 0, _, _, _ => none
 | k + 1, x0, x1, x26 => if x26 = true then ((ndjqlaw20_awake.f k).bind fun t233 => (some t233)) else (ndjqlaw20_ScanCarry.l0 k x0 x1 0 0 0 ([] : List (S51)) 0)
def ndjqlaw20_ScanCarry.l0 : Nat → ByteArray → List Int → Int → Int → Int → List (S51) → Int → Option (Bool)
 | 0, _, _, _, _, _, _, _ => none
 | k + 1, x0, x1, x5, x6, x7, x8, x9 => if x9 ≤ (x1.length : Int) then (if x9 < (x1.length : Int) then (if 0 ≤ x9 then ((ndjqkeep_Mod.f (rd x1 x9) (wrap64 ((wrap64 ((x0.size : Int) - x5)) + 1))).bind fun t235 => (ndjqlaw20_ScanCarry.j2 k x0 x1 x5 x6 x7 x8 x9 (wrap64 (x5 + t235)))) else (none)) else (ndjqlaw20_ScanCarry.j2 k x0 x1 x5 x6 x7 x8 x9 (x0.size : Int))) else (if x7 < (x0.size : Int) then (if x8.length < 8796093022208 then ((split_Records.f k x0).bind fun bt263 => (if bt263.2 = 0 then ((ndjqkeep_Spans.f k (x8 ++ [(⟨x7, (x0.size : Int)⟩ : S51)]) bt263.1).bind fun t267 => (if t267 = true then ((ndjqlaw20_awake.f k).bind fun t268 => (some t268)) else (some false))) else (some false))) else (none)) else ((split_Records.f k x0).bind fun bt269 => (if bt269.2 = 0 then ((ndjqkeep_Spans.f k x8 bt269.1).bind fun t273 => (if t273 = true then ((ndjqlaw20_awake.f k).bind fun t274 => (some t274)) else (some false))) else (some false))))
def ndjqlaw20_ScanCarry.j2 : Nat → ByteArray → List Int → Int → Int → Int → List (S51) → Int → Int → Option (Bool)
 | 0, _, _, _, _, _, _, _, _ => none
 | k + 1, x0, x1, x5, x6, x7, x8, x9, x10 => if 0 ≤ x5 then (if x5 ≤ x10 then (if x10 ≤ (x0.size : Int) then ((automaton_Summarize.f k (x0.extract (x5 : Int).toNat (x10 : Int).toNat)).bind fun bt236 => ((scan_Resolve.f k x5 x6 x7 bt236.1 bt236.2.1 bt236.2.2.1 bt236.2.2.2.1 bt236.2.2.2.2.1 bt236.2.2.2.2.2.1 bt236.2.2.2.2.2.2.1).bind fun bt251 => (if bt236.2.2.2.2.2.2.2 = 0 then (if bt251.2.2.2 = 0 then (if bt251.2.1 < 0 then (some false) else (if bt251.2.1 > 2 then (some false) else (if bt251.2.2.1 < x7 then (some false) else (if bt251.2.2.1 > x10 then (some false) else (if x8.length + bt251.1.length < 8796093022208 then (ndjqlaw20_ScanCarry.l0 k x0 x1 x10 bt251.2.1 bt251.2.2.1 (x8 ++ bt251.1) (wrap64 (x9 + 1))) else (none)))))) else (some false)) else (some false)))) else (none)) else (none)) else (none)
end
def ndjqlaw20_ScanCarry.f (k : Nat) (a0 : ByteArray) (l1 : List Int) : Option (Bool) := if (a0.size : Int) > 150 then (ndjqlaw20_ScanCarry.j0 k a0 l1 true) else (ndjqlaw20_ScanCarry.j0 k a0 l1 (decide ((l1.length : Int) > 20)))
theorem ndjqlaw20_ScanCarry.mono_l : ∀ k, (∀ y0 y1 y2, LeO (ndjqlaw20_ScanCarry.j0 k y0 y1 y2) (ndjqlaw20_ScanCarry.j0 (k + 1) y0 y1 y2)) ∧ (∀ y0 y1 y2 y3 y4 y5 y6, LeO (ndjqlaw20_ScanCarry.l0 k y0 y1 y2 y3 y4 y5 y6) (ndjqlaw20_ScanCarry.l0 (k + 1) y0 y1 y2 y3 y4 y5 y6)) ∧ (∀ y0 y1 y2 y3 y4 y5 y6 y7, LeO (ndjqlaw20_ScanCarry.j2 k y0 y1 y2 y3 y4 y5 y6 y7) (ndjqlaw20_ScanCarry.j2 (k + 1) y0 y1 y2 y3 y4 y5 y6 y7))
 | 0 => ⟨fun _ _ _ r h => by simp [ndjqlaw20_ScanCarry.j0] at h, fun _ _ _ _ _ _ _ r h => by simp [ndjqlaw20_ScanCarry.l0] at h, fun _ _ _ _ _ _ _ _ r h => by simp [ndjqlaw20_ScanCarry.j2] at h⟩
 | k + 1 => by
  obtain ⟨ih0, ih1, ih2⟩ := ndjqlaw20_ScanCarry.mono_l k
  refine ⟨?_, ?_, ?_⟩
  ·intro y0 y1 y2
   unfold ndjqlaw20_ScanCarry.j0
   repeat' first
   | (with_reducible exact ih0 _ _ _)
   | (with_reducible exact ih1 _ _ _ _ _ _ _)
   | (with_reducible exact ih2 _ _ _ _ _ _ _ _)
   | (with_reducible exact automaton_Summarize.mono _ _)
   | (with_reducible exact ndjqkeep_Spans.mono _ _ _)
   | (with_reducible exact ndjqlaw20_awake.mono _)
   | (with_reducible exact scan_Resolve.mono _ _ _ _ _ _ _ _ _ _ _)
   | (with_reducible exact split_Records.mono _ _)
   | (with_reducible exact LeO.refl _)
   | (with_reducible exact LeO.none _)
   | (with_reducible refine LeO.ite ?_ ?_)
   | (with_reducible refine LeO.bind ?_ (fun _ => ?_))
   | exact ih0 _ _ _
   | exact ih1 _ _ _ _ _ _ _
   | exact ih2 _ _ _ _ _ _ _ _
   | exact automaton_Summarize.mono _ _
   | exact ndjqkeep_Spans.mono _ _ _
   | exact ndjqlaw20_awake.mono _
   | exact scan_Resolve.mono _ _ _ _ _ _ _ _ _ _ _
   | exact split_Records.mono _ _
   | exact LeO.none _
   | refine LeO.ite ?_ ?_
   | refine LeO.bind ?_ (fun _ => ?_)
  ·intro y0 y1 y2 y3 y4 y5 y6
   unfold ndjqlaw20_ScanCarry.l0
   repeat' first
   | (with_reducible exact ih0 _ _ _)
   | (with_reducible exact ih1 _ _ _ _ _ _ _)
   | (with_reducible exact ih2 _ _ _ _ _ _ _ _)
   | (with_reducible exact automaton_Summarize.mono _ _)
   | (with_reducible exact ndjqkeep_Spans.mono _ _ _)
   | (with_reducible exact ndjqlaw20_awake.mono _)
   | (with_reducible exact scan_Resolve.mono _ _ _ _ _ _ _ _ _ _ _)
   | (with_reducible exact split_Records.mono _ _)
   | (with_reducible exact LeO.refl _)
   | (with_reducible exact LeO.none _)
   | (with_reducible refine LeO.ite ?_ ?_)
   | (with_reducible refine LeO.bind ?_ (fun _ => ?_))
   | exact ih0 _ _ _
   | exact ih1 _ _ _ _ _ _ _
   | exact ih2 _ _ _ _ _ _ _ _
   | exact automaton_Summarize.mono _ _
   | exact ndjqkeep_Spans.mono _ _ _
   | exact ndjqlaw20_awake.mono _
   | exact scan_Resolve.mono _ _ _ _ _ _ _ _ _ _ _
   | exact split_Records.mono _ _
   | exact LeO.none _
   | refine LeO.ite ?_ ?_
   | refine LeO.bind ?_ (fun _ => ?_)
  ·intro y0 y1 y2 y3 y4 y5 y6 y7
   unfold ndjqlaw20_ScanCarry.j2
   repeat' first
   | (with_reducible exact ih0 _ _ _)
   | (with_reducible exact ih1 _ _ _ _ _ _ _)
   | (with_reducible exact ih2 _ _ _ _ _ _ _ _)
   | (with_reducible exact automaton_Summarize.mono _ _)
   | (with_reducible exact ndjqkeep_Spans.mono _ _ _)
   | (with_reducible exact ndjqlaw20_awake.mono _)
   | (with_reducible exact scan_Resolve.mono _ _ _ _ _ _ _ _ _ _ _)
   | (with_reducible exact split_Records.mono _ _)
   | (with_reducible exact LeO.refl _)
   | (with_reducible exact LeO.none _)
   | (with_reducible refine LeO.ite ?_ ?_)
   | (with_reducible refine LeO.bind ?_ (fun _ => ?_))
   | exact ih0 _ _ _
   | exact ih1 _ _ _ _ _ _ _
   | exact ih2 _ _ _ _ _ _ _ _
   | exact automaton_Summarize.mono _ _
   | exact ndjqkeep_Spans.mono _ _ _
   | exact ndjqlaw20_awake.mono _
   | exact scan_Resolve.mono _ _ _ _ _ _ _ _ _ _ _
   | exact split_Records.mono _ _
   | exact LeO.none _
   | refine LeO.ite ?_ ?_
   | refine LeO.bind ?_ (fun _ => ?_)
theorem ndjqlaw20_ScanCarry.mono : ∀ a0 a1 k, LeO (ndjqlaw20_ScanCarry.f k a0 a1) (ndjqlaw20_ScanCarry.f (k + 1) a0 a1) := by
 intro a0 a1 k
 obtain ⟨ih0, ih1, ih2⟩ := ndjqlaw20_ScanCarry.mono_l k
 unfold ndjqlaw20_ScanCarry.f
 repeat' first
   | (with_reducible exact ih0 _ _ _)
   | (with_reducible exact ih1 _ _ _ _ _ _ _)
   | (with_reducible exact ih2 _ _ _ _ _ _ _ _)
   | (with_reducible exact automaton_Summarize.mono _ _)
   | (with_reducible exact ndjqkeep_Spans.mono _ _ _)
   | (with_reducible exact ndjqlaw20_awake.mono _)
   | (with_reducible exact scan_Resolve.mono _ _ _ _ _ _ _ _ _ _ _)
   | (with_reducible exact split_Records.mono _ _)
   | (with_reducible exact LeO.refl _)
   | (with_reducible exact LeO.none _)
   | (with_reducible refine LeO.ite ?_ ?_)
   | (with_reducible refine LeO.bind ?_ (fun _ => ?_))
   | exact ih0 _ _ _
   | exact ih1 _ _ _ _ _ _ _
   | exact ih2 _ _ _ _ _ _ _ _
   | exact automaton_Summarize.mono _ _
   | exact ndjqkeep_Spans.mono _ _ _
   | exact ndjqlaw20_awake.mono _
   | exact scan_Resolve.mono _ _ _ _ _ _ _ _ _ _ _
   | exact split_Records.mono _ _
   | exact LeO.none _
   | refine LeO.ite ?_ ?_
   | refine LeO.bind ?_ (fun _ => ?_)
set_option maxHeartbeats 8000000 in
set_option maxRecDepth 100000 in
theorem ndjqlaw20_ScanCarry.calls (k : Nat) (a0 : ByteArray) (A1 : Option Addr) (c1 : Nat) (l1 : List Int) (r : Bool) (w : World) (hr1 : Kd.C (Kd.int .i64) w A1 l1.length l1) (hc1 : l1.length ≤ c1) (hG : GlbLaid w) (h : ndjqlaw20_ScanCarry.f k a0 l1 = some r) :
  Calls Tryd.prog 6 #[.string a0, .slice A1 l1.length c1] w fun e w' => e = .returned (.bool r) ∧ Below w.heap.size w w' := by
 have hu26 := Tryd.underlying26
 have hu51 := Tryd.underlying51
 have HR1 := Aside0.mk hr1
 have HC1 := Aside0.mk hc1
 clear hr1 hc1
 have HG := Aside0.mk hG
 clear hG
 have HB := Aside0.mk (Below.refl w.heap.size w)
 have H : (if (a0.size : Int) > 150 then (ndjqlaw20_ScanCarry.j0 k a0 l1 true) else (ndjqlaw20_ScanCarry.j0 k a0 l1 (decide ((l1.length : Int) > 20)))) = some r := h
 clear h
 have HC3 := Aside0.mk H
 clear H
 go_enter Tryd.func6, Tryd.ntmps6
 go_upto_region 1 with (fail)
 go_cut [26] (fun v26 wc => ∃ (kq : Nat) (x26_2 : Bool), v26 = .bool x26_2 ∧ Aside0 (ndjqlaw20_ScanCarry.j0 kq a0 l1 x26_2 = some r) ∧ Aside0 (kq ≤ k) ∧ Aside0 (Below w.heap.size w wc))
 case first =>
  have H := HC3.out
  clear HC3
  by_cases c4 : (a0.size : Int) > 150
  ·rw [if_pos c4] at H
   have c4b0 : decide (150 < (a0.size : Int)) = true := decide_eq_true c4
   have c4b1 : decide (150 < a0.size) = true := decide_eq_true (by omega)
   clear c4
   (first | rw [c4b0] | (simp only [i64_w, i32_w]; rw [c4b0]) | skip)
   have H' := Aside0.mk H
   clear H
   go_wp2
   go_meet
   case rel => exact ⟨_, (true), (by first | rfl | (simp; done) | (simp [*]; done)), H', ⟨by first | omega | exact Nat.le_refl _⟩, ⟨by repeat (first | (with_reducible first | exact HB.out | apply wA | apply wN | apply wD) | exact HB.out)⟩⟩
  ·rw [if_neg c4] at H
   have c4b0 : decide (150 < (a0.size : Int)) = false := decide_eq_false c4
   have c4b1 : decide (150 < a0.size) = false := decide_eq_false (by omega)
   clear c4
   (first | rw [c4b0] | (simp only [i64_w, i32_w]; rw [c4b0]) | skip)
   have H' := Aside0.mk H
   clear H
   go_wp2
   go_meet
   case rel => exact ⟨_, (decide ((l1.length : Int) > 20)), (by first | rfl | (simp; done) | (simp [*]; done)), H', ⟨by first | omega | exact Nat.le_refl _⟩, ⟨by repeat (first | (with_reducible first | exact HB.out | apply wA | apply wN | apply wD) | exact HB.out)⟩⟩
 case rest =>
  clear HC3
  (try clear c1); (try clear p2); (try clear c4); (try clear c4b0); (try clear c4b1)
  obtain ⟨kq, x26_2, rfl, HA, HJ2, HB⟩ := hcut
  cases kq with
  | zero => exact absurd HA.out (by simp [ndjqlaw20_ScanCarry.j0])
  | succ kj2 =>
   have H := HA.out
   clear HA
   simp only [ndjqlaw20_ScanCarry.j0] at H
   by_cases c5 : x26_2 = true
   ·subst c5
    have H1 : ((ndjqlaw20_awake.f kj2).bind fun t233 => (some t233)) = some r := by rw [if_pos rfl] at H; exact H
    clear H; have H := H1; clear H1
    replace H := Option.bind_eq_some_iff.mp H
    obtain ⟨t233, A60, H⟩ := H
    replace H : (some t233) = some r := H
    have A6 := Aside0.mk A60
    clear A60
    obtain rfl := Option.some.inj H
    go_wp2_with (first | ((with_reducible refine gate_callee (f := 9) rfl ?_); refine goesL_ (some 27) rfl rfl Tryd.func9 (by kernel_rfl) rfl #[] rfl (by (try simp only [List.map_toArray, List.map_cons, List.map_nil]); first | done | rfl | (simp only [List.length_drop, List.length_take]; rfl)) ?_; (with_reducible refine (ndjqlaw20_awake.calls kj2  t233 _ ?side1 A6.out).mono ?_); (case side1 => exact GlbLaid.below HG.out (by repeat (first | (with_reducible first | exact HB.out | apply wA | apply wN | apply wD) | exact HB.out))); rintro e w7 ⟨rfl, hb⟩; refine ⟨_, rfl, ?_⟩; have n0_ := Aside0.mk (below_step (by repeat (first | (with_reducible first | exact HB.out | apply wA | apply wN | apply wD) | exact HB.out)) hb); clear HB; have HB := n0_; clear n0_; (try clear hb); (try clear hb2); (try clear hk); (try clear hi)))
    go_ret
    exact ⟨by first | rfl | (simp [errW_none, errW_some] <;> rfl) | (simp [*, errW_none, errW_some] <;> rfl), by repeat (first | (with_reducible first | exact HB.out | apply wA | apply wN | apply wD) | exact HB.out)⟩
   ·replace c5 := Bool.eq_false_iff.mpr c5
    subst c5
    have H1 : (ndjqlaw20_ScanCarry.l0 kj2 a0 l1 0 0 0 ([] : List (S51)) 0) = some r := by rw [if_neg (show ¬ (false = true) by decide)] at H; exact H
    clear H; have H := H1; clear H1
    have H' := Aside0.mk H
    clear H
    go_wp2
    go_loopg [5, 6, 7, 8, 9] kj2 (fun kq v5 v6 v7 v8 v9 w' => ∃ (x5_2 : Int) (x6_2 : Int) (x7_2 : Int) (x8_2 : List (S51)) (x9_2 : Int), v5 = .int .i64 x5_2 ∧ v6 = .int .i64 x6_2 ∧ v7 = .int .i64 x7_2 ∧ v9 = .int .i64 x9_2 ∧ Aside0 (ndjqlaw20_ScanCarry.l0 kq a0 l1 x5_2 x6_2 x7_2 x8_2 x9_2 = some r) ∧ Aside0 (kq ≤ kj2) ∧ Aside0 (Kd.R k51 51 w' w.heap.size (fun _ => True) v8 x8_2) ∧ Aside0 (Below w.heap.size w w'))
    case atStart => exact ⟨(0), (0), (0), (([] : List (S51))), (0), (by first | rfl | (simp; done) | (simp [*]; done)), (by first | rfl | (simp; done) | (simp [*]; done)), (by first | rfl | (simp; done) | (simp [*]; done)), (by first | rfl | (simp; done) | (simp [*]; done)), H', ⟨Nat.le_refl _⟩, ⟨by first | exact Kd.R_nil _ _ _ _ _ | exact Kd.N_nil _ _ _ _ _ | exact Kd.V_nil _ _ _ _ _ | exact Kd.Q_nil _ _ _ _ _ | exact Kd.S_nil _ _ _ _ _⟩, ⟨by repeat (first | (with_reducible first | exact HB.out | apply wA | apply wN | apply wD) | exact HB.out)⟩⟩
    case round =>
     clear H'
     (try clear c5); (try clear c6)
     obtain ⟨x5_2, x6_2, x7_2, x8_2, x9_2, rfl, rfl, rfl, rfl, HA, HK2, HO_8, HB⟩ := hrel
     cases gk with
     | zero => exact absurd HA.out (by simp [ndjqlaw20_ScanCarry.l0])
     | succ k2 =>
      have H := HA.out
      clear HA
      simp only [ndjqlaw20_ScanCarry.l0] at H
      by_cases c8 : x9_2 ≤ (l1.length : Int)
      ·rw [if_pos c8] at H
       have c8b0 : decide (x9_2 ≤ (l1.length : Int)) = true := decide_eq_true c8
       clear c8
       have HC9 := Aside0.mk H
       clear H
       go_upto_if 39 with (fail)
       go_cut [10] (fun v10 wc => ∃ (kq : Nat) (x10_8 : Int), v10 = .int .i64 x10_8 ∧ Aside0 (ndjqlaw20_ScanCarry.j2 kq a0 l1 x5_2 x6_2 x7_2 x8_2 x9_2 x10_8 = some r) ∧ Aside0 (kq ≤ k2) ∧ Aside0 (Kd.R k51 51 wc w.heap.size (fun _ => True) u8 x8_2) ∧ Aside0 (Below w.heap.size w wc))
       case first =>
        have H := HC9.out
        clear HC9
        by_cases c10 : x9_2 < (l1.length : Int)
        ·rw [if_pos c10] at H
         have c10b0 : decide (x9_2 < (l1.length : Int)) = true := decide_eq_true c10
         clear c10
         (first | rw [c10b0] | (simp only [i64_w, i32_w]; rw [c10b0]) | skip)
         by_cases c11 : 0 ≤ x9_2
         ·rw [if_pos c11] at H
          have c11b0 : decide (0 ≤ x9_2) = true := decide_eq_true c11
          clear c11
          replace H := Option.bind_eq_some_iff.mp H
          obtain ⟨t235, A120, H⟩ := H
          replace H : (ndjqlaw20_ScanCarry.j2 k2 a0 l1 x5_2 x6_2 x7_2 x8_2 x9_2 (wrap64 (x5_2 + t235))) = some r := H
          have A12 := Aside0.mk A120
          clear A120
          have H' := Aside0.mk H
          clear H
          have p234 : 0 ≤ (x9_2 : Int) := of_decide_eq_true (by first | (with_reducible assumption) | assumption)
          have q234 : x9_2 < (l1.length : Int) := of_decide_eq_true (by first | (with_reducible assumption) | assumption)
          obtain ⟨ad234, e234, hx234_0⟩ := Kd.at_int HR1.out x9_2 p234 q234
          cases e234
          replace hx234_0 := (HB.out.cell (World.block_lt_of_cell? w _ hx234_0)).trans hx234_0
          replace p234 := eq_true p234; replace q234 := eq_true q234
          go_wp2_with (first | ((with_reducible refine gate_callee (f := 23) rfl ?_); refine goesL_ (some 50) rfl rfl Tryd.func23 (by kernel_rfl) rfl #[.int .i64 (rd l1 x9_2), .int .i64 (wrap64 ((wrap64 ((a0.size : Int) - x5_2)) + 1))] rfl (by (try simp only [List.map_toArray, List.map_cons, List.map_nil]); first | done | rfl | (simp only [List.length_drop, List.length_take]; rfl)) ?_; (with_reducible refine (ndjqkeep_Mod.calls (rd l1 x9_2) (wrap64 ((wrap64 ((a0.size : Int) - x5_2)) + 1)) t235 _ A12.out).mono ?_); rintro e w' ⟨rfl, ⟨nd, rfl⟩⟩; refine ⟨_, rfl, ?_⟩))
          go_meet
          case rel => exact ⟨_, (wrap64 (x5_2 + t235)), (by first | rfl | (simp; done) | (simp [*]; done)), H', ⟨by have := HJ2.out; have := HK2.out; first | omega | exact Nat.le_refl _⟩, ⟨by (with_reducible repeat (first | apply rA | apply rN | apply rD)); exact HO_8.out⟩, ⟨by repeat (first | (with_reducible first | exact HB.out | apply wA | apply wN | apply wD) | exact HB.out)⟩⟩
         ·rw [if_neg c11] at H
          exact absurd H (by simp)
        ·rw [if_neg c10] at H
         have c10b0 : decide (x9_2 < (l1.length : Int)) = false := decide_eq_false c10
         clear c10
         (first | rw [c10b0] | (simp only [i64_w, i32_w]; rw [c10b0]) | skip)
         have H' := Aside0.mk H
         clear H
         go_wp2
         go_meet
         case rel => exact ⟨_, ((a0.size : Int)), (by first | rfl | (simp; done) | (simp [*]; done)), H', ⟨by have := HJ2.out; have := HK2.out; first | omega | exact Nat.le_refl _⟩, ⟨by (with_reducible repeat (first | apply rA | apply rN | apply rD)); exact HO_8.out⟩, ⟨by repeat (first | (with_reducible first | exact HB.out | apply wA | apply wN | apply wD) | exact HB.out)⟩⟩
       case rest =>
        clear HC9
        (try clear c2); (try clear q2); (try clear hx2); (try clear p6); (try clear c8); (try clear c8b0); (try clear c9); (try clear c10); (try clear c10b0); (try clear c11); (try clear c11b0); (try clear hx234_0); (try clear p234); (try clear q234)
        obtain ⟨kq, x10_8, rfl, HA, HJ8, HO_8, HB⟩ := hcut
        cases kq with
        | zero => exact absurd HA.out (by simp [ndjqlaw20_ScanCarry.j2])
        | succ kj8 =>
         have H := HA.out
         clear HA
         simp only [ndjqlaw20_ScanCarry.j2] at H
         by_cases c13 : 0 ≤ x5_2
         ·rw [if_pos c13] at H
          have c13b0 := eq_true c13
          have c13b1 : decide (0 ≤ x5_2) = true := decide_eq_true c13
          clear c13
          by_cases c14 : x5_2 ≤ x10_8
          ·rw [if_pos c14] at H
           have c14b0 := eq_true c14
           have c14b1 : decide (x5_2 ≤ x10_8) = true := decide_eq_true c14
           clear c14
           by_cases c15 : x10_8 ≤ (a0.size : Int)
           ·rw [if_pos c15] at H
            have c15b0 := eq_true c15
            have c15b1 : decide (x10_8 ≤ (a0.size : Int)) = true := decide_eq_true c15
            clear c15
            replace H := Option.bind_eq_some_iff.mp H
            obtain ⟨⟨t236, t237, t238, t239, t240, t243, t246, t249⟩, A160, H⟩ := H
            replace H : ((scan_Resolve.f kj8 x5_2 x6_2 x7_2 t236 t237 t238 t239 t240 t243 t246).bind fun bt251 => (if t249 = 0 then (if bt251.2.2.2 = 0 then (if bt251.2.1 < 0 then (some false) else (if bt251.2.1 > 2 then (some false) else (if bt251.2.2.1 < x7_2 then (some false) else (if bt251.2.2.1 > x10_8 then (some false) else (if x8_2.length + bt251.1.length < 8796093022208 then (ndjqlaw20_ScanCarry.l0 kj8 a0 l1 x10_8 bt251.2.1 bt251.2.2.1 (x8_2 ++ bt251.1) (wrap64 (x9_2 + 1))) else (none)))))) else (some false)) else (some false))) = some r := H
            have A16 := Aside0.mk A160
            clear A160
            replace H := Option.bind_eq_some_iff.mp H
            obtain ⟨⟨t251, t254, t255, t256⟩, A170, H⟩ := H
            replace H : (if t249 = 0 then (if t256 = 0 then (if t254 < 0 then (some false) else (if t254 > 2 then (some false) else (if t255 < x7_2 then (some false) else (if t255 > x10_8 then (some false) else (if x8_2.length + t251.length < 8796093022208 then (ndjqlaw20_ScanCarry.l0 kj8 a0 l1 x10_8 t254 t255 (x8_2 ++ t251) (wrap64 (x9_2 + 1))) else (none)))))) else (some false)) else (some false)) = some r := H
            have A17 := Aside0.mk A170
            clear A170
            have HF18 := Aside0.mk H
            clear H
            go_wp2_with (first | ((with_reducible refine gate_callee (f := 24) rfl ?_); refine goesL_ (some 57) rfl rfl Tryd.func24 (by kernel_rfl) rfl #[.string (a0.extract (x5_2 : Int).toNat (x10_8 : Int).toNat)] rfl (by (try simp only [List.map_toArray, List.map_cons, List.map_nil]); first | done | rfl | (simp only [List.length_drop, List.length_take]; rfl)) ?_; (with_reducible refine (automaton_Summarize.calls kj8 (a0.extract (x5_2 : Int).toNat (x10_8 : Int).toNat) t236 t237 t238 t239 t240 t243 t246 t249 _ ?side1 A16.out).mono ?_); (case side1 => exact GlbLaid.below HG.out (by repeat (first | (with_reducible first | exact HB.out | apply wA | apply wN | apply wD) | exact HB.out))); rintro e w19 ⟨v241, v244, v247, rfl, ho0, ho1, ho2, hb⟩; refine ⟨_, rfl, ?_⟩; have n0_ := Aside0.mk (Kd.R_below (by (with_reducible repeat (first | apply rA | apply rN | apply rD)); exact HO_8.out) hb); have n1_ := Aside0.mk (Kd.R_lower ho0 (below_size (by repeat (first | (with_reducible first | exact HB.out | apply wA | apply wN | apply wD) | exact HB.out)))); have n2_ := Aside0.mk (Kd.R_lower ho1 (below_size (by repeat (first | (with_reducible first | exact HB.out | apply wA | apply wN | apply wD) | exact HB.out)))); have n3_ := Aside0.mk (Kd.R_lower ho2 (below_size (by repeat (first | (with_reducible first | exact HB.out | apply wA | apply wN | apply wD) | exact HB.out)))); have n4_ := Aside0.mk (below_step (by repeat (first | (with_reducible first | exact HB.out | apply wA | apply wN | apply wD) | exact HB.out)) hb); clear HO_8; clear HB; have HO_8 := n0_; have HO242 := n1_; have HO245 := n2_; have HO248 := n3_; have HB := n4_; clear n0_ n1_ n2_ n3_ n4_; (try clear hb); (try clear hb2); (try clear hk); (try clear hi); (try clear ho0); (try clear ho1); (try clear ho2)) | ((with_reducible refine gate_dst (N := 11) rfl ?_); (try (refine gate_guard (by rfl) ?_; dsimp only)); refine box_event ?hg (N := 11) ?hd (cs := #[.int .i64 0, .int .i64 0, .int .i64 0, .int .i64 0, .slice none 0 0, .slice none 0 0, .slice none 0 0]) (t := 26) ?hr ?_; (case hd => rfl); (case hg => rfl); (case hr => first | (go_simp; done) | (go_simp; rfl)); intro gb250 hg w20 hbox hb; have n0_ := Aside0.mk (Kd.R_below (by (with_reducible repeat (first | apply rA | apply rN | apply rD)); exact HO_8.out) hb); have n1_ := Aside0.mk (Kd.R_below (by (with_reducible repeat (first | apply rA | apply rN | apply rD)); exact HO242.out) hb); have n2_ := Aside0.mk (Kd.R_below (by (with_reducible repeat (first | apply rA | apply rN | apply rD)); exact HO245.out) hb); have n3_ := Aside0.mk (Kd.R_below (by (with_reducible repeat (first | apply rA | apply rN | apply rD)); exact HO248.out) hb); have n4_ := Aside0.mk (below_step (by repeat (first | (with_reducible first | exact HB.out | apply wA | apply wN | apply wD) | exact HB.out)) hb); have n5_ := Aside0.mk (hbox); have n6_ := Aside0.mk ((by rw [hg]; exact (below_size (by repeat (first | (with_reducible first | exact HB.out | apply wA | apply wN | apply wD) | exact HB.out))) : w.heap.size ≤ gb250)); have n7_ := n6_; clear HO_8; clear HO242; clear HO245; clear HO248; clear HB; have HO_8 := n0_; have HO242 := n1_; have HO245 := n2_; have HO248 := n3_; have HB := n4_; have BK250 := n5_; have GW250 := n6_; have GE250 := n7_; clear n0_ n1_ n2_ n3_ n4_ n5_ n6_ n7_; clear hb hbox hg; have hcz21_0 : w20.cell? ⟨gb250, 0, none⟩ = some (.int .i64 0) := (blk_cell BK250.out 0).trans rfl; have hcz21_1 : w20.cell? ⟨gb250, 1, none⟩ = some (.int .i64 0) := (blk_cell BK250.out 1).trans rfl; have hcz21_2 : w20.cell? ⟨gb250, 2, none⟩ = some (.int .i64 0) := (blk_cell BK250.out 2).trans rfl; have hcz21_3 : w20.cell? ⟨gb250, 3, none⟩ = some (.int .i64 0) := (blk_cell BK250.out 3).trans rfl; have hcz21_4 : w20.cell? ⟨gb250, 4, none⟩ = some (.slice none 0 0) := (blk_cell BK250.out 4).trans rfl; have hcz21_5 : w20.cell? ⟨gb250, 5, none⟩ = some (.slice none 0 0) := (blk_cell BK250.out 5).trans rfl; have hcz21_6 : w20.cell? ⟨gb250, 6, none⟩ = some (.slice none 0 0) := (blk_cell BK250.out 6).trans rfl; have hfz21_0 := blk_frozen BK250.out 0; have hfz21_1 := blk_frozen BK250.out 1; have hfz21_2 := blk_frozen BK250.out 2; have hfz21_3 := blk_frozen BK250.out 3; have hfz21_4 := blk_frozen BK250.out 4; have hfz21_5 := blk_frozen BK250.out 5; have hfz21_6 := blk_frozen BK250.out 6; obtain ⟨Ao22, co22, eo22⟩ := Kd.R_slice HO242.out; subst eo22; obtain ⟨Ao23, co23, eo23⟩ := Kd.R_slice HO245.out; subst eo23; obtain ⟨Ao24, co24, eo24⟩ := Kd.R_slice HO248.out; subst eo24))
            have H := HF18.out
            clear HF18
            by_cases c25 : t249 = 0
            ·rw [if_pos c25] at H
             have c25b0 : (t249 == 0) = true := beq_iff_eq.mpr c25
             have c25b1 : (t249 != 0) = false := bne_eq_false_iff_eq.mpr c25
             clear c25
             by_cases c26 : t256 = 0
             ·rw [if_pos c26] at H
              have c26b0 : (t256 == 0) = true := beq_iff_eq.mpr c26
              have c26b1 : (t256 != 0) = false := bne_eq_false_iff_eq.mpr c26
              clear c26
              by_cases c27 : t254 < 0
              ·rw [if_pos c27] at H
               have c27b0 : decide (t254 < 0) = true := decide_eq_true c27
               clear c27
               obtain rfl := Option.some.inj H
               go_wp2_with (first | (go_at_call 10; (with_reducible refine (scan_Resolve.calls kj8 x5_2 x6_2 x7_2 t236 t237 t238 t239 _ _ t240 _ _ t243 _ _ t246 t251 t254 t255 t256 _ ?side1 ?side2 ?side3 ?side4 ?side5 ?side6 A17.out).mono ?_); (case side1 => refine (Kd.R_reads' (e := 3) (base := w.heap.size) (ok := fun k_ => (some k_ ≠ (.slice Ao23 t243.length co23 : Value).ownBlock ∧ some k_ ≠ (.slice Ao24 t246.length co24 : Value).ownBlock)) (n := t240.length) (c := co22) ?_).2.2; exact (by (with_reducible repeat (first | apply rA | apply rN | apply rD)); exact (Kd.R_mono (R_fars7 gb250 (Kd.R_types HO242.out BK250.out (by decide)) (fun _ hk => hk.2) (.int .i64 t236) (.int .i64 t237) (.int .i64 t238) (.int .i64 t239) (.slice Ao22 t240.length co22) (.slice Ao23 t243.length co23) (.slice Ao24 t246.length co24)) (fun _ h_ => h_.1)))); (case side2 => exact (Kd.R_reads' HO242.out).2.1); (case side3 => refine (Kd.R_reads' (e := 3) (base := w.heap.size) (ok := fun k_ => (some k_ ≠ (.slice Ao22 t240.length co22 : Value).ownBlock ∧ some k_ ≠ (.slice Ao24 t246.length co24 : Value).ownBlock)) (n := t243.length) (c := co23) ?_).2.2; exact (by (with_reducible repeat (first | apply rA | apply rN | apply rD)); exact (Kd.R_mono (R_fars7 gb250 (Kd.R_types HO245.out BK250.out (by decide)) (fun _ hk => hk.2) (.int .i64 t236) (.int .i64 t237) (.int .i64 t238) (.int .i64 t239) (.slice Ao22 t240.length co22) (.slice Ao23 t243.length co23) (.slice Ao24 t246.length co24)) (fun _ h_ => h_.1)))); (case side4 => exact (Kd.R_reads' HO245.out).2.1); (case side5 => refine (Kd.R_reads' (e := 3) (base := w.heap.size) (ok := fun k_ => (some k_ ≠ (.slice Ao22 t240.length co22 : Value).ownBlock ∧ some k_ ≠ (.slice Ao23 t243.length co23 : Value).ownBlock)) (n := t246.length) (c := co24) ?_).2.2; exact (by (with_reducible repeat (first | apply rA | apply rN | apply rD)); exact (Kd.R_mono (R_fars7 gb250 (Kd.R_types HO248.out BK250.out (by decide)) (fun _ hk => hk.2) (.int .i64 t236) (.int .i64 t237) (.int .i64 t238) (.int .i64 t239) (.slice Ao22 t240.length co22) (.slice Ao23 t243.length co23) (.slice Ao24 t246.length co24)) (fun _ h_ => h_.1)))); (case side6 => exact (Kd.R_reads' HO248.out).2.1); rintro e w28 ⟨v252, rfl, ho0, hb⟩; have n0_ := Aside0.mk (Kd.R_elder' (by (with_reducible repeat (first | apply rA | apply rN | apply rD)); exact (Kd.R_mono (R_fars7 gb250 (Kd.R_types HO_8.out BK250.out (by decide)) (fun _ hk => hk.2) (.int .i64 t236) (.int .i64 t237) (.int .i64 t238) (.int .i64 t239) (.slice Ao22 t240.length co22) (.slice Ao23 t243.length co23) (.slice Ao24 t246.length co24)) (fun _ h_ => h_.1))) (Kd.R_base ho0) hb); have n1_ := Aside0.mk (Kd.R_below (by (with_reducible repeat (first | apply rA | apply rN | apply rD)); exact (Kd.R_mono (R_fars7 gb250 (Kd.R_types HO242.out BK250.out (by decide)) (fun _ hk => hk.2) (.int .i64 t236) (.int .i64 t237) (.int .i64 t238) (.int .i64 t239) (.slice Ao22 t240.length co22) (.slice Ao23 t243.length co23) (.slice Ao24 t246.length co24)) (fun _ h_ => h_.1))) hb); have n2_ := Aside0.mk (Kd.R_below (by (with_reducible repeat (first | apply rA | apply rN | apply rD)); exact (Kd.R_mono (R_fars7 gb250 (Kd.R_types HO245.out BK250.out (by decide)) (fun _ hk => hk.2) (.int .i64 t236) (.int .i64 t237) (.int .i64 t238) (.int .i64 t239) (.slice Ao22 t240.length co22) (.slice Ao23 t243.length co23) (.slice Ao24 t246.length co24)) (fun _ h_ => h_.1))) hb); have n3_ := Aside0.mk (Kd.R_below (by (with_reducible repeat (first | apply rA | apply rN | apply rD)); exact (Kd.R_mono (R_fars7 gb250 (Kd.R_types HO248.out BK250.out (by decide)) (fun _ hk => hk.2) (.int .i64 t236) (.int .i64 t237) (.int .i64 t238) (.int .i64 t239) (.slice Ao22 t240.length co22) (.slice Ao23 t243.length co23) (.slice Ao24 t246.length co24)) (fun _ h_ => h_.1))) hb); have n4_ := Aside0.mk (Kd.R_lower (Kd.R_new' ho0 (Kd.R_lt (by (with_reducible repeat (first | apply rA | apply rN | apply rD)); exact (Kd.R_mono (R_fars7 gb250 (Kd.R_types HO_8.out BK250.out (by decide)) (fun _ hk => hk.2) (.int .i64 t236) (.int .i64 t237) (.int .i64 t238) (.int .i64 t239) (.slice Ao22 t240.length co22) (.slice Ao23 t243.length co23) (.slice Ao24 t246.length co24)) (fun _ h_ => h_.1))))) (below_size (by repeat (first | (with_reducible first | exact HB.out | apply wA | apply wN | apply wD | refine wS ?_ GE250.out) | exact HB.out)))); have n5_ := Aside0.mk (blk_below (g := gb250) (o := .cells #[.int .i64 t236, .int .i64 t237, .int .i64 t238, .int .i64 t239, .slice Ao22 t240.length co22, .slice Ao23 t243.length co23, .slice Ao24 t246.length co24] 26 (0, 0)) (by (with_reducible repeat (first | refine bN ?_ _ | refine bD ?_ | refine bA ?_ _)); refine blk_put (cs := #[.int .i64 t236, .int .i64 t237, .int .i64 t238, .int .i64 t239, .slice Ao22 t240.length co22, .slice Ao23 t243.length co23, .slice none 0 0]) ?_ 6 _ rfl; (with_reducible repeat (first | refine bN ?_ _ | refine bD ?_ | refine bA ?_ _)); refine blk_put (cs := #[.int .i64 t236, .int .i64 t237, .int .i64 t238, .int .i64 t239, .slice Ao22 t240.length co22, .slice none 0 0, .slice none 0 0]) ?_ 5 _ rfl; (with_reducible repeat (first | refine bN ?_ _ | refine bD ?_ | refine bA ?_ _)); refine blk_put (cs := #[.int .i64 t236, .int .i64 t237, .int .i64 t238, .int .i64 t239, .slice none 0 0, .slice none 0 0, .slice none 0 0]) ?_ 4 _ rfl; (with_reducible repeat (first | refine bN ?_ _ | refine bD ?_ | refine bA ?_ _)); refine blk_put (cs := #[.int .i64 t236, .int .i64 t237, .int .i64 t238, .int .i64 0, .slice none 0 0, .slice none 0 0, .slice none 0 0]) ?_ 3 _ rfl; (with_reducible repeat (first | refine bN ?_ _ | refine bD ?_ | refine bA ?_ _)); refine blk_put (cs := #[.int .i64 t236, .int .i64 t237, .int .i64 0, .int .i64 0, .slice none 0 0, .slice none 0 0, .slice none 0 0]) ?_ 2 _ rfl; (with_reducible repeat (first | refine bN ?_ _ | refine bD ?_ | refine bA ?_ _)); refine blk_put (cs := #[.int .i64 t236, .int .i64 0, .int .i64 0, .int .i64 0, .slice none 0 0, .slice none 0 0, .slice none 0 0]) ?_ 1 _ rfl; (with_reducible repeat (first | refine bN ?_ _ | refine bD ?_ | refine bA ?_ _)); refine blk_put (cs := #[.int .i64 0, .int .i64 0, .int .i64 0, .int .i64 0, .slice none 0 0, .slice none 0 0, .slice none 0 0]) ?_ 0 _ rfl; (with_reducible repeat (first | refine bN ?_ _ | refine bD ?_ | refine bA ?_ _)); exact BK250.out) hb); have n6_ := Aside0.mk (below_step (by repeat (first | (with_reducible first | exact HB.out | apply wA | apply wN | apply wD | refine wS ?_ GE250.out) | exact HB.out)) hb); clear HO_8; clear HO242; clear HO245; clear HO248; clear BK250; clear HB; have HO_8 := n0_; have HO242 := n1_; have HO245 := n2_; have HO248 := n3_; have HO253 := n4_; have BK250 := n5_; have HB := n6_; clear n0_ n1_ n2_ n3_ n4_ n5_ n6_; (try clear hb); (try clear hb2); (try clear hk); (try clear hi); (try clear ho0)))
               go_ret
               exact ⟨by first | rfl | (simp [errW_none, errW_some] <;> rfl) | (simp [*, errW_none, errW_some] <;> rfl), by repeat (first | (with_reducible first | exact HB.out | apply wA | apply wN | apply wD | refine wS ?_ GE250.out) | exact HB.out)⟩
              ·rw [if_neg c27] at H
               have c27b0 : decide (t254 < 0) = false := decide_eq_false c27
               clear c27
               by_cases c29 : t254 > 2
               ·rw [if_pos c29] at H
                have c29b0 : decide (2 < t254) = true := decide_eq_true c29
                clear c29
                obtain rfl := Option.some.inj H
                go_wp2_with (first | (go_at_call 10; (with_reducible refine (scan_Resolve.calls kj8 x5_2 x6_2 x7_2 t236 t237 t238 t239 _ _ t240 _ _ t243 _ _ t246 t251 t254 t255 t256 _ ?side1 ?side2 ?side3 ?side4 ?side5 ?side6 A17.out).mono ?_); (case side1 => refine (Kd.R_reads' (e := 3) (base := w.heap.size) (ok := fun k_ => (some k_ ≠ (.slice Ao23 t243.length co23 : Value).ownBlock ∧ some k_ ≠ (.slice Ao24 t246.length co24 : Value).ownBlock)) (n := t240.length) (c := co22) ?_).2.2; exact (by (with_reducible repeat (first | apply rA | apply rN | apply rD)); exact (Kd.R_mono (R_fars7 gb250 (Kd.R_types HO242.out BK250.out (by decide)) (fun _ hk => hk.2) (.int .i64 t236) (.int .i64 t237) (.int .i64 t238) (.int .i64 t239) (.slice Ao22 t240.length co22) (.slice Ao23 t243.length co23) (.slice Ao24 t246.length co24)) (fun _ h_ => h_.1)))); (case side2 => exact (Kd.R_reads' HO242.out).2.1); (case side3 => refine (Kd.R_reads' (e := 3) (base := w.heap.size) (ok := fun k_ => (some k_ ≠ (.slice Ao22 t240.length co22 : Value).ownBlock ∧ some k_ ≠ (.slice Ao24 t246.length co24 : Value).ownBlock)) (n := t243.length) (c := co23) ?_).2.2; exact (by (with_reducible repeat (first | apply rA | apply rN | apply rD)); exact (Kd.R_mono (R_fars7 gb250 (Kd.R_types HO245.out BK250.out (by decide)) (fun _ hk => hk.2) (.int .i64 t236) (.int .i64 t237) (.int .i64 t238) (.int .i64 t239) (.slice Ao22 t240.length co22) (.slice Ao23 t243.length co23) (.slice Ao24 t246.length co24)) (fun _ h_ => h_.1)))); (case side4 => exact (Kd.R_reads' HO245.out).2.1); (case side5 => refine (Kd.R_reads' (e := 3) (base := w.heap.size) (ok := fun k_ => (some k_ ≠ (.slice Ao22 t240.length co22 : Value).ownBlock ∧ some k_ ≠ (.slice Ao23 t243.length co23 : Value).ownBlock)) (n := t246.length) (c := co24) ?_).2.2; exact (by (with_reducible repeat (first | apply rA | apply rN | apply rD)); exact (Kd.R_mono (R_fars7 gb250 (Kd.R_types HO248.out BK250.out (by decide)) (fun _ hk => hk.2) (.int .i64 t236) (.int .i64 t237) (.int .i64 t238) (.int .i64 t239) (.slice Ao22 t240.length co22) (.slice Ao23 t243.length co23) (.slice Ao24 t246.length co24)) (fun _ h_ => h_.1)))); (case side6 => exact (Kd.R_reads' HO248.out).2.1); rintro e w30 ⟨v252, rfl, ho0, hb⟩; have n0_ := Aside0.mk (Kd.R_elder' (by (with_reducible repeat (first | apply rA | apply rN | apply rD)); exact (Kd.R_mono (R_fars7 gb250 (Kd.R_types HO_8.out BK250.out (by decide)) (fun _ hk => hk.2) (.int .i64 t236) (.int .i64 t237) (.int .i64 t238) (.int .i64 t239) (.slice Ao22 t240.length co22) (.slice Ao23 t243.length co23) (.slice Ao24 t246.length co24)) (fun _ h_ => h_.1))) (Kd.R_base ho0) hb); have n1_ := Aside0.mk (Kd.R_below (by (with_reducible repeat (first | apply rA | apply rN | apply rD)); exact (Kd.R_mono (R_fars7 gb250 (Kd.R_types HO242.out BK250.out (by decide)) (fun _ hk => hk.2) (.int .i64 t236) (.int .i64 t237) (.int .i64 t238) (.int .i64 t239) (.slice Ao22 t240.length co22) (.slice Ao23 t243.length co23) (.slice Ao24 t246.length co24)) (fun _ h_ => h_.1))) hb); have n2_ := Aside0.mk (Kd.R_below (by (with_reducible repeat (first | apply rA | apply rN | apply rD)); exact (Kd.R_mono (R_fars7 gb250 (Kd.R_types HO245.out BK250.out (by decide)) (fun _ hk => hk.2) (.int .i64 t236) (.int .i64 t237) (.int .i64 t238) (.int .i64 t239) (.slice Ao22 t240.length co22) (.slice Ao23 t243.length co23) (.slice Ao24 t246.length co24)) (fun _ h_ => h_.1))) hb); have n3_ := Aside0.mk (Kd.R_below (by (with_reducible repeat (first | apply rA | apply rN | apply rD)); exact (Kd.R_mono (R_fars7 gb250 (Kd.R_types HO248.out BK250.out (by decide)) (fun _ hk => hk.2) (.int .i64 t236) (.int .i64 t237) (.int .i64 t238) (.int .i64 t239) (.slice Ao22 t240.length co22) (.slice Ao23 t243.length co23) (.slice Ao24 t246.length co24)) (fun _ h_ => h_.1))) hb); have n4_ := Aside0.mk (Kd.R_lower (Kd.R_new' ho0 (Kd.R_lt (by (with_reducible repeat (first | apply rA | apply rN | apply rD)); exact (Kd.R_mono (R_fars7 gb250 (Kd.R_types HO_8.out BK250.out (by decide)) (fun _ hk => hk.2) (.int .i64 t236) (.int .i64 t237) (.int .i64 t238) (.int .i64 t239) (.slice Ao22 t240.length co22) (.slice Ao23 t243.length co23) (.slice Ao24 t246.length co24)) (fun _ h_ => h_.1))))) (below_size (by repeat (first | (with_reducible first | exact HB.out | apply wA | apply wN | apply wD | refine wS ?_ GE250.out) | exact HB.out)))); have n5_ := Aside0.mk (blk_below (g := gb250) (o := .cells #[.int .i64 t236, .int .i64 t237, .int .i64 t238, .int .i64 t239, .slice Ao22 t240.length co22, .slice Ao23 t243.length co23, .slice Ao24 t246.length co24] 26 (0, 0)) (by (with_reducible repeat (first | refine bN ?_ _ | refine bD ?_ | refine bA ?_ _)); refine blk_put (cs := #[.int .i64 t236, .int .i64 t237, .int .i64 t238, .int .i64 t239, .slice Ao22 t240.length co22, .slice Ao23 t243.length co23, .slice none 0 0]) ?_ 6 _ rfl; (with_reducible repeat (first | refine bN ?_ _ | refine bD ?_ | refine bA ?_ _)); refine blk_put (cs := #[.int .i64 t236, .int .i64 t237, .int .i64 t238, .int .i64 t239, .slice Ao22 t240.length co22, .slice none 0 0, .slice none 0 0]) ?_ 5 _ rfl; (with_reducible repeat (first | refine bN ?_ _ | refine bD ?_ | refine bA ?_ _)); refine blk_put (cs := #[.int .i64 t236, .int .i64 t237, .int .i64 t238, .int .i64 t239, .slice none 0 0, .slice none 0 0, .slice none 0 0]) ?_ 4 _ rfl; (with_reducible repeat (first | refine bN ?_ _ | refine bD ?_ | refine bA ?_ _)); refine blk_put (cs := #[.int .i64 t236, .int .i64 t237, .int .i64 t238, .int .i64 0, .slice none 0 0, .slice none 0 0, .slice none 0 0]) ?_ 3 _ rfl; (with_reducible repeat (first | refine bN ?_ _ | refine bD ?_ | refine bA ?_ _)); refine blk_put (cs := #[.int .i64 t236, .int .i64 t237, .int .i64 0, .int .i64 0, .slice none 0 0, .slice none 0 0, .slice none 0 0]) ?_ 2 _ rfl; (with_reducible repeat (first | refine bN ?_ _ | refine bD ?_ | refine bA ?_ _)); refine blk_put (cs := #[.int .i64 t236, .int .i64 0, .int .i64 0, .int .i64 0, .slice none 0 0, .slice none 0 0, .slice none 0 0]) ?_ 1 _ rfl; (with_reducible repeat (first | refine bN ?_ _ | refine bD ?_ | refine bA ?_ _)); refine blk_put (cs := #[.int .i64 0, .int .i64 0, .int .i64 0, .int .i64 0, .slice none 0 0, .slice none 0 0, .slice none 0 0]) ?_ 0 _ rfl; (with_reducible repeat (first | refine bN ?_ _ | refine bD ?_ | refine bA ?_ _)); exact BK250.out) hb); have n6_ := Aside0.mk (below_step (by repeat (first | (with_reducible first | exact HB.out | apply wA | apply wN | apply wD | refine wS ?_ GE250.out) | exact HB.out)) hb); clear HO_8; clear HO242; clear HO245; clear HO248; clear BK250; clear HB; have HO_8 := n0_; have HO242 := n1_; have HO245 := n2_; have HO248 := n3_; have HO253 := n4_; have BK250 := n5_; have HB := n6_; clear n0_ n1_ n2_ n3_ n4_ n5_ n6_; (try clear hb); (try clear hb2); (try clear hk); (try clear hi); (try clear ho0)))
                go_ret
                exact ⟨by first | rfl | (simp [errW_none, errW_some] <;> rfl) | (simp [*, errW_none, errW_some] <;> rfl), by repeat (first | (with_reducible first | exact HB.out | apply wA | apply wN | apply wD | refine wS ?_ GE250.out) | exact HB.out)⟩
               ·rw [if_neg c29] at H
                have c29b0 : decide (2 < t254) = false := decide_eq_false c29
                clear c29
                by_cases c31 : t255 < x7_2
                ·rw [if_pos c31] at H
                 have c31b0 : decide (t255 < x7_2) = true := decide_eq_true c31
                 clear c31
                 obtain rfl := Option.some.inj H
                 go_wp2_with (first | (go_at_call 10; (with_reducible refine (scan_Resolve.calls kj8 x5_2 x6_2 x7_2 t236 t237 t238 t239 _ _ t240 _ _ t243 _ _ t246 t251 t254 t255 t256 _ ?side1 ?side2 ?side3 ?side4 ?side5 ?side6 A17.out).mono ?_); (case side1 => refine (Kd.R_reads' (e := 3) (base := w.heap.size) (ok := fun k_ => (some k_ ≠ (.slice Ao23 t243.length co23 : Value).ownBlock ∧ some k_ ≠ (.slice Ao24 t246.length co24 : Value).ownBlock)) (n := t240.length) (c := co22) ?_).2.2; exact (by (with_reducible repeat (first | apply rA | apply rN | apply rD)); exact (Kd.R_mono (R_fars7 gb250 (Kd.R_types HO242.out BK250.out (by decide)) (fun _ hk => hk.2) (.int .i64 t236) (.int .i64 t237) (.int .i64 t238) (.int .i64 t239) (.slice Ao22 t240.length co22) (.slice Ao23 t243.length co23) (.slice Ao24 t246.length co24)) (fun _ h_ => h_.1)))); (case side2 => exact (Kd.R_reads' HO242.out).2.1); (case side3 => refine (Kd.R_reads' (e := 3) (base := w.heap.size) (ok := fun k_ => (some k_ ≠ (.slice Ao22 t240.length co22 : Value).ownBlock ∧ some k_ ≠ (.slice Ao24 t246.length co24 : Value).ownBlock)) (n := t243.length) (c := co23) ?_).2.2; exact (by (with_reducible repeat (first | apply rA | apply rN | apply rD)); exact (Kd.R_mono (R_fars7 gb250 (Kd.R_types HO245.out BK250.out (by decide)) (fun _ hk => hk.2) (.int .i64 t236) (.int .i64 t237) (.int .i64 t238) (.int .i64 t239) (.slice Ao22 t240.length co22) (.slice Ao23 t243.length co23) (.slice Ao24 t246.length co24)) (fun _ h_ => h_.1)))); (case side4 => exact (Kd.R_reads' HO245.out).2.1); (case side5 => refine (Kd.R_reads' (e := 3) (base := w.heap.size) (ok := fun k_ => (some k_ ≠ (.slice Ao22 t240.length co22 : Value).ownBlock ∧ some k_ ≠ (.slice Ao23 t243.length co23 : Value).ownBlock)) (n := t246.length) (c := co24) ?_).2.2; exact (by (with_reducible repeat (first | apply rA | apply rN | apply rD)); exact (Kd.R_mono (R_fars7 gb250 (Kd.R_types HO248.out BK250.out (by decide)) (fun _ hk => hk.2) (.int .i64 t236) (.int .i64 t237) (.int .i64 t238) (.int .i64 t239) (.slice Ao22 t240.length co22) (.slice Ao23 t243.length co23) (.slice Ao24 t246.length co24)) (fun _ h_ => h_.1)))); (case side6 => exact (Kd.R_reads' HO248.out).2.1); rintro e w32 ⟨v252, rfl, ho0, hb⟩; have n0_ := Aside0.mk (Kd.R_elder' (by (with_reducible repeat (first | apply rA | apply rN | apply rD)); exact (Kd.R_mono (R_fars7 gb250 (Kd.R_types HO_8.out BK250.out (by decide)) (fun _ hk => hk.2) (.int .i64 t236) (.int .i64 t237) (.int .i64 t238) (.int .i64 t239) (.slice Ao22 t240.length co22) (.slice Ao23 t243.length co23) (.slice Ao24 t246.length co24)) (fun _ h_ => h_.1))) (Kd.R_base ho0) hb); have n1_ := Aside0.mk (Kd.R_below (by (with_reducible repeat (first | apply rA | apply rN | apply rD)); exact (Kd.R_mono (R_fars7 gb250 (Kd.R_types HO242.out BK250.out (by decide)) (fun _ hk => hk.2) (.int .i64 t236) (.int .i64 t237) (.int .i64 t238) (.int .i64 t239) (.slice Ao22 t240.length co22) (.slice Ao23 t243.length co23) (.slice Ao24 t246.length co24)) (fun _ h_ => h_.1))) hb); have n2_ := Aside0.mk (Kd.R_below (by (with_reducible repeat (first | apply rA | apply rN | apply rD)); exact (Kd.R_mono (R_fars7 gb250 (Kd.R_types HO245.out BK250.out (by decide)) (fun _ hk => hk.2) (.int .i64 t236) (.int .i64 t237) (.int .i64 t238) (.int .i64 t239) (.slice Ao22 t240.length co22) (.slice Ao23 t243.length co23) (.slice Ao24 t246.length co24)) (fun _ h_ => h_.1))) hb); have n3_ := Aside0.mk (Kd.R_below (by (with_reducible repeat (first | apply rA | apply rN | apply rD)); exact (Kd.R_mono (R_fars7 gb250 (Kd.R_types HO248.out BK250.out (by decide)) (fun _ hk => hk.2) (.int .i64 t236) (.int .i64 t237) (.int .i64 t238) (.int .i64 t239) (.slice Ao22 t240.length co22) (.slice Ao23 t243.length co23) (.slice Ao24 t246.length co24)) (fun _ h_ => h_.1))) hb); have n4_ := Aside0.mk (Kd.R_lower (Kd.R_new' ho0 (Kd.R_lt (by (with_reducible repeat (first | apply rA | apply rN | apply rD)); exact (Kd.R_mono (R_fars7 gb250 (Kd.R_types HO_8.out BK250.out (by decide)) (fun _ hk => hk.2) (.int .i64 t236) (.int .i64 t237) (.int .i64 t238) (.int .i64 t239) (.slice Ao22 t240.length co22) (.slice Ao23 t243.length co23) (.slice Ao24 t246.length co24)) (fun _ h_ => h_.1))))) (below_size (by repeat (first | (with_reducible first | exact HB.out | apply wA | apply wN | apply wD | refine wS ?_ GE250.out) | exact HB.out)))); have n5_ := Aside0.mk (blk_below (g := gb250) (o := .cells #[.int .i64 t236, .int .i64 t237, .int .i64 t238, .int .i64 t239, .slice Ao22 t240.length co22, .slice Ao23 t243.length co23, .slice Ao24 t246.length co24] 26 (0, 0)) (by (with_reducible repeat (first | refine bN ?_ _ | refine bD ?_ | refine bA ?_ _)); refine blk_put (cs := #[.int .i64 t236, .int .i64 t237, .int .i64 t238, .int .i64 t239, .slice Ao22 t240.length co22, .slice Ao23 t243.length co23, .slice none 0 0]) ?_ 6 _ rfl; (with_reducible repeat (first | refine bN ?_ _ | refine bD ?_ | refine bA ?_ _)); refine blk_put (cs := #[.int .i64 t236, .int .i64 t237, .int .i64 t238, .int .i64 t239, .slice Ao22 t240.length co22, .slice none 0 0, .slice none 0 0]) ?_ 5 _ rfl; (with_reducible repeat (first | refine bN ?_ _ | refine bD ?_ | refine bA ?_ _)); refine blk_put (cs := #[.int .i64 t236, .int .i64 t237, .int .i64 t238, .int .i64 t239, .slice none 0 0, .slice none 0 0, .slice none 0 0]) ?_ 4 _ rfl; (with_reducible repeat (first | refine bN ?_ _ | refine bD ?_ | refine bA ?_ _)); refine blk_put (cs := #[.int .i64 t236, .int .i64 t237, .int .i64 t238, .int .i64 0, .slice none 0 0, .slice none 0 0, .slice none 0 0]) ?_ 3 _ rfl; (with_reducible repeat (first | refine bN ?_ _ | refine bD ?_ | refine bA ?_ _)); refine blk_put (cs := #[.int .i64 t236, .int .i64 t237, .int .i64 0, .int .i64 0, .slice none 0 0, .slice none 0 0, .slice none 0 0]) ?_ 2 _ rfl; (with_reducible repeat (first | refine bN ?_ _ | refine bD ?_ | refine bA ?_ _)); refine blk_put (cs := #[.int .i64 t236, .int .i64 0, .int .i64 0, .int .i64 0, .slice none 0 0, .slice none 0 0, .slice none 0 0]) ?_ 1 _ rfl; (with_reducible repeat (first | refine bN ?_ _ | refine bD ?_ | refine bA ?_ _)); refine blk_put (cs := #[.int .i64 0, .int .i64 0, .int .i64 0, .int .i64 0, .slice none 0 0, .slice none 0 0, .slice none 0 0]) ?_ 0 _ rfl; (with_reducible repeat (first | refine bN ?_ _ | refine bD ?_ | refine bA ?_ _)); exact BK250.out) hb); have n6_ := Aside0.mk (below_step (by repeat (first | (with_reducible first | exact HB.out | apply wA | apply wN | apply wD | refine wS ?_ GE250.out) | exact HB.out)) hb); clear HO_8; clear HO242; clear HO245; clear HO248; clear BK250; clear HB; have HO_8 := n0_; have HO242 := n1_; have HO245 := n2_; have HO248 := n3_; have HO253 := n4_; have BK250 := n5_; have HB := n6_; clear n0_ n1_ n2_ n3_ n4_ n5_ n6_; (try clear hb); (try clear hb2); (try clear hk); (try clear hi); (try clear ho0)))
                 go_ret
                 exact ⟨by first | rfl | (simp [errW_none, errW_some] <;> rfl) | (simp [*, errW_none, errW_some] <;> rfl), by repeat (first | (with_reducible first | exact HB.out | apply wA | apply wN | apply wD | refine wS ?_ GE250.out) | exact HB.out)⟩
                ·rw [if_neg c31] at H
                 have c31b0 : decide (t255 < x7_2) = false := decide_eq_false c31
                 clear c31
                 by_cases c33 : t255 > x10_8
                 ·rw [if_pos c33] at H
                  have c33b0 : decide (x10_8 < t255) = true := decide_eq_true c33
                  clear c33
                  obtain rfl := Option.some.inj H
                  go_wp2_with (first | (go_at_call 10; (with_reducible refine (scan_Resolve.calls kj8 x5_2 x6_2 x7_2 t236 t237 t238 t239 _ _ t240 _ _ t243 _ _ t246 t251 t254 t255 t256 _ ?side1 ?side2 ?side3 ?side4 ?side5 ?side6 A17.out).mono ?_); (case side1 => refine (Kd.R_reads' (e := 3) (base := w.heap.size) (ok := fun k_ => (some k_ ≠ (.slice Ao23 t243.length co23 : Value).ownBlock ∧ some k_ ≠ (.slice Ao24 t246.length co24 : Value).ownBlock)) (n := t240.length) (c := co22) ?_).2.2; exact (by (with_reducible repeat (first | apply rA | apply rN | apply rD)); exact (Kd.R_mono (R_fars7 gb250 (Kd.R_types HO242.out BK250.out (by decide)) (fun _ hk => hk.2) (.int .i64 t236) (.int .i64 t237) (.int .i64 t238) (.int .i64 t239) (.slice Ao22 t240.length co22) (.slice Ao23 t243.length co23) (.slice Ao24 t246.length co24)) (fun _ h_ => h_.1)))); (case side2 => exact (Kd.R_reads' HO242.out).2.1); (case side3 => refine (Kd.R_reads' (e := 3) (base := w.heap.size) (ok := fun k_ => (some k_ ≠ (.slice Ao22 t240.length co22 : Value).ownBlock ∧ some k_ ≠ (.slice Ao24 t246.length co24 : Value).ownBlock)) (n := t243.length) (c := co23) ?_).2.2; exact (by (with_reducible repeat (first | apply rA | apply rN | apply rD)); exact (Kd.R_mono (R_fars7 gb250 (Kd.R_types HO245.out BK250.out (by decide)) (fun _ hk => hk.2) (.int .i64 t236) (.int .i64 t237) (.int .i64 t238) (.int .i64 t239) (.slice Ao22 t240.length co22) (.slice Ao23 t243.length co23) (.slice Ao24 t246.length co24)) (fun _ h_ => h_.1)))); (case side4 => exact (Kd.R_reads' HO245.out).2.1); (case side5 => refine (Kd.R_reads' (e := 3) (base := w.heap.size) (ok := fun k_ => (some k_ ≠ (.slice Ao22 t240.length co22 : Value).ownBlock ∧ some k_ ≠ (.slice Ao23 t243.length co23 : Value).ownBlock)) (n := t246.length) (c := co24) ?_).2.2; exact (by (with_reducible repeat (first | apply rA | apply rN | apply rD)); exact (Kd.R_mono (R_fars7 gb250 (Kd.R_types HO248.out BK250.out (by decide)) (fun _ hk => hk.2) (.int .i64 t236) (.int .i64 t237) (.int .i64 t238) (.int .i64 t239) (.slice Ao22 t240.length co22) (.slice Ao23 t243.length co23) (.slice Ao24 t246.length co24)) (fun _ h_ => h_.1)))); (case side6 => exact (Kd.R_reads' HO248.out).2.1); rintro e w34 ⟨v252, rfl, ho0, hb⟩; have n0_ := Aside0.mk (Kd.R_elder' (by (with_reducible repeat (first | apply rA | apply rN | apply rD)); exact (Kd.R_mono (R_fars7 gb250 (Kd.R_types HO_8.out BK250.out (by decide)) (fun _ hk => hk.2) (.int .i64 t236) (.int .i64 t237) (.int .i64 t238) (.int .i64 t239) (.slice Ao22 t240.length co22) (.slice Ao23 t243.length co23) (.slice Ao24 t246.length co24)) (fun _ h_ => h_.1))) (Kd.R_base ho0) hb); have n1_ := Aside0.mk (Kd.R_below (by (with_reducible repeat (first | apply rA | apply rN | apply rD)); exact (Kd.R_mono (R_fars7 gb250 (Kd.R_types HO242.out BK250.out (by decide)) (fun _ hk => hk.2) (.int .i64 t236) (.int .i64 t237) (.int .i64 t238) (.int .i64 t239) (.slice Ao22 t240.length co22) (.slice Ao23 t243.length co23) (.slice Ao24 t246.length co24)) (fun _ h_ => h_.1))) hb); have n2_ := Aside0.mk (Kd.R_below (by (with_reducible repeat (first | apply rA | apply rN | apply rD)); exact (Kd.R_mono (R_fars7 gb250 (Kd.R_types HO245.out BK250.out (by decide)) (fun _ hk => hk.2) (.int .i64 t236) (.int .i64 t237) (.int .i64 t238) (.int .i64 t239) (.slice Ao22 t240.length co22) (.slice Ao23 t243.length co23) (.slice Ao24 t246.length co24)) (fun _ h_ => h_.1))) hb); have n3_ := Aside0.mk (Kd.R_below (by (with_reducible repeat (first | apply rA | apply rN | apply rD)); exact (Kd.R_mono (R_fars7 gb250 (Kd.R_types HO248.out BK250.out (by decide)) (fun _ hk => hk.2) (.int .i64 t236) (.int .i64 t237) (.int .i64 t238) (.int .i64 t239) (.slice Ao22 t240.length co22) (.slice Ao23 t243.length co23) (.slice Ao24 t246.length co24)) (fun _ h_ => h_.1))) hb); have n4_ := Aside0.mk (Kd.R_lower (Kd.R_new' ho0 (Kd.R_lt (by (with_reducible repeat (first | apply rA | apply rN | apply rD)); exact (Kd.R_mono (R_fars7 gb250 (Kd.R_types HO_8.out BK250.out (by decide)) (fun _ hk => hk.2) (.int .i64 t236) (.int .i64 t237) (.int .i64 t238) (.int .i64 t239) (.slice Ao22 t240.length co22) (.slice Ao23 t243.length co23) (.slice Ao24 t246.length co24)) (fun _ h_ => h_.1))))) (below_size (by repeat (first | (with_reducible first | exact HB.out | apply wA | apply wN | apply wD | refine wS ?_ GE250.out) | exact HB.out)))); have n5_ := Aside0.mk (blk_below (g := gb250) (o := .cells #[.int .i64 t236, .int .i64 t237, .int .i64 t238, .int .i64 t239, .slice Ao22 t240.length co22, .slice Ao23 t243.length co23, .slice Ao24 t246.length co24] 26 (0, 0)) (by (with_reducible repeat (first | refine bN ?_ _ | refine bD ?_ | refine bA ?_ _)); refine blk_put (cs := #[.int .i64 t236, .int .i64 t237, .int .i64 t238, .int .i64 t239, .slice Ao22 t240.length co22, .slice Ao23 t243.length co23, .slice none 0 0]) ?_ 6 _ rfl; (with_reducible repeat (first | refine bN ?_ _ | refine bD ?_ | refine bA ?_ _)); refine blk_put (cs := #[.int .i64 t236, .int .i64 t237, .int .i64 t238, .int .i64 t239, .slice Ao22 t240.length co22, .slice none 0 0, .slice none 0 0]) ?_ 5 _ rfl; (with_reducible repeat (first | refine bN ?_ _ | refine bD ?_ | refine bA ?_ _)); refine blk_put (cs := #[.int .i64 t236, .int .i64 t237, .int .i64 t238, .int .i64 t239, .slice none 0 0, .slice none 0 0, .slice none 0 0]) ?_ 4 _ rfl; (with_reducible repeat (first | refine bN ?_ _ | refine bD ?_ | refine bA ?_ _)); refine blk_put (cs := #[.int .i64 t236, .int .i64 t237, .int .i64 t238, .int .i64 0, .slice none 0 0, .slice none 0 0, .slice none 0 0]) ?_ 3 _ rfl; (with_reducible repeat (first | refine bN ?_ _ | refine bD ?_ | refine bA ?_ _)); refine blk_put (cs := #[.int .i64 t236, .int .i64 t237, .int .i64 0, .int .i64 0, .slice none 0 0, .slice none 0 0, .slice none 0 0]) ?_ 2 _ rfl; (with_reducible repeat (first | refine bN ?_ _ | refine bD ?_ | refine bA ?_ _)); refine blk_put (cs := #[.int .i64 t236, .int .i64 0, .int .i64 0, .int .i64 0, .slice none 0 0, .slice none 0 0, .slice none 0 0]) ?_ 1 _ rfl; (with_reducible repeat (first | refine bN ?_ _ | refine bD ?_ | refine bA ?_ _)); refine blk_put (cs := #[.int .i64 0, .int .i64 0, .int .i64 0, .int .i64 0, .slice none 0 0, .slice none 0 0, .slice none 0 0]) ?_ 0 _ rfl; (with_reducible repeat (first | refine bN ?_ _ | refine bD ?_ | refine bA ?_ _)); exact BK250.out) hb); have n6_ := Aside0.mk (below_step (by repeat (first | (with_reducible first | exact HB.out | apply wA | apply wN | apply wD | refine wS ?_ GE250.out) | exact HB.out)) hb); clear HO_8; clear HO242; clear HO245; clear HO248; clear BK250; clear HB; have HO_8 := n0_; have HO242 := n1_; have HO245 := n2_; have HO248 := n3_; have HO253 := n4_; have BK250 := n5_; have HB := n6_; clear n0_ n1_ n2_ n3_ n4_ n5_ n6_; (try clear hb); (try clear hb2); (try clear hk); (try clear hi); (try clear ho0)))
                  go_ret
                  exact ⟨by first | rfl | (simp [errW_none, errW_some] <;> rfl) | (simp [*, errW_none, errW_some] <;> rfl), by repeat (first | (with_reducible first | exact HB.out | apply wA | apply wN | apply wD | refine wS ?_ GE250.out) | exact HB.out)⟩
                 ·rw [if_neg c33] at H
                  have c33b0 : decide (x10_8 < t255) = false := decide_eq_false c33
                  clear c33
                  by_cases c35 : x8_2.length + t251.length < 8796093022208
                  ·rw [if_pos c35] at H
                   have LMc35 := Aside0.mk c35
                   clear c35
                   obtain ⟨y257, hy257⟩ : ∃ y_ : List (S51), y_ = (x8_2 ++ t251) := ⟨_, rfl⟩
                   replace H : (ndjqlaw20_ScanCarry.l0 kj8 a0 l1 x10_8 t254 t255 y257 (wrap64 (x9_2 + 1))) = some r := by first | (rw [hy257]; with_reducible exact H) | (have H2_ := (Option.bind_some _ _).symm.trans H; rw [hy257]; with_reducible exact H2_) | (have H2_ := (Option.bind_some _ _).symm.trans H; with_reducible exact H2_) | with_reducible exact H | (rw [hy257]; exact H) | exact H
                   have Ny257 := Aside0.mk hy257
                   clear hy257
                   have H' := Aside0.mk H
                   clear H
                   go_wp2_with (first | (go_at_call 10; (with_reducible refine (scan_Resolve.calls kj8 x5_2 x6_2 x7_2 t236 t237 t238 t239 _ _ t240 _ _ t243 _ _ t246 t251 t254 t255 t256 _ ?side1 ?side2 ?side3 ?side4 ?side5 ?side6 A17.out).mono ?_); (case side1 => refine (Kd.R_reads' (e := 3) (base := w.heap.size) (ok := fun k_ => (some k_ ≠ (.slice Ao23 t243.length co23 : Value).ownBlock ∧ some k_ ≠ (.slice Ao24 t246.length co24 : Value).ownBlock)) (n := t240.length) (c := co22) ?_).2.2; exact (by (with_reducible repeat (first | apply rA | apply rN | apply rD)); exact (Kd.R_mono (R_fars7 gb250 (Kd.R_types HO242.out BK250.out (by decide)) (fun _ hk => hk.2) (.int .i64 t236) (.int .i64 t237) (.int .i64 t238) (.int .i64 t239) (.slice Ao22 t240.length co22) (.slice Ao23 t243.length co23) (.slice Ao24 t246.length co24)) (fun _ h_ => h_.1)))); (case side2 => exact (Kd.R_reads' HO242.out).2.1); (case side3 => refine (Kd.R_reads' (e := 3) (base := w.heap.size) (ok := fun k_ => (some k_ ≠ (.slice Ao22 t240.length co22 : Value).ownBlock ∧ some k_ ≠ (.slice Ao24 t246.length co24 : Value).ownBlock)) (n := t243.length) (c := co23) ?_).2.2; exact (by (with_reducible repeat (first | apply rA | apply rN | apply rD)); exact (Kd.R_mono (R_fars7 gb250 (Kd.R_types HO245.out BK250.out (by decide)) (fun _ hk => hk.2) (.int .i64 t236) (.int .i64 t237) (.int .i64 t238) (.int .i64 t239) (.slice Ao22 t240.length co22) (.slice Ao23 t243.length co23) (.slice Ao24 t246.length co24)) (fun _ h_ => h_.1)))); (case side4 => exact (Kd.R_reads' HO245.out).2.1); (case side5 => refine (Kd.R_reads' (e := 3) (base := w.heap.size) (ok := fun k_ => (some k_ ≠ (.slice Ao22 t240.length co22 : Value).ownBlock ∧ some k_ ≠ (.slice Ao23 t243.length co23 : Value).ownBlock)) (n := t246.length) (c := co24) ?_).2.2; exact (by (with_reducible repeat (first | apply rA | apply rN | apply rD)); exact (Kd.R_mono (R_fars7 gb250 (Kd.R_types HO248.out BK250.out (by decide)) (fun _ hk => hk.2) (.int .i64 t236) (.int .i64 t237) (.int .i64 t238) (.int .i64 t239) (.slice Ao22 t240.length co22) (.slice Ao23 t243.length co23) (.slice Ao24 t246.length co24)) (fun _ h_ => h_.1)))); (case side6 => exact (Kd.R_reads' HO248.out).2.1); rintro e w36 ⟨v252, rfl, ho0, hb⟩; have n0_ := Aside0.mk (Kd.R_elder' (by (with_reducible repeat (first | apply rA | apply rN | apply rD)); exact (Kd.R_mono (R_fars7 gb250 (Kd.R_types HO_8.out BK250.out (by decide)) (fun _ hk => hk.2) (.int .i64 t236) (.int .i64 t237) (.int .i64 t238) (.int .i64 t239) (.slice Ao22 t240.length co22) (.slice Ao23 t243.length co23) (.slice Ao24 t246.length co24)) (fun _ h_ => h_.1))) (Kd.R_base ho0) hb); have n1_ := Aside0.mk (Kd.R_below (by (with_reducible repeat (first | apply rA | apply rN | apply rD)); exact (Kd.R_mono (R_fars7 gb250 (Kd.R_types HO242.out BK250.out (by decide)) (fun _ hk => hk.2) (.int .i64 t236) (.int .i64 t237) (.int .i64 t238) (.int .i64 t239) (.slice Ao22 t240.length co22) (.slice Ao23 t243.length co23) (.slice Ao24 t246.length co24)) (fun _ h_ => h_.1))) hb); have n2_ := Aside0.mk (Kd.R_below (by (with_reducible repeat (first | apply rA | apply rN | apply rD)); exact (Kd.R_mono (R_fars7 gb250 (Kd.R_types HO245.out BK250.out (by decide)) (fun _ hk => hk.2) (.int .i64 t236) (.int .i64 t237) (.int .i64 t238) (.int .i64 t239) (.slice Ao22 t240.length co22) (.slice Ao23 t243.length co23) (.slice Ao24 t246.length co24)) (fun _ h_ => h_.1))) hb); have n3_ := Aside0.mk (Kd.R_below (by (with_reducible repeat (first | apply rA | apply rN | apply rD)); exact (Kd.R_mono (R_fars7 gb250 (Kd.R_types HO248.out BK250.out (by decide)) (fun _ hk => hk.2) (.int .i64 t236) (.int .i64 t237) (.int .i64 t238) (.int .i64 t239) (.slice Ao22 t240.length co22) (.slice Ao23 t243.length co23) (.slice Ao24 t246.length co24)) (fun _ h_ => h_.1))) hb); have n4_ := Aside0.mk (Kd.R_lower (Kd.R_new' ho0 (Kd.R_lt (by (with_reducible repeat (first | apply rA | apply rN | apply rD)); exact (Kd.R_mono (R_fars7 gb250 (Kd.R_types HO_8.out BK250.out (by decide)) (fun _ hk => hk.2) (.int .i64 t236) (.int .i64 t237) (.int .i64 t238) (.int .i64 t239) (.slice Ao22 t240.length co22) (.slice Ao23 t243.length co23) (.slice Ao24 t246.length co24)) (fun _ h_ => h_.1))))) (below_size (by repeat (first | (with_reducible first | exact HB.out | apply wA | apply wN | apply wD | refine wS ?_ GE250.out) | exact HB.out)))); have n5_ := Aside0.mk (blk_below (g := gb250) (o := .cells #[.int .i64 t236, .int .i64 t237, .int .i64 t238, .int .i64 t239, .slice Ao22 t240.length co22, .slice Ao23 t243.length co23, .slice Ao24 t246.length co24] 26 (0, 0)) (by (with_reducible repeat (first | refine bN ?_ _ | refine bD ?_ | refine bA ?_ _)); refine blk_put (cs := #[.int .i64 t236, .int .i64 t237, .int .i64 t238, .int .i64 t239, .slice Ao22 t240.length co22, .slice Ao23 t243.length co23, .slice none 0 0]) ?_ 6 _ rfl; (with_reducible repeat (first | refine bN ?_ _ | refine bD ?_ | refine bA ?_ _)); refine blk_put (cs := #[.int .i64 t236, .int .i64 t237, .int .i64 t238, .int .i64 t239, .slice Ao22 t240.length co22, .slice none 0 0, .slice none 0 0]) ?_ 5 _ rfl; (with_reducible repeat (first | refine bN ?_ _ | refine bD ?_ | refine bA ?_ _)); refine blk_put (cs := #[.int .i64 t236, .int .i64 t237, .int .i64 t238, .int .i64 t239, .slice none 0 0, .slice none 0 0, .slice none 0 0]) ?_ 4 _ rfl; (with_reducible repeat (first | refine bN ?_ _ | refine bD ?_ | refine bA ?_ _)); refine blk_put (cs := #[.int .i64 t236, .int .i64 t237, .int .i64 t238, .int .i64 0, .slice none 0 0, .slice none 0 0, .slice none 0 0]) ?_ 3 _ rfl; (with_reducible repeat (first | refine bN ?_ _ | refine bD ?_ | refine bA ?_ _)); refine blk_put (cs := #[.int .i64 t236, .int .i64 t237, .int .i64 0, .int .i64 0, .slice none 0 0, .slice none 0 0, .slice none 0 0]) ?_ 2 _ rfl; (with_reducible repeat (first | refine bN ?_ _ | refine bD ?_ | refine bA ?_ _)); refine blk_put (cs := #[.int .i64 t236, .int .i64 0, .int .i64 0, .int .i64 0, .slice none 0 0, .slice none 0 0, .slice none 0 0]) ?_ 1 _ rfl; (with_reducible repeat (first | refine bN ?_ _ | refine bD ?_ | refine bA ?_ _)); refine blk_put (cs := #[.int .i64 0, .int .i64 0, .int .i64 0, .int .i64 0, .slice none 0 0, .slice none 0 0, .slice none 0 0]) ?_ 0 _ rfl; (with_reducible repeat (first | refine bN ?_ _ | refine bD ?_ | refine bA ?_ _)); exact BK250.out) hb); have n6_ := Aside0.mk (below_step (by repeat (first | (with_reducible first | exact HB.out | apply wA | apply wN | apply wD | refine wS ?_ GE250.out) | exact HB.out)) hb); clear HO_8; clear HO242; clear HO245; clear HO248; clear BK250; clear HB; have HO_8 := n0_; have HO242 := n1_; have HO245 := n2_; have HO248 := n3_; have HO253 := n4_; have BK250 := n5_; have HB := n6_; clear n0_ n1_ n2_ n3_ n4_ n5_ n6_; (try clear hb); (try clear hb2); (try clear hk); (try clear hi); (try clear ho0); obtain ⟨Ao38, co38, eo38⟩ := Kd.R_slice HO253.out; subst eo38) | ((with_reducible refine gate_builtin (b := .append) (xs := #[.tmp 94, .tmp 95]) rfl ?_); (try (refine gate_guard (by rfl) ?_; dsimp only)); at_builtin; refine Kd.R_append_rows k51 (w0 := w) w.heap.size rfl (.tmp 94) (.tmp 95) 28 51 (.agg #[(.int .i64 0), (.int .i64 0)]) 16 rfl Tryd.underlying28 info51 rfl (by decide) (by omega) u8 x8_2 t251 _ _ _ (fun k_ => some k_ ≠ (.slice Ao38 t251.length co38 : Value).ownBlock) (fun _ => False) rfl rfl ?aO ?aR (fun _ _ h => h) (fun _ h => h.elim) ?aF ?aB ?aS ?aL ?_; (case aR => repeat (first | exact (Kd.R_reads' HO253.out).2.2 | (with_reducible refine Kd.C_alloc ?_ _) | (with_reducible refine Kd.C_drewN ?_ _) | (with_reducible refine Kd.C_drew ?_))); (case aB => exact (by repeat (first | (with_reducible first | exact HB.out | apply wA | apply wN | apply wD | refine wS ?_ GE250.out) | exact HB.out))); (case aF => exact (fun k_ hk => Kd.fresh' (Kd.R_lt (by (with_reducible repeat (first | apply rA | apply rN | apply rD)); exact HO253.out)) k_ hk)); (case aO => exact (by (with_reducible repeat (first | apply rA | apply rN | apply rD)); exact Kd.R_mono HO_8.out (fun _ hk => hk.2))); (case aS => exact (below_size (by repeat (first | (with_reducible first | exact HB.out | apply wA | apply wN | apply wD | refine wS ?_ GE250.out) | exact HB.out)))); (case aL => have := LMc35.out; first | omega | exact Nat.le_of_lt this); intro v258 w37 ho hb hg hat; rw [← Ny257.out] at ho; have n0_ := Aside0.mk (Kd.R_over' (by (with_reducible repeat (first | apply rA | apply rN | apply rD)); exact HO242.out) (Kd.R_typed (by (with_reducible repeat (first | apply rA | apply rN | apply rD)); exact HO_8.out)) (by decide) hg); have n1_ := Aside0.mk (Kd.R_over' (by (with_reducible repeat (first | apply rA | apply rN | apply rD)); exact HO245.out) (Kd.R_typed (by (with_reducible repeat (first | apply rA | apply rN | apply rD)); exact HO_8.out)) (by decide) hg); have n2_ := Aside0.mk (Kd.R_over' (by (with_reducible repeat (first | apply rA | apply rN | apply rD)); exact HO248.out) (Kd.R_typed (by (with_reducible repeat (first | apply rA | apply rN | apply rD)); exact HO_8.out)) (by decide) hg); have n3_ := Aside0.mk (blk_grown (g := gb250) (o := .cells #[.int .i64 t236, .int .i64 t237, .int .i64 t238, .int .i64 t239, .slice Ao22 t240.length co22, .slice Ao23 t243.length co23, .slice Ao24 t246.length co24] 26 (0, 0)) (by (with_reducible repeat (first | refine bN ?_ _ | refine bD ?_ | refine bA ?_ _)); exact BK250.out) hg (Kd.R_ne HO_8.out BK250.out (by decide))); have n4_ := Aside0.mk (Kd.R_after (ok := (fun _ => True)) (by (with_reducible repeat (first | apply rA | apply rN | apply rD)); exact HO253.out) hg hat); have n5_ := Aside0.mk (hb); have n6_ := Aside0.mk (ho); clear HO242; clear HO245; clear HO248; clear BK250; clear HO253; clear HB; clear HO_8; have HO242 := n0_; have HO245 := n1_; have HO248 := n2_; have BK250 := n3_; have HO253 := n4_; have HB := n5_; have HO259 := n6_; clear n0_ n1_ n2_ n3_ n4_ n5_ n6_; clear ho hb hg hat))
                   go_roundg kj8
                   case measure => have := HJ2.out; have := HK2.out; have := HJ8.out; omega
                   case rel => exact ⟨(x10_8), (t254), (t255), (y257), (wrap64 (x9_2 + 1)), (by first | rfl | (simp; done) | (simp [*]; done)), (by first | rfl | (simp; done) | (simp [*]; done)), (by first | rfl | (simp; done) | (simp [*]; done)), (by first | rfl | (simp; done) | (simp [*]; done)), H', ⟨by have := HJ2.out; have := HK2.out; have := HJ8.out; omega⟩, ⟨by (with_reducible repeat (first | apply rA | apply rN | apply rD)); exact Kd.R_mono HO259.out (fun _ hk => trivial)⟩, ⟨by repeat (first | (with_reducible first | exact HB.out | apply wA | apply wN | apply wD | refine wS ?_ GE250.out) | exact HB.out)⟩⟩
                  ·rw [if_neg c35] at H
                   exact absurd H (by simp)
             ·rw [if_neg c26] at H
              have c26b0 : (t256 == 0) = false := beq_eq_false_iff_ne.mpr c26
              have c26b1 : (t256 != 0) = true := bne_iff_ne.mpr c26
              obtain rfl := Option.some.inj H
              go_wp2_with (first | (go_at_call 10; (with_reducible refine (scan_Resolve.calls kj8 x5_2 x6_2 x7_2 t236 t237 t238 t239 _ _ t240 _ _ t243 _ _ t246 t251 t254 t255 t256 _ ?side1 ?side2 ?side3 ?side4 ?side5 ?side6 A17.out).mono ?_); (case side1 => refine (Kd.R_reads' (e := 3) (base := w.heap.size) (ok := fun k_ => (some k_ ≠ (.slice Ao23 t243.length co23 : Value).ownBlock ∧ some k_ ≠ (.slice Ao24 t246.length co24 : Value).ownBlock)) (n := t240.length) (c := co22) ?_).2.2; exact (by (with_reducible repeat (first | apply rA | apply rN | apply rD)); exact (Kd.R_mono (R_fars7 gb250 (Kd.R_types HO242.out BK250.out (by decide)) (fun _ hk => hk.2) (.int .i64 t236) (.int .i64 t237) (.int .i64 t238) (.int .i64 t239) (.slice Ao22 t240.length co22) (.slice Ao23 t243.length co23) (.slice Ao24 t246.length co24)) (fun _ h_ => h_.1)))); (case side2 => exact (Kd.R_reads' HO242.out).2.1); (case side3 => refine (Kd.R_reads' (e := 3) (base := w.heap.size) (ok := fun k_ => (some k_ ≠ (.slice Ao22 t240.length co22 : Value).ownBlock ∧ some k_ ≠ (.slice Ao24 t246.length co24 : Value).ownBlock)) (n := t243.length) (c := co23) ?_).2.2; exact (by (with_reducible repeat (first | apply rA | apply rN | apply rD)); exact (Kd.R_mono (R_fars7 gb250 (Kd.R_types HO245.out BK250.out (by decide)) (fun _ hk => hk.2) (.int .i64 t236) (.int .i64 t237) (.int .i64 t238) (.int .i64 t239) (.slice Ao22 t240.length co22) (.slice Ao23 t243.length co23) (.slice Ao24 t246.length co24)) (fun _ h_ => h_.1)))); (case side4 => exact (Kd.R_reads' HO245.out).2.1); (case side5 => refine (Kd.R_reads' (e := 3) (base := w.heap.size) (ok := fun k_ => (some k_ ≠ (.slice Ao22 t240.length co22 : Value).ownBlock ∧ some k_ ≠ (.slice Ao23 t243.length co23 : Value).ownBlock)) (n := t246.length) (c := co24) ?_).2.2; exact (by (with_reducible repeat (first | apply rA | apply rN | apply rD)); exact (Kd.R_mono (R_fars7 gb250 (Kd.R_types HO248.out BK250.out (by decide)) (fun _ hk => hk.2) (.int .i64 t236) (.int .i64 t237) (.int .i64 t238) (.int .i64 t239) (.slice Ao22 t240.length co22) (.slice Ao23 t243.length co23) (.slice Ao24 t246.length co24)) (fun _ h_ => h_.1)))); (case side6 => exact (Kd.R_reads' HO248.out).2.1); rintro e w39 ⟨v252, rfl, ho0, hb⟩; have n0_ := Aside0.mk (Kd.R_elder' (by (with_reducible repeat (first | apply rA | apply rN | apply rD)); exact (Kd.R_mono (R_fars7 gb250 (Kd.R_types HO_8.out BK250.out (by decide)) (fun _ hk => hk.2) (.int .i64 t236) (.int .i64 t237) (.int .i64 t238) (.int .i64 t239) (.slice Ao22 t240.length co22) (.slice Ao23 t243.length co23) (.slice Ao24 t246.length co24)) (fun _ h_ => h_.1))) (Kd.R_base ho0) hb); have n1_ := Aside0.mk (Kd.R_below (by (with_reducible repeat (first | apply rA | apply rN | apply rD)); exact (Kd.R_mono (R_fars7 gb250 (Kd.R_types HO242.out BK250.out (by decide)) (fun _ hk => hk.2) (.int .i64 t236) (.int .i64 t237) (.int .i64 t238) (.int .i64 t239) (.slice Ao22 t240.length co22) (.slice Ao23 t243.length co23) (.slice Ao24 t246.length co24)) (fun _ h_ => h_.1))) hb); have n2_ := Aside0.mk (Kd.R_below (by (with_reducible repeat (first | apply rA | apply rN | apply rD)); exact (Kd.R_mono (R_fars7 gb250 (Kd.R_types HO245.out BK250.out (by decide)) (fun _ hk => hk.2) (.int .i64 t236) (.int .i64 t237) (.int .i64 t238) (.int .i64 t239) (.slice Ao22 t240.length co22) (.slice Ao23 t243.length co23) (.slice Ao24 t246.length co24)) (fun _ h_ => h_.1))) hb); have n3_ := Aside0.mk (Kd.R_below (by (with_reducible repeat (first | apply rA | apply rN | apply rD)); exact (Kd.R_mono (R_fars7 gb250 (Kd.R_types HO248.out BK250.out (by decide)) (fun _ hk => hk.2) (.int .i64 t236) (.int .i64 t237) (.int .i64 t238) (.int .i64 t239) (.slice Ao22 t240.length co22) (.slice Ao23 t243.length co23) (.slice Ao24 t246.length co24)) (fun _ h_ => h_.1))) hb); have n4_ := Aside0.mk (Kd.R_lower (Kd.R_new' ho0 (Kd.R_lt (by (with_reducible repeat (first | apply rA | apply rN | apply rD)); exact (Kd.R_mono (R_fars7 gb250 (Kd.R_types HO_8.out BK250.out (by decide)) (fun _ hk => hk.2) (.int .i64 t236) (.int .i64 t237) (.int .i64 t238) (.int .i64 t239) (.slice Ao22 t240.length co22) (.slice Ao23 t243.length co23) (.slice Ao24 t246.length co24)) (fun _ h_ => h_.1))))) (below_size (by repeat (first | (with_reducible first | exact HB.out | apply wA | apply wN | apply wD | refine wS ?_ GE250.out) | exact HB.out)))); have n5_ := Aside0.mk (blk_below (g := gb250) (o := .cells #[.int .i64 t236, .int .i64 t237, .int .i64 t238, .int .i64 t239, .slice Ao22 t240.length co22, .slice Ao23 t243.length co23, .slice Ao24 t246.length co24] 26 (0, 0)) (by (with_reducible repeat (first | refine bN ?_ _ | refine bD ?_ | refine bA ?_ _)); refine blk_put (cs := #[.int .i64 t236, .int .i64 t237, .int .i64 t238, .int .i64 t239, .slice Ao22 t240.length co22, .slice Ao23 t243.length co23, .slice none 0 0]) ?_ 6 _ rfl; (with_reducible repeat (first | refine bN ?_ _ | refine bD ?_ | refine bA ?_ _)); refine blk_put (cs := #[.int .i64 t236, .int .i64 t237, .int .i64 t238, .int .i64 t239, .slice Ao22 t240.length co22, .slice none 0 0, .slice none 0 0]) ?_ 5 _ rfl; (with_reducible repeat (first | refine bN ?_ _ | refine bD ?_ | refine bA ?_ _)); refine blk_put (cs := #[.int .i64 t236, .int .i64 t237, .int .i64 t238, .int .i64 t239, .slice none 0 0, .slice none 0 0, .slice none 0 0]) ?_ 4 _ rfl; (with_reducible repeat (first | refine bN ?_ _ | refine bD ?_ | refine bA ?_ _)); refine blk_put (cs := #[.int .i64 t236, .int .i64 t237, .int .i64 t238, .int .i64 0, .slice none 0 0, .slice none 0 0, .slice none 0 0]) ?_ 3 _ rfl; (with_reducible repeat (first | refine bN ?_ _ | refine bD ?_ | refine bA ?_ _)); refine blk_put (cs := #[.int .i64 t236, .int .i64 t237, .int .i64 0, .int .i64 0, .slice none 0 0, .slice none 0 0, .slice none 0 0]) ?_ 2 _ rfl; (with_reducible repeat (first | refine bN ?_ _ | refine bD ?_ | refine bA ?_ _)); refine blk_put (cs := #[.int .i64 t236, .int .i64 0, .int .i64 0, .int .i64 0, .slice none 0 0, .slice none 0 0, .slice none 0 0]) ?_ 1 _ rfl; (with_reducible repeat (first | refine bN ?_ _ | refine bD ?_ | refine bA ?_ _)); refine blk_put (cs := #[.int .i64 0, .int .i64 0, .int .i64 0, .int .i64 0, .slice none 0 0, .slice none 0 0, .slice none 0 0]) ?_ 0 _ rfl; (with_reducible repeat (first | refine bN ?_ _ | refine bD ?_ | refine bA ?_ _)); exact BK250.out) hb); have n6_ := Aside0.mk (below_step (by repeat (first | (with_reducible first | exact HB.out | apply wA | apply wN | apply wD | refine wS ?_ GE250.out) | exact HB.out)) hb); clear HO_8; clear HO242; clear HO245; clear HO248; clear BK250; clear HB; have HO_8 := n0_; have HO242 := n1_; have HO245 := n2_; have HO248 := n3_; have HO253 := n4_; have BK250 := n5_; have HB := n6_; clear n0_ n1_ n2_ n3_ n4_ n5_ n6_; (try clear hb); (try clear hb2); (try clear hk); (try clear hi); (try clear ho0)))
              go_ret
              exact ⟨by first | rfl | (simp [errW_none, errW_some] <;> rfl) | (simp [*, errW_none, errW_some] <;> rfl), by repeat (first | (with_reducible first | exact HB.out | apply wA | apply wN | apply wD | refine wS ?_ GE250.out) | exact HB.out)⟩
            ·rw [if_neg c25] at H
             have c25b0 : (t249 == 0) = false := beq_eq_false_iff_ne.mpr c25
             have c25b1 : (t249 != 0) = true := bne_iff_ne.mpr c25
             obtain rfl := Option.some.inj H
             go_wp2_with (first | (go_at_call 10; (with_reducible refine (scan_Resolve.calls kj8 x5_2 x6_2 x7_2 t236 t237 t238 t239 _ _ t240 _ _ t243 _ _ t246 t251 t254 t255 t256 _ ?side1 ?side2 ?side3 ?side4 ?side5 ?side6 A17.out).mono ?_); (case side1 => refine (Kd.R_reads' (e := 3) (base := w.heap.size) (ok := fun k_ => (some k_ ≠ (.slice Ao23 t243.length co23 : Value).ownBlock ∧ some k_ ≠ (.slice Ao24 t246.length co24 : Value).ownBlock)) (n := t240.length) (c := co22) ?_).2.2; exact (by (with_reducible repeat (first | apply rA | apply rN | apply rD)); exact (Kd.R_mono (R_fars7 gb250 (Kd.R_types HO242.out BK250.out (by decide)) (fun _ hk => hk.2) (.int .i64 t236) (.int .i64 t237) (.int .i64 t238) (.int .i64 t239) (.slice Ao22 t240.length co22) (.slice Ao23 t243.length co23) (.slice Ao24 t246.length co24)) (fun _ h_ => h_.1)))); (case side2 => exact (Kd.R_reads' HO242.out).2.1); (case side3 => refine (Kd.R_reads' (e := 3) (base := w.heap.size) (ok := fun k_ => (some k_ ≠ (.slice Ao22 t240.length co22 : Value).ownBlock ∧ some k_ ≠ (.slice Ao24 t246.length co24 : Value).ownBlock)) (n := t243.length) (c := co23) ?_).2.2; exact (by (with_reducible repeat (first | apply rA | apply rN | apply rD)); exact (Kd.R_mono (R_fars7 gb250 (Kd.R_types HO245.out BK250.out (by decide)) (fun _ hk => hk.2) (.int .i64 t236) (.int .i64 t237) (.int .i64 t238) (.int .i64 t239) (.slice Ao22 t240.length co22) (.slice Ao23 t243.length co23) (.slice Ao24 t246.length co24)) (fun _ h_ => h_.1)))); (case side4 => exact (Kd.R_reads' HO245.out).2.1); (case side5 => refine (Kd.R_reads' (e := 3) (base := w.heap.size) (ok := fun k_ => (some k_ ≠ (.slice Ao22 t240.length co22 : Value).ownBlock ∧ some k_ ≠ (.slice Ao23 t243.length co23 : Value).ownBlock)) (n := t246.length) (c := co24) ?_).2.2; exact (by (with_reducible repeat (first | apply rA | apply rN | apply rD)); exact (Kd.R_mono (R_fars7 gb250 (Kd.R_types HO248.out BK250.out (by decide)) (fun _ hk => hk.2) (.int .i64 t236) (.int .i64 t237) (.int .i64 t238) (.int .i64 t239) (.slice Ao22 t240.length co22) (.slice Ao23 t243.length co23) (.slice Ao24 t246.length co24)) (fun _ h_ => h_.1)))); (case side6 => exact (Kd.R_reads' HO248.out).2.1); rintro e w40 ⟨v252, rfl, ho0, hb⟩; have n0_ := Aside0.mk (Kd.R_elder' (by (with_reducible repeat (first | apply rA | apply rN | apply rD)); exact (Kd.R_mono (R_fars7 gb250 (Kd.R_types HO_8.out BK250.out (by decide)) (fun _ hk => hk.2) (.int .i64 t236) (.int .i64 t237) (.int .i64 t238) (.int .i64 t239) (.slice Ao22 t240.length co22) (.slice Ao23 t243.length co23) (.slice Ao24 t246.length co24)) (fun _ h_ => h_.1))) (Kd.R_base ho0) hb); have n1_ := Aside0.mk (Kd.R_below (by (with_reducible repeat (first | apply rA | apply rN | apply rD)); exact (Kd.R_mono (R_fars7 gb250 (Kd.R_types HO242.out BK250.out (by decide)) (fun _ hk => hk.2) (.int .i64 t236) (.int .i64 t237) (.int .i64 t238) (.int .i64 t239) (.slice Ao22 t240.length co22) (.slice Ao23 t243.length co23) (.slice Ao24 t246.length co24)) (fun _ h_ => h_.1))) hb); have n2_ := Aside0.mk (Kd.R_below (by (with_reducible repeat (first | apply rA | apply rN | apply rD)); exact (Kd.R_mono (R_fars7 gb250 (Kd.R_types HO245.out BK250.out (by decide)) (fun _ hk => hk.2) (.int .i64 t236) (.int .i64 t237) (.int .i64 t238) (.int .i64 t239) (.slice Ao22 t240.length co22) (.slice Ao23 t243.length co23) (.slice Ao24 t246.length co24)) (fun _ h_ => h_.1))) hb); have n3_ := Aside0.mk (Kd.R_below (by (with_reducible repeat (first | apply rA | apply rN | apply rD)); exact (Kd.R_mono (R_fars7 gb250 (Kd.R_types HO248.out BK250.out (by decide)) (fun _ hk => hk.2) (.int .i64 t236) (.int .i64 t237) (.int .i64 t238) (.int .i64 t239) (.slice Ao22 t240.length co22) (.slice Ao23 t243.length co23) (.slice Ao24 t246.length co24)) (fun _ h_ => h_.1))) hb); have n4_ := Aside0.mk (Kd.R_lower (Kd.R_new' ho0 (Kd.R_lt (by (with_reducible repeat (first | apply rA | apply rN | apply rD)); exact (Kd.R_mono (R_fars7 gb250 (Kd.R_types HO_8.out BK250.out (by decide)) (fun _ hk => hk.2) (.int .i64 t236) (.int .i64 t237) (.int .i64 t238) (.int .i64 t239) (.slice Ao22 t240.length co22) (.slice Ao23 t243.length co23) (.slice Ao24 t246.length co24)) (fun _ h_ => h_.1))))) (below_size (by repeat (first | (with_reducible first | exact HB.out | apply wA | apply wN | apply wD | refine wS ?_ GE250.out) | exact HB.out)))); have n5_ := Aside0.mk (blk_below (g := gb250) (o := .cells #[.int .i64 t236, .int .i64 t237, .int .i64 t238, .int .i64 t239, .slice Ao22 t240.length co22, .slice Ao23 t243.length co23, .slice Ao24 t246.length co24] 26 (0, 0)) (by (with_reducible repeat (first | refine bN ?_ _ | refine bD ?_ | refine bA ?_ _)); refine blk_put (cs := #[.int .i64 t236, .int .i64 t237, .int .i64 t238, .int .i64 t239, .slice Ao22 t240.length co22, .slice Ao23 t243.length co23, .slice none 0 0]) ?_ 6 _ rfl; (with_reducible repeat (first | refine bN ?_ _ | refine bD ?_ | refine bA ?_ _)); refine blk_put (cs := #[.int .i64 t236, .int .i64 t237, .int .i64 t238, .int .i64 t239, .slice Ao22 t240.length co22, .slice none 0 0, .slice none 0 0]) ?_ 5 _ rfl; (with_reducible repeat (first | refine bN ?_ _ | refine bD ?_ | refine bA ?_ _)); refine blk_put (cs := #[.int .i64 t236, .int .i64 t237, .int .i64 t238, .int .i64 t239, .slice none 0 0, .slice none 0 0, .slice none 0 0]) ?_ 4 _ rfl; (with_reducible repeat (first | refine bN ?_ _ | refine bD ?_ | refine bA ?_ _)); refine blk_put (cs := #[.int .i64 t236, .int .i64 t237, .int .i64 t238, .int .i64 0, .slice none 0 0, .slice none 0 0, .slice none 0 0]) ?_ 3 _ rfl; (with_reducible repeat (first | refine bN ?_ _ | refine bD ?_ | refine bA ?_ _)); refine blk_put (cs := #[.int .i64 t236, .int .i64 t237, .int .i64 0, .int .i64 0, .slice none 0 0, .slice none 0 0, .slice none 0 0]) ?_ 2 _ rfl; (with_reducible repeat (first | refine bN ?_ _ | refine bD ?_ | refine bA ?_ _)); refine blk_put (cs := #[.int .i64 t236, .int .i64 0, .int .i64 0, .int .i64 0, .slice none 0 0, .slice none 0 0, .slice none 0 0]) ?_ 1 _ rfl; (with_reducible repeat (first | refine bN ?_ _ | refine bD ?_ | refine bA ?_ _)); refine blk_put (cs := #[.int .i64 0, .int .i64 0, .int .i64 0, .int .i64 0, .slice none 0 0, .slice none 0 0, .slice none 0 0]) ?_ 0 _ rfl; (with_reducible repeat (first | refine bN ?_ _ | refine bD ?_ | refine bA ?_ _)); exact BK250.out) hb); have n6_ := Aside0.mk (below_step (by repeat (first | (with_reducible first | exact HB.out | apply wA | apply wN | apply wD | refine wS ?_ GE250.out) | exact HB.out)) hb); clear HO_8; clear HO242; clear HO245; clear HO248; clear BK250; clear HB; have HO_8 := n0_; have HO242 := n1_; have HO245 := n2_; have HO248 := n3_; have HO253 := n4_; have BK250 := n5_; have HB := n6_; clear n0_ n1_ n2_ n3_ n4_ n5_ n6_; (try clear hb); (try clear hb2); (try clear hk); (try clear hi); (try clear ho0)))
             go_ret
             exact ⟨by first | rfl | (simp [errW_none, errW_some] <;> rfl) | (simp [*, errW_none, errW_some] <;> rfl), by repeat (first | (with_reducible first | exact HB.out | apply wA | apply wN | apply wD | refine wS ?_ GE250.out) | exact HB.out)⟩
           ·rw [if_neg c15] at H
            exact absurd H (by simp)
          ·rw [if_neg c14] at H
           exact absurd H (by simp)
         ·rw [if_neg c13] at H
          exact absurd H (by simp)
      ·rw [if_neg c8] at H
       have c8b0 : decide (x9_2 ≤ (l1.length : Int)) = false := decide_eq_false c8
       clear c8
       by_cases c41 : x7_2 < (a0.size : Int)
       ·rw [if_pos c41] at H
        have c41b0 : decide (x7_2 < (a0.size : Int)) = true := decide_eq_true c41
        clear c41
        by_cases c42 : x8_2.length < 8796093022208
        ·rw [if_pos c42] at H
         have LMc42 := Aside0.mk c42
         clear c42
         obtain ⟨y260, hy260⟩ : ∃ y_ : List (S51), y_ = (x8_2 ++ [(⟨x7_2, (a0.size : Int)⟩ : S51)]) := ⟨_, rfl⟩
         replace H : ((split_Records.f k2 a0).bind fun bt263 => (if bt263.2 = 0 then ((ndjqkeep_Spans.f k2 y260 bt263.1).bind fun t267 => (if t267 = true then ((ndjqlaw20_awake.f k2).bind fun t268 => (some t268)) else (some false))) else (some false))) = some r := by first | (rw [hy260]; with_reducible exact H) | (have H2_ := (Option.bind_some _ _).symm.trans H; rw [hy260]; with_reducible exact H2_) | (have H2_ := (Option.bind_some _ _).symm.trans H; with_reducible exact H2_) | with_reducible exact H | (rw [hy260]; exact H) | exact H
         have Ny260 := Aside0.mk hy260
         clear hy260
         replace H := Option.bind_eq_some_iff.mp H
         obtain ⟨⟨t263, t264⟩, A430, H⟩ := H
         replace H : (if t264 = 0 then ((ndjqkeep_Spans.f k2 y260 t263).bind fun t267 => (if t267 = true then ((ndjqlaw20_awake.f k2).bind fun t268 => (some t268)) else (some false))) else (some false)) = some r := H
         have A43 := Aside0.mk A430
         clear A430
         have HF44 := Aside0.mk H
         clear H
         go_wp2_with (first | ((with_reducible refine gate_builtin (b := .append) (xs := #[.tmp 104, .tmp 109]) rfl ?_); (try (refine gate_guard (by rfl) ?_; dsimp only)); at_builtin; refine Kd.R_append k51 (w0 := w) w.heap.size rfl (.tmp 104) (.tmp 109) 28 51 (.agg #[(.int .i64 0), (.int .i64 0)]) 16 rfl Tryd.underlying28 info51 rfl (by decide) (by omega) u8 x8_2 (⟨x7_2, (a0.size : Int)⟩ : S51) [.int .i64 x7_2, .int .i64 (a0.size : Int)] (fun _ => True) (fun _ => False) rfl rfl ?aP (fun _ hk => hk.elim) ?aF ?aO ?aB ?aS ?aL ?_; (case aP => exact k51_mkM _ _ _ (⟨x7_2, (a0.size : Int)⟩ : S51)); (case aB => exact (by repeat (first | (with_reducible first | exact HB.out | apply wA | apply wN | apply wD) | exact HB.out))); (case aF => exact (fun _ _ => trivial)); (case aO => exact (by (with_reducible repeat (first | apply rA | apply rN | apply rD)); exact HO_8.out)); (case aS => exact (below_size (by repeat (first | (with_reducible first | exact HB.out | apply wA | apply wN | apply wD) | exact HB.out)))); (case aL => have := LMc42.out; first | omega | exact Nat.le_of_lt this); intro v261 w45 ho hb hg hat; rw [← Ny260.out] at ho; have n0_ := Aside0.mk (hb); have n1_ := Aside0.mk (ho); clear HB; clear HO_8; have HB := n0_; have HO262 := n1_; clear n0_ n1_; clear ho hb hg hat))
         have H := HF44.out
         clear HF44
         by_cases c46 : t264 = 0
         ·rw [if_pos c46] at H
          have c46b0 : (t264 == 0) = true := beq_iff_eq.mpr c46
          have c46b1 : (t264 != 0) = false := bne_eq_false_iff_eq.mpr c46
          clear c46
          replace H := Option.bind_eq_some_iff.mp H
          obtain ⟨t267, A470, H⟩ := H
          replace H : (if t267 = true then ((ndjqlaw20_awake.f k2).bind fun t268 => (some t268)) else (some false)) = some r := H
          have A47 := Aside0.mk A470
          clear A470
          have HF48 := Aside0.mk H
          clear H
          go_wp2_with (first | (go_at_call 22; (with_reducible refine (split_Records.calls k2 a0 t263 t264 _ ?side1 A43.out).mono ?_); (case side1 => exact GlbLaid.below HG.out (by repeat (first | (with_reducible first | exact HB.out | apply wA | apply wN | apply wD) | exact HB.out))); rintro e w49 ⟨v265, rfl, ho0, hb⟩; have n0_ := Aside0.mk (Kd.R_elder' (by (with_reducible repeat (first | apply rA | apply rN | apply rD)); exact HO262.out) (Kd.R_base ho0) hb); have n1_ := Aside0.mk (Kd.R_lower (Kd.R_new' ho0 (Kd.R_lt (by (with_reducible repeat (first | apply rA | apply rN | apply rD)); exact HO262.out))) (below_size (by repeat (first | (with_reducible first | exact HB.out | apply wA | apply wN | apply wD) | exact HB.out)))); have n2_ := Aside0.mk (below_step (by repeat (first | (with_reducible first | exact HB.out | apply wA | apply wN | apply wD) | exact HB.out)) hb); clear HO262; clear HB; have HO262 := n0_; have HO266 := n1_; have HB := n2_; clear n0_ n1_ n2_; (try clear hb); (try clear hb2); (try clear hk); (try clear hi); (try clear ho0)))
          have H := HF48.out
          clear HF48
          by_cases c50 : t267 = true
          ·subst c50
           have H1 : ((ndjqlaw20_awake.f k2).bind fun t268 => (some t268)) = some r := by rw [if_pos rfl] at H; exact H
           clear H; have H := H1; clear H1
           replace H := Option.bind_eq_some_iff.mp H
           obtain ⟨t268, A510, H⟩ := H
           replace H : (some t268) = some r := H
           have A51 := Aside0.mk A510
           clear A510
           obtain rfl := Option.some.inj H
           obtain ⟨Ao52, co52, eo52⟩ := Kd.R_slice HO262.out
           subst eo52
           obtain ⟨Ao53, co53, eo53⟩ := Kd.R_slice HO266.out
           subst eo53
           go_wp2_with (first | (go_at_call 12; (with_reducible refine (ndjqkeep_Spans.calls k2 _ _ y260 _ _ t263 true _ ?side1 ?side2 ?side3 ?side4 A47.out).mono ?_); (case side1 => repeat (first | exact (Kd.R_reads' HO262.out).2.2 | (with_reducible refine Kd.C_alloc ?_ _) | (with_reducible refine Kd.C_drewN ?_ _) | (with_reducible refine Kd.C_drew ?_))); (case side2 => exact (Kd.R_reads' HO262.out).2.1); (case side3 => repeat (first | exact (Kd.R_reads' HO266.out).2.2 | (with_reducible refine Kd.C_alloc ?_ _) | (with_reducible refine Kd.C_drewN ?_ _) | (with_reducible refine Kd.C_drew ?_))); (case side4 => exact (Kd.R_reads' HO266.out).2.1); rintro e w' ⟨rfl, ⟨nd, rfl⟩⟩) | (go_at_call 9; (with_reducible refine (ndjqlaw20_awake.calls k2  t268 _ ?side1 A51.out).mono ?_); (case side1 => exact GlbLaid.below HG.out (by repeat (first | (with_reducible first | exact HB.out | apply wA | apply wN | apply wD) | exact HB.out))); rintro e w54 ⟨rfl, hb⟩; have n0_ := Aside0.mk (Kd.R_below (by (with_reducible repeat (first | apply rA | apply rN | apply rD)); exact HO262.out) hb); have n1_ := Aside0.mk (Kd.R_below (by (with_reducible repeat (first | apply rA | apply rN | apply rD)); exact HO266.out) hb); have n2_ := Aside0.mk (below_step (by repeat (first | (with_reducible first | exact HB.out | apply wA | apply wN | apply wD) | exact HB.out)) hb); clear HO262; clear HO266; clear HB; have HO262 := n0_; have HO266 := n1_; have HB := n2_; clear n0_ n1_ n2_; (try clear hb); (try clear hb2); (try clear hk); (try clear hi)))
           go_ret
           exact ⟨by first | rfl | (simp [errW_none, errW_some] <;> rfl) | (simp [*, errW_none, errW_some] <;> rfl), by repeat (first | (with_reducible first | exact HB.out | apply wA | apply wN | apply wD) | exact HB.out)⟩
          ·replace c50 := Bool.eq_false_iff.mpr c50
           subst c50
           have H1 : (some false) = some r := by rw [if_neg (show ¬ (false = true) by decide)] at H; exact H
           clear H; have H := H1; clear H1
           obtain rfl := Option.some.inj H
           obtain ⟨Ao55, co55, eo55⟩ := Kd.R_slice HO262.out
           subst eo55
           obtain ⟨Ao56, co56, eo56⟩ := Kd.R_slice HO266.out
           subst eo56
           go_wp2_with (first | (go_at_call 12; (with_reducible refine (ndjqkeep_Spans.calls k2 _ _ y260 _ _ t263 false _ ?side1 ?side2 ?side3 ?side4 A47.out).mono ?_); (case side1 => repeat (first | exact (Kd.R_reads' HO262.out).2.2 | (with_reducible refine Kd.C_alloc ?_ _) | (with_reducible refine Kd.C_drewN ?_ _) | (with_reducible refine Kd.C_drew ?_))); (case side2 => exact (Kd.R_reads' HO262.out).2.1); (case side3 => repeat (first | exact (Kd.R_reads' HO266.out).2.2 | (with_reducible refine Kd.C_alloc ?_ _) | (with_reducible refine Kd.C_drewN ?_ _) | (with_reducible refine Kd.C_drew ?_))); (case side4 => exact (Kd.R_reads' HO266.out).2.1); rintro e w' ⟨rfl, ⟨nd, rfl⟩⟩))
           go_ret
           exact ⟨by first | rfl | (simp [errW_none, errW_some] <;> rfl) | (simp [*, errW_none, errW_some] <;> rfl), by repeat (first | (with_reducible first | exact HB.out | apply wA | apply wN | apply wD) | exact HB.out)⟩
         ·rw [if_neg c46] at H
          have c46b0 : (t264 == 0) = false := beq_eq_false_iff_ne.mpr c46
          have c46b1 : (t264 != 0) = true := bne_iff_ne.mpr c46
          obtain rfl := Option.some.inj H
          go_wp2_with (first | (go_at_call 22; (with_reducible refine (split_Records.calls k2 a0 t263 t264 _ ?side1 A43.out).mono ?_); (case side1 => exact GlbLaid.below HG.out (by repeat (first | (with_reducible first | exact HB.out | apply wA | apply wN | apply wD) | exact HB.out))); rintro e w57 ⟨v265, rfl, ho0, hb⟩; have n0_ := Aside0.mk (Kd.R_elder' (by (with_reducible repeat (first | apply rA | apply rN | apply rD)); exact HO262.out) (Kd.R_base ho0) hb); have n1_ := Aside0.mk (Kd.R_lower (Kd.R_new' ho0 (Kd.R_lt (by (with_reducible repeat (first | apply rA | apply rN | apply rD)); exact HO262.out))) (below_size (by repeat (first | (with_reducible first | exact HB.out | apply wA | apply wN | apply wD) | exact HB.out)))); have n2_ := Aside0.mk (below_step (by repeat (first | (with_reducible first | exact HB.out | apply wA | apply wN | apply wD) | exact HB.out)) hb); clear HO262; clear HB; have HO262 := n0_; have HO266 := n1_; have HB := n2_; clear n0_ n1_ n2_; (try clear hb); (try clear hb2); (try clear hk); (try clear hi); (try clear ho0)))
          go_ret
          exact ⟨by first | rfl | (simp [errW_none, errW_some] <;> rfl) | (simp [*, errW_none, errW_some] <;> rfl), by repeat (first | (with_reducible first | exact HB.out | apply wA | apply wN | apply wD) | exact HB.out)⟩
        ·rw [if_neg c42] at H
         exact absurd H (by simp)
       ·rw [if_neg c41] at H
        have c41b0 : decide (x7_2 < (a0.size : Int)) = false := decide_eq_false c41
        clear c41
        replace H := Option.bind_eq_some_iff.mp H
        obtain ⟨⟨t269, t270⟩, A580, H⟩ := H
        replace H : (if t270 = 0 then ((ndjqkeep_Spans.f k2 x8_2 t269).bind fun t273 => (if t273 = true then ((ndjqlaw20_awake.f k2).bind fun t274 => (some t274)) else (some false))) else (some false)) = some r := H
        have A58 := Aside0.mk A580
        clear A580
        by_cases c59 : t270 = 0
        ·rw [if_pos c59] at H
         have c59b0 : (t270 == 0) = true := beq_iff_eq.mpr c59
         have c59b1 : (t270 != 0) = false := bne_eq_false_iff_eq.mpr c59
         clear c59
         replace H := Option.bind_eq_some_iff.mp H
         obtain ⟨t273, A600, H⟩ := H
         replace H : (if t273 = true then ((ndjqlaw20_awake.f k2).bind fun t274 => (some t274)) else (some false)) = some r := H
         have A60 := Aside0.mk A600
         clear A600
         have HF61 := Aside0.mk H
         clear H
         go_wp2_with (first | ((with_reducible refine gate_callee (f := 22) rfl ?_); refine goesL_ (some 113) rfl rfl Tryd.func22 (by kernel_rfl) rfl #[.string a0] rfl (by (try simp only [List.map_toArray, List.map_cons, List.map_nil]); first | done | rfl | (simp only [List.length_drop, List.length_take]; rfl)) ?_; (with_reducible refine (split_Records.calls k2 a0 t269 t270 _ ?side1 A58.out).mono ?_); (case side1 => exact GlbLaid.below HG.out (by repeat (first | (with_reducible first | exact HB.out | apply wA | apply wN | apply wD) | exact HB.out))); rintro e w62 ⟨v271, rfl, ho0, hb⟩; refine ⟨_, rfl, ?_⟩; have n0_ := Aside0.mk (Kd.R_elder' (by (with_reducible repeat (first | apply rA | apply rN | apply rD)); exact HO_8.out) (Kd.R_base ho0) hb); have n1_ := Aside0.mk (Kd.R_lower (Kd.R_new' ho0 (Kd.R_lt (by (with_reducible repeat (first | apply rA | apply rN | apply rD)); exact HO_8.out))) (below_size (by repeat (first | (with_reducible first | exact HB.out | apply wA | apply wN | apply wD) | exact HB.out)))); have n2_ := Aside0.mk (below_step (by repeat (first | (with_reducible first | exact HB.out | apply wA | apply wN | apply wD) | exact HB.out)) hb); clear HO_8; clear HB; have HO_8 := n0_; have HO272 := n1_; have HB := n2_; clear n0_ n1_ n2_; (try clear hb); (try clear hb2); (try clear hk); (try clear hi); (try clear ho0)))
         have H := HF61.out
         clear HF61
         by_cases c63 : t273 = true
         ·subst c63
          have H1 : ((ndjqlaw20_awake.f k2).bind fun t274 => (some t274)) = some r := by rw [if_pos rfl] at H; exact H
          clear H; have H := H1; clear H1
          replace H := Option.bind_eq_some_iff.mp H
          obtain ⟨t274, A640, H⟩ := H
          replace H : (some t274) = some r := H
          have A64 := Aside0.mk A640
          clear A640
          obtain rfl := Option.some.inj H
          obtain ⟨Ao65, co65, eo65⟩ := Kd.R_slice HO_8.out
          subst eo65
          obtain ⟨Ao66, co66, eo66⟩ := Kd.R_slice HO272.out
          subst eo66
          go_wp2_with (first | (go_at_call 12; (with_reducible refine (ndjqkeep_Spans.calls k2 _ _ x8_2 _ _ t269 true _ ?side1 ?side2 ?side3 ?side4 A60.out).mono ?_); (case side1 => repeat (first | exact (Kd.R_reads' HO_8.out).2.2 | (with_reducible refine Kd.C_alloc ?_ _) | (with_reducible refine Kd.C_drewN ?_ _) | (with_reducible refine Kd.C_drew ?_))); (case side2 => exact (Kd.R_reads' HO_8.out).2.1); (case side3 => repeat (first | exact (Kd.R_reads' HO272.out).2.2 | (with_reducible refine Kd.C_alloc ?_ _) | (with_reducible refine Kd.C_drewN ?_ _) | (with_reducible refine Kd.C_drew ?_))); (case side4 => exact (Kd.R_reads' HO272.out).2.1); rintro e w' ⟨rfl, ⟨nd, rfl⟩⟩) | (go_at_call 9; (with_reducible refine (ndjqlaw20_awake.calls k2  t274 _ ?side1 A64.out).mono ?_); (case side1 => exact GlbLaid.below HG.out (by repeat (first | (with_reducible first | exact HB.out | apply wA | apply wN | apply wD) | exact HB.out))); rintro e w67 ⟨rfl, hb⟩; have n0_ := Aside0.mk (Kd.R_below (by (with_reducible repeat (first | apply rA | apply rN | apply rD)); exact HO_8.out) hb); have n1_ := Aside0.mk (Kd.R_below (by (with_reducible repeat (first | apply rA | apply rN | apply rD)); exact HO272.out) hb); have n2_ := Aside0.mk (below_step (by repeat (first | (with_reducible first | exact HB.out | apply wA | apply wN | apply wD) | exact HB.out)) hb); clear HO_8; clear HO272; clear HB; have HO_8 := n0_; have HO272 := n1_; have HB := n2_; clear n0_ n1_ n2_; (try clear hb); (try clear hb2); (try clear hk); (try clear hi)))
          go_ret
          exact ⟨by first | rfl | (simp [errW_none, errW_some] <;> rfl) | (simp [*, errW_none, errW_some] <;> rfl), by repeat (first | (with_reducible first | exact HB.out | apply wA | apply wN | apply wD) | exact HB.out)⟩
         ·replace c63 := Bool.eq_false_iff.mpr c63
          subst c63
          have H1 : (some false) = some r := by rw [if_neg (show ¬ (false = true) by decide)] at H; exact H
          clear H; have H := H1; clear H1
          obtain rfl := Option.some.inj H
          obtain ⟨Ao68, co68, eo68⟩ := Kd.R_slice HO_8.out
          subst eo68
          obtain ⟨Ao69, co69, eo69⟩ := Kd.R_slice HO272.out
          subst eo69
          go_wp2_with (first | (go_at_call 12; (with_reducible refine (ndjqkeep_Spans.calls k2 _ _ x8_2 _ _ t269 false _ ?side1 ?side2 ?side3 ?side4 A60.out).mono ?_); (case side1 => repeat (first | exact (Kd.R_reads' HO_8.out).2.2 | (with_reducible refine Kd.C_alloc ?_ _) | (with_reducible refine Kd.C_drewN ?_ _) | (with_reducible refine Kd.C_drew ?_))); (case side2 => exact (Kd.R_reads' HO_8.out).2.1); (case side3 => repeat (first | exact (Kd.R_reads' HO272.out).2.2 | (with_reducible refine Kd.C_alloc ?_ _) | (with_reducible refine Kd.C_drewN ?_ _) | (with_reducible refine Kd.C_drew ?_))); (case side4 => exact (Kd.R_reads' HO272.out).2.1); rintro e w' ⟨rfl, ⟨nd, rfl⟩⟩))
          go_ret
          exact ⟨by first | rfl | (simp [errW_none, errW_some] <;> rfl) | (simp [*, errW_none, errW_some] <;> rfl), by repeat (first | (with_reducible first | exact HB.out | apply wA | apply wN | apply wD) | exact HB.out)⟩
        ·rw [if_neg c59] at H
         have c59b0 : (t270 == 0) = false := beq_eq_false_iff_ne.mpr c59
         have c59b1 : (t270 != 0) = true := bne_iff_ne.mpr c59
         obtain rfl := Option.some.inj H
         go_wp2_with (first | ((with_reducible refine gate_callee (f := 22) rfl ?_); refine goesL_ (some 113) rfl rfl Tryd.func22 (by kernel_rfl) rfl #[.string a0] rfl (by (try simp only [List.map_toArray, List.map_cons, List.map_nil]); first | done | rfl | (simp only [List.length_drop, List.length_take]; rfl)) ?_; (with_reducible refine (split_Records.calls k2 a0 t269 t270 _ ?side1 A58.out).mono ?_); (case side1 => exact GlbLaid.below HG.out (by repeat (first | (with_reducible first | exact HB.out | apply wA | apply wN | apply wD) | exact HB.out))); rintro e w70 ⟨v271, rfl, ho0, hb⟩; refine ⟨_, rfl, ?_⟩; have n0_ := Aside0.mk (Kd.R_elder' (by (with_reducible repeat (first | apply rA | apply rN | apply rD)); exact HO_8.out) (Kd.R_base ho0) hb); have n1_ := Aside0.mk (Kd.R_lower (Kd.R_new' ho0 (Kd.R_lt (by (with_reducible repeat (first | apply rA | apply rN | apply rD)); exact HO_8.out))) (below_size (by repeat (first | (with_reducible first | exact HB.out | apply wA | apply wN | apply wD) | exact HB.out)))); have n2_ := Aside0.mk (below_step (by repeat (first | (with_reducible first | exact HB.out | apply wA | apply wN | apply wD) | exact HB.out)) hb); clear HO_8; clear HB; have HO_8 := n0_; have HO272 := n1_; have HB := n2_; clear n0_ n1_ n2_; (try clear hb); (try clear hb2); (try clear hk); (try clear hi); (try clear ho0)))
         go_ret
         exact ⟨by first | rfl | (simp [errW_none, errW_some] <;> rfl) | (simp [*, errW_none, errW_some] <;> rfl), by repeat (first | (with_reducible first | exact HB.out | apply wA | apply wN | apply wD) | exact HB.out)⟩

/-- THE ONE PURE STATEMENT of ndjqlaw20_ScanCarry: yours. -/
def ndjqlaw20_ScanCarry.Pure : Prop := ∀ (a0 : ByteArray) (l1 : List Int), a0.size ≤ 140737488351232 → l1.length ≤ maxLen → l1.length * 8 ≤ 140737488351232 → (∀ x ∈ l1, (Lit.int .i64 x).wf = true) → ∃ k, ndjqlaw20_ScanCarry.f k a0 l1 = some true
theorem ndjqlaw20_ScanCarry.walk (P : ndjqlaw20_ScanCarry.Pure) (a0 : ByteArray) (a1 : Option Addr) (len1 cap1 : Nat) (z1 : List Int) (w : World) (w0 : a0.size ≤ 140737488351232) (w1 : (a1 = none ∧ len1 = 0 ∧ cap1 = 0 ∧ z1 = []) ∨ ∃ x, a1 = some x ∧ len1 ≤ cap1 ∧ cap1 ≤ maxLen ∧ z1.length = cap1 ∧ (∀ i, i < z1.length → w.cell? (x.add i) = some (.int .i64 (z1.getD i 0))) ∧ ∀ n ∈ z1, (Lit.int .i64 n).wf = true) (y1 : len1 * 8 ≤ 140737488351232) (hG : GlbLaid w) :
  Calls Tryd.prog 6 #[.string a0, .slice a1 len1 cap1] w fun e w' => e = .returned (.bool true) ∧ Below w.heap.size w w' := by
 obtain ⟨l1, rfl, hr1, hm1, hw1, hc1⟩ := ReadsInt.ofRowC w1
 obtain ⟨k, h⟩ := P a0 l1 w0 hm1 y1 hw1
 refine (ndjqlaw20_ScanCarry.calls k a0 _ _ l1 true w (Kd.C_of_reads (d := (0 : Int)) (h1 := fun _ => rfl) hr1) hc1 hG h).mono ?_
 rintro e w' ⟨rfl, hd⟩
 exact ⟨rfl, hd⟩

end Go.Proofs.YtkhnifehcnlpjaaDoor.QScanCarry
