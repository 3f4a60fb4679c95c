-- by a program of this session (print2.py): the machine's side of one law; Lean checks it.
import Derived.Test.YtcnojfoiolbnaaaQJsonlexStringsx0
import Derived.Test.YtcnojfoiolbnaaaQJsonlexStringsx8
namespace Go.Proofs.Ytcnojfoiolbnaaa.QJsonlexStrings
open Go.RowKit Go.Proofs.YtcnojfoiolbnaaaW.PrintWords Go.Proofs.YtcnojfoiolbnaaaW.PrintLast Go.Proofs.YtcnojfoiolbnaaaW.PrintMore
attribute [local go_sem] max2_int min2_int max_two min_two max_three min_three max_four min_four   -- for this text's walks alone
set_option linter.unusedVariables false
set_option linter.unusedSimpArgs false

/-! ### ndjqref03_number: function 25 -/
mutual
def ndjqref03_number.j0 : Nat → ByteArray → Int → Int → Option (Int × Int × Int × Int × Int × ByteArray × Int × Int)
 | 0, _, _, _ => none
 | k + 1, x0, x1, x7 => (ndjqref03_digit.f x0 x7).bind fun t185 => (if t185 = true then (ndjqref03_number.l0 k x0 x1 x7 x7) else (some (0, 0, 0, 0, 0, (⟨#[]⟩ : ByteArray), x7, 4)))
def ndjqref03_number.l0 : Nat → ByteArray → Int → Int → Int → Option (Int × Int × Int × Int × Int × ByteArray × Int × Int)
 | 0, _, _, _, _ => none
 | k + 1, x0, x1, x7, x8 => (ndjqref03_digit.f x0 x7).bind fun t186 => (if t186 = true then (ndjqref03_number.l0 k x0 x1 (wrap64 (x7 + 1)) x8) else (if 0 ≤ x8 then (if x8 < (x0.size : Int) then (if (bt x0 x8) = 48 then (ndjqref03_number.j2 k x0 x1 x7 x8 (decide (x7 > (wrap64 (x8 + 1))))) else (ndjqref03_number.j2 k x0 x1 x7 x8 false)) else (none)) else (none)))
def ndjqref03_number.j2 : Nat → ByteArray → Int → Int → Int → Bool → Option (Int × Int × Int × Int × Int × ByteArray × Int × Int)
 | 0, _, _, _, _, _ => none
 | k + 1, x0, x1, x7, x8, x39 => if x39 = true then (some (0, 0, 0, 0, 0, (⟨#[]⟩ : ByteArray), wrap64 (x8 + 1), 4)) else (if 0 ≤ x8 then (if x8 ≤ x7 then (if x7 ≤ (x0.size : Int) then ((ndjqref03_Integer.f k (x0.extract (x8 : Int).toNat (x7 : Int).toNat) (decide (x8 > x1))).bind fun bt187 => (if bt187.2 = true then (if x7 < (x0.size : Int) then (if 0 ≤ x7 then (if (bt x0 x7) = 46 then (some (0, 0, 0, 0, 0, (⟨#[]⟩ : ByteArray), x1, 7)) else (if (bt x0 x7) = 101 then (some (0, 0, 0, 0, 0, (⟨#[]⟩ : ByteArray), x1, 7)) else (if (bt x0 x7) = 69 then (some (0, 0, 0, 0, 0, (⟨#[]⟩ : ByteArray), x1, 7)) else (some (3, x1, x7, 0, bt187.1, (⟨#[]⟩ : ByteArray), x7, 0))))) else (none)) else (some (3, x1, x7, 0, bt187.1, (⟨#[]⟩ : ByteArray), x7, 0))) else (some (0, 0, 0, 0, 0, (⟨#[]⟩ : ByteArray), x1, 7)))) else (none)) else (none)) else (none))
end
def ndjqref03_number.f (k : Nat) (a0 : ByteArray) (a1 : Int) : Option (Int × Int × Int × Int × Int × ByteArray × Int × Int) := if 0 ≤ a1 then (if a1 < (a0.size : Int) then (if (bt a0 a1) = 45 then (ndjqref03_number.j0 k a0 a1 (wrap64 (a1 + 1))) else (ndjqref03_number.j0 k a0 a1 a1)) else (none)) else (none)
theorem ndjqref03_number.mono_l : ∀ k, (∀ y0 y1 y2, LeO (ndjqref03_number.j0 k y0 y1 y2) (ndjqref03_number.j0 (k + 1) y0 y1 y2)) ∧ (∀ y0 y1 y2 y3, LeO (ndjqref03_number.l0 k y0 y1 y2 y3) (ndjqref03_number.l0 (k + 1) y0 y1 y2 y3)) ∧ (∀ y0 y1 y2 y3 y4, LeO (ndjqref03_number.j2 k y0 y1 y2 y3 y4) (ndjqref03_number.j2 (k + 1) y0 y1 y2 y3 y4))
 | 0 => ⟨fun _ _ _ r h => by simp [ndjqref03_number.j0] at h, fun _ _ _ _ r h => by simp [ndjqref03_number.l0] at h, fun _ _ _ _ _ r h => by simp [ndjqref03_number.j2] at h⟩
 | k + 1 => by
  obtain ⟨ih0, ih1, ih2⟩ := ndjqref03_number.mono_l k
  refine ⟨?_, ?_, ?_⟩
  ·intro y0 y1 y2
   unfold ndjqref03_number.j0
   repeat' first
   | (with_reducible exact ih0 _ _ _)
   | (with_reducible exact ih1 _ _ _ _)
   | (with_reducible exact ih2 _ _ _ _ _)
   | (with_reducible exact ndjqref03_Integer.mono _ _ _)
   | (with_reducible exact LeO.refl _)
   | (with_reducible exact LeO.none _)
   | (with_reducible refine LeO.ite ?_ ?_)
   | (with_reducible refine LeO.bind ?_ (fun _ => ?_))
   | exact ih0 _ _ _
   | exact ih1 _ _ _ _
   | exact ih2 _ _ _ _ _
   | exact ndjqref03_Integer.mono _ _ _
   | exact LeO.none _
   | refine LeO.ite ?_ ?_
   | refine LeO.bind ?_ (fun _ => ?_)
  ·intro y0 y1 y2 y3
   unfold ndjqref03_number.l0
   repeat' first
   | (with_reducible exact ih0 _ _ _)
   | (with_reducible exact ih1 _ _ _ _)
   | (with_reducible exact ih2 _ _ _ _ _)
   | (with_reducible exact ndjqref03_Integer.mono _ _ _)
   | (with_reducible exact LeO.refl _)
   | (with_reducible exact LeO.none _)
   | (with_reducible refine LeO.ite ?_ ?_)
   | (with_reducible refine LeO.bind ?_ (fun _ => ?_))
   | exact ih0 _ _ _
   | exact ih1 _ _ _ _
   | exact ih2 _ _ _ _ _
   | exact ndjqref03_Integer.mono _ _ _
   | exact LeO.none _
   | refine LeO.ite ?_ ?_
   | refine LeO.bind ?_ (fun _ => ?_)
  ·intro y0 y1 y2 y3 y4
   unfold ndjqref03_number.j2
   repeat' first
   | (with_reducible exact ih0 _ _ _)
   | (with_reducible exact ih1 _ _ _ _)
   | (with_reducible exact ih2 _ _ _ _ _)
   | (with_reducible exact ndjqref03_Integer.mono _ _ _)
   | (with_reducible exact LeO.refl _)
   | (with_reducible exact LeO.none _)
   | (with_reducible refine LeO.ite ?_ ?_)
   | (with_reducible refine LeO.bind ?_ (fun _ => ?_))
   | exact ih0 _ _ _
   | exact ih1 _ _ _ _
   | exact ih2 _ _ _ _ _
   | exact ndjqref03_Integer.mono _ _ _
   | exact LeO.none _
   | refine LeO.ite ?_ ?_
   | refine LeO.bind ?_ (fun _ => ?_)
theorem ndjqref03_number.mono : ∀ a0 a1 k, LeO (ndjqref03_number.f k a0 a1) (ndjqref03_number.f (k + 1) a0 a1) := by
 intro a0 a1 k
 obtain ⟨ih0, ih1, ih2⟩ := ndjqref03_number.mono_l k
 unfold ndjqref03_number.f
 repeat' first
   | (with_reducible exact ih0 _ _ _)
   | (with_reducible exact ih1 _ _ _ _)
   | (with_reducible exact ih2 _ _ _ _ _)
   | (with_reducible exact ndjqref03_Integer.mono _ _ _)
   | (with_reducible exact LeO.refl _)
   | (with_reducible exact LeO.none _)
   | (with_reducible refine LeO.ite ?_ ?_)
   | (with_reducible refine LeO.bind ?_ (fun _ => ?_))
   | exact ih0 _ _ _
   | exact ih1 _ _ _ _
   | exact ih2 _ _ _ _ _
   | exact ndjqref03_Integer.mono _ _ _
   | exact LeO.none _
   | refine LeO.ite ?_ ?_
   | refine LeO.bind ?_ (fun _ => ?_)
set_option maxHeartbeats 8000000 in
set_option maxRecDepth 100000 in
theorem ndjqref03_number.calls (k : Nat) (a0 : ByteArray) (a1 : Int) (r1 : Int) (r2 : Int) (r3 : Int) (r4 : Int) (r5 : Int) (r6 : ByteArray) (r7 : Int) (r8 : Int) (w : World) (h : ndjqref03_number.f k a0 a1 = some (r1, r2, r3, r4, r5, r6, r7, r8)) :
  Calls Try.prog 25 #[.string a0, .int .i64 a1] w fun e w' => e = .returned (.tuple #[.agg #[.int .i64 r1, .int .i64 r2, .int .i64 r3, .int .u8 r4, .int .i64 r5, .string r6], .int .i64 r7, .int .i64 r8]) ∧ Below w.heap.size w w' := by
 have hu24 := Try.underlying24
 have HB := Aside0.mk (Below.refl w.heap.size w)
 have H : (if 0 ≤ a1 then (if a1 < (a0.size : Int) then (if (bt a0 a1) = 45 then (ndjqref03_number.j0 k a0 a1 (wrap64 (a1 + 1))) else (ndjqref03_number.j0 k a0 a1 a1)) else (none)) else (none)) = some (r1, r2, r3, r4, r5, r6, r7, r8) := h
 clear h
 by_cases c3 : 0 ≤ a1
 ·rw [if_pos c3] at H
  have c3b0 : decide (0 ≤ a1) = true := decide_eq_true c3
  clear c3
  by_cases c4 : a1 < (a0.size : Int)
  ·rw [if_pos c4] at H
   have c4b0 : decide (a1 < (a0.size : Int)) = true := decide_eq_true c4
   clear c4
   have HC6 := Aside0.mk H
   clear H
   go_enter Try.func25, Try.ntmps25
   go_upto_if 15 with (first | ((with_reducible refine gate_dst (N := 4) rfl ?_); (try (refine gate_guard (by rfl) ?_; dsimp only)); refine box_event ?hg (N := 4) ?hd (cs := #[.int .i64 0, .int .i64 0, .int .i64 0, .int .u8 0, .int .i64 0, .string (⟨#[]⟩ : ByteArray)]) (t := 24) ?hr ?_; (case hd => rfl); (case hg => rfl); (case hr => first | (go_simp; done) | (go_simp; rfl)); intro gb184 hg w7 hbox hb; have n0_ := Aside0.mk (below_step (by repeat (first | (with_reducible first | exact HB.out | apply wA | apply wN | apply wD) | exact HB.out)) hb); have n1_ := Aside0.mk (hbox); have n2_ := Aside0.mk ((by rw [hg]; exact (below_size (by repeat (first | (with_reducible first | exact HB.out | apply wA | apply wN | apply wD) | exact HB.out))) : w.heap.size ≤ gb184)); have n3_ := n2_; clear HB; have HB := n0_; have BK184 := n1_; have GW184 := n2_; have GE184 := n3_; clear n0_ n1_ n2_ n3_; clear hb hbox hg; have p5 : 0 ≤ (a1 : Int) := of_decide_eq_true (by first | (with_reducible assumption) | assumption); have q5 : a1 < (a0.size : Int) := of_decide_eq_true (by first | (with_reducible assumption) | assumption); have hx5 := bt_at a0 a1; replace p5 := eq_true p5; replace q5 := eq_true q5))
   (try simp only [Act.put, List.setIfInBounds_toArray, List.set_cons_zero, List.set_cons_succ])
   go_cut [7] (fun v7 wc => ∃ (kq : Nat) (x7_5 : Int), v7 = .int .i64 x7_5 ∧ Aside0 (ndjqref03_number.j0 kq a0 a1 x7_5 = some (r1, r2, r3, r4, r5, r6, r7, r8)) ∧ Aside0 (kq ≤ k) ∧ Aside0 (wc.heap[gb184]? = some (.cells #[.int .i64 0, .int .i64 0, .int .i64 0, .int .u8 0, .int .i64 0, .string (⟨#[]⟩ : ByteArray)] 24 (0, 0))) ∧ Aside0 (Below w.heap.size w wc))
   case first =>
    have H := HC6.out
    clear HC6
    by_cases c8 : (bt a0 a1) = 45
    ·rw [if_pos c8] at H
     have c8b0 : ((bt a0 a1) == 45) = true := beq_iff_eq.mpr c8
     have c8b1 : ((bt a0 a1) != 45) = false := bne_eq_false_iff_eq.mpr c8
     clear c8
     (first | rw [c8b0] | (simp only [i64_w, i32_w]; rw [c8b0]) | skip)
     have H' := Aside0.mk H
     clear H
     go_wp2
     go_meet
     case rel => exact ⟨_, (wrap64 (a1 + 1)), (by first | rfl | (simp; done) | (simp [*]; done)), H', ⟨by first | omega | exact Nat.le_refl _⟩, ⟨by (with_reducible repeat (first | refine bN ?_ _ | refine bD ?_ | refine bA ?_ _)); exact BK184.out⟩, ⟨by repeat (first | (with_reducible first | exact HB.out | apply wA | apply wN | apply wD | refine wS ?_ GE184.out) | exact HB.out)⟩⟩
    ·rw [if_neg c8] at H
     have c8b0 : ((bt a0 a1) == 45) = false := beq_eq_false_iff_ne.mpr c8
     have c8b1 : ((bt a0 a1) != 45) = true := bne_iff_ne.mpr c8
     (first | rw [c8b0] | (simp only [i64_w, i32_w]; rw [c8b0]) | skip)
     have H' := Aside0.mk H
     clear H
     go_wp2
     go_meet
     case rel => exact ⟨_, (a1), (by first | rfl | (simp; done) | (simp [*]; done)), H', ⟨by first | omega | exact Nat.le_refl _⟩, ⟨by (with_reducible repeat (first | refine bN ?_ _ | refine bD ?_ | refine bA ?_ _)); exact BK184.out⟩, ⟨by repeat (first | (with_reducible first | exact HB.out | apply wA | apply wN | apply wD | refine wS ?_ GE184.out) | exact HB.out)⟩⟩
   case rest =>
    clear HC6
    (try clear c2); (try clear p2); (try clear c3); (try clear c3b0); (try clear c4); (try clear c4b0); (try clear p5); (try clear q5); (try clear hx5); (try clear p6); (try clear c8); (try clear c8b0); (try clear c8b1)
    obtain ⟨kq, x7_5, rfl, HA, HJ5, BK184, HB⟩ := hcut
    cases kq with
    | zero => exact absurd HA.out (by simp [ndjqref03_number.j0])
    | succ kj5 =>
     have H := HA.out
     clear HA
     simp only [ndjqref03_number.j0] at H
     replace H := Option.bind_eq_some_iff.mp H
     obtain ⟨t185, A90, H⟩ := H
     replace H : (if t185 = true then (ndjqref03_number.l0 kj5 a0 a1 x7_5 x7_5) else (some (0, 0, 0, 0, 0, (⟨#[]⟩ : ByteArray), x7_5, 4))) = some (r1, r2, r3, r4, r5, r6, r7, r8) := H
     have A9 := Aside0.mk A90
     clear A90
     by_cases c10 : t185 = true
     ·subst c10
      have H1 : (ndjqref03_number.l0 kj5 a0 a1 x7_5 x7_5) = some (r1, r2, r3, r4, r5, r6, r7, r8) := by rw [if_pos rfl] at H; exact H
      clear H; have H := H1; clear H1
      have H' := Aside0.mk H
      clear H
      go_wp2_with (first | ((with_reducible refine gate_callee (f := 24) rfl ?_); refine goesL_ (some 21) rfl rfl Try.func24 (by kernel_rfl) rfl #[.string a0, .int .i64 x7_5] rfl (by (try simp only [List.map_toArray, List.map_cons, List.map_nil]); first | done | rfl | (simp only [List.length_drop, List.length_take]; rfl)) ?_; (with_reducible refine (ndjqref03_digit.calls a0 x7_5 true _ A9.out).mono ?_); rintro e w' ⟨rfl, ⟨nd, rfl⟩⟩; refine ⟨_, rfl, ?_⟩))
      go_loopg [7] kj5 (fun kq v7 w' => ∃ (x7_2 : Int), v7 = .int .i64 x7_2 ∧ Aside0 (ndjqref03_number.l0 kq a0 a1 x7_2 x7_5 = some (r1, r2, r3, r4, r5, r6, r7, r8)) ∧ Aside0 (kq ≤ kj5) ∧ Aside0 (w'.heap[gb184]? = some (.cells #[.int .i64 0, .int .i64 0, .int .i64 0, .int .u8 0, .int .i64 0, .string (⟨#[]⟩ : ByteArray)] 24 (0, 0))) ∧ Aside0 (Below w.heap.size w w'))
      case atStart => exact ⟨(x7_5), (by first | rfl | (simp; done) | (simp [*]; done)), H', ⟨Nat.le_refl _⟩, ⟨by (with_reducible repeat (first | refine bN ?_ _ | refine bD ?_ | refine bA ?_ _)); exact BK184.out⟩, ⟨by repeat (first | (with_reducible first | exact HB.out | apply wA | apply wN | apply wD | refine wS ?_ GE184.out) | exact HB.out)⟩⟩
      case round =>
       clear H'
       (try clear c1); (try clear c10)
       obtain ⟨x7_2, rfl, HA, HK2, BK184, HB⟩ := hrel
       cases gk with
       | zero => exact absurd HA.out (by simp [ndjqref03_number.l0])
       | succ k2 =>
        have H := HA.out
        clear HA
        simp only [ndjqref03_number.l0] at H
        replace H := Option.bind_eq_some_iff.mp H
        obtain ⟨t186, A110, H⟩ := H
        replace H : (if t186 = true then (ndjqref03_number.l0 k2 a0 a1 (wrap64 (x7_2 + 1)) x7_5) else (if 0 ≤ x7_5 then (if x7_5 < (a0.size : Int) then (if (bt a0 x7_5) = 48 then (ndjqref03_number.j2 k2 a0 a1 x7_2 x7_5 (decide (x7_2 > (wrap64 (x7_5 + 1))))) else (ndjqref03_number.j2 k2 a0 a1 x7_2 x7_5 false)) else (none)) else (none))) = some (r1, r2, r3, r4, r5, r6, r7, r8) := H
        have A11 := Aside0.mk A110
        clear A110
        by_cases c12 : t186 = true
        ·subst c12
         have H1 : (ndjqref03_number.l0 k2 a0 a1 (wrap64 (x7_2 + 1)) x7_5) = some (r1, r2, r3, r4, r5, r6, r7, r8) := by rw [if_pos rfl] at H; exact H
         clear H; have H := H1; clear H1
         have H' := Aside0.mk H
         clear H
         go_wp2_with (first | ((with_reducible refine gate_callee (f := 24) rfl ?_); refine goesL_ (some 27) rfl rfl Try.func24 (by kernel_rfl) rfl #[.string a0, .int .i64 x7_2] rfl (by (try simp only [List.map_toArray, List.map_cons, List.map_nil]); first | done | rfl | (simp only [List.length_drop, List.length_take]; rfl)) ?_; (with_reducible refine (ndjqref03_digit.calls a0 x7_2 true _ A11.out).mono ?_); rintro e w' ⟨rfl, ⟨nd, rfl⟩⟩; refine ⟨_, rfl, ?_⟩))
         go_roundg k2
         case measure => have := HJ5.out; have := HK2.out; omega
         case rel => exact ⟨(wrap64 (x7_2 + 1)), (by first | rfl | (simp; done) | (simp [*]; done)), H', ⟨by have := HJ5.out; have := HK2.out; omega⟩, ⟨by (with_reducible repeat (first | refine bN ?_ _ | refine bD ?_ | refine bA ?_ _)); exact BK184.out⟩, ⟨by repeat (first | (with_reducible first | exact HB.out | apply wA | apply wN | apply wD | refine wS ?_ GE184.out) | exact HB.out)⟩⟩
        ·replace c12 := Bool.eq_false_iff.mpr c12
         subst c12
         have H1 : (if 0 ≤ x7_5 then (if x7_5 < (a0.size : Int) then (if (bt a0 x7_5) = 48 then (ndjqref03_number.j2 k2 a0 a1 x7_2 x7_5 (decide (x7_2 > (wrap64 (x7_5 + 1))))) else (ndjqref03_number.j2 k2 a0 a1 x7_2 x7_5 false)) else (none)) else (none)) = some (r1, r2, r3, r4, r5, r6, r7, r8) := by rw [if_neg (show ¬ (false = true) by decide)] at H; exact H
         clear H; have H := H1; clear H1
         have HC13 := Aside0.mk H
         clear H
         go_upto_region 9 with (first | ((with_reducible refine gate_callee (f := 24) rfl ?_); refine goesL_ (some 27) rfl rfl Try.func24 (by kernel_rfl) rfl #[.string a0, .int .i64 x7_2] rfl (by (try simp only [List.map_toArray, List.map_cons, List.map_nil]); first | done | rfl | (simp only [List.length_drop, List.length_take]; rfl)) ?_; (with_reducible refine (ndjqref03_digit.calls a0 x7_2 false _ A11.out).mono ?_); rintro e w' ⟨rfl, ⟨nd, rfl⟩⟩; refine ⟨_, rfl, ?_⟩))
         (try simp only [Act.put, List.setIfInBounds_toArray, List.set_cons_zero, List.set_cons_succ])
         go_cut [39] (fun v39 wc => ∃ (kq : Nat) (x39_12 : Bool), v39 = .bool x39_12 ∧ Aside0 (ndjqref03_number.j2 kq a0 a1 x7_2 x7_5 x39_12 = some (r1, r2, r3, r4, r5, r6, r7, r8)) ∧ Aside0 (kq ≤ k2) ∧ Aside0 (wc.heap[gb184]? = some (.cells #[.int .i64 0, .int .i64 0, .int .i64 0, .int .u8 0, .int .i64 0, .string (⟨#[]⟩ : ByteArray)] 24 (0, 0))) ∧ Aside0 (Below w.heap.size w wc))
         case first =>
          have H := HC13.out
          clear HC13
          by_cases c14 : 0 ≤ x7_5
          ·rw [if_pos c14] at H
           have c14b0 : decide (0 ≤ x7_5) = true := decide_eq_true c14
           clear c14
           (first | rw [c14b0] | (simp only [i64_w, i32_w]; rw [c14b0]) | skip)
           by_cases c15 : x7_5 < (a0.size : Int)
           ·rw [if_pos c15] at H
            have c15b0 : decide (x7_5 < (a0.size : Int)) = true := decide_eq_true c15
            clear c15
            by_cases c17 : (bt a0 x7_5) = 48
            ·rw [if_pos c17] at H
             have c17b0 : ((bt a0 x7_5) == 48) = true := beq_iff_eq.mpr c17
             have c17b1 : ((bt a0 x7_5) != 48) = false := bne_eq_false_iff_eq.mpr c17
             clear c17
             have H' := Aside0.mk H
             clear H
             have p16 : 0 ≤ (x7_5 : Int) := of_decide_eq_true (by first | (with_reducible assumption) | assumption)
             have q16 : x7_5 < (a0.size : Int) := of_decide_eq_true (by first | (with_reducible assumption) | assumption)
             have hx16 := bt_at a0 x7_5
             replace p16 := eq_true p16; replace q16 := eq_true q16
             go_wp2
             go_meet
             case rel => exact ⟨_, (decide (x7_2 > (wrap64 (x7_5 + 1)))), (by first | rfl | (simp; done) | (simp [*]; done)), H', ⟨by have := HJ5.out; have := HK2.out; first | omega | exact Nat.le_refl _⟩, ⟨by (with_reducible repeat (first | refine bN ?_ _ | refine bD ?_ | refine bA ?_ _)); exact BK184.out⟩, ⟨by repeat (first | (with_reducible first | exact HB.out | apply wA | apply wN | apply wD | refine wS ?_ GE184.out) | exact HB.out)⟩⟩
            ·rw [if_neg c17] at H
             have c17b0 : ((bt a0 x7_5) == 48) = false := beq_eq_false_iff_ne.mpr c17
             have c17b1 : ((bt a0 x7_5) != 48) = true := bne_iff_ne.mpr c17
             have H' := Aside0.mk H
             clear H
             have p16 : 0 ≤ (x7_5 : Int) := of_decide_eq_true (by first | (with_reducible assumption) | assumption)
             have q16 : x7_5 < (a0.size : Int) := of_decide_eq_true (by first | (with_reducible assumption) | assumption)
             have hx16 := bt_at a0 x7_5
             replace p16 := eq_true p16; replace q16 := eq_true q16
             go_wp2
             go_meet
             case rel => exact ⟨_, (false), (by first | rfl | (simp; done) | (simp [*]; done)), H', ⟨by have := HJ5.out; have := HK2.out; first | omega | exact Nat.le_refl _⟩, ⟨by (with_reducible repeat (first | refine bN ?_ _ | refine bD ?_ | refine bA ?_ _)); exact BK184.out⟩, ⟨by repeat (first | (with_reducible first | exact HB.out | apply wA | apply wN | apply wD | refine wS ?_ GE184.out) | exact HB.out)⟩⟩
           ·rw [if_neg c15] at H
            exact absurd H (by simp)
          ·rw [if_neg c14] at H
           exact absurd H (by simp)
         case rest =>
          clear HC13
          (try clear p1); (try clear q1); (try clear hx1); (try clear c12); (try clear c14); (try clear c14b0); (try clear c15); (try clear c15b0); (try clear p16); (try clear q16); (try clear hx16); (try clear c17); (try clear c17b0); (try clear c17b1)
          obtain ⟨kq, x39_12, rfl, HA, HJ12, BK184, HB⟩ := hcut
          cases kq with
          | zero => exact absurd HA.out (by simp [ndjqref03_number.j2])
          | succ kj12 =>
           have H := HA.out
           clear HA
           simp only [ndjqref03_number.j2] at H
           by_cases c18 : x39_12 = true
           ·subst c18
            have H1 : (some (0, 0, 0, 0, 0, (⟨#[]⟩ : ByteArray), wrap64 (x7_5 + 1), 4)) = some (r1, r2, r3, r4, r5, r6, r7, r8) := by rw [if_pos rfl] at H; exact H
            clear H; have H := H1; clear H1
            simp only [Option.some.injEq, Prod.mk.injEq] at H
            obtain ⟨rfl, rfl, rfl, rfl, rfl, rfl, rfl, rfl⟩ := H
            have hcz19_0 : wc.cell? ⟨gb184, 0, none⟩ = some (.int .i64 0) := (blk_cell BK184.out 0).trans rfl; have hcz19_1 : wc.cell? ⟨gb184, 1, none⟩ = some (.int .i64 0) := (blk_cell BK184.out 1).trans rfl; have hcz19_2 : wc.cell? ⟨gb184, 2, none⟩ = some (.int .i64 0) := (blk_cell BK184.out 2).trans rfl; have hcz19_3 : wc.cell? ⟨gb184, 3, none⟩ = some (.int .u8 0) := (blk_cell BK184.out 3).trans rfl; have hcz19_4 : wc.cell? ⟨gb184, 4, none⟩ = some (.int .i64 0) := (blk_cell BK184.out 4).trans rfl; have hcz19_5 : wc.cell? ⟨gb184, 5, none⟩ = some (.string (⟨#[]⟩ : ByteArray)) := (blk_cell BK184.out 5).trans rfl; have hfz19_0 := blk_frozen BK184.out 0; have hfz19_1 := blk_frozen BK184.out 1; have hfz19_2 := blk_frozen BK184.out 2; have hfz19_3 := blk_frozen BK184.out 3; have hfz19_4 := blk_frozen BK184.out 4; have hfz19_5 := blk_frozen BK184.out 5
            go_wp2
            refine bodyPost_ret (results_ctt rfl _ _ gb184 24 #[.int .i64 0, .int .i64 0, .int .i64 0, .int .u8 0, .int .i64 0, .string (⟨#[]⟩ : ByteArray)] (0, 0) _ rfl (by (with_reducible repeat (first | refine bN ?_ _ | refine bD ?_ | refine bA ?_ _)); refine blk_put (cs := #[.int .i64 0, .int .i64 0, .int .i64 0, .int .u8 0, .int .i64 0, .string (⟨#[]⟩ : ByteArray)]) ?_ 5 _ rfl; (with_reducible repeat (first | refine bN ?_ _ | refine bD ?_ | refine bA ?_ _)); refine blk_put (cs := #[.int .i64 0, .int .i64 0, .int .i64 0, .int .u8 0, .int .i64 0, .string (⟨#[]⟩ : ByteArray)]) ?_ 4 _ rfl; (with_reducible repeat (first | refine bN ?_ _ | refine bD ?_ | refine bA ?_ _)); refine blk_put (cs := #[.int .i64 0, .int .i64 0, .int .i64 0, .int .u8 0, .int .i64 0, .string (⟨#[]⟩ : ByteArray)]) ?_ 3 _ rfl; (with_reducible repeat (first | refine bN ?_ _ | refine bD ?_ | refine bA ?_ _)); refine blk_put (cs := #[.int .i64 0, .int .i64 0, .int .i64 0, .int .u8 0, .int .i64 0, .string (⟨#[]⟩ : ByteArray)]) ?_ 2 _ rfl; (with_reducible repeat (first | refine bN ?_ _ | refine bD ?_ | refine bA ?_ _)); refine blk_put (cs := #[.int .i64 0, .int .i64 0, .int .i64 0, .int .u8 0, .int .i64 0, .string (⟨#[]⟩ : ByteArray)]) ?_ 1 _ rfl; (with_reducible repeat (first | refine bN ?_ _ | refine bD ?_ | refine bA ?_ _)); refine blk_put (cs := #[.int .i64 0, .int .i64 0, .int .i64 0, .int .u8 0, .int .i64 0, .string (⟨#[]⟩ : ByteArray)]) ?_ 0 _ rfl; (with_reducible repeat (first | refine bN ?_ _ | refine bD ?_ | refine bA ?_ _)); exact BK184.out) Try.underlying24 rfl (by kernel_rfl)) rfl ?_
            exact ⟨by first | rfl | (simp [errW_none, errW_some] <;> rfl) | (simp [*, errW_none, errW_some] <;> rfl), by repeat (first | (with_reducible first | exact HB.out | apply wA | apply wN | apply wD | refine wS ?_ GE184.out) | exact HB.out)⟩
           ·replace c18 := Bool.eq_false_iff.mpr c18
            subst c18
            have H1 : (if 0 ≤ x7_5 then (if x7_5 ≤ x7_2 then (if x7_2 ≤ (a0.size : Int) then ((ndjqref03_Integer.f kj12 (a0.extract (x7_5 : Int).toNat (x7_2 : Int).toNat) (decide (x7_5 > a1))).bind fun bt187 => (if bt187.2 = true then (if x7_2 < (a0.size : Int) then (if 0 ≤ x7_2 then (if (bt a0 x7_2) = 46 then (some (0, 0, 0, 0, 0, (⟨#[]⟩ : ByteArray), a1, 7)) else (if (bt a0 x7_2) = 101 then (some (0, 0, 0, 0, 0, (⟨#[]⟩ : ByteArray), a1, 7)) else (if (bt a0 x7_2) = 69 then (some (0, 0, 0, 0, 0, (⟨#[]⟩ : ByteArray), a1, 7)) else (some (3, a1, x7_2, 0, bt187.1, (⟨#[]⟩ : ByteArray), x7_2, 0))))) else (none)) else (some (3, a1, x7_2, 0, bt187.1, (⟨#[]⟩ : ByteArray), x7_2, 0))) else (some (0, 0, 0, 0, 0, (⟨#[]⟩ : ByteArray), a1, 7)))) else (none)) else (none)) else (none)) = some (r1, r2, r3, r4, r5, r6, r7, r8) := by rw [if_neg (show ¬ (false = true) by decide)] at H; exact H
            clear H; have H := H1; clear H1
            by_cases c20 : 0 ≤ x7_5
            ·rw [if_pos c20] at H
             have c20b0 := eq_true c20
             have c20b1 : decide (0 ≤ x7_5) = true := decide_eq_true c20
             clear c20
             by_cases c21 : x7_5 ≤ x7_2
             ·rw [if_pos c21] at H
              have c21b0 := eq_true c21
              have c21b1 : decide (x7_5 ≤ x7_2) = true := decide_eq_true c21
              clear c21
              by_cases c22 : x7_2 ≤ (a0.size : Int)
              ·rw [if_pos c22] at H
               have c22b0 := eq_true c22
               have c22b1 : decide (x7_2 ≤ (a0.size : Int)) = true := decide_eq_true c22
               clear c22
               replace H := Option.bind_eq_some_iff.mp H
               obtain ⟨⟨t187, t188⟩, A230, H⟩ := H
               replace H : (if t188 = true then (if x7_2 < (a0.size : Int) then (if 0 ≤ x7_2 then (if (bt a0 x7_2) = 46 then (some (0, 0, 0, 0, 0, (⟨#[]⟩ : ByteArray), a1, 7)) else (if (bt a0 x7_2) = 101 then (some (0, 0, 0, 0, 0, (⟨#[]⟩ : ByteArray), a1, 7)) else (if (bt a0 x7_2) = 69 then (some (0, 0, 0, 0, 0, (⟨#[]⟩ : ByteArray), a1, 7)) else (some (3, a1, x7_2, 0, t187, (⟨#[]⟩ : ByteArray), x7_2, 0))))) else (none)) else (some (3, a1, x7_2, 0, t187, (⟨#[]⟩ : ByteArray), x7_2, 0))) else (some (0, 0, 0, 0, 0, (⟨#[]⟩ : ByteArray), a1, 7))) = some (r1, r2, r3, r4, r5, r6, r7, r8) := H
               have A23 := Aside0.mk A230
               clear A230
               by_cases c24 : t188 = true
               ·subst c24
                have H1 : (if x7_2 < (a0.size : Int) then (if 0 ≤ x7_2 then (if (bt a0 x7_2) = 46 then (some (0, 0, 0, 0, 0, (⟨#[]⟩ : ByteArray), a1, 7)) else (if (bt a0 x7_2) = 101 then (some (0, 0, 0, 0, 0, (⟨#[]⟩ : ByteArray), a1, 7)) else (if (bt a0 x7_2) = 69 then (some (0, 0, 0, 0, 0, (⟨#[]⟩ : ByteArray), a1, 7)) else (some (3, a1, x7_2, 0, t187, (⟨#[]⟩ : ByteArray), x7_2, 0))))) else (none)) else (some (3, a1, x7_2, 0, t187, (⟨#[]⟩ : ByteArray), x7_2, 0))) = some (r1, r2, r3, r4, r5, r6, r7, r8) := by rw [if_pos rfl] at H; exact H
                clear H; have H := H1; clear H1
                by_cases c25 : x7_2 < (a0.size : Int)
                ·rw [if_pos c25] at H
                 have c25b0 : decide (x7_2 < (a0.size : Int)) = true := decide_eq_true c25
                 clear c25
                 by_cases c26 : 0 ≤ x7_2
                 ·rw [if_pos c26] at H
                  have c26b0 : decide (0 ≤ x7_2) = true := decide_eq_true c26
                  clear c26
                  by_cases c28 : (bt a0 x7_2) = 46
                  ·rw [if_pos c28] at H
                   have c28b0 : ((bt a0 x7_2) == 46) = true := beq_iff_eq.mpr c28
                   have c28b1 : ((bt a0 x7_2) != 46) = false := bne_eq_false_iff_eq.mpr c28
                   clear c28
                   simp only [Option.some.injEq, Prod.mk.injEq] at H
                   obtain ⟨rfl, rfl, rfl, rfl, rfl, rfl, rfl, rfl⟩ := H
                   go_wp2_with (first | ((with_reducible refine gate_callee (f := 34) rfl ?_); refine goesL_ (some 51) rfl rfl Try.func34 (by kernel_rfl) rfl #[.string (a0.extract (x7_5 : Int).toNat (x7_2 : Int).toNat), .bool (decide (x7_5 > a1))] rfl (by (try simp only [List.map_toArray, List.map_cons, List.map_nil]); first | done | rfl | (simp only [List.length_drop, List.length_take]; rfl)) ?_; (with_reducible refine (ndjqref03_Integer.calls kj12 (a0.extract (x7_5 : Int).toNat (x7_2 : Int).toNat) (decide (x7_5 > a1)) t187 true _ A23.out).mono ?_); rintro e w' ⟨rfl, ⟨nd, rfl⟩⟩; refine ⟨_, rfl, ?_⟩; (try (rw [drewN_self wc]; generalize hq_ : World.drewN wc _ = wc; have n0_ : Aside0 (wc.heap[gb184]? = some (.cells #[.int .i64 0, .int .i64 0, .int .i64 0, .int .u8 0, .int .i64 0, .string (⟨#[]⟩ : ByteArray)] 24 (0, 0))) := ⟨by rw [← hq_]; exact (by (with_reducible repeat (first | refine bN ?_ _ | refine bD ?_ | refine bA ?_ _)); exact BK184.out)⟩; have n1_ : Aside0 (Below w.heap.size w wc) := ⟨by rw [← hq_]; exact (by repeat (first | (with_reducible first | exact HB.out | apply wA | apply wN | apply wD | refine wS ?_ GE184.out) | exact HB.out))⟩; clear BK184 HB hq_; have BK184 := n0_; have HB := n1_; clear n0_ n1_)); have p27 : 0 ≤ (x7_2 : Int) := of_decide_eq_true (by first | (with_reducible assumption) | assumption); have q27 : x7_2 < (a0.size : Int) := of_decide_eq_true (by first | (with_reducible assumption) | assumption); have hx27 := bt_at a0 x7_2; replace p27 := eq_true p27; replace q27 := eq_true q27; have hcz29_0 : wc.cell? ⟨gb184, 0, none⟩ = some (.int .i64 0) := (blk_cell BK184.out 0).trans rfl; have hcz29_1 : wc.cell? ⟨gb184, 1, none⟩ = some (.int .i64 0) := (blk_cell BK184.out 1).trans rfl; have hcz29_2 : wc.cell? ⟨gb184, 2, none⟩ = some (.int .i64 0) := (blk_cell BK184.out 2).trans rfl; have hcz29_3 : wc.cell? ⟨gb184, 3, none⟩ = some (.int .u8 0) := (blk_cell BK184.out 3).trans rfl; have hcz29_4 : wc.cell? ⟨gb184, 4, none⟩ = some (.int .i64 0) := (blk_cell BK184.out 4).trans rfl; have hcz29_5 : wc.cell? ⟨gb184, 5, none⟩ = some (.string (⟨#[]⟩ : ByteArray)) := (blk_cell BK184.out 5).trans rfl; have hfz29_0 := blk_frozen BK184.out 0; have hfz29_1 := blk_frozen BK184.out 1; have hfz29_2 := blk_frozen BK184.out 2; have hfz29_3 := blk_frozen BK184.out 3; have hfz29_4 := blk_frozen BK184.out 4; have hfz29_5 := blk_frozen BK184.out 5))
                   refine bodyPost_ret (results_ctt rfl _ _ gb184 24 #[.int .i64 0, .int .i64 0, .int .i64 0, .int .u8 0, .int .i64 0, .string (⟨#[]⟩ : ByteArray)] (0, 0) _ rfl (by (with_reducible repeat (first | refine bN ?_ _ | refine bD ?_ | refine bA ?_ _)); refine blk_put (cs := #[.int .i64 0, .int .i64 0, .int .i64 0, .int .u8 0, .int .i64 0, .string (⟨#[]⟩ : ByteArray)]) ?_ 5 _ rfl; (with_reducible repeat (first | refine bN ?_ _ | refine bD ?_ | refine bA ?_ _)); refine blk_put (cs := #[.int .i64 0, .int .i64 0, .int .i64 0, .int .u8 0, .int .i64 0, .string (⟨#[]⟩ : ByteArray)]) ?_ 4 _ rfl; (with_reducible repeat (first | refine bN ?_ _ | refine bD ?_ | refine bA ?_ _)); refine blk_put (cs := #[.int .i64 0, .int .i64 0, .int .i64 0, .int .u8 0, .int .i64 0, .string (⟨#[]⟩ : ByteArray)]) ?_ 3 _ rfl; (with_reducible repeat (first | refine bN ?_ _ | refine bD ?_ | refine bA ?_ _)); refine blk_put (cs := #[.int .i64 0, .int .i64 0, .int .i64 0, .int .u8 0, .int .i64 0, .string (⟨#[]⟩ : ByteArray)]) ?_ 2 _ rfl; (with_reducible repeat (first | refine bN ?_ _ | refine bD ?_ | refine bA ?_ _)); refine blk_put (cs := #[.int .i64 0, .int .i64 0, .int .i64 0, .int .u8 0, .int .i64 0, .string (⟨#[]⟩ : ByteArray)]) ?_ 1 _ rfl; (with_reducible repeat (first | refine bN ?_ _ | refine bD ?_ | refine bA ?_ _)); refine blk_put (cs := #[.int .i64 0, .int .i64 0, .int .i64 0, .int .u8 0, .int .i64 0, .string (⟨#[]⟩ : ByteArray)]) ?_ 0 _ rfl; (with_reducible repeat (first | refine bN ?_ _ | refine bD ?_ | refine bA ?_ _)); exact BK184.out) Try.underlying24 rfl (by kernel_rfl)) rfl ?_
                   exact ⟨by first | rfl | (simp [errW_none, errW_some] <;> rfl) | (simp [*, errW_none, errW_some] <;> rfl), by repeat (first | (with_reducible first | exact HB.out | apply wA | apply wN | apply wD | refine wS ?_ GE184.out) | exact HB.out)⟩
                  ·rw [if_neg c28] at H
                   have c28b0 : ((bt a0 x7_2) == 46) = false := beq_eq_false_iff_ne.mpr c28
                   have c28b1 : ((bt a0 x7_2) != 46) = true := bne_iff_ne.mpr c28
                   by_cases c31 : (bt a0 x7_2) = 101
                   ·rw [if_pos c31] at H
                    have c31b0 : ((bt a0 x7_2) == 101) = true := beq_iff_eq.mpr c31
                    have c31b1 : ((bt a0 x7_2) != 101) = false := bne_eq_false_iff_eq.mpr c31
                    clear c31
                    simp only [Option.some.injEq, Prod.mk.injEq] at H
                    obtain ⟨rfl, rfl, rfl, rfl, rfl, rfl, rfl, rfl⟩ := H
                    go_wp2_with (first | ((with_reducible refine gate_callee (f := 34) rfl ?_); refine goesL_ (some 51) rfl rfl Try.func34 (by kernel_rfl) rfl #[.string (a0.extract (x7_5 : Int).toNat (x7_2 : Int).toNat), .bool (decide (x7_5 > a1))] rfl (by (try simp only [List.map_toArray, List.map_cons, List.map_nil]); first | done | rfl | (simp only [List.length_drop, List.length_take]; rfl)) ?_; (with_reducible refine (ndjqref03_Integer.calls kj12 (a0.extract (x7_5 : Int).toNat (x7_2 : Int).toNat) (decide (x7_5 > a1)) t187 true _ A23.out).mono ?_); rintro e w' ⟨rfl, ⟨nd, rfl⟩⟩; refine ⟨_, rfl, ?_⟩; (try (rw [drewN_self wc]; generalize hq_ : World.drewN wc _ = wc; have n0_ : Aside0 (wc.heap[gb184]? = some (.cells #[.int .i64 0, .int .i64 0, .int .i64 0, .int .u8 0, .int .i64 0, .string (⟨#[]⟩ : ByteArray)] 24 (0, 0))) := ⟨by rw [← hq_]; exact (by (with_reducible repeat (first | refine bN ?_ _ | refine bD ?_ | refine bA ?_ _)); exact BK184.out)⟩; have n1_ : Aside0 (Below w.heap.size w wc) := ⟨by rw [← hq_]; exact (by repeat (first | (with_reducible first | exact HB.out | apply wA | apply wN | apply wD | refine wS ?_ GE184.out) | exact HB.out))⟩; clear BK184 HB hq_; have BK184 := n0_; have HB := n1_; clear n0_ n1_)); have p27 : 0 ≤ (x7_2 : Int) := of_decide_eq_true (by first | (with_reducible assumption) | assumption); have q27 : x7_2 < (a0.size : Int) := of_decide_eq_true (by first | (with_reducible assumption) | assumption); have hx27 := bt_at a0 x7_2; replace p27 := eq_true p27; replace q27 := eq_true q27; have p30 : 0 ≤ (x7_2 : Int) := of_decide_eq_true (by first | (with_reducible assumption) | assumption); have q30 : x7_2 < (a0.size : Int) := of_decide_eq_true (by first | (with_reducible assumption) | assumption); have hx30 := bt_at a0 x7_2; replace p30 := eq_true p30; replace q30 := eq_true q30; have hcz32_0 : wc.cell? ⟨gb184, 0, none⟩ = some (.int .i64 0) := (blk_cell BK184.out 0).trans rfl; have hcz32_1 : wc.cell? ⟨gb184, 1, none⟩ = some (.int .i64 0) := (blk_cell BK184.out 1).trans rfl; have hcz32_2 : wc.cell? ⟨gb184, 2, none⟩ = some (.int .i64 0) := (blk_cell BK184.out 2).trans rfl; have hcz32_3 : wc.cell? ⟨gb184, 3, none⟩ = some (.int .u8 0) := (blk_cell BK184.out 3).trans rfl; have hcz32_4 : wc.cell? ⟨gb184, 4, none⟩ = some (.int .i64 0) := (blk_cell BK184.out 4).trans rfl; have hcz32_5 : wc.cell? ⟨gb184, 5, none⟩ = some (.string (⟨#[]⟩ : ByteArray)) := (blk_cell BK184.out 5).trans rfl; have hfz32_0 := blk_frozen BK184.out 0; have hfz32_1 := blk_frozen BK184.out 1; have hfz32_2 := blk_frozen BK184.out 2; have hfz32_3 := blk_frozen BK184.out 3; have hfz32_4 := blk_frozen BK184.out 4; have hfz32_5 := blk_frozen BK184.out 5))
                    refine bodyPost_ret (results_ctt rfl _ _ gb184 24 #[.int .i64 0, .int .i64 0, .int .i64 0, .int .u8 0, .int .i64 0, .string (⟨#[]⟩ : ByteArray)] (0, 0) _ rfl (by (with_reducible repeat (first | refine bN ?_ _ | refine bD ?_ | refine bA ?_ _)); refine blk_put (cs := #[.int .i64 0, .int .i64 0, .int .i64 0, .int .u8 0, .int .i64 0, .string (⟨#[]⟩ : ByteArray)]) ?_ 5 _ rfl; (with_reducible repeat (first | refine bN ?_ _ | refine bD ?_ | refine bA ?_ _)); refine blk_put (cs := #[.int .i64 0, .int .i64 0, .int .i64 0, .int .u8 0, .int .i64 0, .string (⟨#[]⟩ : ByteArray)]) ?_ 4 _ rfl; (with_reducible repeat (first | refine bN ?_ _ | refine bD ?_ | refine bA ?_ _)); refine blk_put (cs := #[.int .i64 0, .int .i64 0, .int .i64 0, .int .u8 0, .int .i64 0, .string (⟨#[]⟩ : ByteArray)]) ?_ 3 _ rfl; (with_reducible repeat (first | refine bN ?_ _ | refine bD ?_ | refine bA ?_ _)); refine blk_put (cs := #[.int .i64 0, .int .i64 0, .int .i64 0, .int .u8 0, .int .i64 0, .string (⟨#[]⟩ : ByteArray)]) ?_ 2 _ rfl; (with_reducible repeat (first | refine bN ?_ _ | refine bD ?_ | refine bA ?_ _)); refine blk_put (cs := #[.int .i64 0, .int .i64 0, .int .i64 0, .int .u8 0, .int .i64 0, .string (⟨#[]⟩ : ByteArray)]) ?_ 1 _ rfl; (with_reducible repeat (first | refine bN ?_ _ | refine bD ?_ | refine bA ?_ _)); refine blk_put (cs := #[.int .i64 0, .int .i64 0, .int .i64 0, .int .u8 0, .int .i64 0, .string (⟨#[]⟩ : ByteArray)]) ?_ 0 _ rfl; (with_reducible repeat (first | refine bN ?_ _ | refine bD ?_ | refine bA ?_ _)); exact BK184.out) Try.underlying24 rfl (by kernel_rfl)) rfl ?_
                    exact ⟨by first | rfl | (simp [errW_none, errW_some] <;> rfl) | (simp [*, errW_none, errW_some] <;> rfl), by repeat (first | (with_reducible first | exact HB.out | apply wA | apply wN | apply wD | refine wS ?_ GE184.out) | exact HB.out)⟩
                   ·rw [if_neg c31] at H
                    have c31b0 : ((bt a0 x7_2) == 101) = false := beq_eq_false_iff_ne.mpr c31
                    have c31b1 : ((bt a0 x7_2) != 101) = true := bne_iff_ne.mpr c31
                    by_cases c34 : (bt a0 x7_2) = 69
                    ·rw [if_pos c34] at H
                     have c34b0 : ((bt a0 x7_2) == 69) = true := beq_iff_eq.mpr c34
                     have c34b1 : ((bt a0 x7_2) != 69) = false := bne_eq_false_iff_eq.mpr c34
                     clear c34
                     simp only [Option.some.injEq, Prod.mk.injEq] at H
                     obtain ⟨rfl, rfl, rfl, rfl, rfl, rfl, rfl, rfl⟩ := H
                     go_wp2_with (first | ((with_reducible refine gate_callee (f := 34) rfl ?_); refine goesL_ (some 51) rfl rfl Try.func34 (by kernel_rfl) rfl #[.string (a0.extract (x7_5 : Int).toNat (x7_2 : Int).toNat), .bool (decide (x7_5 > a1))] rfl (by (try simp only [List.map_toArray, List.map_cons, List.map_nil]); first | done | rfl | (simp only [List.length_drop, List.length_take]; rfl)) ?_; (with_reducible refine (ndjqref03_Integer.calls kj12 (a0.extract (x7_5 : Int).toNat (x7_2 : Int).toNat) (decide (x7_5 > a1)) t187 true _ A23.out).mono ?_); rintro e w' ⟨rfl, ⟨nd, rfl⟩⟩; refine ⟨_, rfl, ?_⟩; (try (rw [drewN_self wc]; generalize hq_ : World.drewN wc _ = wc; have n0_ : Aside0 (wc.heap[gb184]? = some (.cells #[.int .i64 0, .int .i64 0, .int .i64 0, .int .u8 0, .int .i64 0, .string (⟨#[]⟩ : ByteArray)] 24 (0, 0))) := ⟨by rw [← hq_]; exact (by (with_reducible repeat (first | refine bN ?_ _ | refine bD ?_ | refine bA ?_ _)); exact BK184.out)⟩; have n1_ : Aside0 (Below w.heap.size w wc) := ⟨by rw [← hq_]; exact (by repeat (first | (with_reducible first | exact HB.out | apply wA | apply wN | apply wD | refine wS ?_ GE184.out) | exact HB.out))⟩; clear BK184 HB hq_; have BK184 := n0_; have HB := n1_; clear n0_ n1_)); have p27 : 0 ≤ (x7_2 : Int) := of_decide_eq_true (by first | (with_reducible assumption) | assumption); have q27 : x7_2 < (a0.size : Int) := of_decide_eq_true (by first | (with_reducible assumption) | assumption); have hx27 := bt_at a0 x7_2; replace p27 := eq_true p27; replace q27 := eq_true q27; have p30 : 0 ≤ (x7_2 : Int) := of_decide_eq_true (by first | (with_reducible assumption) | assumption); have q30 : x7_2 < (a0.size : Int) := of_decide_eq_true (by first | (with_reducible assumption) | assumption); have hx30 := bt_at a0 x7_2; replace p30 := eq_true p30; replace q30 := eq_true q30; have p33 : 0 ≤ (x7_2 : Int) := of_decide_eq_true (by first | (with_reducible assumption) | assumption); have q33 : x7_2 < (a0.size : Int) := of_decide_eq_true (by first | (with_reducible assumption) | assumption); have hx33 := bt_at a0 x7_2; replace p33 := eq_true p33; replace q33 := eq_true q33; have hcz35_0 : wc.cell? ⟨gb184, 0, none⟩ = some (.int .i64 0) := (blk_cell BK184.out 0).trans rfl; have hcz35_1 : wc.cell? ⟨gb184, 1, none⟩ = some (.int .i64 0) := (blk_cell BK184.out 1).trans rfl; have hcz35_2 : wc.cell? ⟨gb184, 2, none⟩ = some (.int .i64 0) := (blk_cell BK184.out 2).trans rfl; have hcz35_3 : wc.cell? ⟨gb184, 3, none⟩ = some (.int .u8 0) := (blk_cell BK184.out 3).trans rfl; have hcz35_4 : wc.cell? ⟨gb184, 4, none⟩ = some (.int .i64 0) := (blk_cell BK184.out 4).trans rfl; have hcz35_5 : wc.cell? ⟨gb184, 5, none⟩ = some (.string (⟨#[]⟩ : ByteArray)) := (blk_cell BK184.out 5).trans rfl; have hfz35_0 := blk_frozen BK184.out 0; have hfz35_1 := blk_frozen BK184.out 1; have hfz35_2 := blk_frozen BK184.out 2; have hfz35_3 := blk_frozen BK184.out 3; have hfz35_4 := blk_frozen BK184.out 4; have hfz35_5 := blk_frozen BK184.out 5))
                     refine bodyPost_ret (results_ctt rfl _ _ gb184 24 #[.int .i64 0, .int .i64 0, .int .i64 0, .int .u8 0, .int .i64 0, .string (⟨#[]⟩ : ByteArray)] (0, 0) _ rfl (by (with_reducible repeat (first | refine bN ?_ _ | refine bD ?_ | refine bA ?_ _)); refine blk_put (cs := #[.int .i64 0, .int .i64 0, .int .i64 0, .int .u8 0, .int .i64 0, .string (⟨#[]⟩ : ByteArray)]) ?_ 5 _ rfl; (with_reducible repeat (first | refine bN ?_ _ | refine bD ?_ | refine bA ?_ _)); refine blk_put (cs := #[.int .i64 0, .int .i64 0, .int .i64 0, .int .u8 0, .int .i64 0, .string (⟨#[]⟩ : ByteArray)]) ?_ 4 _ rfl; (with_reducible repeat (first | refine bN ?_ _ | refine bD ?_ | refine bA ?_ _)); refine blk_put (cs := #[.int .i64 0, .int .i64 0, .int .i64 0, .int .u8 0, .int .i64 0, .string (⟨#[]⟩ : ByteArray)]) ?_ 3 _ rfl; (with_reducible repeat (first | refine bN ?_ _ | refine bD ?_ | refine bA ?_ _)); refine blk_put (cs := #[.int .i64 0, .int .i64 0, .int .i64 0, .int .u8 0, .int .i64 0, .string (⟨#[]⟩ : ByteArray)]) ?_ 2 _ rfl; (with_reducible repeat (first | refine bN ?_ _ | refine bD ?_ | refine bA ?_ _)); refine blk_put (cs := #[.int .i64 0, .int .i64 0, .int .i64 0, .int .u8 0, .int .i64 0, .string (⟨#[]⟩ : ByteArray)]) ?_ 1 _ rfl; (with_reducible repeat (first | refine bN ?_ _ | refine bD ?_ | refine bA ?_ _)); refine blk_put (cs := #[.int .i64 0, .int .i64 0, .int .i64 0, .int .u8 0, .int .i64 0, .string (⟨#[]⟩ : ByteArray)]) ?_ 0 _ rfl; (with_reducible repeat (first | refine bN ?_ _ | refine bD ?_ | refine bA ?_ _)); exact BK184.out) Try.underlying24 rfl (by kernel_rfl)) rfl ?_
                     exact ⟨by first | rfl | (simp [errW_none, errW_some] <;> rfl) | (simp [*, errW_none, errW_some] <;> rfl), by repeat (first | (with_reducible first | exact HB.out | apply wA | apply wN | apply wD | refine wS ?_ GE184.out) | exact HB.out)⟩
                    ·rw [if_neg c34] at H
                     have c34b0 : ((bt a0 x7_2) == 69) = false := beq_eq_false_iff_ne.mpr c34
                     have c34b1 : ((bt a0 x7_2) != 69) = true := bne_iff_ne.mpr c34
                     simp only [Option.some.injEq, Prod.mk.injEq] at H
                     obtain ⟨rfl, rfl, rfl, rfl, rfl, rfl, rfl, rfl⟩ := H
                     go_wp2_with (first | ((with_reducible refine gate_callee (f := 34) rfl ?_); refine goesL_ (some 51) rfl rfl Try.func34 (by kernel_rfl) rfl #[.string (a0.extract (x7_5 : Int).toNat (x7_2 : Int).toNat), .bool (decide (x7_5 > a1))] rfl (by (try simp only [List.map_toArray, List.map_cons, List.map_nil]); first | done | rfl | (simp only [List.length_drop, List.length_take]; rfl)) ?_; (with_reducible refine (ndjqref03_Integer.calls kj12 (a0.extract (x7_5 : Int).toNat (x7_2 : Int).toNat) (decide (x7_5 > a1)) t187 true _ A23.out).mono ?_); rintro e w' ⟨rfl, ⟨nd, rfl⟩⟩; refine ⟨_, rfl, ?_⟩; (try (rw [drewN_self wc]; generalize hq_ : World.drewN wc _ = wc; have n0_ : Aside0 (wc.heap[gb184]? = some (.cells #[.int .i64 0, .int .i64 0, .int .i64 0, .int .u8 0, .int .i64 0, .string (⟨#[]⟩ : ByteArray)] 24 (0, 0))) := ⟨by rw [← hq_]; exact (by (with_reducible repeat (first | refine bN ?_ _ | refine bD ?_ | refine bA ?_ _)); exact BK184.out)⟩; have n1_ : Aside0 (Below w.heap.size w wc) := ⟨by rw [← hq_]; exact (by repeat (first | (with_reducible first | exact HB.out | apply wA | apply wN | apply wD | refine wS ?_ GE184.out) | exact HB.out))⟩; clear BK184 HB hq_; have BK184 := n0_; have HB := n1_; clear n0_ n1_)); have p27 : 0 ≤ (x7_2 : Int) := of_decide_eq_true (by first | (with_reducible assumption) | assumption); have q27 : x7_2 < (a0.size : Int) := of_decide_eq_true (by first | (with_reducible assumption) | assumption); have hx27 := bt_at a0 x7_2; replace p27 := eq_true p27; replace q27 := eq_true q27; have p30 : 0 ≤ (x7_2 : Int) := of_decide_eq_true (by first | (with_reducible assumption) | assumption); have q30 : x7_2 < (a0.size : Int) := of_decide_eq_true (by first | (with_reducible assumption) | assumption); have hx30 := bt_at a0 x7_2; replace p30 := eq_true p30; replace q30 := eq_true q30; have p33 : 0 ≤ (x7_2 : Int) := of_decide_eq_true (by first | (with_reducible assumption) | assumption); have q33 : x7_2 < (a0.size : Int) := of_decide_eq_true (by first | (with_reducible assumption) | assumption); have hx33 := bt_at a0 x7_2; replace p33 := eq_true p33; replace q33 := eq_true q33; have hcz36_0 : wc.cell? ⟨gb184, 0, none⟩ = some (.int .i64 0) := (blk_cell BK184.out 0).trans rfl; have hcz36_1 : wc.cell? ⟨gb184, 1, none⟩ = some (.int .i64 0) := (blk_cell BK184.out 1).trans rfl; have hcz36_2 : wc.cell? ⟨gb184, 2, none⟩ = some (.int .i64 0) := (blk_cell BK184.out 2).trans rfl; have hcz36_3 : wc.cell? ⟨gb184, 3, none⟩ = some (.int .u8 0) := (blk_cell BK184.out 3).trans rfl; have hcz36_4 : wc.cell? ⟨gb184, 4, none⟩ = some (.int .i64 0) := (blk_cell BK184.out 4).trans rfl; have hcz36_5 : wc.cell? ⟨gb184, 5, none⟩ = some (.string (⟨#[]⟩ : ByteArray)) := (blk_cell BK184.out 5).trans rfl; have hfz36_0 := blk_frozen BK184.out 0; have hfz36_1 := blk_frozen BK184.out 1; have hfz36_2 := blk_frozen BK184.out 2; have hfz36_3 := blk_frozen BK184.out 3; have hfz36_4 := blk_frozen BK184.out 4; have hfz36_5 := blk_frozen BK184.out 5))
                     refine bodyPost_ret (results_ctt rfl _ _ gb184 24 #[.int .i64 3, .int .i64 a1, .int .i64 x7_2, .int .u8 0, .int .i64 t187, .string (⟨#[]⟩ : ByteArray)] (0, 0) _ rfl (by (with_reducible repeat (first | refine bN ?_ _ | refine bD ?_ | refine bA ?_ _)); refine blk_put (cs := #[.int .i64 3, .int .i64 a1, .int .i64 x7_2, .int .u8 0, .int .i64 t187, .string (⟨#[]⟩ : ByteArray)]) ?_ 5 _ rfl; (with_reducible repeat (first | refine bN ?_ _ | refine bD ?_ | refine bA ?_ _)); refine blk_put (cs := #[.int .i64 3, .int .i64 a1, .int .i64 x7_2, .int .u8 0, .int .i64 0, .string (⟨#[]⟩ : ByteArray)]) ?_ 4 _ rfl; (with_reducible repeat (first | refine bN ?_ _ | refine bD ?_ | refine bA ?_ _)); refine blk_put (cs := #[.int .i64 3, .int .i64 a1, .int .i64 x7_2, .int .u8 0, .int .i64 0, .string (⟨#[]⟩ : ByteArray)]) ?_ 3 _ rfl; (with_reducible repeat (first | refine bN ?_ _ | refine bD ?_ | refine bA ?_ _)); refine blk_put (cs := #[.int .i64 3, .int .i64 a1, .int .i64 0, .int .u8 0, .int .i64 0, .string (⟨#[]⟩ : ByteArray)]) ?_ 2 _ rfl; (with_reducible repeat (first | refine bN ?_ _ | refine bD ?_ | refine bA ?_ _)); refine blk_put (cs := #[.int .i64 3, .int .i64 0, .int .i64 0, .int .u8 0, .int .i64 0, .string (⟨#[]⟩ : ByteArray)]) ?_ 1 _ rfl; (with_reducible repeat (first | refine bN ?_ _ | refine bD ?_ | refine bA ?_ _)); refine blk_put (cs := #[.int .i64 0, .int .i64 0, .int .i64 0, .int .u8 0, .int .i64 0, .string (⟨#[]⟩ : ByteArray)]) ?_ 0 _ rfl; (with_reducible repeat (first | refine bN ?_ _ | refine bD ?_ | refine bA ?_ _)); exact BK184.out) Try.underlying24 rfl (by kernel_rfl)) rfl ?_
                     exact ⟨by first | rfl | (simp [errW_none, errW_some] <;> rfl) | (simp [*, errW_none, errW_some] <;> rfl), by repeat (first | (with_reducible first | exact HB.out | apply wA | apply wN | apply wD | refine wS ?_ GE184.out) | exact HB.out)⟩
                 ·rw [if_neg c26] at H
                  exact absurd H (by simp)
                ·rw [if_neg c25] at H
                 have c25b0 : decide (x7_2 < (a0.size : Int)) = false := decide_eq_false c25
                 clear c25
                 simp only [Option.some.injEq, Prod.mk.injEq] at H
                 obtain ⟨rfl, rfl, rfl, rfl, rfl, rfl, rfl, rfl⟩ := H
                 go_wp2_with (first | ((with_reducible refine gate_callee (f := 34) rfl ?_); refine goesL_ (some 51) rfl rfl Try.func34 (by kernel_rfl) rfl #[.string (a0.extract (x7_5 : Int).toNat (x7_2 : Int).toNat), .bool (decide (x7_5 > a1))] rfl (by (try simp only [List.map_toArray, List.map_cons, List.map_nil]); first | done | rfl | (simp only [List.length_drop, List.length_take]; rfl)) ?_; (with_reducible refine (ndjqref03_Integer.calls kj12 (a0.extract (x7_5 : Int).toNat (x7_2 : Int).toNat) (decide (x7_5 > a1)) t187 true _ A23.out).mono ?_); rintro e w' ⟨rfl, ⟨nd, rfl⟩⟩; refine ⟨_, rfl, ?_⟩; (try (rw [drewN_self wc]; generalize hq_ : World.drewN wc _ = wc; have n0_ : Aside0 (wc.heap[gb184]? = some (.cells #[.int .i64 0, .int .i64 0, .int .i64 0, .int .u8 0, .int .i64 0, .string (⟨#[]⟩ : ByteArray)] 24 (0, 0))) := ⟨by rw [← hq_]; exact (by (with_reducible repeat (first | refine bN ?_ _ | refine bD ?_ | refine bA ?_ _)); exact BK184.out)⟩; have n1_ : Aside0 (Below w.heap.size w wc) := ⟨by rw [← hq_]; exact (by repeat (first | (with_reducible first | exact HB.out | apply wA | apply wN | apply wD | refine wS ?_ GE184.out) | exact HB.out))⟩; clear BK184 HB hq_; have BK184 := n0_; have HB := n1_; clear n0_ n1_)); have hcz37_0 : wc.cell? ⟨gb184, 0, none⟩ = some (.int .i64 0) := (blk_cell BK184.out 0).trans rfl; have hcz37_1 : wc.cell? ⟨gb184, 1, none⟩ = some (.int .i64 0) := (blk_cell BK184.out 1).trans rfl; have hcz37_2 : wc.cell? ⟨gb184, 2, none⟩ = some (.int .i64 0) := (blk_cell BK184.out 2).trans rfl; have hcz37_3 : wc.cell? ⟨gb184, 3, none⟩ = some (.int .u8 0) := (blk_cell BK184.out 3).trans rfl; have hcz37_4 : wc.cell? ⟨gb184, 4, none⟩ = some (.int .i64 0) := (blk_cell BK184.out 4).trans rfl; have hcz37_5 : wc.cell? ⟨gb184, 5, none⟩ = some (.string (⟨#[]⟩ : ByteArray)) := (blk_cell BK184.out 5).trans rfl; have hfz37_0 := blk_frozen BK184.out 0; have hfz37_1 := blk_frozen BK184.out 1; have hfz37_2 := blk_frozen BK184.out 2; have hfz37_3 := blk_frozen BK184.out 3; have hfz37_4 := blk_frozen BK184.out 4; have hfz37_5 := blk_frozen BK184.out 5))
                 refine bodyPost_ret (results_ctt rfl _ _ gb184 24 #[.int .i64 3, .int .i64 a1, .int .i64 x7_2, .int .u8 0, .int .i64 t187, .string (⟨#[]⟩ : ByteArray)] (0, 0) _ rfl (by (with_reducible repeat (first | refine bN ?_ _ | refine bD ?_ | refine bA ?_ _)); refine blk_put (cs := #[.int .i64 3, .int .i64 a1, .int .i64 x7_2, .int .u8 0, .int .i64 t187, .string (⟨#[]⟩ : ByteArray)]) ?_ 5 _ rfl; (with_reducible repeat (first | refine bN ?_ _ | refine bD ?_ | refine bA ?_ _)); refine blk_put (cs := #[.int .i64 3, .int .i64 a1, .int .i64 x7_2, .int .u8 0, .int .i64 0, .string (⟨#[]⟩ : ByteArray)]) ?_ 4 _ rfl; (with_reducible repeat (first | refine bN ?_ _ | refine bD ?_ | refine bA ?_ _)); refine blk_put (cs := #[.int .i64 3, .int .i64 a1, .int .i64 x7_2, .int .u8 0, .int .i64 0, .string (⟨#[]⟩ : ByteArray)]) ?_ 3 _ rfl; (with_reducible repeat (first | refine bN ?_ _ | refine bD ?_ | refine bA ?_ _)); refine blk_put (cs := #[.int .i64 3, .int .i64 a1, .int .i64 0, .int .u8 0, .int .i64 0, .string (⟨#[]⟩ : ByteArray)]) ?_ 2 _ rfl; (with_reducible repeat (first | refine bN ?_ _ | refine bD ?_ | refine bA ?_ _)); refine blk_put (cs := #[.int .i64 3, .int .i64 0, .int .i64 0, .int .u8 0, .int .i64 0, .string (⟨#[]⟩ : ByteArray)]) ?_ 1 _ rfl; (with_reducible repeat (first | refine bN ?_ _ | refine bD ?_ | refine bA ?_ _)); refine blk_put (cs := #[.int .i64 0, .int .i64 0, .int .i64 0, .int .u8 0, .int .i64 0, .string (⟨#[]⟩ : ByteArray)]) ?_ 0 _ rfl; (with_reducible repeat (first | refine bN ?_ _ | refine bD ?_ | refine bA ?_ _)); exact BK184.out) Try.underlying24 rfl (by kernel_rfl)) rfl ?_
                 exact ⟨by first | rfl | (simp [errW_none, errW_some] <;> rfl) | (simp [*, errW_none, errW_some] <;> rfl), by repeat (first | (with_reducible first | exact HB.out | apply wA | apply wN | apply wD | refine wS ?_ GE184.out) | exact HB.out)⟩
               ·replace c24 := Bool.eq_false_iff.mpr c24
                subst c24
                have H1 : (some (0, 0, 0, 0, 0, (⟨#[]⟩ : ByteArray), a1, 7)) = some (r1, r2, r3, r4, r5, r6, r7, r8) := by rw [if_neg (show ¬ (false = true) by decide)] at H; exact H
                clear H; have H := H1; clear H1
                simp only [Option.some.injEq, Prod.mk.injEq] at H
                obtain ⟨rfl, rfl, rfl, rfl, rfl, rfl, rfl, rfl⟩ := H
                go_wp2_with (first | ((with_reducible refine gate_callee (f := 34) rfl ?_); refine goesL_ (some 51) rfl rfl Try.func34 (by kernel_rfl) rfl #[.string (a0.extract (x7_5 : Int).toNat (x7_2 : Int).toNat), .bool (decide (x7_5 > a1))] rfl (by (try simp only [List.map_toArray, List.map_cons, List.map_nil]); first | done | rfl | (simp only [List.length_drop, List.length_take]; rfl)) ?_; (with_reducible refine (ndjqref03_Integer.calls kj12 (a0.extract (x7_5 : Int).toNat (x7_2 : Int).toNat) (decide (x7_5 > a1)) t187 false _ A23.out).mono ?_); rintro e w' ⟨rfl, ⟨nd, rfl⟩⟩; refine ⟨_, rfl, ?_⟩; (try (rw [drewN_self wc]; generalize hq_ : World.drewN wc _ = wc; have n0_ : Aside0 (wc.heap[gb184]? = some (.cells #[.int .i64 0, .int .i64 0, .int .i64 0, .int .u8 0, .int .i64 0, .string (⟨#[]⟩ : ByteArray)] 24 (0, 0))) := ⟨by rw [← hq_]; exact (by (with_reducible repeat (first | refine bN ?_ _ | refine bD ?_ | refine bA ?_ _)); exact BK184.out)⟩; have n1_ : Aside0 (Below w.heap.size w wc) := ⟨by rw [← hq_]; exact (by repeat (first | (with_reducible first | exact HB.out | apply wA | apply wN | apply wD | refine wS ?_ GE184.out) | exact HB.out))⟩; clear BK184 HB hq_; have BK184 := n0_; have HB := n1_; clear n0_ n1_)); have hcz38_0 : wc.cell? ⟨gb184, 0, none⟩ = some (.int .i64 0) := (blk_cell BK184.out 0).trans rfl; have hcz38_1 : wc.cell? ⟨gb184, 1, none⟩ = some (.int .i64 0) := (blk_cell BK184.out 1).trans rfl; have hcz38_2 : wc.cell? ⟨gb184, 2, none⟩ = some (.int .i64 0) := (blk_cell BK184.out 2).trans rfl; have hcz38_3 : wc.cell? ⟨gb184, 3, none⟩ = some (.int .u8 0) := (blk_cell BK184.out 3).trans rfl; have hcz38_4 : wc.cell? ⟨gb184, 4, none⟩ = some (.int .i64 0) := (blk_cell BK184.out 4).trans rfl; have hcz38_5 : wc.cell? ⟨gb184, 5, none⟩ = some (.string (⟨#[]⟩ : ByteArray)) := (blk_cell BK184.out 5).trans rfl; have hfz38_0 := blk_frozen BK184.out 0; have hfz38_1 := blk_frozen BK184.out 1; have hfz38_2 := blk_frozen BK184.out 2; have hfz38_3 := blk_frozen BK184.out 3; have hfz38_4 := blk_frozen BK184.out 4; have hfz38_5 := blk_frozen BK184.out 5))
                refine bodyPost_ret (results_ctt rfl _ _ gb184 24 #[.int .i64 0, .int .i64 0, .int .i64 0, .int .u8 0, .int .i64 0, .string (⟨#[]⟩ : ByteArray)] (0, 0) _ rfl (by (with_reducible repeat (first | refine bN ?_ _ | refine bD ?_ | refine bA ?_ _)); refine blk_put (cs := #[.int .i64 0, .int .i64 0, .int .i64 0, .int .u8 0, .int .i64 0, .string (⟨#[]⟩ : ByteArray)]) ?_ 5 _ rfl; (with_reducible repeat (first | refine bN ?_ _ | refine bD ?_ | refine bA ?_ _)); refine blk_put (cs := #[.int .i64 0, .int .i64 0, .int .i64 0, .int .u8 0, .int .i64 0, .string (⟨#[]⟩ : ByteArray)]) ?_ 4 _ rfl; (with_reducible repeat (first | refine bN ?_ _ | refine bD ?_ | refine bA ?_ _)); refine blk_put (cs := #[.int .i64 0, .int .i64 0, .int .i64 0, .int .u8 0, .int .i64 0, .string (⟨#[]⟩ : ByteArray)]) ?_ 3 _ rfl; (with_reducible repeat (first | refine bN ?_ _ | refine bD ?_ | refine bA ?_ _)); refine blk_put (cs := #[.int .i64 0, .int .i64 0, .int .i64 0, .int .u8 0, .int .i64 0, .string (⟨#[]⟩ : ByteArray)]) ?_ 2 _ rfl; (with_reducible repeat (first | refine bN ?_ _ | refine bD ?_ | refine bA ?_ _)); refine blk_put (cs := #[.int .i64 0, .int .i64 0, .int .i64 0, .int .u8 0, .int .i64 0, .string (⟨#[]⟩ : ByteArray)]) ?_ 1 _ rfl; (with_reducible repeat (first | refine bN ?_ _ | refine bD ?_ | refine bA ?_ _)); refine blk_put (cs := #[.int .i64 0, .int .i64 0, .int .i64 0, .int .u8 0, .int .i64 0, .string (⟨#[]⟩ : ByteArray)]) ?_ 0 _ rfl; (with_reducible repeat (first | refine bN ?_ _ | refine bD ?_ | refine bA ?_ _)); exact BK184.out) Try.underlying24 rfl (by kernel_rfl)) rfl ?_
                exact ⟨by first | rfl | (simp [errW_none, errW_some] <;> rfl) | (simp [*, errW_none, errW_some] <;> rfl), by repeat (first | (with_reducible first | exact HB.out | apply wA | apply wN | apply wD | refine wS ?_ GE184.out) | exact HB.out)⟩
              ·rw [if_neg c22] at H
               exact absurd H (by simp)
             ·rw [if_neg c21] at H
              exact absurd H (by simp)
            ·rw [if_neg c20] at H
             exact absurd H (by simp)
     ·replace c10 := Bool.eq_false_iff.mpr c10
      subst c10
      have H1 : (some (0, 0, 0, 0, 0, (⟨#[]⟩ : ByteArray), x7_5, 4)) = some (r1, r2, r3, r4, r5, r6, r7, r8) := by rw [if_neg (show ¬ (false = true) by decide)] at H; exact H
      clear H; have H := H1; clear H1
      simp only [Option.some.injEq, Prod.mk.injEq] at H
      obtain ⟨rfl, rfl, rfl, rfl, rfl, rfl, rfl, rfl⟩ := H
      go_wp2_with (first | ((with_reducible refine gate_callee (f := 24) rfl ?_); refine goesL_ (some 21) rfl rfl Try.func24 (by kernel_rfl) rfl #[.string a0, .int .i64 x7_5] rfl (by (try simp only [List.map_toArray, List.map_cons, List.map_nil]); first | done | rfl | (simp only [List.length_drop, List.length_take]; rfl)) ?_; (with_reducible refine (ndjqref03_digit.calls a0 x7_5 false _ A9.out).mono ?_); rintro e w' ⟨rfl, ⟨nd, rfl⟩⟩; refine ⟨_, rfl, ?_⟩; (try (rw [drewN_self wc]; generalize hq_ : World.drewN wc _ = wc; have n0_ : Aside0 (wc.heap[gb184]? = some (.cells #[.int .i64 0, .int .i64 0, .int .i64 0, .int .u8 0, .int .i64 0, .string (⟨#[]⟩ : ByteArray)] 24 (0, 0))) := ⟨by rw [← hq_]; exact (by (with_reducible repeat (first | refine bN ?_ _ | refine bD ?_ | refine bA ?_ _)); exact BK184.out)⟩; have n1_ : Aside0 (Below w.heap.size w wc) := ⟨by rw [← hq_]; exact (by repeat (first | (with_reducible first | exact HB.out | apply wA | apply wN | apply wD | refine wS ?_ GE184.out) | exact HB.out))⟩; clear BK184 HB hq_; have BK184 := n0_; have HB := n1_; clear n0_ n1_)); have hcz39_0 : wc.cell? ⟨gb184, 0, none⟩ = some (.int .i64 0) := (blk_cell BK184.out 0).trans rfl; have hcz39_1 : wc.cell? ⟨gb184, 1, none⟩ = some (.int .i64 0) := (blk_cell BK184.out 1).trans rfl; have hcz39_2 : wc.cell? ⟨gb184, 2, none⟩ = some (.int .i64 0) := (blk_cell BK184.out 2).trans rfl; have hcz39_3 : wc.cell? ⟨gb184, 3, none⟩ = some (.int .u8 0) := (blk_cell BK184.out 3).trans rfl; have hcz39_4 : wc.cell? ⟨gb184, 4, none⟩ = some (.int .i64 0) := (blk_cell BK184.out 4).trans rfl; have hcz39_5 : wc.cell? ⟨gb184, 5, none⟩ = some (.string (⟨#[]⟩ : ByteArray)) := (blk_cell BK184.out 5).trans rfl; have hfz39_0 := blk_frozen BK184.out 0; have hfz39_1 := blk_frozen BK184.out 1; have hfz39_2 := blk_frozen BK184.out 2; have hfz39_3 := blk_frozen BK184.out 3; have hfz39_4 := blk_frozen BK184.out 4; have hfz39_5 := blk_frozen BK184.out 5))
      refine bodyPost_ret (results_ctt rfl _ _ gb184 24 #[.int .i64 0, .int .i64 0, .int .i64 0, .int .u8 0, .int .i64 0, .string (⟨#[]⟩ : ByteArray)] (0, 0) _ rfl (by (with_reducible repeat (first | refine bN ?_ _ | refine bD ?_ | refine bA ?_ _)); refine blk_put (cs := #[.int .i64 0, .int .i64 0, .int .i64 0, .int .u8 0, .int .i64 0, .string (⟨#[]⟩ : ByteArray)]) ?_ 5 _ rfl; (with_reducible repeat (first | refine bN ?_ _ | refine bD ?_ | refine bA ?_ _)); refine blk_put (cs := #[.int .i64 0, .int .i64 0, .int .i64 0, .int .u8 0, .int .i64 0, .string (⟨#[]⟩ : ByteArray)]) ?_ 4 _ rfl; (with_reducible repeat (first | refine bN ?_ _ | refine bD ?_ | refine bA ?_ _)); refine blk_put (cs := #[.int .i64 0, .int .i64 0, .int .i64 0, .int .u8 0, .int .i64 0, .string (⟨#[]⟩ : ByteArray)]) ?_ 3 _ rfl; (with_reducible repeat (first | refine bN ?_ _ | refine bD ?_ | refine bA ?_ _)); refine blk_put (cs := #[.int .i64 0, .int .i64 0, .int .i64 0, .int .u8 0, .int .i64 0, .string (⟨#[]⟩ : ByteArray)]) ?_ 2 _ rfl; (with_reducible repeat (first | refine bN ?_ _ | refine bD ?_ | refine bA ?_ _)); refine blk_put (cs := #[.int .i64 0, .int .i64 0, .int .i64 0, .int .u8 0, .int .i64 0, .string (⟨#[]⟩ : ByteArray)]) ?_ 1 _ rfl; (with_reducible repeat (first | refine bN ?_ _ | refine bD ?_ | refine bA ?_ _)); refine blk_put (cs := #[.int .i64 0, .int .i64 0, .int .i64 0, .int .u8 0, .int .i64 0, .string (⟨#[]⟩ : ByteArray)]) ?_ 0 _ rfl; (with_reducible repeat (first | refine bN ?_ _ | refine bD ?_ | refine bA ?_ _)); exact BK184.out) Try.underlying24 rfl (by kernel_rfl)) rfl ?_
      exact ⟨by first | rfl | (simp [errW_none, errW_some] <;> rfl) | (simp [*, errW_none, errW_some] <;> rfl), by repeat (first | (with_reducible first | exact HB.out | apply wA | apply wN | apply wD | refine wS ?_ GE184.out) | exact HB.out)⟩
  ·rw [if_neg c4] at H
   exact absurd H (by simp)
 ·rw [if_neg c3] at H
  exact absurd H (by simp)

/-! ### ndjqref03_hex: function 48 -/
mutual
def ndjqref03_hex.j0 : Nat → Int → Bool → Option (Int × Bool)
  | 0, _, _ => none
  | k + 1, x0, x4 => if x4 = true then (some ((x0 - 48) % 256, true)) else (if x0 ≥ 97 then (ndjqref03_hex.j1 k x0 (decide (x0 ≤ 102))) else (ndjqref03_hex.j1 k x0 false))
def ndjqref03_hex.j1 : Nat → Int → Bool → Option (Int × Bool)
  | 0, _, _ => none
  | k + 1, x0, x14 => if x14 = true then (some (((x0 - 97) % 256) + 10, true)) else (if x0 ≥ 65 then (if x0 ≤ 70 then (some (((x0 - 65) % 256) + 10, true)) else (some (0, false))) else (some (0, false)))
end
def ndjqref03_hex.f (k : Nat) (a0 : Int) : Option (Int × Bool) := if a0 ≥ 48 then (ndjqref03_hex.j0 k a0 (decide (a0 ≤ 57))) else (ndjqref03_hex.j0 k a0 false)
theorem ndjqref03_hex.mono_l : ∀ k, (∀ y0 y1, LeO (ndjqref03_hex.j0 k y0 y1) (ndjqref03_hex.j0 (k + 1) y0 y1)) ∧ (∀ y0 y1, LeO (ndjqref03_hex.j1 k y0 y1) (ndjqref03_hex.j1 (k + 1) y0 y1))
  | 0 => ⟨fun _ _ r h => by simp [ndjqref03_hex.j0] at h, fun _ _ r h => by simp [ndjqref03_hex.j1] at h⟩
  | k + 1 => by
    obtain ⟨ih0, ih1⟩ := ndjqref03_hex.mono_l k
    refine ⟨?_, ?_⟩
    · intro y0 y1
      unfold ndjqref03_hex.j0
      repeat' first
      | (with_reducible exact ih0 _ _)
      | (with_reducible exact ih1 _ _)
      | (with_reducible exact LeO.refl _)
      | (with_reducible exact LeO.none _)
      | (with_reducible refine LeO.ite ?_ ?_)
      | (with_reducible refine LeO.bind ?_ (fun _ => ?_))
      | exact ih0 _ _
      | exact ih1 _ _
      | exact LeO.none _
      | refine LeO.ite ?_ ?_
      | refine LeO.bind ?_ (fun _ => ?_)
    · intro y0 y1
      unfold ndjqref03_hex.j1
      repeat' first
      | (with_reducible exact ih0 _ _)
      | (with_reducible exact ih1 _ _)
      | (with_reducible exact LeO.refl _)
      | (with_reducible exact LeO.none _)
      | (with_reducible refine LeO.ite ?_ ?_)
      | (with_reducible refine LeO.bind ?_ (fun _ => ?_))
      | exact ih0 _ _
      | exact ih1 _ _
      | exact LeO.none _
      | refine LeO.ite ?_ ?_
      | refine LeO.bind ?_ (fun _ => ?_)
theorem ndjqref03_hex.mono : ∀ a0 k, LeO (ndjqref03_hex.f k a0) (ndjqref03_hex.f (k + 1) a0) := by
  intro a0 k
  obtain ⟨ih0, ih1⟩ := ndjqref03_hex.mono_l k
  unfold ndjqref03_hex.f
  repeat' first
      | (with_reducible exact ih0 _ _)
      | (with_reducible exact ih1 _ _)
      | (with_reducible exact LeO.refl _)
      | (with_reducible exact LeO.none _)
      | (with_reducible refine LeO.ite ?_ ?_)
      | (with_reducible refine LeO.bind ?_ (fun _ => ?_))
      | exact ih0 _ _
      | exact ih1 _ _
      | exact LeO.none _
      | refine LeO.ite ?_ ?_
      | refine LeO.bind ?_ (fun _ => ?_)
set_option maxHeartbeats 8000000 in
set_option maxRecDepth 100000 in
theorem ndjqref03_hex.calls (k : Nat) (a0 : Int) (r1 : Int) (r2 : Bool) (w : World) (h : ndjqref03_hex.f k a0 = some (r1, r2)) :
    Calls Try.prog 48 #[.int .u8 a0] w fun e w' => e = .returned (.tuple #[.int .i64 r1, .bool r2]) ∧ Drawn0 w w' := by
  have H : (if a0 ≥ 48 then (ndjqref03_hex.j0 k a0 (decide (a0 ≤ 57))) else (ndjqref03_hex.j0 k a0 false)) = some (r1, r2) := h
  clear h
  have HC2 := Aside0.mk H
  clear H
  go_enter Try.func48, Try.ntmps48
  go_upto_region 1 with (fail)
  go_cut [4] (fun v4 wc => ∃ (kq : Nat) (x4_1 : Bool), v4 = .bool x4_1 ∧ Aside0 (ndjqref03_hex.j0 kq a0 x4_1 = some (r1, r2)) ∧ Aside0 (kq ≤ k) ∧ Drawn0 w wc)
  case first =>
    have H := HC2.out
    clear HC2
    by_cases c3 : a0 ≥ 48
    · rw [if_pos c3] at H
      have c3b0 : decide (48 ≤ a0) = true := decide_eq_true c3
      clear c3
      (first | rw [c3b0] | (simp only [i64_w, i32_w]; rw [c3b0]) | skip)
      have H' := Aside0.mk H
      clear H
      go_wp2
      go_meet
      case rel => exact ⟨_, (decide (a0 ≤ 57)), (by first | rfl | (simp; done) | (simp [*]; done)), H', ⟨by first | omega | exact Nat.le_refl _⟩, by repeat (first | exact Drawn0.refl _ | apply Drawn0.step)⟩
    · rw [if_neg c3] at H
      have c3b0 : decide (48 ≤ a0) = false := decide_eq_false c3
      clear c3
      (first | rw [c3b0] | (simp only [i64_w, i32_w]; rw [c3b0]) | skip)
      have H' := Aside0.mk H
      clear H
      go_wp2
      go_meet
      case rel => exact ⟨_, (false), (by first | rfl | (simp; done) | (simp [*]; done)), H', ⟨by first | omega | exact Nat.le_refl _⟩, by repeat (first | exact Drawn0.refl _ | apply Drawn0.step)⟩
  case rest =>
    clear HC2
    (try clear p2); (try clear c3); (try clear c3b0)
    obtain ⟨kq, x4_1, rfl, HA, HJ1, ⟨mc1, rfl⟩⟩ := hcut
    cases kq with
    | zero => exact absurd HA.out (by simp [ndjqref03_hex.j0])
    | succ kj1 =>
      have H := HA.out
      clear HA
      simp only [ndjqref03_hex.j0] at H
      by_cases c4 : x4_1 = true
      · subst c4
        have H1 : (some ((a0 - 48) % 256, true)) = some (r1, r2) := by rw [if_pos rfl] at H; exact H
        clear H
        have H := H1
        clear H1
        simp only [Option.some.injEq, Prod.mk.injEq] at H
        obtain ⟨rfl, rfl⟩ := H
        go_wp2
        go_ret2
        exact ⟨by first | rfl | (simp; done) | (simp [*]; done), by repeat (first | exact Drawn0.refl _ | apply Drawn0.step)⟩
      · replace c4 := Bool.eq_false_iff.mpr c4
        subst c4
        have H1 : (if a0 ≥ 97 then (ndjqref03_hex.j1 kj1 a0 (decide (a0 ≤ 102))) else (ndjqref03_hex.j1 kj1 a0 false)) = some (r1, r2) := by rw [if_neg (show ¬ (false = true) by decide)] at H; exact H
        clear H
        have H := H1
        clear H1
        have HC5 := Aside0.mk H
        clear H
        go_upto_region 3 with (fail)
        go_cut [14] (fun v14 wc => ∃ (kq : Nat) (x14_4 : Bool), v14 = .bool x14_4 ∧ Aside0 (ndjqref03_hex.j1 kq a0 x14_4 = some (r1, r2)) ∧ Aside0 (kq ≤ kj1) ∧ Drawn0 w wc)
        case first =>
          have H := HC5.out
          clear HC5
          by_cases c6 : a0 ≥ 97
          · rw [if_pos c6] at H
            have c6b0 : decide (97 ≤ a0) = true := decide_eq_true c6
            clear c6
            (first | rw [c6b0] | (simp only [i64_w, i32_w]; rw [c6b0]) | skip)
            have H' := Aside0.mk H
            clear H
            go_wp2
            go_meet
            case rel => exact ⟨_, (decide (a0 ≤ 102)), (by first | rfl | (simp; done) | (simp [*]; done)), H', ⟨by have := HJ1.out; first | omega | exact Nat.le_refl _⟩, by repeat (first | exact Drawn0.refl _ | apply Drawn0.step)⟩
          · rw [if_neg c6] at H
            have c6b0 : decide (97 ≤ a0) = false := decide_eq_false c6
            clear c6
            (first | rw [c6b0] | (simp only [i64_w, i32_w]; rw [c6b0]) | skip)
            have H' := Aside0.mk H
            clear H
            go_wp2
            go_meet
            case rel => exact ⟨_, (false), (by first | rfl | (simp; done) | (simp [*]; done)), H', ⟨by have := HJ1.out; first | omega | exact Nat.le_refl _⟩, by repeat (first | exact Drawn0.refl _ | apply Drawn0.step)⟩
        case rest =>
          clear HC5
          (try clear c1); (try clear p2); (try clear c3); (try clear c3b0); (try clear c4); (try clear c6); (try clear c6b0); (try clear p2)
          obtain ⟨kq, x14_4, rfl, HA, HJ4, ⟨mc4, rfl⟩⟩ := hcut
          cases kq with
          | zero => exact absurd HA.out (by simp [ndjqref03_hex.j1])
          | succ kj4 =>
            have H := HA.out
            clear HA
            simp only [ndjqref03_hex.j1] at H
            by_cases c7 : x14_4 = true
            · subst c7
              have H1 : (some (((a0 - 97) % 256) + 10, true)) = some (r1, r2) := by rw [if_pos rfl] at H; exact H
              clear H
              have H := H1
              clear H1
              simp only [Option.some.injEq, Prod.mk.injEq] at H
              obtain ⟨rfl, rfl⟩ := H
              go_wp2
              go_ret2
              exact ⟨by first | rfl | (simp; done) | (simp [*]; done), by repeat (first | exact Drawn0.refl _ | apply Drawn0.step)⟩
            · replace c7 := Bool.eq_false_iff.mpr c7
              subst c7
              have H1 : (if a0 ≥ 65 then (if a0 ≤ 70 then (some (((a0 - 65) % 256) + 10, true)) else (some (0, false))) else (some (0, false))) = some (r1, r2) := by rw [if_neg (show ¬ (false = true) by decide)] at H; exact H
              clear H
              have H := H1
              clear H1
              by_cases c8 : a0 ≥ 65
              · rw [if_pos c8] at H
                have c8b0 : decide (65 ≤ a0) = true := decide_eq_true c8
                clear c8
                by_cases c9 : a0 ≤ 70
                · rw [if_pos c9] at H
                  have c9b0 : decide (a0 ≤ 70) = true := decide_eq_true c9
                  clear c9
                  simp only [Option.some.injEq, Prod.mk.injEq] at H
                  obtain ⟨rfl, rfl⟩ := H
                  go_wp2
                  go_ret2
                  exact ⟨by first | rfl | (simp; done) | (simp [*]; done), by repeat (first | exact Drawn0.refl _ | apply Drawn0.step)⟩
                · rw [if_neg c9] at H
                  have c9b0 : decide (a0 ≤ 70) = false := decide_eq_false c9
                  clear c9
                  simp only [Option.some.injEq, Prod.mk.injEq] at H
                  obtain ⟨rfl, rfl⟩ := H
                  go_wp2
                  go_ret2
                  exact ⟨by first | rfl | (simp; done) | (simp [*]; done), by repeat (first | exact Drawn0.refl _ | apply Drawn0.step)⟩
              · rw [if_neg c8] at H
                have c8b0 : decide (65 ≤ a0) = false := decide_eq_false c8
                clear c8
                simp only [Option.some.injEq, Prod.mk.injEq] at H
                obtain ⟨rfl, rfl⟩ := H
                go_wp2
                go_ret2
                exact ⟨by first | rfl | (simp; done) | (simp [*]; done), by repeat (first | exact Drawn0.refl _ | apply Drawn0.step)⟩

/-! ### ndjqref03_quad: function 47 -/
def ndjqref03_quad.l0 : Nat → ByteArray → Int → Int → Int → Int → Int → Option (Int × Int)
  | 0, _, _, _, _, _, _ => none
  | k + 1, x0, x1, x2, x3, x10, x11 => if x11 < 4 then (if (wrap64 (x1 + x11)) ≥ (x0.size : Int) then (some (x11, 0)) else (if 0 ≤ (wrap64 (x1 + x11)) then (if (wrap64 (x1 + x11)) < (x0.size : Int) then ((ndjqref03_hex.f k (bt x0 (wrap64 (x1 + x11)))).bind fun bt189 => (if bt189.2 = true then (if 0 ≤ (wrap64 (4 * (wrap64 (3 - x11)))) then (if (wrap64 ((shl .i64 (wrap64 ((Go.bits .or .i64 (wrap64 (x10 * 16)) bt189.1) + 1)) (wrap64 (4 * (wrap64 (3 - x11))))) - 1)) < x2 then (some (x11, (-1))) else (if (shl .i64 (Go.bits .or .i64 (wrap64 (x10 * 16)) bt189.1) (wrap64 (4 * (wrap64 (3 - x11))))) > x3 then (some (x11, (-1))) else (ndjqref03_quad.l0 k x0 x1 x2 x3 (Go.bits .or .i64 (wrap64 (x10 * 16)) bt189.1) (wrap64 (x11 + 1))))) else (none)) else (some (x11, (-1))))) else (none)) else (none))) else (some (4, x10))
def ndjqref03_quad.f (k : Nat) (a0 : ByteArray) (a1 : Int) (a2 : Int) (a3 : Int) : Option (Int × Int) := ndjqref03_quad.l0 k a0 a1 a2 a3 0 0
theorem ndjqref03_quad.mono_l : ∀ k, (∀ y0 y1 y2 y3 y4 y5, LeO (ndjqref03_quad.l0 k y0 y1 y2 y3 y4 y5) (ndjqref03_quad.l0 (k + 1) y0 y1 y2 y3 y4 y5))
  | 0 => fun _ _ _ _ _ _ r h => by simp [ndjqref03_quad.l0] at h
  | k + 1 => by
    have ih0 := ndjqref03_quad.mono_l k
    · intro y0 y1 y2 y3 y4 y5
      unfold ndjqref03_quad.l0
      repeat' first
      | (with_reducible exact ih0 _ _ _ _ _ _)
      | (with_reducible exact ndjqref03_hex.mono _ _)
      | (with_reducible exact LeO.refl _)
      | (with_reducible exact LeO.none _)
      | (with_reducible refine LeO.ite ?_ ?_)
      | (with_reducible refine LeO.bind ?_ (fun _ => ?_))
      | exact ih0 _ _ _ _ _ _
      | exact ndjqref03_hex.mono _ _
      | exact LeO.none _
      | refine LeO.ite ?_ ?_
      | refine LeO.bind ?_ (fun _ => ?_)
theorem ndjqref03_quad.mono : ∀ a0 a1 a2 a3 k, LeO (ndjqref03_quad.f k a0 a1 a2 a3) (ndjqref03_quad.f (k + 1) a0 a1 a2 a3) := by
  intro a0 a1 a2 a3 k
  have ih0 := ndjqref03_quad.mono_l k
  unfold ndjqref03_quad.f
  repeat' first
      | (with_reducible exact ih0 _ _ _ _ _ _)
      | (with_reducible exact ndjqref03_hex.mono _ _)
      | (with_reducible exact LeO.refl _)
      | (with_reducible exact LeO.none _)
      | (with_reducible refine LeO.ite ?_ ?_)
      | (with_reducible refine LeO.bind ?_ (fun _ => ?_))
      | exact ih0 _ _ _ _ _ _
      | exact ndjqref03_hex.mono _ _
      | exact LeO.none _
      | refine LeO.ite ?_ ?_
      | refine LeO.bind ?_ (fun _ => ?_)
set_option maxHeartbeats 8000000 in
set_option maxRecDepth 100000 in
theorem ndjqref03_quad.calls (k : Nat) (a0 : ByteArray) (a1 : Int) (a2 : Int) (a3 : Int) (r1 : Int) (r2 : Int) (w : World) (h : ndjqref03_quad.f k a0 a1 a2 a3 = some (r1, r2)) :
    Calls Try.prog 47 #[.string a0, .int .i64 a1, .int .i64 a2, .int .i64 a3] w fun e w' => e = .returned (.tuple #[.int .i64 r1, .int .i64 r2]) ∧ Drawn0 w w' := by
  have H : (ndjqref03_quad.l0 k a0 a1 a2 a3 0 0) = some (r1, r2) := h
  clear h
  have H' := Aside0.mk H
  clear H
  go_enter Try.func47, Try.ntmps47
  go_wp2
  go_loopg [10, 11] k (fun kq v10 v11 w' => ∃ (x10_1 : Int) (x11_1 : Int), v10 = .int .i64 x10_1 ∧ v11 = .int .i64 x11_1 ∧ Aside0 (ndjqref03_quad.l0 kq a0 a1 a2 a3 x10_1 x11_1 = some (r1, r2)) ∧ Aside0 (kq ≤ k) ∧ Drawn0 w w')
  case atStart => exact ⟨(0), (0), (by first | rfl | (simp; done) | (simp [*]; done)), (by first | rfl | (simp; done) | (simp [*]; done)), H', ⟨Nat.le_refl _⟩, by repeat (first | exact Drawn0.refl _ | apply Drawn0.step)⟩
  case round =>
    clear H'
    (try clear p2); (try clear c4)
    obtain ⟨x10_1, x11_1, rfl, rfl, HA, HK1, ⟨m1, rfl⟩⟩ := hrel
    cases gk with
    | zero => exact absurd HA.out (by simp [ndjqref03_quad.l0])
    | succ k1 =>
      have H := HA.out
      clear HA
      simp only [ndjqref03_quad.l0] at H
      by_cases c5 : x11_1 < 4
      · rw [if_pos c5] at H
        have c5b0 : decide (x11_1 < 4) = true := decide_eq_true c5
        clear c5
        by_cases c6 : (wrap64 (a1 + x11_1)) ≥ (a0.size : Int)
        · rw [if_pos c6] at H
          have c6b0 : decide ((a0.size : Int) ≤ (wrap64 (a1 + x11_1))) = true := decide_eq_true c6
          clear c6
          simp only [Option.some.injEq, Prod.mk.injEq] at H
          obtain ⟨rfl, rfl⟩ := H
          go_wp2
          go_ret2
          exact ⟨by first | rfl | (simp; done) | (simp [*]; done), by repeat (first | exact Drawn0.refl _ | apply Drawn0.step)⟩
        · rw [if_neg c6] at H
          have c6b0 : decide ((a0.size : Int) ≤ (wrap64 (a1 + x11_1))) = false := decide_eq_false c6
          clear c6
          obtain ⟨ji7, hji7⟩ : ∃ j_ : Int, (wrap64 (a1 + x11_1)) = j_ := ⟨_, rfl⟩
          replace H : (if 0 ≤ (ji7) then (if (ji7) < (a0.size : Int) then ((ndjqref03_hex.f k1 (bt a0 (ji7))).bind fun bt189 => (if bt189.2 = true then (if 0 ≤ (wrap64 (4 * (wrap64 (3 - x11_1)))) then (if (wrap64 ((shl .i64 (wrap64 ((Go.bits .or .i64 (wrap64 (x10_1 * 16)) bt189.1) + 1)) (wrap64 (4 * (wrap64 (3 - x11_1))))) - 1)) < a2 then (some (x11_1, (-1))) else (if (shl .i64 (Go.bits .or .i64 (wrap64 (x10_1 * 16)) bt189.1) (wrap64 (4 * (wrap64 (3 - x11_1))))) > a3 then (some (x11_1, (-1))) else (ndjqref03_quad.l0 k1 a0 a1 a2 a3 (Go.bits .or .i64 (wrap64 (x10_1 * 16)) bt189.1) (wrap64 (x11_1 + 1))))) else (none)) else (some (x11_1, (-1))))) else (none)) else (none)) = some (r1, r2) := by first | (rw [hji7] at H; exact H) | (simp only [hji7] at H ⊢; exact H)
          (try rw [hji7] at c6b0)
          have hji7w : (IntKind.i64.wrap (a1 + x11_1)) = ji7 := (i64_w _).trans hji7
          by_cases c8 : 0 ≤ (ji7)
          · rw [if_pos c8] at H
            have c8b0 : decide (0 ≤ (ji7)) = true := decide_eq_true c8
            clear c8
            by_cases c9 : (ji7) < (a0.size : Int)
            · rw [if_pos c9] at H
              have c9b0 : decide ((ji7) < (a0.size : Int)) = true := decide_eq_true c9
              clear c9
              replace H := Option.bind_eq_some_iff.mp H
              obtain ⟨⟨t189, t190⟩, A110, H⟩ := H
              replace H : (if t190 = true then (if 0 ≤ (wrap64 (4 * (wrap64 (3 - x11_1)))) then (if (wrap64 ((shl .i64 (wrap64 ((Go.bits .or .i64 (wrap64 (x10_1 * 16)) t189) + 1)) (wrap64 (4 * (wrap64 (3 - x11_1))))) - 1)) < a2 then (some (x11_1, (-1))) else (if (shl .i64 (Go.bits .or .i64 (wrap64 (x10_1 * 16)) t189) (wrap64 (4 * (wrap64 (3 - x11_1))))) > a3 then (some (x11_1, (-1))) else (ndjqref03_quad.l0 k1 a0 a1 a2 a3 (Go.bits .or .i64 (wrap64 (x10_1 * 16)) t189) (wrap64 (x11_1 + 1))))) else (none)) else (some (x11_1, (-1)))) = some (r1, r2) := H
              have A11 := Aside0.mk A110
              clear A110
              by_cases c12 : t190 = true
              · subst c12
                have H1 : (if 0 ≤ (wrap64 (4 * (wrap64 (3 - x11_1)))) then (if (wrap64 ((shl .i64 (wrap64 ((Go.bits .or .i64 (wrap64 (x10_1 * 16)) t189) + 1)) (wrap64 (4 * (wrap64 (3 - x11_1))))) - 1)) < a2 then (some (x11_1, (-1))) else (if (shl .i64 (Go.bits .or .i64 (wrap64 (x10_1 * 16)) t189) (wrap64 (4 * (wrap64 (3 - x11_1))))) > a3 then (some (x11_1, (-1))) else (ndjqref03_quad.l0 k1 a0 a1 a2 a3 (Go.bits .or .i64 (wrap64 (x10_1 * 16)) t189) (wrap64 (x11_1 + 1))))) else (none)) = some (r1, r2) := by rw [if_pos rfl] at H; exact H
                clear H
                have H := H1
                clear H1
                obtain ⟨ji13, hji13⟩ : ∃ j_ : Int, (wrap64 (4 * (wrap64 (3 - x11_1)))) = j_ := ⟨_, rfl⟩
                replace H : (if 0 ≤ (ji13) then (if (wrap64 ((shl .i64 (wrap64 ((Go.bits .or .i64 (wrap64 (x10_1 * 16)) t189) + 1)) (ji13)) - 1)) < a2 then (some (x11_1, (-1))) else (if (shl .i64 (Go.bits .or .i64 (wrap64 (x10_1 * 16)) t189) (ji13)) > a3 then (some (x11_1, (-1))) else (ndjqref03_quad.l0 k1 a0 a1 a2 a3 (Go.bits .or .i64 (wrap64 (x10_1 * 16)) t189) (wrap64 (x11_1 + 1))))) else (none)) = some (r1, r2) := by first | (rw [hji13] at H; exact H) | (simp only [hji13] at H ⊢; exact H)
                (try rw [hji13] at A11)
                have hji13w : (IntKind.i64.wrap (4 * (wrap64 (3 - x11_1)))) = ji13 := (i64_w _).trans hji13
                by_cases c14 : 0 ≤ (ji13)
                · rw [if_pos c14] at H
                  have c14b0 := eq_true c14
                  have c14b1 : decide (0 ≤ (ji13)) = true := decide_eq_true c14
                  clear c14
                  obtain ⟨ji15, hji15⟩ : ∃ j_ : Int, (shl .i64 (wrap64 ((Go.bits .or .i64 (wrap64 (x10_1 * 16)) t189) + 1)) (ji13)) = j_ := ⟨_, rfl⟩
                  replace H : (if (wrap64 ((ji15) - 1)) < a2 then (some (x11_1, (-1))) else (if (shl .i64 (Go.bits .or .i64 (wrap64 (x10_1 * 16)) t189) (ji13)) > a3 then (some (x11_1, (-1))) else (ndjqref03_quad.l0 k1 a0 a1 a2 a3 (Go.bits .or .i64 (wrap64 (x10_1 * 16)) t189) (wrap64 (x11_1 + 1))))) = some (r1, r2) := by first | (rw [hji15] at H; exact H) | (simp only [hji15] at H ⊢; exact H)
                  (try rw [hji15] at A11)
                  have hji15_ : (IntKind.i64.wrap ((wrap64 ((Go.bits .or .i64 (wrap64 (x10_1 * 16)) t189) + 1)) * 2 ^ min (ji13).toNat 64)) = ji15 := hji15
                  have hji15z : (ji13) ≤ 64 → (IntKind.i64.wrap ((wrap64 ((Go.bits .or .i64 (wrap64 (x10_1 * 16)) t189) + 1)) * 2 ^ (ji13).toNat)) = ji15 := shl_small hji15
                  have hji15y : (wrap64 ((wrap64 ((Go.bits .or .i64 (wrap64 (x10_1 * 16)) t189) + 1)) * 2 ^ min (ji13).toNat 64)) = ji15 := (i64_w _).symm.trans hji15_
                  have hji15x : (ji13) ≤ 64 → (wrap64 ((wrap64 ((Go.bits .or .i64 (wrap64 (x10_1 * 16)) t189) + 1)) * 2 ^ (ji13).toNat)) = ji15 := fun h_ => (i64_w _).symm.trans (hji15z h_)
                  by_cases c16 : (wrap64 ((ji15) - 1)) < a2
                  · rw [if_pos c16] at H
                    have c16b0 : decide ((wrap64 ((ji15) - 1)) < a2) = true := decide_eq_true c16
                    clear c16
                    simp only [Option.some.injEq, Prod.mk.injEq] at H
                    obtain ⟨rfl, rfl⟩ := H
                    have p10 : 0 ≤ ((ji7) : Int) := of_decide_eq_true (by first | (with_reducible assumption) | assumption)
                    have q10 : (ji7) < (a0.size : Int) := of_decide_eq_true (by first | (with_reducible assumption) | assumption)
                    have hx10 := bt_at a0 (ji7)
                    replace p10 := eq_true p10
                    replace q10 := eq_true q10
                    go_wp2_with (first | ((with_reducible refine gate_callee (f := 48) rfl ?_); refine goesL_ (some 32) rfl rfl Try.func48 (by kernel_rfl) rfl #[.int .u8 (bt a0 (ji7))] rfl (by (try simp only [List.map_toArray, List.map_cons, List.map_nil]); first | done | (simp only [hji7]; rfl) | rfl | (simp only [List.length_drop, List.length_take]; rfl)) ?_; (with_reducible refine (ndjqref03_hex.calls k1 (bt a0 (ji7)) t189 true _ A11.out).mono ?_); rintro e w' ⟨rfl, ⟨nd, rfl⟩⟩; refine ⟨_, rfl, ?_⟩))
                    go_ret2
                    exact ⟨by first | rfl | (simp; done) | (simp only [← hji7, ← hji13, ← hji15] <;> (first | rfl | (simp; done))) | (simp [*]; done), by repeat (first | exact Drawn0.refl _ | apply Drawn0.step)⟩
                  · rw [if_neg c16] at H
                    have c16b0 : decide ((wrap64 ((ji15) - 1)) < a2) = false := decide_eq_false c16
                    clear c16
                    have c17b0 := eq_true (of_decide_eq_true (by first | (with_reducible assumption) | assumption) : 0 ≤ (ji13))
                    obtain ⟨ji18, hji18⟩ : ∃ j_ : Int, (shl .i64 (Go.bits .or .i64 (wrap64 (x10_1 * 16)) t189) (ji13)) = j_ := ⟨_, rfl⟩
                    replace H : (if (ji18) > a3 then (some (x11_1, (-1))) else (ndjqref03_quad.l0 k1 a0 a1 a2 a3 (Go.bits .or .i64 (wrap64 (x10_1 * 16)) t189) (wrap64 (x11_1 + 1)))) = some (r1, r2) := by first | (rw [hji18] at H; exact H) | (simp only [hji18] at H ⊢; exact H)
                    (try rw [hji18] at A11)
                    have hji18_ : (IntKind.i64.wrap ((Go.bits .or .i64 (wrap64 (x10_1 * 16)) t189) * 2 ^ min (ji13).toNat 64)) = ji18 := hji18
                    have hji18z : (ji13) ≤ 64 → (IntKind.i64.wrap ((Go.bits .or .i64 (wrap64 (x10_1 * 16)) t189) * 2 ^ (ji13).toNat)) = ji18 := shl_small hji18
                    have hji18y : (wrap64 ((Go.bits .or .i64 (wrap64 (x10_1 * 16)) t189) * 2 ^ min (ji13).toNat 64)) = ji18 := (i64_w _).symm.trans hji18_
                    have hji18x : (ji13) ≤ 64 → (wrap64 ((Go.bits .or .i64 (wrap64 (x10_1 * 16)) t189) * 2 ^ (ji13).toNat)) = ji18 := fun h_ => (i64_w _).symm.trans (hji18z h_)
                    by_cases c19 : (ji18) > a3
                    · rw [if_pos c19] at H
                      have c19b0 : decide (a3 < (ji18)) = true := decide_eq_true c19
                      clear c19
                      simp only [Option.some.injEq, Prod.mk.injEq] at H
                      obtain ⟨rfl, rfl⟩ := H
                      have p10 : 0 ≤ ((ji7) : Int) := of_decide_eq_true (by first | (with_reducible assumption) | assumption)
                      have q10 : (ji7) < (a0.size : Int) := of_decide_eq_true (by first | (with_reducible assumption) | assumption)
                      have hx10 := bt_at a0 (ji7)
                      replace p10 := eq_true p10
                      replace q10 := eq_true q10
                      go_wp2_with (first | ((with_reducible refine gate_callee (f := 48) rfl ?_); refine goesL_ (some 32) rfl rfl Try.func48 (by kernel_rfl) rfl #[.int .u8 (bt a0 (ji7))] rfl (by (try simp only [List.map_toArray, List.map_cons, List.map_nil]); first | done | (simp only [hji7]; rfl) | rfl | (simp only [List.length_drop, List.length_take]; rfl)) ?_; (with_reducible refine (ndjqref03_hex.calls k1 (bt a0 (ji7)) t189 true _ A11.out).mono ?_); rintro e w' ⟨rfl, ⟨nd, rfl⟩⟩; refine ⟨_, rfl, ?_⟩))
                      go_ret2
                      exact ⟨by first | rfl | (simp; done) | (simp only [← hji7, ← hji13, ← hji15, ← hji18] <;> (first | rfl | (simp; done))) | (simp [*]; done), by repeat (first | exact Drawn0.refl _ | apply Drawn0.step)⟩
                    · rw [if_neg c19] at H
                      have c19b0 : decide (a3 < (ji18)) = false := decide_eq_false c19
                      clear c19
                      have H' := Aside0.mk H
                      clear H
                      have p10 : 0 ≤ ((ji7) : Int) := of_decide_eq_true (by first | (with_reducible assumption) | assumption)
                      have q10 : (ji7) < (a0.size : Int) := of_decide_eq_true (by first | (with_reducible assumption) | assumption)
                      have hx10 := bt_at a0 (ji7)
                      replace p10 := eq_true p10
                      replace q10 := eq_true q10
                      go_wp2_with (first | ((with_reducible refine gate_callee (f := 48) rfl ?_); refine goesL_ (some 32) rfl rfl Try.func48 (by kernel_rfl) rfl #[.int .u8 (bt a0 (ji7))] rfl (by (try simp only [List.map_toArray, List.map_cons, List.map_nil]); first | done | (simp only [hji7]; rfl) | rfl | (simp only [List.length_drop, List.length_take]; rfl)) ?_; (with_reducible refine (ndjqref03_hex.calls k1 (bt a0 (ji7)) t189 true _ A11.out).mono ?_); rintro e w' ⟨rfl, ⟨nd, rfl⟩⟩; refine ⟨_, rfl, ?_⟩))
                      go_roundg k1
                      case measure => have := HK1.out; omega
                      case rel => exact ⟨(Go.bits .or .i64 (wrap64 (x10_1 * 16)) t189), (wrap64 (x11_1 + 1)), (by first | rfl | (simp; done) | (simp [*]; done)), (by first | rfl | (simp; done) | (simp [*]; done)), H', ⟨by have := HK1.out; omega⟩, by repeat (first | exact Drawn0.refl _ | apply Drawn0.step)⟩
                · rw [if_neg c14] at H
                  exact absurd H (by simp)
              · replace c12 := Bool.eq_false_iff.mpr c12
                subst c12
                have H1 : (some (x11_1, (-1))) = some (r1, r2) := by rw [if_neg (show ¬ (false = true) by decide)] at H; exact H
                clear H
                have H := H1
                clear H1
                simp only [Option.some.injEq, Prod.mk.injEq] at H
                obtain ⟨rfl, rfl⟩ := H
                have p10 : 0 ≤ ((ji7) : Int) := of_decide_eq_true (by first | (with_reducible assumption) | assumption)
                have q10 : (ji7) < (a0.size : Int) := of_decide_eq_true (by first | (with_reducible assumption) | assumption)
                have hx10 := bt_at a0 (ji7)
                replace p10 := eq_true p10
                replace q10 := eq_true q10
                go_wp2_with (first | ((with_reducible refine gate_callee (f := 48) rfl ?_); refine goesL_ (some 32) rfl rfl Try.func48 (by kernel_rfl) rfl #[.int .u8 (bt a0 (ji7))] rfl (by (try simp only [List.map_toArray, List.map_cons, List.map_nil]); first | done | (simp only [hji7]; rfl) | rfl | (simp only [List.length_drop, List.length_take]; rfl)) ?_; (with_reducible refine (ndjqref03_hex.calls k1 (bt a0 (ji7)) t189 false _ A11.out).mono ?_); rintro e w' ⟨rfl, ⟨nd, rfl⟩⟩; refine ⟨_, rfl, ?_⟩))
                go_ret2
                exact ⟨by first | rfl | (simp; done) | (simp only [← hji7] <;> (first | rfl | (simp; done))) | (simp [*]; done), by repeat (first | exact Drawn0.refl _ | apply Drawn0.step)⟩
            · rw [if_neg c9] at H
              exact absurd H (by simp)
          · rw [if_neg c8] at H
            exact absurd H (by simp)
      · rw [if_neg c5] at H
        have c5b0 : decide (x11_1 < 4) = false := decide_eq_false c5
        clear c5
        simp only [Option.some.injEq, Prod.mk.injEq] at H
        obtain ⟨rfl, rfl⟩ := H
        go_wp2
        go_ret2
        exact ⟨by first | rfl | (simp; done) | (simp [*]; done), by repeat (first | exact Drawn0.refl _ | apply Drawn0.step)⟩

end Go.Proofs.Ytcnojfoiolbnaaa.QJsonlexStrings
