-- by a program of this session (print2.py): the machine's side of one law; Lean checks it.
import Derived.Test.YtcnojfoiolbnaaaQJsonlexQuotedx0
namespace Go.Proofs.Ytcnojfoiolbnaaa.QJsonlexQuoted
open Go.RowKit Go.Proofs.YtcnojfoiolbnaaaW.PrintWords Go.Proofs.YtcnojfoiolbnaaaW.PrintLast Go.Proofs.YtcnojfoiolbnaaaW.PrintMore
attribute [local go_sem] max2_int min2_int max_two min_two max_three min_three max_four min_four   -- for this text's walks alone
set_option linter.unusedVariables false
set_option linter.unusedSimpArgs false

/-! ### ndjqref05_quote: function 30 -/
mutual
def ndjqref05_quote.l0 : Nat → List Int → ByteArray → Int → Option (List Int)
 | 0, _, _, _ => none
 | k + 1, x0, x1, x5 => if x5 < (x1.size : Int) then (if 0 ≤ x5 then (if (bt x1 x5) = 34 then (ndjqref05_quote.j1 k x0 x1 x5 (bt x1 x5) true) else (ndjqref05_quote.j1 k x0 x1 x5 (bt x1 x5) ((bt x1 x5) == 92))) else (none)) else (if x0.length < 140737488355328 then (some (x0 ++ [34])) else (none))
def ndjqref05_quote.j1 : Nat → List Int → ByteArray → Int → Int → Bool → Option (List Int)
 | 0, _, _, _, _, _ => none
 | k + 1, x0, x1, x5, x6, x23 => if x23 = true then ((some (([92, x6] : List Int) : List Int)).bind fun y198 => (if x0.length + y198.length < 140737488355328 then (ndjqref05_quote.l0 k (x0 ++ y198) x1 (wrap64 (x5 + 1))) else (none))) else (if x6 = 8 then (if x0.length + 2 < 140737488355328 then (ndjqref05_quote.l0 k (x0 ++ bytesOf (⟨#[92, 98]⟩ : ByteArray)) x1 (wrap64 (x5 + 1))) else (none)) else (if x6 = 9 then (if x0.length + 2 < 140737488355328 then (ndjqref05_quote.l0 k (x0 ++ bytesOf (⟨#[92, 116]⟩ : ByteArray)) x1 (wrap64 (x5 + 1))) else (none)) else (if x6 = 10 then (if x0.length + 2 < 140737488355328 then (ndjqref05_quote.l0 k (x0 ++ bytesOf (⟨#[92, 110]⟩ : ByteArray)) x1 (wrap64 (x5 + 1))) else (none)) else (if x6 = 12 then (if x0.length + 2 < 140737488355328 then (ndjqref05_quote.l0 k (x0 ++ bytesOf (⟨#[92, 102]⟩ : ByteArray)) x1 (wrap64 (x5 + 1))) else (none)) else (if x6 = 13 then (if x0.length + 2 < 140737488355328 then (ndjqref05_quote.l0 k (x0 ++ bytesOf (⟨#[92, 114]⟩ : ByteArray)) x1 (wrap64 (x5 + 1))) else (none)) else (if x6 < 32 then (if 0 ≤ (x6 / 16) then (if (x6 / 16) < 16 then (if 0 ≤ (Go.bits .and .u8 x6 15) then (if (Go.bits .and .u8 x6 15) < 16 then ((some (([92, 117, 48, 48, bt (⟨#[48, 49, 50, 51, 52, 53, 54, 55, 56, 57, 97, 98, 99, 100, 101, 102]⟩ : ByteArray) (x6 / 16), bt (⟨#[48, 49, 50, 51, 52, 53, 54, 55, 56, 57, 97, 98, 99, 100, 101, 102]⟩ : ByteArray) (Go.bits .and .u8 x6 15)] : List Int) : List Int)).bind fun y219 => (if x0.length + y219.length < 140737488355328 then (ndjqref05_quote.l0 k (x0 ++ y219) x1 (wrap64 (x5 + 1))) else (none))) else (none)) else (none)) else (none)) else (none)) else (if x0.length < 140737488355328 then (ndjqref05_quote.l0 k (x0 ++ [x6]) x1 (wrap64 (x5 + 1))) else (none))))))))
end
def ndjqref05_quote.f (k : Nat) (l0 : List Int) (a1 : ByteArray) : Option (List Int) := if l0.length < 140737488355328 then (ndjqref05_quote.l0 k (l0 ++ [34]) a1 0) else (none)
theorem ndjqref05_quote.mono_l : ∀ k, (∀ y0 y1 y2, LeO (ndjqref05_quote.l0 k y0 y1 y2) (ndjqref05_quote.l0 (k + 1) y0 y1 y2)) ∧ (∀ y0 y1 y2 y3 y4, LeO (ndjqref05_quote.j1 k y0 y1 y2 y3 y4) (ndjqref05_quote.j1 (k + 1) y0 y1 y2 y3 y4))
 | 0 => ⟨fun _ _ _ r h => by simp [ndjqref05_quote.l0] at h, fun _ _ _ _ _ r h => by simp [ndjqref05_quote.j1] at h⟩
 | k + 1 => by
  obtain ⟨ih0, ih1⟩ := ndjqref05_quote.mono_l k
  refine ⟨?_, ?_⟩
  ·intro y0 y1 y2
   unfold ndjqref05_quote.l0
   repeat' first
   | (with_reducible exact ih0 _ _ _)
   | (with_reducible exact ih1 _ _ _ _ _)
   | (with_reducible exact LeO.refl _)
   | (with_reducible exact LeO.none _)
   | (with_reducible refine LeO.ite ?_ ?_)
   | (with_reducible refine LeO.bind ?_ (fun _ => ?_))
   | exact ih0 _ _ _
   | exact ih1 _ _ _ _ _
   | exact LeO.none _
   | refine LeO.ite ?_ ?_
   | refine LeO.bind ?_ (fun _ => ?_)
  ·intro y0 y1 y2 y3 y4
   unfold ndjqref05_quote.j1
   repeat' first
   | (with_reducible exact ih0 _ _ _)
   | (with_reducible exact ih1 _ _ _ _ _)
   | (with_reducible exact LeO.refl _)
   | (with_reducible exact LeO.none _)
   | (with_reducible refine LeO.ite ?_ ?_)
   | (with_reducible refine LeO.bind ?_ (fun _ => ?_))
   | exact ih0 _ _ _
   | exact ih1 _ _ _ _ _
   | exact LeO.none _
   | refine LeO.ite ?_ ?_
   | refine LeO.bind ?_ (fun _ => ?_)
theorem ndjqref05_quote.mono : ∀ a0 a1 k, LeO (ndjqref05_quote.f k a0 a1) (ndjqref05_quote.f (k + 1) a0 a1) := by
 intro a0 a1 k
 obtain ⟨ih0, ih1⟩ := ndjqref05_quote.mono_l k
 unfold ndjqref05_quote.f
 repeat' first
   | (with_reducible exact ih0 _ _ _)
   | (with_reducible exact ih1 _ _ _ _ _)
   | (with_reducible exact LeO.refl _)
   | (with_reducible exact LeO.none _)
   | (with_reducible refine LeO.ite ?_ ?_)
   | (with_reducible refine LeO.bind ?_ (fun _ => ?_))
   | exact ih0 _ _ _
   | exact ih1 _ _ _ _ _
   | exact LeO.none _
   | refine LeO.ite ?_ ?_
   | refine LeO.bind ?_ (fun _ => ?_)
def ndjqref05_quote.T20 : Bool × List (List Nat × List Nat) := (true, [([], []), ([], []), ([1], [1]), ([2], [2]), ([], []), ([4], [4]), ([5], [5]), ([3, 6], [3, 6]), ([0, 7], [0, 7]), ([8, 8, 0, 1, 2, 3, 4, 5, 6, 7, 8], [0, 8])])
def ndjqref05_quote.B20 : List Nat := [0, 0, 2, 6, 0, 16, 48, 126, 255, 511]
theorem ndjqref05_quote.tab20 : rtab .any (opsOf Try.f30 20) = ndjqref05_quote.T20 := by kernel_rfl
theorem ndjqref05_quote.bits20 : waitsOk ndjqref05_quote.T20.2 ndjqref05_quote.B20 = true := by kernel_rfl
set_option maxHeartbeats 8000000 in
set_option maxRecDepth 100000 in
theorem ndjqref05_quote.calls (k : Nat) (P0_ : Nat → Prop) (u9000_ : Value) (l0 : List Int) (a1 : ByteArray) (r : List Int) (w0 w : World) (hB : Below w0.heap.size w0 w) (ho0 : Kd.R (Kd.int .u8) 5 w w0.heap.size P0_ u9000_ l0) (h : ndjqref05_quote.f k l0 a1 = some r) :
  Calls Try.prog 30 #[u9000_, .string a1] w fun e w' => ∃ v0_ : Value, e = .returned (v0_) ∧ Kd.R (Kd.int .u8) 5 w' w0.heap.size (fun k_ => (P0_ k_ ∨ w.heap.size ≤ k_)) v0_ r ∧ Below w0.heap.size w0 w' ∧ Kept w w' (fun k_ => P0_ k_) := by
 have HO0 := Aside0.mk (show Kd.R (Kd.int .u8) 5 w w0.heap.size (fun k_ => (P0_ k_ ∨ w.heap.size ≤ k_)) u9000_ l0 from Kd.R_mono ho0 (fun k_ hk => (.inl hk)))
 have HK := Aside0.mk (Kept.refl w (fun k_ => P0_ k_))
 have HW0 := Aside0.mk hB.size
 have HB := Aside0.mk hB
 clear hB
 have H : (if l0.length < 140737488355328 then (ndjqref05_quote.l0 k (l0 ++ [34]) a1 0) else (none)) = some r := h
 clear h
 by_cases c3 : l0.length < 140737488355328
 ·rw [if_pos c3] at H
  have LMc3 := Aside0.mk c3
  clear c3
  obtain ⟨y192, hy192⟩ : ∃ y_ : List Int, y_ = (l0 ++ [34]) := ⟨_, rfl⟩
  replace H : (ndjqref05_quote.l0 k y192 a1 0) = some r := by first | (rw [hy192]; with_reducible exact H) | (have H2_ := (Option.bind_some _ _).symm.trans H; rw [hy192]; with_reducible exact H2_) | (have H2_ := (Option.bind_some _ _).symm.trans H; with_reducible exact H2_) | with_reducible exact H | (rw [hy192]; exact H) | exact H
  have Ny192 := Aside0.mk hy192
  clear hy192
  have H' := Aside0.mk H
  clear H
  go_enter Try.func30, Try.ntmps30
  go_wp2_with (first | ((with_reducible refine gate_builtin (b := .append) (xs := #[.tmp 7, .tmp 8]) rfl ?_); at_builtin; refine Kd.R_append (Kd.int .u8) (w0 := w0) w0.heap.size rfl (.tmp 7) (.tmp 8) 48 5 (.int .u8 0) 1 rfl Try.underlying48 info5 rfl (by decide) (by omega) u9000_ l0 34 [.int .u8 34] (fun k_ => (P0_ k_ ∨ w.heap.size ≤ k_)) (fun _ => False) rfl rfl ?aP (fun _ hk => hk.elim) ?aF ?aO ?aB ?aS ?aL ?_; (case aP => exact rfl); (case aB => exact (by repeat (first | (with_reducible first | exact HB.out | apply wA | apply wN | apply wD) | exact HB.out))); (case aF => exact (fun k_ hk => (.inr (Nat.le_trans (by first | exact HK.out.1 | exact (show Kept w _ (fun k_ => P0_ k_) from by repeat (first | (with_reducible first | exact HK.out | apply Kept.alloc | apply Kept.drewN | apply Kept.drew) | exact HK.out)).1) hk)))); (case aO => exact (by (with_reducible repeat (first | apply rA | apply rN | apply rD)); exact HO0.out)); (case aS => exact (below_size (by repeat (first | (with_reducible first | exact HB.out | apply wA | apply wN | apply wD) | exact HB.out)))); (case aL => have := LMc3.out; first | omega | exact Nat.le_of_lt this); intro v193 w4 ho hb hg hat; rw [← Ny192.out] at ho; have n0_ := Aside0.mk (hb); have n1_ := Aside0.mk (Kept.of_grown (S := (fun k_ => P0_ k_)) hg (by repeat (first | (with_reducible first | exact HK.out | apply Kept.alloc | apply Kept.drewN | apply Kept.drew) | exact HK.out)) (fun k_ e_ => (HO0.out.1 k_ e_))); have n2_ := Aside0.mk (ho); clear HB; clear HK; clear HO0; have HB := n0_; have HK := n1_; have HO194 := n2_; clear n0_ n1_ n2_; clear ho hb hg hat))
  go_loopg [0, 5] k (fun kq v0 v5 w' => ∃ (x0_1 : List Int) (x5_1 : Int), v5 = .int .i64 x5_1 ∧ Aside0 (ndjqref05_quote.l0 kq x0_1 a1 x5_1 = some r) ∧ Aside0 (kq ≤ k) ∧ Aside0 (Kd.R (Kd.int .u8) 5 w' w0.heap.size (fun k_ => (P0_ k_ ∨ w.heap.size ≤ k_)) v0 x0_1) ∧ Aside0 (Kept w w' (fun k_ => P0_ k_)) ∧ Aside0 (Below w0.heap.size w0 w'))
  case atStart => exact ⟨(y192), (0), (by first | rfl | (simp; done) | (simp [*]; done)), H', ⟨Nat.le_refl _⟩, ⟨by (with_reducible repeat (first | apply rA | apply rN | apply rD)); exact HO194.out⟩, ⟨by repeat (first | (with_reducible first | exact HK.out | apply Kept.alloc | apply Kept.drewN | apply Kept.drew) | exact HK.out)⟩, ⟨by repeat (first | (with_reducible first | exact HB.out | apply wA | apply wN | apply wD) | exact HB.out)⟩⟩
  case round =>
   clear H'
   (try clear p2); (try clear c3)
   obtain ⟨x0_1, x5_1, rfl, HA, HK1, HO_0, HK, HB⟩ := hrel
   cases gk with
   | zero => exact absurd HA.out (by simp [ndjqref05_quote.l0])
   | succ k1 =>
    have H := HA.out
    clear HA
    simp only [ndjqref05_quote.l0] at H
    by_cases c5 : x5_1 < (a1.size : Int)
    ·rw [if_pos c5] at H
     have c5b0 : decide (x5_1 < (a1.size : Int)) = true := decide_eq_true c5
     clear c5
     by_cases c6 : 0 ≤ x5_1
     ·rw [if_pos c6] at H
      have c6b0 : decide (0 ≤ x5_1) = true := decide_eq_true c6
      clear c6
      have HC8 := Aside0.mk H
      clear H
      have p7 : 0 ≤ (x5_1 : Int) := of_decide_eq_true (by first | (with_reducible assumption) | assumption)
      have q7 : x5_1 < (a1.size : Int) := of_decide_eq_true (by first | (with_reducible assumption) | assumption)
      have hx7 := bt_at a1 x5_1
      replace p7 := eq_true p7; replace q7 := eq_true q7
      go_upto_region 7 with (fail)
      go_cut [23] (fun v23 wc => ∃ (kq : Nat) (x23_7 : Bool), v23 = .bool x23_7 ∧ Aside0 (ndjqref05_quote.j1 kq x0_1 a1 x5_1 (bt a1 x5_1) x23_7 = some r) ∧ Aside0 (kq ≤ k1) ∧ Aside0 (Kd.R (Kd.int .u8) 5 wc w0.heap.size (fun k_ => (P0_ k_ ∨ w.heap.size ≤ k_)) u0 x0_1) ∧ Aside0 (Kept w wc (fun k_ => P0_ k_)) ∧ Aside0 (Below w0.heap.size w0 wc))
      case first =>
       have H := HC8.out
       clear HC8
       by_cases c9 : (bt a1 x5_1) = 34
       ·rw [if_pos c9] at H
        have c9b0 : ((bt a1 x5_1) == 34) = true := beq_iff_eq.mpr c9
        have c9b1 : ((bt a1 x5_1) != 34) = false := bne_eq_false_iff_eq.mpr c9
        clear c9
        (first | rw [c9b0] | (simp only [i64_w, i32_w]; rw [c9b0]) | skip)
        have H' := Aside0.mk H
        clear H
        go_wp2
        go_meet
        case rel => exact ⟨_, (true), (by first | rfl | (simp; done) | (simp [*]; done)), H', ⟨by have := HK1.out; first | omega | exact Nat.le_refl _⟩, ⟨by (with_reducible repeat (first | apply rA | apply rN | apply rD)); exact HO_0.out⟩, ⟨by repeat (first | (with_reducible first | exact HK.out | apply Kept.alloc | apply Kept.drewN | apply Kept.drew) | exact HK.out)⟩, ⟨by repeat (first | (with_reducible first | exact HB.out | apply wA | apply wN | apply wD) | exact HB.out)⟩⟩
       ·rw [if_neg c9] at H
        have c9b0 : ((bt a1 x5_1) == 34) = false := beq_eq_false_iff_ne.mpr c9
        have c9b1 : ((bt a1 x5_1) != 34) = true := bne_iff_ne.mpr c9
        (first | rw [c9b0] | (simp only [i64_w, i32_w]; rw [c9b0]) | skip)
        have H' := Aside0.mk H
        clear H
        go_wp2
        go_meet
        case rel => exact ⟨_, (((bt a1 x5_1) == 92)), (by first | rfl | (simp; done) | (simp [*]; done)), H', ⟨by have := HK1.out; first | omega | exact Nat.le_refl _⟩, ⟨by (with_reducible repeat (first | apply rA | apply rN | apply rD)); exact HO_0.out⟩, ⟨by repeat (first | (with_reducible first | exact HK.out | apply Kept.alloc | apply Kept.drewN | apply Kept.drew) | exact HK.out)⟩, ⟨by repeat (first | (with_reducible first | exact HB.out | apply wA | apply wN | apply wD) | exact HB.out)⟩⟩
      case rest =>
       clear HC8
       (try clear c5); (try clear c5b0); (try clear c6); (try clear c6b0); (try clear p7); (try clear q7); (try clear hx7); (try clear c9); (try clear c9b0); (try clear c9b1)
       obtain ⟨kq, x23_7, rfl, HA, HJ7, HO_0, HK, HB⟩ := hcut
       cases kq with
       | zero => exact absurd HA.out (by simp [ndjqref05_quote.j1])
       | succ kj7 =>
        have H := HA.out
        clear HA
        simp only [ndjqref05_quote.j1] at H
        by_cases c10 : x23_7 = true
        ·subst c10
         have H1 : ((some (([92, (bt a1 x5_1)] : List Int) : List Int)).bind fun y198 => (if x0_1.length + y198.length < 140737488355328 then (ndjqref05_quote.l0 kj7 (x0_1 ++ y198) a1 (wrap64 (x5_1 + 1))) else (none))) = some r := by rw [if_pos rfl] at H; exact H
         clear H; have H := H1; clear H1
         obtain ⟨y198, hy198⟩ : ∃ y_ : List Int, y_ = (([92, (bt a1 x5_1)] : List Int)) := ⟨_, rfl⟩
         replace H : (if x0_1.length + y198.length < 140737488355328 then (ndjqref05_quote.l0 kj7 (x0_1 ++ y198) a1 (wrap64 (x5_1 + 1))) else (none)) = some r := by first | (rw [hy198]; with_reducible exact H) | (have H2_ := (Option.bind_some _ _).symm.trans H; rw [hy198]; with_reducible exact H2_) | (have H2_ := (Option.bind_some _ _).symm.trans H; with_reducible exact H2_) | with_reducible exact H | (rw [hy198]; exact H) | exact H
         have Ny198 := Aside0.mk hy198
         clear hy198
         by_cases c11 : x0_1.length + y198.length < 140737488355328
         ·rw [if_pos c11] at H
          have LMc11 := Aside0.mk c11
          clear c11
          obtain ⟨y201, hy201⟩ : ∃ y_ : List Int, y_ = (x0_1 ++ y198) := ⟨_, rfl⟩
          replace H : (ndjqref05_quote.l0 kj7 y201 a1 (wrap64 (x5_1 + 1))) = some r := by first | (rw [hy201]; with_reducible exact H) | (have H2_ := (Option.bind_some _ _).symm.trans H; rw [hy201]; with_reducible exact H2_) | (have H2_ := (Option.bind_some _ _).symm.trans H; with_reducible exact H2_) | with_reducible exact H | (rw [hy201]; exact H) | exact H
          have Ny201 := Aside0.mk hy201
          clear hy201
          have H' := Aside0.mk H
          clear H
          go_wp2_with (first | ((with_reducible refine gate_dst (N := 32) rfl ?_); refine Kd.R_lit (Kd.int .u8) _ 5 ?hg (N := 32) ?hd (xs := ([92, (bt a1 x5_1)] : List Int)) (inner := [.int .u8 92, .int .u8 (bt a1 x5_1)]) (ok := fun _ => True) (okp := fun _ => True) ?hr ?hp (fun _ hk => hk) trivial (Below.refl _ _) (Nat.le_refl _) (by simp) ?_; (case hd => rfl); (case hg => rfl); (case hr => first | (go_simp; done) | (go_simp; rfl)); (case hp => exact (Reps.one (show Kd.M (Kd.int .u8) _ _ _ 92 [.int .u8 92] from rfl) (Reps.one (show Kd.M (Kd.int .u8) _ _ _ (bt a1 x5_1) [.int .u8 (bt a1 x5_1)] from rfl) (Reps.none _ _)))); intro v199 w12 ho13 hb hg_ hnew_; clear hg_ hnew_; (first | rw [← Ny198.out] at ho13 | (simp only [Int.reduceToNat] at ho13; rw [← Ny198.out] at ho13)); have n0_ := Aside0.mk (Kd.R_elder' (by (with_reducible repeat (first | apply rA | apply rN | apply rD)); exact HO_0.out) (Kd.R_base ho13) hb); have n1_ := Aside0.mk (Kd.R_lower (Kd.R_new' (Kd.R_newM (M := fun k_ => (P0_ k_ ∨ w.heap.size ≤ k_)) ho13 (by first | exact HK.out.1 | exact (show Kept w _ (fun k_ => P0_ k_) from by repeat (first | (with_reducible first | exact HK.out | apply Kept.alloc | apply Kept.drewN | apply Kept.drew) | exact HK.out)).1) (fun k_ h_ => .inr h_)) (Kd.R_lt (by (with_reducible repeat (first | apply rA | apply rN | apply rD)); exact HO_0.out))) (below_size (by repeat (first | (with_reducible first | exact HB.out | apply wA | apply wN | apply wD) | exact HB.out)))); have n2_ := Aside0.mk (Kept.below (S := (fun k_ => P0_ k_)) (by repeat (first | (with_reducible first | exact HK.out | apply Kept.alloc | apply Kept.drewN | apply Kept.drew) | exact HK.out)) hb); have n3_ := Aside0.mk (below_step (by repeat (first | (with_reducible first | exact HB.out | apply wA | apply wN | apply wD) | exact HB.out)) hb); clear HO_0; clear HK; clear HB; have HO_0 := n0_; have HO200 := n1_; have HK := n2_; have HB := n3_; clear n0_ n1_ n2_ n3_; clear hb ho13; obtain ⟨Ao15, co15, eo15⟩ := Kd.R_slice HO200.out; subst eo15) | ((with_reducible refine gate_builtin (b := .append) (xs := #[.tmp 30, .tmp 32]) rfl ?_); at_builtin; refine Kd.R_append_rows (Kd.int .u8) (w0 := w0) w0.heap.size rfl (.tmp 30) (.tmp 32) 48 5 (.int .u8 0) 1 rfl Try.underlying48 info5 rfl (by decide) (by omega) u0 x0_1 y198 _ _ _ (fun k_ => (P0_ k_ ∨ w.heap.size ≤ k_) ∧ some k_ ≠ (.slice Ao15 y198.length co15 : Value).ownBlock) (fun _ => False) rfl rfl ?aO ?aR (fun _ _ h => h) (fun _ h => h.elim) ?aF ?aB ?aS ?aL ?_; (case aR => repeat (first | exact (Kd.R_reads' HO200.out).2.2 | (with_reducible refine Kd.C_alloc ?_ _) | (with_reducible refine Kd.C_drewN ?_ _) | (with_reducible refine Kd.C_drew ?_))); (case aB => exact (by repeat (first | (with_reducible first | exact HB.out | apply wA | apply wN | apply wD) | exact HB.out))); (case aF => exact (fun k_ hk => ⟨(.inr (Nat.le_trans (by first | exact HK.out.1 | exact (show Kept w _ (fun k_ => P0_ k_) from by repeat (first | (with_reducible first | exact HK.out | apply Kept.alloc | apply Kept.drewN | apply Kept.drew) | exact HK.out)).1) hk)), Kd.fresh' (Kd.R_lt (by (with_reducible repeat (first | apply rA | apply rN | apply rD)); exact HO200.out)) k_ hk⟩)); (case aO => exact (by (with_reducible repeat (first | apply rA | apply rN | apply rD)); exact HO_0.out)); (case aS => exact (below_size (by repeat (first | (with_reducible first | exact HB.out | apply wA | apply wN | apply wD) | exact HB.out)))); (case aL => have := LMc11.out; first | omega | exact Nat.le_of_lt this); intro v202 w14 ho hb hg hat; rw [← Ny201.out] at ho; have n0_ := Aside0.mk (Kd.R_after (ok := (fun k_ => (P0_ k_ ∨ w.heap.size ≤ k_))) (by (with_reducible repeat (first | apply rA | apply rN | apply rD)); exact Kd.R_mono HO200.out (fun _ hk => ⟨hk.1.1, hk.2⟩)) hg hat); have n1_ := Aside0.mk (hb); have n2_ := Aside0.mk (Kept.of_grown (S := (fun k_ => P0_ k_)) hg (by repeat (first | (with_reducible first | exact HK.out | apply Kept.alloc | apply Kept.drewN | apply Kept.drew) | exact HK.out)) (fun k_ e_ => (HO_0.out.1 k_ e_).1)); have n3_ := Aside0.mk (ho); clear HO200; clear HB; clear HK; clear HO_0; have HO200 := n0_; have HB := n1_; have HK := n2_; have HO203 := n3_; clear n0_ n1_ n2_ n3_; clear ho hb hg hat))
          go_roundg kj7
          case measure => have := HK1.out; have := HJ7.out; omega
          case rel => exact ⟨(y201), (wrap64 (x5_1 + 1)), (by first | rfl | (simp; done) | (simp [*]; done)), H', ⟨by have := HK1.out; have := HJ7.out; omega⟩, ⟨by (with_reducible repeat (first | apply rA | apply rN | apply rD)); exact Kd.R_mono HO203.out (fun _ hk => hk.1)⟩, ⟨by repeat (first | (with_reducible first | exact HK.out | apply Kept.alloc | apply Kept.drewN | apply Kept.drew) | exact HK.out)⟩, ⟨by repeat (first | (with_reducible first | exact HB.out | apply wA | apply wN | apply wD) | exact HB.out)⟩⟩
         ·rw [if_neg c11] at H
          exact absurd H (by simp)
        ·replace c10 := Bool.eq_false_iff.mpr c10
         subst c10
         have H1 : (if (bt a1 x5_1) = 8 then (if x0_1.length + 2 < 140737488355328 then (ndjqref05_quote.l0 kj7 (x0_1 ++ bytesOf (⟨#[92, 98]⟩ : ByteArray)) a1 (wrap64 (x5_1 + 1))) else (none)) else (if (bt a1 x5_1) = 9 then (if x0_1.length + 2 < 140737488355328 then (ndjqref05_quote.l0 kj7 (x0_1 ++ bytesOf (⟨#[92, 116]⟩ : ByteArray)) a1 (wrap64 (x5_1 + 1))) else (none)) else (if (bt a1 x5_1) = 10 then (if x0_1.length + 2 < 140737488355328 then (ndjqref05_quote.l0 kj7 (x0_1 ++ bytesOf (⟨#[92, 110]⟩ : ByteArray)) a1 (wrap64 (x5_1 + 1))) else (none)) else (if (bt a1 x5_1) = 12 then (if x0_1.length + 2 < 140737488355328 then (ndjqref05_quote.l0 kj7 (x0_1 ++ bytesOf (⟨#[92, 102]⟩ : ByteArray)) a1 (wrap64 (x5_1 + 1))) else (none)) else (if (bt a1 x5_1) = 13 then (if x0_1.length + 2 < 140737488355328 then (ndjqref05_quote.l0 kj7 (x0_1 ++ bytesOf (⟨#[92, 114]⟩ : ByteArray)) a1 (wrap64 (x5_1 + 1))) else (none)) else (if (bt a1 x5_1) < 32 then (if 0 ≤ ((bt a1 x5_1) / 16) then (if ((bt a1 x5_1) / 16) < 16 then (if 0 ≤ (Go.bits .and .u8 (bt a1 x5_1) 15) then (if (Go.bits .and .u8 (bt a1 x5_1) 15) < 16 then ((some (([92, 117, 48, 48, bt (⟨#[48, 49, 50, 51, 52, 53, 54, 55, 56, 57, 97, 98, 99, 100, 101, 102]⟩ : ByteArray) ((bt a1 x5_1) / 16), bt (⟨#[48, 49, 50, 51, 52, 53, 54, 55, 56, 57, 97, 98, 99, 100, 101, 102]⟩ : ByteArray) (Go.bits .and .u8 (bt a1 x5_1) 15)] : List Int) : List Int)).bind fun y219 => (if x0_1.length + y219.length < 140737488355328 then (ndjqref05_quote.l0 kj7 (x0_1 ++ y219) a1 (wrap64 (x5_1 + 1))) else (none))) else (none)) else (none)) else (none)) else (none)) else (if x0_1.length < 140737488355328 then (ndjqref05_quote.l0 kj7 (x0_1 ++ [(bt a1 x5_1)]) a1 (wrap64 (x5_1 + 1))) else (none)))))))) = some r := by rw [if_neg (show ¬ (false = true) by decide)] at H; exact H
         clear H; have H := H1; clear H1
         by_cases c16 : (bt a1 x5_1) = 8
         ·rw [if_pos c16] at H
          have c16b0 : ((bt a1 x5_1) == 8) = true := beq_iff_eq.mpr c16
          have c16b1 : ((bt a1 x5_1) != 8) = false := bne_eq_false_iff_eq.mpr c16
          clear c16
          by_cases c17 : x0_1.length + 2 < 140737488355328
          ·rw [if_pos c17] at H
           have LMc17 := Aside0.mk c17
           clear c17
           obtain ⟨y204, hy204⟩ : ∃ y_ : List Int, y_ = (x0_1 ++ bytesOf (⟨#[92, 98]⟩ : ByteArray)) := ⟨_, rfl⟩
           replace H : (ndjqref05_quote.l0 kj7 y204 a1 (wrap64 (x5_1 + 1))) = some r := by first | (rw [hy204]; with_reducible exact H) | (have H2_ := (Option.bind_some _ _).symm.trans H; rw [hy204]; with_reducible exact H2_) | (have H2_ := (Option.bind_some _ _).symm.trans H; with_reducible exact H2_) | with_reducible exact H | (rw [hy204]; exact H) | exact H
           have Ny204 := Aside0.mk hy204
           clear hy204
           have H' := Aside0.mk H
           clear H
           go_wp2_with (first | (at_builtin; refine append_str_at (w0 := w0) w0.heap.size rfl (.tmp 37) _ 48 9 5 rfl Try.underlying48 Try.underlying9 info5 u0 x0_1 (⟨#[92, 98]⟩ : ByteArray) rfl rfl ?aO ?aB ?aS ?aL ?_; (case aB => exact (by repeat (first | (with_reducible first | exact HB.out | apply wA | apply wN | apply wD) | exact HB.out))); (case aO => exact (Kd.own_of_R (by (with_reducible repeat (first | apply rA | apply rN | apply rD)); exact HO_0.out))); (case aS => exact (below_size (by repeat (first | (with_reducible first | exact HB.out | apply wA | apply wN | apply wD) | exact HB.out)))); (case aL => have := LMc17.out; first | omega | exact Nat.le_of_lt this); intro v205 w18 ho0 hb hg hat; have ho := Kd.R_of_own (h1 := fun _ => rfl) (ok := (fun k_ => (P0_ k_ ∨ w.heap.size ≤ k_))) ho0 (fun k_ e_ => hat.elim (fun q_ => HO_0.out.1 k_ (q_ ▸ e_)) (fun ⟨b_, q_, hq_⟩ => by have ek_ := Option.some.inj (q_.symm.trans e_); subst ek_; exact (.inr (Nat.le_trans (by first | exact HK.out.1 | exact (show Kept w _ (fun k_ => P0_ k_) from by repeat (first | (with_reducible first | exact HK.out | apply Kept.alloc | apply Kept.drewN | apply Kept.drew) | exact HK.out)).1) hq_)))); clear ho0; rw [← Ny204.out] at ho; change Kd.R (Kd.int .u8) 5 w18 w0.heap.size (fun k_ => (P0_ k_ ∨ w.heap.size ≤ k_)) v205 y204 at ho; have n0_ := Aside0.mk (hb); have n1_ := Aside0.mk (Kept.of_grown (S := (fun k_ => P0_ k_)) hg (by repeat (first | (with_reducible first | exact HK.out | apply Kept.alloc | apply Kept.drewN | apply Kept.drew) | exact HK.out)) (fun k_ e_ => (HO_0.out.1 k_ e_))); have n2_ := Aside0.mk (ho); clear HB; clear HK; clear HO_0; have HB := n0_; have HK := n1_; have HO206 := n2_; clear n0_ n1_ n2_; clear ho hb hg hat))
           go_roundg kj7
           case measure => have := HK1.out; have := HJ7.out; omega
           case rel => exact ⟨(y204), (wrap64 (x5_1 + 1)), (by first | rfl | (simp; done) | (simp [*]; done)), H', ⟨by have := HK1.out; have := HJ7.out; omega⟩, ⟨by (with_reducible repeat (first | apply rA | apply rN | apply rD)); exact HO206.out⟩, ⟨by repeat (first | (with_reducible first | exact HK.out | apply Kept.alloc | apply Kept.drewN | apply Kept.drew) | exact HK.out)⟩, ⟨by repeat (first | (with_reducible first | exact HB.out | apply wA | apply wN | apply wD) | exact HB.out)⟩⟩
          ·rw [if_neg c17] at H
           exact absurd H (by simp)
         ·rw [if_neg c16] at H
          have c16b0 : ((bt a1 x5_1) == 8) = false := beq_eq_false_iff_ne.mpr c16
          have c16b1 : ((bt a1 x5_1) != 8) = true := bne_iff_ne.mpr c16
          by_cases c19 : (bt a1 x5_1) = 9
          ·rw [if_pos c19] at H
           have c19b0 : ((bt a1 x5_1) == 9) = true := beq_iff_eq.mpr c19
           have c19b1 : ((bt a1 x5_1) != 9) = false := bne_eq_false_iff_eq.mpr c19
           clear c19
           by_cases c20 : x0_1.length + 2 < 140737488355328
           ·rw [if_pos c20] at H
            have LMc20 := Aside0.mk c20
            clear c20
            obtain ⟨y207, hy207⟩ : ∃ y_ : List Int, y_ = (x0_1 ++ bytesOf (⟨#[92, 116]⟩ : ByteArray)) := ⟨_, rfl⟩
            replace H : (ndjqref05_quote.l0 kj7 y207 a1 (wrap64 (x5_1 + 1))) = some r := by first | (rw [hy207]; with_reducible exact H) | (have H2_ := (Option.bind_some _ _).symm.trans H; rw [hy207]; with_reducible exact H2_) | (have H2_ := (Option.bind_some _ _).symm.trans H; with_reducible exact H2_) | with_reducible exact H | (rw [hy207]; exact H) | exact H
            have Ny207 := Aside0.mk hy207
            clear hy207
            have H' := Aside0.mk H
            clear H
            go_wp2_with (first | (at_builtin; refine append_str_at (w0 := w0) w0.heap.size rfl (.tmp 42) _ 48 9 5 rfl Try.underlying48 Try.underlying9 info5 u0 x0_1 (⟨#[92, 116]⟩ : ByteArray) rfl rfl ?aO ?aB ?aS ?aL ?_; (case aB => exact (by repeat (first | (with_reducible first | exact HB.out | apply wA | apply wN | apply wD) | exact HB.out))); (case aO => exact (Kd.own_of_R (by (with_reducible repeat (first | apply rA | apply rN | apply rD)); exact HO_0.out))); (case aS => exact (below_size (by repeat (first | (with_reducible first | exact HB.out | apply wA | apply wN | apply wD) | exact HB.out)))); (case aL => have := LMc20.out; first | omega | exact Nat.le_of_lt this); intro v208 w21 ho0 hb hg hat; have ho := Kd.R_of_own (h1 := fun _ => rfl) (ok := (fun k_ => (P0_ k_ ∨ w.heap.size ≤ k_))) ho0 (fun k_ e_ => hat.elim (fun q_ => HO_0.out.1 k_ (q_ ▸ e_)) (fun ⟨b_, q_, hq_⟩ => by have ek_ := Option.some.inj (q_.symm.trans e_); subst ek_; exact (.inr (Nat.le_trans (by first | exact HK.out.1 | exact (show Kept w _ (fun k_ => P0_ k_) from by repeat (first | (with_reducible first | exact HK.out | apply Kept.alloc | apply Kept.drewN | apply Kept.drew) | exact HK.out)).1) hq_)))); clear ho0; rw [← Ny207.out] at ho; change Kd.R (Kd.int .u8) 5 w21 w0.heap.size (fun k_ => (P0_ k_ ∨ w.heap.size ≤ k_)) v208 y207 at ho; have n0_ := Aside0.mk (hb); have n1_ := Aside0.mk (Kept.of_grown (S := (fun k_ => P0_ k_)) hg (by repeat (first | (with_reducible first | exact HK.out | apply Kept.alloc | apply Kept.drewN | apply Kept.drew) | exact HK.out)) (fun k_ e_ => (HO_0.out.1 k_ e_))); have n2_ := Aside0.mk (ho); clear HB; clear HK; clear HO_0; have HB := n0_; have HK := n1_; have HO209 := n2_; clear n0_ n1_ n2_; clear ho hb hg hat))
            go_roundg kj7
            case measure => have := HK1.out; have := HJ7.out; omega
            case rel => exact ⟨(y207), (wrap64 (x5_1 + 1)), (by first | rfl | (simp; done) | (simp [*]; done)), H', ⟨by have := HK1.out; have := HJ7.out; omega⟩, ⟨by (with_reducible repeat (first | apply rA | apply rN | apply rD)); exact HO209.out⟩, ⟨by repeat (first | (with_reducible first | exact HK.out | apply Kept.alloc | apply Kept.drewN | apply Kept.drew) | exact HK.out)⟩, ⟨by repeat (first | (with_reducible first | exact HB.out | apply wA | apply wN | apply wD) | exact HB.out)⟩⟩
           ·rw [if_neg c20] at H
            exact absurd H (by simp)
          ·rw [if_neg c19] at H
           have c19b0 : ((bt a1 x5_1) == 9) = false := beq_eq_false_iff_ne.mpr c19
           have c19b1 : ((bt a1 x5_1) != 9) = true := bne_iff_ne.mpr c19
           by_cases c22 : (bt a1 x5_1) = 10
           ·rw [if_pos c22] at H
            have c22b0 : ((bt a1 x5_1) == 10) = true := beq_iff_eq.mpr c22
            have c22b1 : ((bt a1 x5_1) != 10) = false := bne_eq_false_iff_eq.mpr c22
            clear c22
            by_cases c23 : x0_1.length + 2 < 140737488355328
            ·rw [if_pos c23] at H
             have LMc23 := Aside0.mk c23
             clear c23
             obtain ⟨y210, hy210⟩ : ∃ y_ : List Int, y_ = (x0_1 ++ bytesOf (⟨#[92, 110]⟩ : ByteArray)) := ⟨_, rfl⟩
             replace H : (ndjqref05_quote.l0 kj7 y210 a1 (wrap64 (x5_1 + 1))) = some r := by first | (rw [hy210]; with_reducible exact H) | (have H2_ := (Option.bind_some _ _).symm.trans H; rw [hy210]; with_reducible exact H2_) | (have H2_ := (Option.bind_some _ _).symm.trans H; with_reducible exact H2_) | with_reducible exact H | (rw [hy210]; exact H) | exact H
             have Ny210 := Aside0.mk hy210
             clear hy210
             have H' := Aside0.mk H
             clear H
             go_wp2_with (first | (at_builtin; refine append_str_at (w0 := w0) w0.heap.size rfl (.tmp 47) _ 48 9 5 rfl Try.underlying48 Try.underlying9 info5 u0 x0_1 (⟨#[92, 110]⟩ : ByteArray) rfl rfl ?aO ?aB ?aS ?aL ?_; (case aB => exact (by repeat (first | (with_reducible first | exact HB.out | apply wA | apply wN | apply wD) | exact HB.out))); (case aO => exact (Kd.own_of_R (by (with_reducible repeat (first | apply rA | apply rN | apply rD)); exact HO_0.out))); (case aS => exact (below_size (by repeat (first | (with_reducible first | exact HB.out | apply wA | apply wN | apply wD) | exact HB.out)))); (case aL => have := LMc23.out; first | omega | exact Nat.le_of_lt this); intro v211 w24 ho0 hb hg hat; have ho := Kd.R_of_own (h1 := fun _ => rfl) (ok := (fun k_ => (P0_ k_ ∨ w.heap.size ≤ k_))) ho0 (fun k_ e_ => hat.elim (fun q_ => HO_0.out.1 k_ (q_ ▸ e_)) (fun ⟨b_, q_, hq_⟩ => by have ek_ := Option.some.inj (q_.symm.trans e_); subst ek_; exact (.inr (Nat.le_trans (by first | exact HK.out.1 | exact (show Kept w _ (fun k_ => P0_ k_) from by repeat (first | (with_reducible first | exact HK.out | apply Kept.alloc | apply Kept.drewN | apply Kept.drew) | exact HK.out)).1) hq_)))); clear ho0; rw [← Ny210.out] at ho; change Kd.R (Kd.int .u8) 5 w24 w0.heap.size (fun k_ => (P0_ k_ ∨ w.heap.size ≤ k_)) v211 y210 at ho; have n0_ := Aside0.mk (hb); have n1_ := Aside0.mk (Kept.of_grown (S := (fun k_ => P0_ k_)) hg (by repeat (first | (with_reducible first | exact HK.out | apply Kept.alloc | apply Kept.drewN | apply Kept.drew) | exact HK.out)) (fun k_ e_ => (HO_0.out.1 k_ e_))); have n2_ := Aside0.mk (ho); clear HB; clear HK; clear HO_0; have HB := n0_; have HK := n1_; have HO212 := n2_; clear n0_ n1_ n2_; clear ho hb hg hat))
             go_roundg kj7
             case measure => have := HK1.out; have := HJ7.out; omega
             case rel => exact ⟨(y210), (wrap64 (x5_1 + 1)), (by first | rfl | (simp; done) | (simp [*]; done)), H', ⟨by have := HK1.out; have := HJ7.out; omega⟩, ⟨by (with_reducible repeat (first | apply rA | apply rN | apply rD)); exact HO212.out⟩, ⟨by repeat (first | (with_reducible first | exact HK.out | apply Kept.alloc | apply Kept.drewN | apply Kept.drew) | exact HK.out)⟩, ⟨by repeat (first | (with_reducible first | exact HB.out | apply wA | apply wN | apply wD) | exact HB.out)⟩⟩
            ·rw [if_neg c23] at H
             exact absurd H (by simp)
           ·rw [if_neg c22] at H
            have c22b0 : ((bt a1 x5_1) == 10) = false := beq_eq_false_iff_ne.mpr c22
            have c22b1 : ((bt a1 x5_1) != 10) = true := bne_iff_ne.mpr c22
            by_cases c25 : (bt a1 x5_1) = 12
            ·rw [if_pos c25] at H
             have c25b0 : ((bt a1 x5_1) == 12) = true := beq_iff_eq.mpr c25
             have c25b1 : ((bt a1 x5_1) != 12) = false := bne_eq_false_iff_eq.mpr c25
             clear c25
             by_cases c26 : x0_1.length + 2 < 140737488355328
             ·rw [if_pos c26] at H
              have LMc26 := Aside0.mk c26
              clear c26
              obtain ⟨y213, hy213⟩ : ∃ y_ : List Int, y_ = (x0_1 ++ bytesOf (⟨#[92, 102]⟩ : ByteArray)) := ⟨_, rfl⟩
              replace H : (ndjqref05_quote.l0 kj7 y213 a1 (wrap64 (x5_1 + 1))) = some r := by first | (rw [hy213]; with_reducible exact H) | (have H2_ := (Option.bind_some _ _).symm.trans H; rw [hy213]; with_reducible exact H2_) | (have H2_ := (Option.bind_some _ _).symm.trans H; with_reducible exact H2_) | with_reducible exact H | (rw [hy213]; exact H) | exact H
              have Ny213 := Aside0.mk hy213
              clear hy213
              have H' := Aside0.mk H
              clear H
              go_wp2_with (first | (at_builtin; refine append_str_at (w0 := w0) w0.heap.size rfl (.tmp 52) _ 48 9 5 rfl Try.underlying48 Try.underlying9 info5 u0 x0_1 (⟨#[92, 102]⟩ : ByteArray) rfl rfl ?aO ?aB ?aS ?aL ?_; (case aB => exact (by repeat (first | (with_reducible first | exact HB.out | apply wA | apply wN | apply wD) | exact HB.out))); (case aO => exact (Kd.own_of_R (by (with_reducible repeat (first | apply rA | apply rN | apply rD)); exact HO_0.out))); (case aS => exact (below_size (by repeat (first | (with_reducible first | exact HB.out | apply wA | apply wN | apply wD) | exact HB.out)))); (case aL => have := LMc26.out; first | omega | exact Nat.le_of_lt this); intro v214 w27 ho0 hb hg hat; have ho := Kd.R_of_own (h1 := fun _ => rfl) (ok := (fun k_ => (P0_ k_ ∨ w.heap.size ≤ k_))) ho0 (fun k_ e_ => hat.elim (fun q_ => HO_0.out.1 k_ (q_ ▸ e_)) (fun ⟨b_, q_, hq_⟩ => by have ek_ := Option.some.inj (q_.symm.trans e_); subst ek_; exact (.inr (Nat.le_trans (by first | exact HK.out.1 | exact (show Kept w _ (fun k_ => P0_ k_) from by repeat (first | (with_reducible first | exact HK.out | apply Kept.alloc | apply Kept.drewN | apply Kept.drew) | exact HK.out)).1) hq_)))); clear ho0; rw [← Ny213.out] at ho; change Kd.R (Kd.int .u8) 5 w27 w0.heap.size (fun k_ => (P0_ k_ ∨ w.heap.size ≤ k_)) v214 y213 at ho; have n0_ := Aside0.mk (hb); have n1_ := Aside0.mk (Kept.of_grown (S := (fun k_ => P0_ k_)) hg (by repeat (first | (with_reducible first | exact HK.out | apply Kept.alloc | apply Kept.drewN | apply Kept.drew) | exact HK.out)) (fun k_ e_ => (HO_0.out.1 k_ e_))); have n2_ := Aside0.mk (ho); clear HB; clear HK; clear HO_0; have HB := n0_; have HK := n1_; have HO215 := n2_; clear n0_ n1_ n2_; clear ho hb hg hat))
              go_roundg kj7
              case measure => have := HK1.out; have := HJ7.out; omega
              case rel => exact ⟨(y213), (wrap64 (x5_1 + 1)), (by first | rfl | (simp; done) | (simp [*]; done)), H', ⟨by have := HK1.out; have := HJ7.out; omega⟩, ⟨by (with_reducible repeat (first | apply rA | apply rN | apply rD)); exact HO215.out⟩, ⟨by repeat (first | (with_reducible first | exact HK.out | apply Kept.alloc | apply Kept.drewN | apply Kept.drew) | exact HK.out)⟩, ⟨by repeat (first | (with_reducible first | exact HB.out | apply wA | apply wN | apply wD) | exact HB.out)⟩⟩
             ·rw [if_neg c26] at H
              exact absurd H (by simp)
            ·rw [if_neg c25] at H
             have c25b0 : ((bt a1 x5_1) == 12) = false := beq_eq_false_iff_ne.mpr c25
             have c25b1 : ((bt a1 x5_1) != 12) = true := bne_iff_ne.mpr c25
             by_cases c28 : (bt a1 x5_1) = 13
             ·rw [if_pos c28] at H
              have c28b0 : ((bt a1 x5_1) == 13) = true := beq_iff_eq.mpr c28
              have c28b1 : ((bt a1 x5_1) != 13) = false := bne_eq_false_iff_eq.mpr c28
              clear c28
              by_cases c29 : x0_1.length + 2 < 140737488355328
              ·rw [if_pos c29] at H
               have LMc29 := Aside0.mk c29
               clear c29
               obtain ⟨y216, hy216⟩ : ∃ y_ : List Int, y_ = (x0_1 ++ bytesOf (⟨#[92, 114]⟩ : ByteArray)) := ⟨_, rfl⟩
               replace H : (ndjqref05_quote.l0 kj7 y216 a1 (wrap64 (x5_1 + 1))) = some r := by first | (rw [hy216]; with_reducible exact H) | (have H2_ := (Option.bind_some _ _).symm.trans H; rw [hy216]; with_reducible exact H2_) | (have H2_ := (Option.bind_some _ _).symm.trans H; with_reducible exact H2_) | with_reducible exact H | (rw [hy216]; exact H) | exact H
               have Ny216 := Aside0.mk hy216
               clear hy216
               have H' := Aside0.mk H
               clear H
               go_wp2_with (first | (at_builtin; refine append_str_at (w0 := w0) w0.heap.size rfl (.tmp 57) _ 48 9 5 rfl Try.underlying48 Try.underlying9 info5 u0 x0_1 (⟨#[92, 114]⟩ : ByteArray) rfl rfl ?aO ?aB ?aS ?aL ?_; (case aB => exact (by repeat (first | (with_reducible first | exact HB.out | apply wA | apply wN | apply wD) | exact HB.out))); (case aO => exact (Kd.own_of_R (by (with_reducible repeat (first | apply rA | apply rN | apply rD)); exact HO_0.out))); (case aS => exact (below_size (by repeat (first | (with_reducible first | exact HB.out | apply wA | apply wN | apply wD) | exact HB.out)))); (case aL => have := LMc29.out; first | omega | exact Nat.le_of_lt this); intro v217 w30 ho0 hb hg hat; have ho := Kd.R_of_own (h1 := fun _ => rfl) (ok := (fun k_ => (P0_ k_ ∨ w.heap.size ≤ k_))) ho0 (fun k_ e_ => hat.elim (fun q_ => HO_0.out.1 k_ (q_ ▸ e_)) (fun ⟨b_, q_, hq_⟩ => by have ek_ := Option.some.inj (q_.symm.trans e_); subst ek_; exact (.inr (Nat.le_trans (by first | exact HK.out.1 | exact (show Kept w _ (fun k_ => P0_ k_) from by repeat (first | (with_reducible first | exact HK.out | apply Kept.alloc | apply Kept.drewN | apply Kept.drew) | exact HK.out)).1) hq_)))); clear ho0; rw [← Ny216.out] at ho; change Kd.R (Kd.int .u8) 5 w30 w0.heap.size (fun k_ => (P0_ k_ ∨ w.heap.size ≤ k_)) v217 y216 at ho; have n0_ := Aside0.mk (hb); have n1_ := Aside0.mk (Kept.of_grown (S := (fun k_ => P0_ k_)) hg (by repeat (first | (with_reducible first | exact HK.out | apply Kept.alloc | apply Kept.drewN | apply Kept.drew) | exact HK.out)) (fun k_ e_ => (HO_0.out.1 k_ e_))); have n2_ := Aside0.mk (ho); clear HB; clear HK; clear HO_0; have HB := n0_; have HK := n1_; have HO218 := n2_; clear n0_ n1_ n2_; clear ho hb hg hat))
               go_roundg kj7
               case measure => have := HK1.out; have := HJ7.out; omega
               case rel => exact ⟨(y216), (wrap64 (x5_1 + 1)), (by first | rfl | (simp; done) | (simp [*]; done)), H', ⟨by have := HK1.out; have := HJ7.out; omega⟩, ⟨by (with_reducible repeat (first | apply rA | apply rN | apply rD)); exact HO218.out⟩, ⟨by repeat (first | (with_reducible first | exact HK.out | apply Kept.alloc | apply Kept.drewN | apply Kept.drew) | exact HK.out)⟩, ⟨by repeat (first | (with_reducible first | exact HB.out | apply wA | apply wN | apply wD) | exact HB.out)⟩⟩
              ·rw [if_neg c29] at H
               exact absurd H (by simp)
             ·rw [if_neg c28] at H
              have c28b0 : ((bt a1 x5_1) == 13) = false := beq_eq_false_iff_ne.mpr c28
              have c28b1 : ((bt a1 x5_1) != 13) = true := bne_iff_ne.mpr c28
              by_cases c31 : (bt a1 x5_1) < 32
              ·rw [if_pos c31] at H
               have c31b0 : decide ((bt a1 x5_1) < 32) = true := decide_eq_true c31
               clear c31
               obtain ⟨ji32, hji32⟩ : ∃ j_ : Int, ((bt a1 x5_1) / 16) = j_ := ⟨_, rfl⟩
               replace H : (if 0 ≤ (ji32) then (if (ji32) < 16 then (if 0 ≤ (Go.bits .and .u8 (bt a1 x5_1) 15) then (if (Go.bits .and .u8 (bt a1 x5_1) 15) < 16 then ((some (([92, 117, 48, 48, bt (⟨#[48, 49, 50, 51, 52, 53, 54, 55, 56, 57, 97, 98, 99, 100, 101, 102]⟩ : ByteArray) (ji32), bt (⟨#[48, 49, 50, 51, 52, 53, 54, 55, 56, 57, 97, 98, 99, 100, 101, 102]⟩ : ByteArray) (Go.bits .and .u8 (bt a1 x5_1) 15)] : List Int) : List Int)).bind fun y219 => (if x0_1.length + y219.length < 140737488355328 then (ndjqref05_quote.l0 kj7 (x0_1 ++ y219) a1 (wrap64 (x5_1 + 1))) else (none))) else (none)) else (none)) else (none)) else (none)) = some r := by first | (rw [hji32] at H; exact H) | (simp only [hji32] at H ⊢; exact H)
               by_cases c33 : 0 ≤ (ji32)
               ·rw [if_pos c33] at H
                have c33b0 : decide (0 ≤ (ji32)) = true := decide_eq_true c33
                clear c33
                by_cases c34 : (ji32) < 16
                ·rw [if_pos c34] at H
                 have c34b0 : decide ((ji32) < 16) = true := decide_eq_true c34
                 clear c34
                 by_cases c36 : 0 ≤ (Go.bits .and .u8 (bt a1 x5_1) 15)
                 ·rw [if_pos c36] at H
                  have c36b0 : decide (0 ≤ (Go.bits .and .u8 (bt a1 x5_1) 15)) = true := decide_eq_true c36
                  clear c36
                  by_cases c37 : (Go.bits .and .u8 (bt a1 x5_1) 15) < 16
                  ·rw [if_pos c37] at H
                   have c37b0 : decide ((Go.bits .and .u8 (bt a1 x5_1) 15) < 16) = true := decide_eq_true c37
                   clear c37
                   obtain ⟨y219, hy219⟩ : ∃ y_ : List Int, y_ = (([92, 117, 48, 48, bt (⟨#[48, 49, 50, 51, 52, 53, 54, 55, 56, 57, 97, 98, 99, 100, 101, 102]⟩ : ByteArray) (ji32), bt (⟨#[48, 49, 50, 51, 52, 53, 54, 55, 56, 57, 97, 98, 99, 100, 101, 102]⟩ : ByteArray) (Go.bits .and .u8 (bt a1 x5_1) 15)] : List Int)) := ⟨_, rfl⟩
                   replace H : (if x0_1.length + y219.length < 140737488355328 then (ndjqref05_quote.l0 kj7 (x0_1 ++ y219) a1 (wrap64 (x5_1 + 1))) else (none)) = some r := by first | (rw [hy219]; with_reducible exact H) | (have H2_ := (Option.bind_some _ _).symm.trans H; rw [hy219]; with_reducible exact H2_) | (have H2_ := (Option.bind_some _ _).symm.trans H; with_reducible exact H2_) | with_reducible exact H | (rw [hy219]; exact H) | exact H
                   have Ny219 := Aside0.mk hy219
                   clear hy219
                   by_cases c39 : x0_1.length + y219.length < 140737488355328
                   ·rw [if_pos c39] at H
                    have LMc39 := Aside0.mk c39
                    clear c39
                    obtain ⟨y222, hy222⟩ : ∃ y_ : List Int, y_ = (x0_1 ++ y219) := ⟨_, rfl⟩
                    replace H : (ndjqref05_quote.l0 kj7 y222 a1 (wrap64 (x5_1 + 1))) = some r := by first | (rw [hy222]; with_reducible exact H) | (have H2_ := (Option.bind_some _ _).symm.trans H; rw [hy222]; with_reducible exact H2_) | (have H2_ := (Option.bind_some _ _).symm.trans H; with_reducible exact H2_) | with_reducible exact H | (rw [hy222]; exact H) | exact H
                    have Ny222 := Aside0.mk hy222
                    clear hy222
                    have H' := Aside0.mk H
                    clear H
                    try go_wp2
                    have n0_ := Aside0.mk (Kd.R_drew HO_0.out)
                    have n1_ := Aside0.mk (Kept.drew HK.out)
                    have n2_ := Aside0.mk (below_drew1 HB.out)
                    clear HO_0
                    clear HK
                    clear HB
                    have HO_0 := n0_
                    have HK := n1_
                    have HB := n2_
                    clear n0_ n1_ n2_
                    have p35 : 0 ≤ ((ji32) : Int) := of_decide_eq_true (by first | (with_reducible assumption) | assumption)
                    have q35 : (ji32) < (16 : Int) := of_decide_eq_true (by first | (with_reducible assumption) | assumption)
                    have hx35 := bt_at (⟨#[48, 49, 50, 51, 52, 53, 54, 55, 56, 57, 97, 98, 99, 100, 101, 102]⟩ : ByteArray) (ji32)
                    replace p35 := eq_true p35; replace q35 := eq_true q35
                    have p38 : 0 ≤ ((Go.bits .and .u8 (bt a1 x5_1) 15) : Int) := of_decide_eq_true (by first | (with_reducible assumption) | assumption)
                    have q38 : (Go.bits .and .u8 (bt a1 x5_1) 15) < (16 : Int) := of_decide_eq_true (by first | (with_reducible assumption) | assumption)
                    have hx38 := bt_at (⟨#[48, 49, 50, 51, 52, 53, 54, 55, 56, 57, 97, 98, 99, 100, 101, 102]⟩ : ByteArray) (Go.bits .and .u8 (bt a1 x5_1) 15)
                    replace p38 := eq_true p38; replace q38 := eq_true q38
                    refine start_ (n := 10) (S := fun w' => True) (ds := []) #[false, false, false, false, false, false, false, false, false, false] (by kernel_rfl) rfl rfl trivial (fun hHeld => ?_); refine with_tabW ndjqref05_quote.tab20 ndjqref05_quote.bits20 (fun HT_ HW_ => ?_)
                    generalize wc.drew = w40 at HO_0 HK HB hHeld ⊢
                    refine pure_ (i := 0) (N := some 62) (v := ?_) (a' := ?_) #[true, false, false, false, false, false, false, false, false, false] rfl rfl (any_of HT_.out (by kernel_rfl)) (fun _ _ _ h => h) (Or.inl ⟨by rfl, ?_⟩) ?_ ?_
                    rotate_left
                    ·intro w'
                     go_simp
                     with_reducible rfl
                    rotate_left
                    ·simp only [Act.put, List.setIfInBounds_toArray, List.set_cons_zero, List.set_cons_succ, i64_w, i32_w]
                     rfl
                    refine pure_ (i := 1) (N := some 63) (v := ?_) (a' := ?_) #[true, true, false, false, false, false, false, false, false, false] rfl rfl (any_of HT_.out (by kernel_rfl)) (fun _ _ _ h => h) (Or.inl ⟨by rfl, ?_⟩) ?_ ?_
                    rotate_left
                    ·intro w'
                     go_simp
                     with_reducible rfl
                    rotate_left
                    ·simp only [Act.put, List.setIfInBounds_toArray, List.set_cons_zero, List.set_cons_succ, i64_w, i32_w]
                     rfl
                    refine pure_ (i := 2) (N := some 64) (v := ?_) (a' := ?_) #[true, true, true, false, false, false, false, false, false, false] rfl rfl (any_of HT_.out (by kernel_rfl)) (fun _ _ _ h => h) (Or.inl ⟨by rfl, ?_⟩) ?_ ?_
                    rotate_left
                    ·intro w'
                     go_simp
                     with_reducible rfl
                    rotate_left
                    ·simp only [Act.put, List.setIfInBounds_toArray, List.set_cons_zero, List.set_cons_succ, i64_w, i32_w]
                     rfl
                    refine pure_ (i := 4) (N := some 66) (v := ?_) (a' := ?_) #[true, true, true, false, true, false, false, false, false, false] rfl rfl (any_of HT_.out (by kernel_rfl)) (fun _ _ _ h => h) (Or.inl ⟨by rfl, ?_⟩) ?_ ?_
                    rotate_left
                    ·intro w'
                     go_simp
                     with_reducible rfl
                    rotate_left
                    ·simp only [Act.put, List.setIfInBounds_toArray, List.set_cons_zero, List.set_cons_succ, i64_w, i32_w]
                     rfl
                    refine pure_ (i := 5) (N := some 67) (v := ?_) (a' := ?_) #[true, true, true, false, true, true, false, false, false, false] rfl rfl (any_of HT_.out (by kernel_rfl)) (fun _ _ _ h => h) (Or.inl ⟨by rfl, ?_⟩) ?_ ?_
                    rotate_left
                    ·intro w'
                     go_simp
                     with_reducible rfl
                    rotate_left
                    ·simp only [Act.put, List.setIfInBounds_toArray, List.set_cons_zero, List.set_cons_succ, i64_w, i32_w]
                     rfl
                    refine take_ (i := 3) (N := some 65) (v := ?_) (a' := ?_) #[true, true, true, true, true, true, false, false, false, false] rfl rfl (take_ofW HT_.out HW_.out (by kernel_rfl)) (fun _ _ _ h => h) (Or.inl ⟨by rfl, ?_⟩) hHeld ?_ ?_
                    rotate_left
                    ·intro w' _
                     go_simp
                     with_reducible rfl
                    rotate_left
                    ·simp only [Act.put, List.setIfInBounds_toArray, List.set_cons_zero, List.set_cons_succ, i64_w, i32_w]
                     rfl
                    refine take_ (i := 6) (N := some 68) (v := ?_) (a' := ?_) #[true, true, true, true, true, true, true, false, false, false] rfl rfl (take_ofW HT_.out HW_.out (by kernel_rfl)) (fun _ _ _ h => h) (Or.inl ⟨by rfl, ?_⟩) hHeld ?_ ?_
                    rotate_left
                    ·intro w' _
                     go_simp
                     with_reducible rfl
                    rotate_left
                    ·simp only [Act.put, List.setIfInBounds_toArray, List.set_cons_zero, List.set_cons_succ, i64_w, i32_w]
                     rfl
                    refine one_ (i := 7) (N := some 69) #[true, true, true, true, true, true, true, true, false, false] rfl rfl (one_of HT_.out (by kernel_rfl)) (by decide) (fun K hK => ?_)
                    refine Kd.R_lit_step (Kd.int .u8) _ 5 ?hg (N := 69) ?hd (xs := ([92, 117, 48, 48, bt (⟨#[48, 49, 50, 51, 52, 53, 54, 55, 56, 57, 97, 98, 99, 100, 101, 102]⟩ : ByteArray) (ji32), bt (⟨#[48, 49, 50, 51, 52, 53, 54, 55, 56, 57, 97, 98, 99, 100, 101, 102]⟩ : ByteArray) (Go.bits .and .u8 (bt a1 x5_1) 15)] : List Int)) (inner := [.int .u8 92, .int .u8 117, .int .u8 48, .int .u8 48, .int .u8 (bt (⟨#[48, 49, 50, 51, 52, 53, 54, 55, 56, 57, 97, 98, 99, 100, 101, 102]⟩ : ByteArray) (ji32)), .int .u8 (bt (⟨#[48, 49, 50, 51, 52, 53, 54, 55, 56, 57, 97, 98, 99, 100, 101, 102]⟩ : ByteArray) (Go.bits .and .u8 (bt a1 x5_1) 15))]) (ok := fun _ => True) (okp := fun _ => True) ?hr ?hp (fun _ hk => hk) trivial (Below.refl _ _) (Nat.le_refl _) (by simp) ?_; (case hd => rfl); (case hg => rfl); (case hr => first | (go_simp; done) | (go_simp; rfl)); (case hp => exact (Reps.one (show Kd.M (Kd.int .u8) _ _ _ 92 [.int .u8 92] from rfl) (Reps.one (show Kd.M (Kd.int .u8) _ _ _ 117 [.int .u8 117] from rfl) (Reps.one (show Kd.M (Kd.int .u8) _ _ _ 48 [.int .u8 48] from rfl) (Reps.one (show Kd.M (Kd.int .u8) _ _ _ 48 [.int .u8 48] from rfl) (Reps.one (show Kd.M (Kd.int .u8) _ _ _ (bt (⟨#[48, 49, 50, 51, 52, 53, 54, 55, 56, 57, 97, 98, 99, 100, 101, 102]⟩ : ByteArray) (ji32)) [.int .u8 (bt (⟨#[48, 49, 50, 51, 52, 53, 54, 55, 56, 57, 97, 98, 99, 100, 101, 102]⟩ : ByteArray) (ji32))] from rfl) (Reps.one (show Kd.M (Kd.int .u8) _ _ _ (bt (⟨#[48, 49, 50, 51, 52, 53, 54, 55, 56, 57, 97, 98, 99, 100, 101, 102]⟩ : ByteArray) (Go.bits .and .u8 (bt a1 x5_1) 15)) [.int .u8 (bt (⟨#[48, 49, 50, 51, 52, 53, 54, 55, 56, 57, 97, 98, 99, 100, 101, 102]⟩ : ByteArray) (Go.bits .and .u8 (bt a1 x5_1) 15))] from rfl) (Reps.none _ _))))))))
                    intro v220 w41 ho42 hb hg_ hnew_
                    clear hg_ hnew_
                    (first | rw [← Ny219.out] at ho42 | (simp only [Int.reduceToNat] at ho42; rw [← Ny219.out] at ho42))
                    have n0_ := Aside0.mk (Kd.R_elder' (by (with_reducible repeat (first | apply rA | apply rN | apply rD)); exact HO_0.out) (Kd.R_base ho42) hb)
                    have n1_ := Aside0.mk (Kd.R_lower (Kd.R_new' (Kd.R_newM (M := fun k_ => (P0_ k_ ∨ w.heap.size ≤ k_)) ho42 (by first | exact HK.out.1 | exact (show Kept w _ (fun k_ => P0_ k_) from by repeat (first | (with_reducible first | exact HK.out | apply Kept.alloc | apply Kept.drewN | apply Kept.drew) | exact HK.out)).1) (fun k_ h_ => .inr h_)) (Kd.R_lt (by (with_reducible repeat (first | apply rA | apply rN | apply rD)); exact HO_0.out))) (below_size (by repeat (first | (with_reducible first | exact HB.out | apply wA | apply wN | apply wD) | exact HB.out))))
                    have n2_ := Aside0.mk (Kept.below (S := (fun k_ => P0_ k_)) (by repeat (first | (with_reducible first | exact HK.out | apply Kept.alloc | apply Kept.drewN | apply Kept.drew) | exact HK.out)) hb)
                    have n3_ := Aside0.mk (below_step (by repeat (first | (with_reducible first | exact HB.out | apply wA | apply wN | apply wD) | exact HB.out)) hb)
                    clear HO_0
                    clear HK
                    clear HB
                    have HO_0 := n0_
                    have HO221 := n1_
                    have HK := n2_
                    have HB := n3_
                    clear n0_ n1_ n2_ n3_
                    clear hb ho42
                    obtain ⟨Ao44, co44, eo44⟩ := Kd.R_slice HO221.out
                    (first | subst eo44 | (injection eo44 with f1_ f2_ f3_; have f4_ := f1_.symm; have f5_ := f3_.symm; clear f1_ f2_ f3_; subst f4_; subst f5_))
                    refine hK.out _ _ trivial (fun hHeld => ?_)
                    clear hK K
                    refine norm_ (a' := ?_) ?_ ?_
                    rotate_left
                    ·show Act.put _ (some 69) _ = _
                     simp only [Act.put, List.setIfInBounds_toArray, List.set_cons_zero, List.set_cons_succ, i64_w, i32_w]
                     rfl
                    refine one_ (i := 8) (N := some 70) #[true, true, true, true, true, true, true, true, true, false] rfl rfl (one_of HT_.out (by kernel_rfl)) (by decide) (fun K hK => ?_)
                    refine Kd.R_append_rows_step (Kd.int .u8) (w0 := w0) w0.heap.size (by rfl) (.tmp 62) (.tmp 69) 48 5 (.int .u8 0) 1 rfl Try.underlying48 info5 rfl (by decide) (by omega) u0 x0_1 y219 _ _ _ (fun k_ => (P0_ k_ ∨ w.heap.size ≤ k_) ∧ some k_ ≠ (.slice Ao44 y219.length co44 : Value).ownBlock) (fun _ => False) rfl rfl ?aO ?aR (fun _ _ h => h) (fun _ h => h.elim) ?aF ?aB ?aS ?aL ?_
                    (case aR => repeat (first | exact (Kd.R_reads' HO221.out).2.2 | (with_reducible refine Kd.C_alloc ?_ _) | (with_reducible refine Kd.C_drewN ?_ _) | (with_reducible refine Kd.C_drew ?_)))
                    (case aB => exact (by repeat (first | (with_reducible first | exact HB.out | apply wA | apply wN | apply wD) | exact HB.out)))
                    (case aF => exact (fun k_ hk => ⟨(.inr (Nat.le_trans (by first | exact HK.out.1 | exact (show Kept w _ (fun k_ => P0_ k_) from by repeat (first | (with_reducible first | exact HK.out | apply Kept.alloc | apply Kept.drewN | apply Kept.drew) | exact HK.out)).1) hk)), Kd.fresh' (Kd.R_lt (by (with_reducible repeat (first | apply rA | apply rN | apply rD)); exact HO221.out)) k_ hk⟩))
                    (case aO => exact (by (with_reducible repeat (first | apply rA | apply rN | apply rD)); exact HO_0.out))
                    (case aS => exact (below_size (by repeat (first | (with_reducible first | exact HB.out | apply wA | apply wN | apply wD) | exact HB.out))))
                    (case aL => have := LMc39.out; first | omega | exact Nat.le_of_lt this)
                    intro v223 w43 ho hb hg hat
                    rw [← Ny222.out] at ho
                    have n0_ := Aside0.mk (Kd.R_after (ok := (fun k_ => (P0_ k_ ∨ w.heap.size ≤ k_))) (by (with_reducible repeat (first | apply rA | apply rN | apply rD)); exact Kd.R_mono HO221.out (fun _ hk => ⟨hk.1.1, hk.2⟩)) hg hat)
                    have n1_ := Aside0.mk (hb)
                    have n2_ := Aside0.mk (Kept.of_grown (S := (fun k_ => P0_ k_)) hg (by repeat (first | (with_reducible first | exact HK.out | apply Kept.alloc | apply Kept.drewN | apply Kept.drew) | exact HK.out)) (fun k_ e_ => (HO_0.out.1 k_ e_).1))
                    have n3_ := Aside0.mk (ho)
                    clear HO221
                    clear HB
                    clear HK
                    clear HO_0
                    have HO221 := n0_
                    have HB := n1_
                    have HK := n2_
                    have HO224 := n3_
                    clear n0_ n1_ n2_ n3_
                    clear ho hb hg hat
                    refine hK.out _ _ trivial (fun hHeld => ?_)
                    clear hK K
                    refine norm_ (a' := ?_) ?_ ?_
                    rotate_left
                    ·show Act.put _ (some 70) _ = _
                     simp only [Act.put, List.setIfInBounds_toArray, List.set_cons_zero, List.set_cons_succ, i64_w, i32_w]
                     rfl
                    refine pure_ (i := 9) (N := some 0) (v := ?_) (a' := ?_) #[true, true, true, true, true, true, true, true, true, true] rfl rfl (any_of HT_.out (by kernel_rfl)) (fun _ _ _ h => h) (Or.inl ⟨by rfl, ?_⟩) ?_ ?_
                    rotate_left
                    ·intro w'
                     go_simp
                     with_reducible rfl
                    rotate_left
                    ·simp only [Act.put, List.setIfInBounds_toArray, List.set_cons_zero, List.set_cons_succ, i64_w, i32_w]
                     rfl
                    refine done_ (done_of HT_.out (by kernel_rfl)) ?_
                    try go_wp2
                    go_roundg kj7
                    case measure => have := HK1.out; have := HJ7.out; omega
                    case rel => exact ⟨(y222), (wrap64 (x5_1 + 1)), (by first | rfl | (simp; done) | (simp [*]; done)), H', ⟨by have := HK1.out; have := HJ7.out; omega⟩, ⟨by (with_reducible repeat (first | apply rA | apply rN | apply rD)); exact Kd.R_mono HO224.out (fun _ hk => hk.1)⟩, ⟨by repeat (first | (with_reducible first | exact HK.out | apply Kept.alloc | apply Kept.drewN | apply Kept.drew) | exact HK.out)⟩, ⟨by repeat (first | (with_reducible first | exact HB.out | apply wA | apply wN | apply wD) | exact HB.out)⟩⟩
                   ·rw [if_neg c39] at H
                    exact absurd H (by simp)
                  ·rw [if_neg c37] at H
                   exact absurd H (by simp)
                 ·rw [if_neg c36] at H
                  exact absurd H (by simp)
                ·rw [if_neg c34] at H
                 exact absurd H (by simp)
               ·rw [if_neg c33] at H
                exact absurd H (by simp)
              ·rw [if_neg c31] at H
               have c31b0 : decide ((bt a1 x5_1) < 32) = false := decide_eq_false c31
               clear c31
               by_cases c45 : x0_1.length < 140737488355328
               ·rw [if_pos c45] at H
                have LMc45 := Aside0.mk c45
                clear c45
                obtain ⟨y225, hy225⟩ : ∃ y_ : List Int, y_ = (x0_1 ++ [(bt a1 x5_1)]) := ⟨_, rfl⟩
                replace H : (ndjqref05_quote.l0 kj7 y225 a1 (wrap64 (x5_1 + 1))) = some r := by first | (rw [hy225]; with_reducible exact H) | (have H2_ := (Option.bind_some _ _).symm.trans H; rw [hy225]; with_reducible exact H2_) | (have H2_ := (Option.bind_some _ _).symm.trans H; with_reducible exact H2_) | with_reducible exact H | (rw [hy225]; exact H) | exact H
                have Ny225 := Aside0.mk hy225
                clear hy225
                have H' := Aside0.mk H
                clear H
                go_wp2_with (first | ((with_reducible refine gate_builtin (b := .append) (xs := #[.tmp 19, .tmp 21]) rfl ?_); at_builtin; refine Kd.R_append (Kd.int .u8) (w0 := w0) w0.heap.size rfl (.tmp 19) (.tmp 21) 48 5 (.int .u8 0) 1 rfl Try.underlying48 info5 rfl (by decide) (by omega) u0 x0_1 (bt a1 x5_1) [.int .u8 (bt a1 x5_1)] (fun k_ => (P0_ k_ ∨ w.heap.size ≤ k_)) (fun _ => False) rfl rfl ?aP (fun _ hk => hk.elim) ?aF ?aO ?aB ?aS ?aL ?_; (case aP => exact rfl); (case aB => exact (by repeat (first | (with_reducible first | exact HB.out | apply wA | apply wN | apply wD) | exact HB.out))); (case aF => exact (fun k_ hk => (.inr (Nat.le_trans (by first | exact HK.out.1 | exact (show Kept w _ (fun k_ => P0_ k_) from by repeat (first | (with_reducible first | exact HK.out | apply Kept.alloc | apply Kept.drewN | apply Kept.drew) | exact HK.out)).1) hk)))); (case aO => exact (by (with_reducible repeat (first | apply rA | apply rN | apply rD)); exact HO_0.out)); (case aS => exact (below_size (by repeat (first | (with_reducible first | exact HB.out | apply wA | apply wN | apply wD) | exact HB.out)))); (case aL => have := LMc45.out; first | omega | exact Nat.le_of_lt this); intro v226 w46 ho hb hg hat; rw [← Ny225.out] at ho; have n0_ := Aside0.mk (hb); have n1_ := Aside0.mk (Kept.of_grown (S := (fun k_ => P0_ k_)) hg (by repeat (first | (with_reducible first | exact HK.out | apply Kept.alloc | apply Kept.drewN | apply Kept.drew) | exact HK.out)) (fun k_ e_ => (HO_0.out.1 k_ e_))); have n2_ := Aside0.mk (ho); clear HB; clear HK; clear HO_0; have HB := n0_; have HK := n1_; have HO227 := n2_; clear n0_ n1_ n2_; clear ho hb hg hat))
                go_roundg kj7
                case measure => have := HK1.out; have := HJ7.out; omega
                case rel => exact ⟨(y225), (wrap64 (x5_1 + 1)), (by first | rfl | (simp; done) | (simp [*]; done)), H', ⟨by have := HK1.out; have := HJ7.out; omega⟩, ⟨by (with_reducible repeat (first | apply rA | apply rN | apply rD)); exact HO227.out⟩, ⟨by repeat (first | (with_reducible first | exact HK.out | apply Kept.alloc | apply Kept.drewN | apply Kept.drew) | exact HK.out)⟩, ⟨by repeat (first | (with_reducible first | exact HB.out | apply wA | apply wN | apply wD) | exact HB.out)⟩⟩
               ·rw [if_neg c45] at H
                exact absurd H (by simp)
     ·rw [if_neg c6] at H
      exact absurd H (by simp)
    ·rw [if_neg c5] at H
     have c5b0 : decide (x5_1 < (a1.size : Int)) = false := decide_eq_false c5
     clear c5
     by_cases c47 : x0_1.length < 140737488355328
     ·rw [if_pos c47] at H
      have LMc47 := Aside0.mk c47
      clear c47
      obtain ⟨y195, hy195⟩ : ∃ y_ : List Int, y_ = (x0_1 ++ [34]) := ⟨_, rfl⟩
      replace H : (some y195) = some r := by first | (rw [hy195]; with_reducible exact H) | (have H2_ := (Option.bind_some _ _).symm.trans H; rw [hy195]; with_reducible exact H2_) | (have H2_ := (Option.bind_some _ _).symm.trans H; with_reducible exact H2_) | with_reducible exact H | (rw [hy195]; exact H) | exact H
      have Ny195 := Aside0.mk hy195
      clear hy195
      obtain rfl := Option.some.inj H
      go_wp2_with (first | ((with_reducible refine gate_builtin (b := .append) (xs := #[.tmp 71, .tmp 72]) rfl ?_); at_builtin; refine Kd.R_append (Kd.int .u8) (w0 := w0) w0.heap.size rfl (.tmp 71) (.tmp 72) 48 5 (.int .u8 0) 1 rfl Try.underlying48 info5 rfl (by decide) (by omega) u0 x0_1 34 [.int .u8 34] (fun k_ => (P0_ k_ ∨ w.heap.size ≤ k_)) (fun _ => False) rfl rfl ?aP (fun _ hk => hk.elim) ?aF ?aO ?aB ?aS ?aL ?_; (case aP => exact rfl); (case aB => exact (by repeat (first | (with_reducible first | exact HB.out | apply wA | apply wN | apply wD) | exact HB.out))); (case aF => exact (fun k_ hk => (.inr (Nat.le_trans (by first | exact HK.out.1 | exact (show Kept w _ (fun k_ => P0_ k_) from by repeat (first | (with_reducible first | exact HK.out | apply Kept.alloc | apply Kept.drewN | apply Kept.drew) | exact HK.out)).1) hk)))); (case aO => exact (by (with_reducible repeat (first | apply rA | apply rN | apply rD)); exact HO_0.out)); (case aS => exact (below_size (by repeat (first | (with_reducible first | exact HB.out | apply wA | apply wN | apply wD) | exact HB.out)))); (case aL => have := LMc47.out; first | omega | exact Nat.le_of_lt this); intro v196 w48 ho hb hg hat; rw [← Ny195.out] at ho; have n0_ := Aside0.mk (hb); have n1_ := Aside0.mk (Kept.of_grown (S := (fun k_ => P0_ k_)) hg (by repeat (first | (with_reducible first | exact HK.out | apply Kept.alloc | apply Kept.drewN | apply Kept.drew) | exact HK.out)) (fun k_ e_ => (HO_0.out.1 k_ e_))); have n2_ := Aside0.mk (ho); clear HB; clear HK; clear HO_0; have HB := n0_; have HK := n1_; have HO197 := n2_; clear n0_ n1_ n2_; clear ho hb hg hat))
      go_ret
      exact ⟨_, by first | rfl | (simp [errW_none, errW_some] <;> rfl) | (simp [*, errW_none, errW_some] <;> rfl), by (with_reducible repeat (first | apply rA | apply rN | apply rD)); exact HO197.out, by repeat (first | (with_reducible first | exact HB.out | apply wA | apply wN | apply wD) | exact HB.out), by repeat (first | (with_reducible first | exact HK.out | apply Kept.alloc | apply Kept.drewN | apply Kept.drew) | exact HK.out)⟩
     ·rw [if_neg c47] at H
      exact absurd H (by simp)
 ·rw [if_neg c3] at H
  exact absurd H (by simp)

/-! ### ndjqref05_Quote: function 18 -/
def ndjqref05_Quote.f (k : Nat) (a0 : ByteArray) : Option (ByteArray) := (ndjqref05_quote.f k ([] : List Int) a0).bind fun t228 => (some (strOfNums t228))
theorem ndjqref05_Quote.mono : ∀ a0 k, LeO (ndjqref05_Quote.f k a0) (ndjqref05_Quote.f (k + 1) a0) := by
  intro a0 k
  unfold ndjqref05_Quote.f
  repeat' first
      | (with_reducible exact ndjqref05_quote.mono _ _ _)
      | (with_reducible exact LeO.refl _)
      | (with_reducible exact LeO.none _)
      | (with_reducible refine LeO.ite ?_ ?_)
      | (with_reducible refine LeO.bind ?_ (fun _ => ?_))
      | exact ndjqref05_quote.mono _ _ _
      | exact LeO.none _
      | refine LeO.ite ?_ ?_
      | refine LeO.bind ?_ (fun _ => ?_)
set_option maxHeartbeats 8000000 in
set_option maxRecDepth 100000 in
theorem ndjqref05_Quote.calls (k : Nat) (a0 : ByteArray) (r : ByteArray) (w : World) (h : ndjqref05_Quote.f k a0 = some r) :
    Calls Try.prog 18 #[.string a0] w fun e w' => e = .returned (.string r) ∧ Below w.heap.size w w' := by
  have HB := Aside0.mk (Below.refl w.heap.size w)
  have H : ((ndjqref05_quote.f k ([] : List Int) a0).bind fun t228 => (some (strOfNums t228))) = some r := h
  clear h
  replace H := Option.bind_eq_some_iff.mp H
  obtain ⟨t228, A20, H⟩ := H
  replace H : (some (strOfNums t228)) = some r := H
  have A2 := Aside0.mk A20
  clear A20
  obtain rfl := Option.some.inj H
  go_enter Try.func18, Try.ntmps18
  go_wp2_with (first | ((with_reducible refine gate_callee (f := 30) rfl ?_); refine goesL_ (some 4) rfl rfl Try.func30 (by kernel_rfl) rfl #[.slice none 0 0, .string a0] rfl (by (try simp only [List.map_toArray, List.map_cons, List.map_nil]); first | done | rfl | (simp only [List.length_drop, List.length_take]; rfl)) ?_; (refine (ndjqref05_quote.calls k (fun k_ => some k_ = (.slice none 0 0 : Value).ownBlock) (.slice none 0 0) ([] : List Int) a0 t228 w _ ?side1 ?side2 A2.out).mono ?_); (case side1 => repeat (first | (with_reducible first | exact HB.out | apply below_alloc | apply pw_below_drewN | apply below_drew1) | exact HB.out)); (case side2 => exact Kd.R_nil _ _ _ _ _); rintro e w3 ⟨v229, rfl, ho0, hb, hkp⟩; refine ⟨_, rfl, ?_⟩; have n0_ := Aside0.mk (Kd.R_mono (ok' := fun k_ => True) ho0 (fun k_ hk_ => trivial)); have n1_ := Aside0.mk (hb); clear HB; have HO230 := n0_; have HB := n1_; clear n0_ n1_; (try clear hb); (try clear hkp); (try clear ho0); have hcv4 := own_string (P := Try.prog) Try.underlying48 Try.underlying5 Try.underlying9 (Kd.own_of_R HO230.out)))
  go_ret
  exact ⟨by first | rfl | (simp [errW_none, errW_some] <;> rfl) | (simp [*, errW_none, errW_some] <;> rfl), by repeat (first | (with_reducible first | exact HB.out | apply below_alloc | apply pw_below_drewN | apply below_drew1) | exact HB.out)⟩

end Go.Proofs.Ytcnojfoiolbnaaa.QJsonlexQuoted
