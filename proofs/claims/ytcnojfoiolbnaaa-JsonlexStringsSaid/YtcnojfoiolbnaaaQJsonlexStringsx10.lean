-- by a program of this session (print2.py): the machine's side of one law; Lean checks it.
import Derived.Test.YtcnojfoiolbnaaaQJsonlexStringsx0
import Derived.Test.YtcnojfoiolbnaaaQJsonlexStringsx9
namespace Go.Proofs.Ytcnojfoiolbnaaa.QJsonlexStrings
open Go.RowKit Go.Proofs.YtcnojfoiolbnaaaW.PrintWords Go.Proofs.YtcnojfoiolbnaaaW.PrintLast Go.Proofs.YtcnojfoiolbnaaaW.PrintMore
attribute [local go_sem] max2_int min2_int max_two min_two max_three min_three max_four min_four   -- for this text's walks alone
set_option linter.unusedVariables false
set_option linter.unusedSimpArgs false

/-! ### ndjqref03_unicode: function 44 -/
mutual
def ndjqref03_unicode.j0 : Nat → ByteArray → Int → Int → Int → Bool → Option (Int × Int)
 | 0, _, _, _, _, _ => none
 | k + 1, x0, x1, x6, x7, x30 => if x30 = true then (if 0 ≤ (wrap64 (x1 + 2)) then (if (wrap64 (x1 + 2)) < (x0.size : Int) then ((ndjqref03_hex.f k (bt x0 (wrap64 (x1 + 2)))).bind fun bt193 => (if 0 ≤ (wrap64 (x1 + 3)) then (if (wrap64 (x1 + 3)) < (x0.size : Int) then ((ndjqref03_hex.f k (bt x0 (wrap64 (x1 + 3)))).bind fun bt195 => (if bt193.1 = 13 then (if bt195.1 ≥ 12 then (some (0, (-1))) else (ndjqref03_unicode.j1 k x0 x1 x6 x7)) else (ndjqref03_unicode.j1 k x0 x1 x6 x7))) else (none)) else (none))) else (none)) else (none)) else (ndjqref03_unicode.j1 k x0 x1 x6 x7)
def ndjqref03_unicode.j1 : Nat → ByteArray → Int → Int → Int → Option (Int × Int)
 | 0, _, _, _, _ => none
 | k + 1, x0, x1, x6, x7 => if x6 < 4 then (some (0, x7)) else (if x7 < 55296 then (ndjqref03_unicode.j2 k x0 x1 x7 true) else (ndjqref03_unicode.j2 k x0 x1 x7 (decide (x7 > 57343))))
def ndjqref03_unicode.j2 : Nat → ByteArray → Int → Int → Bool → Option (Int × Int)
 | 0, _, _, _, _ => none
 | k + 1, x0, x1, x7, x61 => if x61 = true then (some (x7, 6)) else (if x7 > 56319 then (some (0, (-1))) else (ndjqref03_unicode.l0 k x0 x1 x7 0))
def ndjqref03_unicode.l0 : Nat → ByteArray → Int → Int → Int → Option (Int × Int)
 | 0, _, _, _, _ => none
 | k + 1, x0, x1, x7, x12 => if x12 < 2 then (if (wrap64 ((wrap64 (x1 + 6)) + x12)) ≥ (x0.size : Int) then (some (0, 0)) else (if 0 ≤ (wrap64 ((wrap64 (x1 + 6)) + x12)) then (if (wrap64 ((wrap64 (x1 + 6)) + x12)) < (x0.size : Int) then (if 0 ≤ x12 then (if (bt x0 (wrap64 ((wrap64 (x1 + 6)) + x12))) = (bt (⟨#[92, 117]⟩ : ByteArray) x12) then (ndjqref03_unicode.l0 k x0 x1 x7 (wrap64 (x12 + 1))) else (some (0, (-1)))) else (none)) else (none)) else (none))) else ((ndjqref03_quad.f k x0 (wrap64 (x1 + 8)) 56320 57343).bind fun bt197 => (if bt197.1 < 4 then (some (0, bt197.2)) else (some (wrap64 ((wrap64 (65536 + (wrap64 ((wrap64 (x7 - 55296)) * 1024)))) + (wrap64 (bt197.2 - 56320))), 12))))
end
def ndjqref03_unicode.f (k : Nat) (a0 : ByteArray) (a1 : Int) : Option (Int × Int) := (ndjqref03_quad.f k a0 (wrap64 (a1 + 2)) 0 65535).bind fun bt191 => (if bt191.1 < 4 then (if bt191.2 = 0 then (ndjqref03_unicode.j0 k a0 a1 bt191.1 bt191.2 (decide (bt191.1 ≥ 2))) else (ndjqref03_unicode.j0 k a0 a1 bt191.1 bt191.2 false)) else (ndjqref03_unicode.j0 k a0 a1 bt191.1 bt191.2 false))
theorem ndjqref03_unicode.mono_l : ∀ k, (∀ y0 y1 y2 y3 y4, LeO (ndjqref03_unicode.j0 k y0 y1 y2 y3 y4) (ndjqref03_unicode.j0 (k + 1) y0 y1 y2 y3 y4)) ∧ (∀ y0 y1 y2 y3, LeO (ndjqref03_unicode.j1 k y0 y1 y2 y3) (ndjqref03_unicode.j1 (k + 1) y0 y1 y2 y3)) ∧ (∀ y0 y1 y2 y3, LeO (ndjqref03_unicode.j2 k y0 y1 y2 y3) (ndjqref03_unicode.j2 (k + 1) y0 y1 y2 y3)) ∧ (∀ y0 y1 y2 y3, LeO (ndjqref03_unicode.l0 k y0 y1 y2 y3) (ndjqref03_unicode.l0 (k + 1) y0 y1 y2 y3))
 | 0 => ⟨fun _ _ _ _ _ r h => by simp [ndjqref03_unicode.j0] at h, fun _ _ _ _ r h => by simp [ndjqref03_unicode.j1] at h, fun _ _ _ _ r h => by simp [ndjqref03_unicode.j2] at h, fun _ _ _ _ r h => by simp [ndjqref03_unicode.l0] at h⟩
 | k + 1 => by
  obtain ⟨ih0, ih1, ih2, ih3⟩ := ndjqref03_unicode.mono_l k
  refine ⟨?_, ?_, ?_, ?_⟩
  ·intro y0 y1 y2 y3 y4
   unfold ndjqref03_unicode.j0
   repeat' first
   | (with_reducible exact ih0 _ _ _ _ _)
   | (with_reducible exact ih1 _ _ _ _)
   | (with_reducible exact ih2 _ _ _ _)
   | (with_reducible exact ih3 _ _ _ _)
   | (with_reducible exact ndjqref03_hex.mono _ _)
   | (with_reducible exact ndjqref03_quad.mono _ _ _ _ _)
   | (with_reducible exact LeO.refl _)
   | (with_reducible exact LeO.none _)
   | (with_reducible refine LeO.ite ?_ ?_)
   | (with_reducible refine LeO.bind ?_ (fun _ => ?_))
   | exact ih0 _ _ _ _ _
   | exact ih1 _ _ _ _
   | exact ih2 _ _ _ _
   | exact ih3 _ _ _ _
   | exact ndjqref03_hex.mono _ _
   | exact ndjqref03_quad.mono _ _ _ _ _
   | exact LeO.none _
   | refine LeO.ite ?_ ?_
   | refine LeO.bind ?_ (fun _ => ?_)
  ·intro y0 y1 y2 y3
   unfold ndjqref03_unicode.j1
   repeat' first
   | (with_reducible exact ih0 _ _ _ _ _)
   | (with_reducible exact ih1 _ _ _ _)
   | (with_reducible exact ih2 _ _ _ _)
   | (with_reducible exact ih3 _ _ _ _)
   | (with_reducible exact ndjqref03_hex.mono _ _)
   | (with_reducible exact ndjqref03_quad.mono _ _ _ _ _)
   | (with_reducible exact LeO.refl _)
   | (with_reducible exact LeO.none _)
   | (with_reducible refine LeO.ite ?_ ?_)
   | (with_reducible refine LeO.bind ?_ (fun _ => ?_))
   | exact ih0 _ _ _ _ _
   | exact ih1 _ _ _ _
   | exact ih2 _ _ _ _
   | exact ih3 _ _ _ _
   | exact ndjqref03_hex.mono _ _
   | exact ndjqref03_quad.mono _ _ _ _ _
   | exact LeO.none _
   | refine LeO.ite ?_ ?_
   | refine LeO.bind ?_ (fun _ => ?_)
  ·intro y0 y1 y2 y3
   unfold ndjqref03_unicode.j2
   repeat' first
   | (with_reducible exact ih0 _ _ _ _ _)
   | (with_reducible exact ih1 _ _ _ _)
   | (with_reducible exact ih2 _ _ _ _)
   | (with_reducible exact ih3 _ _ _ _)
   | (with_reducible exact ndjqref03_hex.mono _ _)
   | (with_reducible exact ndjqref03_quad.mono _ _ _ _ _)
   | (with_reducible exact LeO.refl _)
   | (with_reducible exact LeO.none _)
   | (with_reducible refine LeO.ite ?_ ?_)
   | (with_reducible refine LeO.bind ?_ (fun _ => ?_))
   | exact ih0 _ _ _ _ _
   | exact ih1 _ _ _ _
   | exact ih2 _ _ _ _
   | exact ih3 _ _ _ _
   | exact ndjqref03_hex.mono _ _
   | exact ndjqref03_quad.mono _ _ _ _ _
   | exact LeO.none _
   | refine LeO.ite ?_ ?_
   | refine LeO.bind ?_ (fun _ => ?_)
  ·intro y0 y1 y2 y3
   unfold ndjqref03_unicode.l0
   repeat' first
   | (with_reducible exact ih0 _ _ _ _ _)
   | (with_reducible exact ih1 _ _ _ _)
   | (with_reducible exact ih2 _ _ _ _)
   | (with_reducible exact ih3 _ _ _ _)
   | (with_reducible exact ndjqref03_hex.mono _ _)
   | (with_reducible exact ndjqref03_quad.mono _ _ _ _ _)
   | (with_reducible exact LeO.refl _)
   | (with_reducible exact LeO.none _)
   | (with_reducible refine LeO.ite ?_ ?_)
   | (with_reducible refine LeO.bind ?_ (fun _ => ?_))
   | exact ih0 _ _ _ _ _
   | exact ih1 _ _ _ _
   | exact ih2 _ _ _ _
   | exact ih3 _ _ _ _
   | exact ndjqref03_hex.mono _ _
   | exact ndjqref03_quad.mono _ _ _ _ _
   | exact LeO.none _
   | refine LeO.ite ?_ ?_
   | refine LeO.bind ?_ (fun _ => ?_)
theorem ndjqref03_unicode.mono : ∀ a0 a1 k, LeO (ndjqref03_unicode.f k a0 a1) (ndjqref03_unicode.f (k + 1) a0 a1) := by
 intro a0 a1 k
 obtain ⟨ih0, ih1, ih2, ih3⟩ := ndjqref03_unicode.mono_l k
 unfold ndjqref03_unicode.f
 repeat' first
   | (with_reducible exact ih0 _ _ _ _ _)
   | (with_reducible exact ih1 _ _ _ _)
   | (with_reducible exact ih2 _ _ _ _)
   | (with_reducible exact ih3 _ _ _ _)
   | (with_reducible exact ndjqref03_hex.mono _ _)
   | (with_reducible exact ndjqref03_quad.mono _ _ _ _ _)
   | (with_reducible exact LeO.refl _)
   | (with_reducible exact LeO.none _)
   | (with_reducible refine LeO.ite ?_ ?_)
   | (with_reducible refine LeO.bind ?_ (fun _ => ?_))
   | exact ih0 _ _ _ _ _
   | exact ih1 _ _ _ _
   | exact ih2 _ _ _ _
   | exact ih3 _ _ _ _
   | exact ndjqref03_hex.mono _ _
   | exact ndjqref03_quad.mono _ _ _ _ _
   | exact LeO.none _
   | refine LeO.ite ?_ ?_
   | refine LeO.bind ?_ (fun _ => ?_)
set_option maxHeartbeats 8000000 in
set_option maxRecDepth 100000 in
theorem ndjqref03_unicode.calls (k : Nat) (a0 : ByteArray) (a1 : Int) (r1 : Int) (r2 : Int) (w : World) (h : ndjqref03_unicode.f k a0 a1 = some (r1, r2)) :
  Calls Try.prog 44 #[.string a0, .int .i64 a1] w fun e w' => e = .returned (.tuple #[.int .i64 r1, .int .i64 r2]) ∧ Drawn0 w w' := by
 have H : ((ndjqref03_quad.f k a0 (wrap64 (a1 + 2)) 0 65535).bind fun bt191 => (if bt191.1 < 4 then (if bt191.2 = 0 then (ndjqref03_unicode.j0 k a0 a1 bt191.1 bt191.2 (decide (bt191.1 ≥ 2))) else (ndjqref03_unicode.j0 k a0 a1 bt191.1 bt191.2 false)) else (ndjqref03_unicode.j0 k a0 a1 bt191.1 bt191.2 false))) = some (r1, r2) := h
 clear h
 replace H := Option.bind_eq_some_iff.mp H
 obtain ⟨⟨t191, t192⟩, A30, H⟩ := H
 replace H : (if t191 < 4 then (if t192 = 0 then (ndjqref03_unicode.j0 k a0 a1 t191 t192 (decide (t191 ≥ 2))) else (ndjqref03_unicode.j0 k a0 a1 t191 t192 false)) else (ndjqref03_unicode.j0 k a0 a1 t191 t192 false)) = some (r1, r2) := H
 have A3 := Aside0.mk A30
 clear A30
 have HC4 := Aside0.mk H
 clear H
 go_enter Try.func44, Try.ntmps44
 go_upto_region 2 with (first | (go_at_call 47; (with_reducible refine (ndjqref03_quad.calls k a0 (wrap64 (a1 + 2)) 0 65535 t191 t192 _ A3.out).mono ?_); rintro e w' ⟨rfl, ⟨nd, rfl⟩⟩; (try first | exact ⟨rfl, _, World.drewN_drewN _ _ _⟩ | exact ⟨rfl, _, Eq.trans (World.drewN_drewN _ _ _) (congrArg (World.drewN _) (Nat.add_assoc _ _ _))⟩)))
 repeat (go_quiet (first | (go_at_call 47; (with_reducible refine (ndjqref03_quad.calls k a0 (wrap64 (a1 + 2)) 0 65535 t191 t192 _ A3.out).mono ?_); rintro e w' ⟨rfl, ⟨nd, rfl⟩⟩; (try first | exact ⟨rfl, _, World.drewN_drewN _ _ _⟩ | exact ⟨rfl, _, Eq.trans (World.drewN_drewN _ _ _) (congrArg (World.drewN _) (Nat.add_assoc _ _ _))⟩))); go_upto_region 2 with (first | (go_at_call 47; (with_reducible refine (ndjqref03_quad.calls k a0 (wrap64 (a1 + 2)) 0 65535 t191 t192 _ A3.out).mono ?_); rintro e w' ⟨rfl, ⟨nd, rfl⟩⟩; (try first | exact ⟨rfl, _, World.drewN_drewN _ _ _⟩ | exact ⟨rfl, _, Eq.trans (World.drewN_drewN _ _ _) (congrArg (World.drewN _) (Nat.add_assoc _ _ _))⟩))))
 (try simp only [Act.put, List.setIfInBounds_toArray, List.set_cons_zero, List.set_cons_succ])
 go_cut [30] (fun v30 wc => ∃ (kq : Nat) (x30_3 : Bool), v30 = .bool x30_3 ∧ Aside0 (ndjqref03_unicode.j0 kq a0 a1 t191 t192 x30_3 = some (r1, r2)) ∧ Aside0 (kq ≤ k) ∧ Drawn0 w wc)
 case first =>
  have H := HC4.out
  clear HC4
  by_cases c5 : t191 < 4
  ·rw [if_pos c5] at H
   have c5b0 : decide (t191 < 4) = true := decide_eq_true c5
   clear c5
   (first | rw [c5b0] | (simp only [i64_w, i32_w]; rw [c5b0]) | skip)
   by_cases c6 : t192 = 0
   ·rw [if_pos c6] at H
    have c6b0 : (t192 == 0) = true := beq_iff_eq.mpr c6
    have c6b1 : (t192 != 0) = false := bne_eq_false_iff_eq.mpr c6
    clear c6
    have H' := Aside0.mk H
    clear H
    go_wp2
    repeat (go_quiet (fail); try go_wp2)
    go_meet
    case rel => exact ⟨_, (decide (t191 ≥ 2)), (by first | rfl | (simp; done) | (simp [*]; done)), H', ⟨by first | omega | exact Nat.le_refl _⟩, by repeat (first | exact Drawn0.refl _ | apply Drawn0.step)⟩
   ·rw [if_neg c6] at H
    have c6b0 : (t192 == 0) = false := beq_eq_false_iff_ne.mpr c6
    have c6b1 : (t192 != 0) = true := bne_iff_ne.mpr c6
    have H' := Aside0.mk H
    clear H
    go_wp2
    repeat (go_quiet (fail); try go_wp2)
    go_meet
    case rel => exact ⟨_, (false), (by first | rfl | (simp; done) | (simp [*]; done)), H', ⟨by first | omega | exact Nat.le_refl _⟩, by repeat (first | exact Drawn0.refl _ | apply Drawn0.step)⟩
  ·rw [if_neg c5] at H
   have c5b0 : decide (t191 < 4) = false := decide_eq_false c5
   clear c5
   (first | rw [c5b0] | (simp only [i64_w, i32_w]; rw [c5b0]) | skip)
   have H' := Aside0.mk H
   clear H
   go_wp2
   repeat (go_quiet (fail); try go_wp2)
   go_meet
   case rel => exact ⟨_, (false), (by first | rfl | (simp; done) | (simp [*]; done)), H', ⟨by first | omega | exact Nat.le_refl _⟩, by repeat (first | exact Drawn0.refl _ | apply Drawn0.step)⟩
 case rest =>
  clear HC4
  (try clear p2); (try clear c4); (try clear c5); (try clear c5b0); (try clear c6); (try clear c6b0); (try clear c6b1); (try clear p6)
  obtain ⟨kq, x30_3, rfl, HA, HJ3, ⟨mc3, rfl⟩⟩ := hcut
  cases kq with
  | zero => exact absurd HA.out (by simp [ndjqref03_unicode.j0])
  | succ kj3 =>
   have H := HA.out
   clear HA
   simp only [ndjqref03_unicode.j0] at H
   have HC7 := Aside0.mk H
   clear H
   go_upto_if 30 with (fail)
   repeat (go_quiet (fail); go_upto_if 30 with (fail))
   go_cut [] (fun wc => ∃ (kq : Nat), Aside0 (ndjqref03_unicode.j1 kq a0 a1 t191 t192 = some (r1, r2)) ∧ Aside0 (kq ≤ kj3) ∧ Drawn0 w wc)
   case first =>
    have H := HC7.out
    clear HC7
    by_cases c8 : x30_3 = true
    ·subst c8
     have H1 : (if 0 ≤ (wrap64 (a1 + 2)) then (if (wrap64 (a1 + 2)) < (a0.size : Int) then ((ndjqref03_hex.f kj3 (bt a0 (wrap64 (a1 + 2)))).bind fun bt193 => (if 0 ≤ (wrap64 (a1 + 3)) then (if (wrap64 (a1 + 3)) < (a0.size : Int) then ((ndjqref03_hex.f kj3 (bt a0 (wrap64 (a1 + 3)))).bind fun bt195 => (if bt193.1 = 13 then (if bt195.1 ≥ 12 then (some (0, (-1))) else (ndjqref03_unicode.j1 kj3 a0 a1 t191 t192)) else (ndjqref03_unicode.j1 kj3 a0 a1 t191 t192))) else (none)) else (none))) else (none)) else (none)) = some (r1, r2) := by rw [if_pos rfl] at H; exact H
     clear H; have H := H1; clear H1
     obtain ⟨ji9, hji9⟩ : ∃ j_ : Int, (wrap64 (a1 + 2)) = j_ := ⟨_, rfl⟩
     replace H : (if 0 ≤ (ji9) then (if (ji9) < (a0.size : Int) then ((ndjqref03_hex.f kj3 (bt a0 (ji9))).bind fun bt193 => (if 0 ≤ (wrap64 (a1 + 3)) then (if (wrap64 (a1 + 3)) < (a0.size : Int) then ((ndjqref03_hex.f kj3 (bt a0 (wrap64 (a1 + 3)))).bind fun bt195 => (if bt193.1 = 13 then (if bt195.1 ≥ 12 then (some (0, (-1))) else (ndjqref03_unicode.j1 kj3 a0 a1 t191 t192)) else (ndjqref03_unicode.j1 kj3 a0 a1 t191 t192))) else (none)) else (none))) else (none)) else (none)) = some (r1, r2) := by first | (rw [hji9] at H; exact H) | (simp only [hji9] at H ⊢; exact H)
     have hji9w : (IntKind.i64.wrap (a1 + 2)) = ji9 := (i64_w _).trans hji9
     by_cases c10 : 0 ≤ (ji9)
     ·rw [if_pos c10] at H
      have c10b0 : decide (0 ≤ (ji9)) = true := decide_eq_true c10
      clear c10
      (first | rw [c10b0] | (simp only [i64_w, i32_w]; rw [c10b0]) | skip)
      by_cases c11 : (ji9) < (a0.size : Int)
      ·rw [if_pos c11] at H
       have c11b0 : decide ((ji9) < (a0.size : Int)) = true := decide_eq_true c11
       clear c11
       replace H := Option.bind_eq_some_iff.mp H
       obtain ⟨⟨t193, t194⟩, A130, H⟩ := H
       replace H : (if 0 ≤ (wrap64 (a1 + 3)) then (if (wrap64 (a1 + 3)) < (a0.size : Int) then ((ndjqref03_hex.f kj3 (bt a0 (wrap64 (a1 + 3)))).bind fun bt195 => (if t193 = 13 then (if bt195.1 ≥ 12 then (some (0, (-1))) else (ndjqref03_unicode.j1 kj3 a0 a1 t191 t192)) else (ndjqref03_unicode.j1 kj3 a0 a1 t191 t192))) else (none)) else (none)) = some (r1, r2) := H
       have A13 := Aside0.mk A130
       clear A130
       obtain ⟨ji14, hji14⟩ : ∃ j_ : Int, (wrap64 (a1 + 3)) = j_ := ⟨_, rfl⟩
       replace H : (if 0 ≤ (ji14) then (if (ji14) < (a0.size : Int) then ((ndjqref03_hex.f kj3 (bt a0 (ji14))).bind fun bt195 => (if t193 = 13 then (if bt195.1 ≥ 12 then (some (0, (-1))) else (ndjqref03_unicode.j1 kj3 a0 a1 t191 t192)) else (ndjqref03_unicode.j1 kj3 a0 a1 t191 t192))) else (none)) else (none)) = some (r1, r2) := by first | (rw [hji14] at H; exact H) | (simp only [hji14] at H ⊢; exact H)
       (try rw [hji14] at A13)
       have hji14w : (IntKind.i64.wrap (a1 + 3)) = ji14 := (i64_w _).trans hji14
       by_cases c15 : 0 ≤ (ji14)
       ·rw [if_pos c15] at H
        have c15b0 : decide (0 ≤ (ji14)) = true := decide_eq_true c15
        clear c15
        by_cases c16 : (ji14) < (a0.size : Int)
        ·rw [if_pos c16] at H
         have c16b0 : decide ((ji14) < (a0.size : Int)) = true := decide_eq_true c16
         clear c16
         replace H := Option.bind_eq_some_iff.mp H
         obtain ⟨⟨t195, t196⟩, A180, H⟩ := H
         replace H : (if t193 = 13 then (if t195 ≥ 12 then (some (0, (-1))) else (ndjqref03_unicode.j1 kj3 a0 a1 t191 t192)) else (ndjqref03_unicode.j1 kj3 a0 a1 t191 t192)) = some (r1, r2) := H
         have A18 := Aside0.mk A180
         clear A180
         by_cases c19 : t193 = 13
         ·rw [if_pos c19] at H
          have c19b0 : (t193 == 13) = true := beq_iff_eq.mpr c19
          have c19b1 : (t193 != 13) = false := bne_eq_false_iff_eq.mpr c19
          clear c19
          by_cases c20 : t195 ≥ 12
          ·rw [if_pos c20] at H
           have c20b0 : decide (12 ≤ t195) = true := decide_eq_true c20
           clear c20
           simp only [Option.some.injEq, Prod.mk.injEq] at H
           obtain ⟨rfl, rfl⟩ := H
           have p12 : 0 ≤ ((ji9) : Int) := of_decide_eq_true (by first | (with_reducible assumption) | assumption)
           have q12 : (ji9) < (a0.size : Int) := of_decide_eq_true (by first | (with_reducible assumption) | assumption)
           have hx12 := bt_at a0 (ji9)
           replace p12 := eq_true p12; replace q12 := eq_true q12
           go_wp2_with (first | (go_at_call 48; (with_reducible refine (ndjqref03_hex.calls kj3 (bt a0 (ji9)) t193 t194 _ A13.out).mono ?_); rintro e w' ⟨rfl, ⟨nd, rfl⟩⟩; (try first | exact ⟨rfl, _, World.drewN_drewN _ _ _⟩ | exact ⟨rfl, _, Eq.trans (World.drewN_drewN _ _ _) (congrArg (World.drewN _) (Nat.add_assoc _ _ _))⟩); have p17 : 0 ≤ ((ji14) : Int) := of_decide_eq_true (by first | (with_reducible assumption) | assumption); have q17 : (ji14) < (a0.size : Int) := of_decide_eq_true (by first | (with_reducible assumption) | assumption); have hx17 := bt_at a0 (ji14); replace p17 := eq_true p17; replace q17 := eq_true q17) | (go_at_call 48; (with_reducible refine (ndjqref03_hex.calls kj3 (bt a0 (ji14)) t195 t196 _ A18.out).mono ?_); rintro e w' ⟨rfl, ⟨nd, rfl⟩⟩; (try first | exact ⟨rfl, _, World.drewN_drewN _ _ _⟩ | exact ⟨rfl, _, Eq.trans (World.drewN_drewN _ _ _) (congrArg (World.drewN _) (Nat.add_assoc _ _ _))⟩)))
           repeat (go_quiet (first | (go_at_call 48; (with_reducible refine (ndjqref03_hex.calls kj3 (bt a0 (ji9)) t193 t194 _ A13.out).mono ?_); rintro e w' ⟨rfl, ⟨nd, rfl⟩⟩; (try first | exact ⟨rfl, _, World.drewN_drewN _ _ _⟩ | exact ⟨rfl, _, Eq.trans (World.drewN_drewN _ _ _) (congrArg (World.drewN _) (Nat.add_assoc _ _ _))⟩); have p17 : 0 ≤ ((ji14) : Int) := of_decide_eq_true (by first | (with_reducible assumption) | assumption); have q17 : (ji14) < (a0.size : Int) := of_decide_eq_true (by first | (with_reducible assumption) | assumption); have hx17 := bt_at a0 (ji14); replace p17 := eq_true p17; replace q17 := eq_true q17) | (go_at_call 48; (with_reducible refine (ndjqref03_hex.calls kj3 (bt a0 (ji14)) t195 t196 _ A18.out).mono ?_); rintro e w' ⟨rfl, ⟨nd, rfl⟩⟩; (try first | exact ⟨rfl, _, World.drewN_drewN _ _ _⟩ | exact ⟨rfl, _, Eq.trans (World.drewN_drewN _ _ _) (congrArg (World.drewN _) (Nat.add_assoc _ _ _))⟩))); try go_wp2_with (first | (go_at_call 48; (with_reducible refine (ndjqref03_hex.calls kj3 (bt a0 (ji9)) t193 t194 _ A13.out).mono ?_); rintro e w' ⟨rfl, ⟨nd, rfl⟩⟩; (try first | exact ⟨rfl, _, World.drewN_drewN _ _ _⟩ | exact ⟨rfl, _, Eq.trans (World.drewN_drewN _ _ _) (congrArg (World.drewN _) (Nat.add_assoc _ _ _))⟩); have p17 : 0 ≤ ((ji14) : Int) := of_decide_eq_true (by first | (with_reducible assumption) | assumption); have q17 : (ji14) < (a0.size : Int) := of_decide_eq_true (by first | (with_reducible assumption) | assumption); have hx17 := bt_at a0 (ji14); replace p17 := eq_true p17; replace q17 := eq_true q17) | (go_at_call 48; (with_reducible refine (ndjqref03_hex.calls kj3 (bt a0 (ji14)) t195 t196 _ A18.out).mono ?_); rintro e w' ⟨rfl, ⟨nd, rfl⟩⟩; (try first | exact ⟨rfl, _, World.drewN_drewN _ _ _⟩ | exact ⟨rfl, _, Eq.trans (World.drewN_drewN _ _ _) (congrArg (World.drewN _) (Nat.add_assoc _ _ _))⟩))))
           go_ret2
           exact ⟨by first | rfl | (simp; done) | (simp only [← hji9, ← hji14] <;> (first | rfl | (simp; done))) | (simp [*]; done), by repeat (first | exact Drawn0.refl _ | apply Drawn0.step)⟩
          ·rw [if_neg c20] at H
           have c20b0 : decide (12 ≤ t195) = false := decide_eq_false c20
           clear c20
           have H' := Aside0.mk H
           clear H
           have p12 : 0 ≤ ((ji9) : Int) := of_decide_eq_true (by first | (with_reducible assumption) | assumption)
           have q12 : (ji9) < (a0.size : Int) := of_decide_eq_true (by first | (with_reducible assumption) | assumption)
           have hx12 := bt_at a0 (ji9)
           replace p12 := eq_true p12; replace q12 := eq_true q12
           go_wp2_with (first | (go_at_call 48; (with_reducible refine (ndjqref03_hex.calls kj3 (bt a0 (ji9)) t193 t194 _ A13.out).mono ?_); rintro e w' ⟨rfl, ⟨nd, rfl⟩⟩; (try first | exact ⟨rfl, _, World.drewN_drewN _ _ _⟩ | exact ⟨rfl, _, Eq.trans (World.drewN_drewN _ _ _) (congrArg (World.drewN _) (Nat.add_assoc _ _ _))⟩); have p17 : 0 ≤ ((ji14) : Int) := of_decide_eq_true (by first | (with_reducible assumption) | assumption); have q17 : (ji14) < (a0.size : Int) := of_decide_eq_true (by first | (with_reducible assumption) | assumption); have hx17 := bt_at a0 (ji14); replace p17 := eq_true p17; replace q17 := eq_true q17) | (go_at_call 48; (with_reducible refine (ndjqref03_hex.calls kj3 (bt a0 (ji14)) t195 t196 _ A18.out).mono ?_); rintro e w' ⟨rfl, ⟨nd, rfl⟩⟩; (try first | exact ⟨rfl, _, World.drewN_drewN _ _ _⟩ | exact ⟨rfl, _, Eq.trans (World.drewN_drewN _ _ _) (congrArg (World.drewN _) (Nat.add_assoc _ _ _))⟩)))
           repeat (go_quiet (first | (go_at_call 48; (with_reducible refine (ndjqref03_hex.calls kj3 (bt a0 (ji9)) t193 t194 _ A13.out).mono ?_); rintro e w' ⟨rfl, ⟨nd, rfl⟩⟩; (try first | exact ⟨rfl, _, World.drewN_drewN _ _ _⟩ | exact ⟨rfl, _, Eq.trans (World.drewN_drewN _ _ _) (congrArg (World.drewN _) (Nat.add_assoc _ _ _))⟩); have p17 : 0 ≤ ((ji14) : Int) := of_decide_eq_true (by first | (with_reducible assumption) | assumption); have q17 : (ji14) < (a0.size : Int) := of_decide_eq_true (by first | (with_reducible assumption) | assumption); have hx17 := bt_at a0 (ji14); replace p17 := eq_true p17; replace q17 := eq_true q17) | (go_at_call 48; (with_reducible refine (ndjqref03_hex.calls kj3 (bt a0 (ji14)) t195 t196 _ A18.out).mono ?_); rintro e w' ⟨rfl, ⟨nd, rfl⟩⟩; (try first | exact ⟨rfl, _, World.drewN_drewN _ _ _⟩ | exact ⟨rfl, _, Eq.trans (World.drewN_drewN _ _ _) (congrArg (World.drewN _) (Nat.add_assoc _ _ _))⟩))); try go_wp2_with (first | (go_at_call 48; (with_reducible refine (ndjqref03_hex.calls kj3 (bt a0 (ji9)) t193 t194 _ A13.out).mono ?_); rintro e w' ⟨rfl, ⟨nd, rfl⟩⟩; (try first | exact ⟨rfl, _, World.drewN_drewN _ _ _⟩ | exact ⟨rfl, _, Eq.trans (World.drewN_drewN _ _ _) (congrArg (World.drewN _) (Nat.add_assoc _ _ _))⟩); have p17 : 0 ≤ ((ji14) : Int) := of_decide_eq_true (by first | (with_reducible assumption) | assumption); have q17 : (ji14) < (a0.size : Int) := of_decide_eq_true (by first | (with_reducible assumption) | assumption); have hx17 := bt_at a0 (ji14); replace p17 := eq_true p17; replace q17 := eq_true q17) | (go_at_call 48; (with_reducible refine (ndjqref03_hex.calls kj3 (bt a0 (ji14)) t195 t196 _ A18.out).mono ?_); rintro e w' ⟨rfl, ⟨nd, rfl⟩⟩; (try first | exact ⟨rfl, _, World.drewN_drewN _ _ _⟩ | exact ⟨rfl, _, Eq.trans (World.drewN_drewN _ _ _) (congrArg (World.drewN _) (Nat.add_assoc _ _ _))⟩))))
           go_meet
           case rel => exact ⟨_, H', ⟨by have := HJ3.out; first | omega | exact Nat.le_refl _⟩, by repeat (first | exact Drawn0.refl _ | apply Drawn0.step)⟩
         ·rw [if_neg c19] at H
          have c19b0 : (t193 == 13) = false := beq_eq_false_iff_ne.mpr c19
          have c19b1 : (t193 != 13) = true := bne_iff_ne.mpr c19
          have H' := Aside0.mk H
          clear H
          have p12 : 0 ≤ ((ji9) : Int) := of_decide_eq_true (by first | (with_reducible assumption) | assumption)
          have q12 : (ji9) < (a0.size : Int) := of_decide_eq_true (by first | (with_reducible assumption) | assumption)
          have hx12 := bt_at a0 (ji9)
          replace p12 := eq_true p12; replace q12 := eq_true q12
          go_wp2_with (first | (go_at_call 48; (with_reducible refine (ndjqref03_hex.calls kj3 (bt a0 (ji9)) t193 t194 _ A13.out).mono ?_); rintro e w' ⟨rfl, ⟨nd, rfl⟩⟩; (try first | exact ⟨rfl, _, World.drewN_drewN _ _ _⟩ | exact ⟨rfl, _, Eq.trans (World.drewN_drewN _ _ _) (congrArg (World.drewN _) (Nat.add_assoc _ _ _))⟩); have p17 : 0 ≤ ((ji14) : Int) := of_decide_eq_true (by first | (with_reducible assumption) | assumption); have q17 : (ji14) < (a0.size : Int) := of_decide_eq_true (by first | (with_reducible assumption) | assumption); have hx17 := bt_at a0 (ji14); replace p17 := eq_true p17; replace q17 := eq_true q17) | (go_at_call 48; (with_reducible refine (ndjqref03_hex.calls kj3 (bt a0 (ji14)) t195 t196 _ A18.out).mono ?_); rintro e w' ⟨rfl, ⟨nd, rfl⟩⟩; (try first | exact ⟨rfl, _, World.drewN_drewN _ _ _⟩ | exact ⟨rfl, _, Eq.trans (World.drewN_drewN _ _ _) (congrArg (World.drewN _) (Nat.add_assoc _ _ _))⟩)))
          repeat (go_quiet (first | (go_at_call 48; (with_reducible refine (ndjqref03_hex.calls kj3 (bt a0 (ji9)) t193 t194 _ A13.out).mono ?_); rintro e w' ⟨rfl, ⟨nd, rfl⟩⟩; (try first | exact ⟨rfl, _, World.drewN_drewN _ _ _⟩ | exact ⟨rfl, _, Eq.trans (World.drewN_drewN _ _ _) (congrArg (World.drewN _) (Nat.add_assoc _ _ _))⟩); have p17 : 0 ≤ ((ji14) : Int) := of_decide_eq_true (by first | (with_reducible assumption) | assumption); have q17 : (ji14) < (a0.size : Int) := of_decide_eq_true (by first | (with_reducible assumption) | assumption); have hx17 := bt_at a0 (ji14); replace p17 := eq_true p17; replace q17 := eq_true q17) | (go_at_call 48; (with_reducible refine (ndjqref03_hex.calls kj3 (bt a0 (ji14)) t195 t196 _ A18.out).mono ?_); rintro e w' ⟨rfl, ⟨nd, rfl⟩⟩; (try first | exact ⟨rfl, _, World.drewN_drewN _ _ _⟩ | exact ⟨rfl, _, Eq.trans (World.drewN_drewN _ _ _) (congrArg (World.drewN _) (Nat.add_assoc _ _ _))⟩))); try go_wp2_with (first | (go_at_call 48; (with_reducible refine (ndjqref03_hex.calls kj3 (bt a0 (ji9)) t193 t194 _ A13.out).mono ?_); rintro e w' ⟨rfl, ⟨nd, rfl⟩⟩; (try first | exact ⟨rfl, _, World.drewN_drewN _ _ _⟩ | exact ⟨rfl, _, Eq.trans (World.drewN_drewN _ _ _) (congrArg (World.drewN _) (Nat.add_assoc _ _ _))⟩); have p17 : 0 ≤ ((ji14) : Int) := of_decide_eq_true (by first | (with_reducible assumption) | assumption); have q17 : (ji14) < (a0.size : Int) := of_decide_eq_true (by first | (with_reducible assumption) | assumption); have hx17 := bt_at a0 (ji14); replace p17 := eq_true p17; replace q17 := eq_true q17) | (go_at_call 48; (with_reducible refine (ndjqref03_hex.calls kj3 (bt a0 (ji14)) t195 t196 _ A18.out).mono ?_); rintro e w' ⟨rfl, ⟨nd, rfl⟩⟩; (try first | exact ⟨rfl, _, World.drewN_drewN _ _ _⟩ | exact ⟨rfl, _, Eq.trans (World.drewN_drewN _ _ _) (congrArg (World.drewN _) (Nat.add_assoc _ _ _))⟩))))
          go_meet
          case rel => exact ⟨_, H', ⟨by have := HJ3.out; first | omega | exact Nat.le_refl _⟩, by repeat (first | exact Drawn0.refl _ | apply Drawn0.step)⟩
        ·rw [if_neg c16] at H
         exact absurd H (by simp)
       ·rw [if_neg c15] at H
        exact absurd H (by simp)
      ·rw [if_neg c11] at H
       exact absurd H (by simp)
     ·rw [if_neg c10] at H
      exact absurd H (by simp)
    ·replace c8 := Bool.eq_false_iff.mpr c8
     subst c8
     have H1 : (ndjqref03_unicode.j1 kj3 a0 a1 t191 t192) = some (r1, r2) := by rw [if_neg (show ¬ (false = true) by decide)] at H; exact H
     clear H; have H := H1; clear H1
     have H' := Aside0.mk H
     clear H
     go_wp2
     repeat (go_quiet (fail); try go_wp2)
     go_meet
     case rel => exact ⟨_, H', ⟨by have := HJ3.out; first | omega | exact Nat.le_refl _⟩, by repeat (first | exact Drawn0.refl _ | apply Drawn0.step)⟩
   case rest =>
    clear HC7
    (try clear c1); (try clear p1); (try clear q1); (try clear hx1); (try clear c2); (try clear c3); (try clear c8); (try clear c10); (try clear c10b0); (try clear c11); (try clear c11b0); (try clear p12); (try clear q12); (try clear hx12); (try clear c15); (try clear c15b0); (try clear c16); (try clear c16b0); (try clear p17); (try clear q17); (try clear hx17); (try clear c19); (try clear c19b0); (try clear c19b1); (try clear c20); (try clear c20b0)
    obtain ⟨kq, HA, HJ6, ⟨mc6, rfl⟩⟩ := hcut
    cases kq with
    | zero => exact absurd HA.out (by simp [ndjqref03_unicode.j1])
    | succ kj6 =>
     have H := HA.out
     clear HA
     simp only [ndjqref03_unicode.j1] at H
     by_cases c21 : t191 < 4
     ·rw [if_pos c21] at H
      have c21b0 : decide (t191 < 4) = true := decide_eq_true c21
      clear c21
      simp only [Option.some.injEq, Prod.mk.injEq] at H
      obtain ⟨rfl, rfl⟩ := H
      go_wp2
      repeat (go_quiet (fail); try go_wp2)
      go_ret2
      exact ⟨by first | rfl | (simp; done) | (simp [*]; done), by repeat (first | exact Drawn0.refl _ | apply Drawn0.step)⟩
     ·rw [if_neg c21] at H
      have c21b0 : decide (t191 < 4) = false := decide_eq_false c21
      clear c21
      have HC22 := Aside0.mk H
      clear H
      go_upto_region 9 with (fail)
      repeat (go_quiet (fail); go_upto_region 9 with (fail))
      go_cut [61] (fun v61 wc => ∃ (kq : Nat) (x61_21 : Bool), v61 = .bool x61_21 ∧ Aside0 (ndjqref03_unicode.j2 kq a0 a1 t192 x61_21 = some (r1, r2)) ∧ Aside0 (kq ≤ kj6) ∧ Drawn0 w wc)
      case first =>
       have H := HC22.out
       clear HC22
       by_cases c23 : t192 < 55296
       ·rw [if_pos c23] at H
        have c23b0 : decide (t192 < 55296) = true := decide_eq_true c23
        clear c23
        (first | rw [c23b0] | (simp only [i64_w, i32_w]; rw [c23b0]) | skip)
        have H' := Aside0.mk H
        clear H
        go_wp2
        repeat (go_quiet (fail); try go_wp2)
        go_meet
        case rel => exact ⟨_, (true), (by first | rfl | (simp; done) | (simp [*]; done)), H', ⟨by have := HJ3.out; have := HJ6.out; first | omega | exact Nat.le_refl _⟩, by repeat (first | exact Drawn0.refl _ | apply Drawn0.step)⟩
       ·rw [if_neg c23] at H
        have c23b0 : decide (t192 < 55296) = false := decide_eq_false c23
        clear c23
        (first | rw [c23b0] | (simp only [i64_w, i32_w]; rw [c23b0]) | skip)
        have H' := Aside0.mk H
        clear H
        go_wp2
        repeat (go_quiet (fail); try go_wp2)
        go_meet
        case rel => exact ⟨_, (decide (t192 > 57343)), (by first | rfl | (simp; done) | (simp [*]; done)), H', ⟨by have := HJ3.out; have := HJ6.out; first | omega | exact Nat.le_refl _⟩, by repeat (first | exact Drawn0.refl _ | apply Drawn0.step)⟩
      case rest =>
       clear HC22
       (try clear c21); (try clear c21b0); (try clear c23); (try clear c23b0)
       obtain ⟨kq, x61_21, rfl, HA, HJ21, ⟨mc21, rfl⟩⟩ := hcut
       cases kq with
       | zero => exact absurd HA.out (by simp [ndjqref03_unicode.j2])
       | succ kj21 =>
        have H := HA.out
        clear HA
        simp only [ndjqref03_unicode.j2] at H
        by_cases c24 : x61_21 = true
        ·subst c24
         have H1 : (some (t192, 6)) = some (r1, r2) := by rw [if_pos rfl] at H; exact H
         clear H; have H := H1; clear H1
         simp only [Option.some.injEq, Prod.mk.injEq] at H
         obtain ⟨rfl, rfl⟩ := H
         go_wp2
         repeat (go_quiet (fail); try go_wp2)
         go_ret2
         exact ⟨by first | rfl | (simp; done) | (simp [*]; done), by repeat (first | exact Drawn0.refl _ | apply Drawn0.step)⟩
        ·replace c24 := Bool.eq_false_iff.mpr c24
         subst c24
         have H1 : (if t192 > 56319 then (some (0, (-1))) else (ndjqref03_unicode.l0 kj21 a0 a1 t192 0)) = some (r1, r2) := by rw [if_neg (show ¬ (false = true) by decide)] at H; exact H
         clear H; have H := H1; clear H1
         by_cases c25 : t192 > 56319
         ·rw [if_pos c25] at H
          have c25b0 : decide (56319 < t192) = true := decide_eq_true c25
          clear c25
          simp only [Option.some.injEq, Prod.mk.injEq] at H
          obtain ⟨rfl, rfl⟩ := H
          go_wp2
          repeat (go_quiet (fail); try go_wp2)
          go_ret2
          exact ⟨by first | rfl | (simp; done) | (simp [*]; done), by repeat (first | exact Drawn0.refl _ | apply Drawn0.step)⟩
         ·rw [if_neg c25] at H
          have c25b0 : decide (56319 < t192) = false := decide_eq_false c25
          clear c25
          have H' := Aside0.mk H
          clear H
          go_wp2
          repeat (go_quiet (fail); try go_wp2)
          go_loopg [12] kj21 (fun kq v12 w' => ∃ (x12_4 : Int), v12 = .int .i64 x12_4 ∧ Aside0 (ndjqref03_unicode.l0 kq a0 a1 t192 x12_4 = some (r1, r2)) ∧ Aside0 (kq ≤ kj21) ∧ Drawn0 w w')
          case atStart => exact ⟨(0), (by first | rfl | (simp; done) | (simp [*]; done)), H', ⟨Nat.le_refl _⟩, by repeat (first | exact Drawn0.refl _ | apply Drawn0.step)⟩
          case round =>
           clear H'
           (try clear c24); (try clear c25); (try clear c25b0)
           obtain ⟨x12_4, rfl, HA, HK4, ⟨m4, rfl⟩⟩ := hrel
           cases gk with
           | zero => exact absurd HA.out (by simp [ndjqref03_unicode.l0])
           | succ k4 =>
            have H := HA.out
            clear HA
            simp only [ndjqref03_unicode.l0] at H
            by_cases c26 : x12_4 < 2
            ·rw [if_pos c26] at H
             have c26b0 : decide (x12_4 < 2) = true := decide_eq_true c26
             clear c26
             by_cases c27 : (wrap64 ((wrap64 (a1 + 6)) + x12_4)) ≥ (a0.size : Int)
             ·rw [if_pos c27] at H
              have c27b0 : decide ((a0.size : Int) ≤ (wrap64 ((wrap64 (a1 + 6)) + x12_4))) = true := decide_eq_true c27
              clear c27
              simp only [Option.some.injEq, Prod.mk.injEq] at H
              obtain ⟨rfl, rfl⟩ := H
              go_wp2
              repeat (go_quiet (fail); try go_wp2)
              go_ret2
              exact ⟨by first | rfl | (simp; done) | (simp [*]; done), by repeat (first | exact Drawn0.refl _ | apply Drawn0.step)⟩
             ·rw [if_neg c27] at H
              have c27b0 : decide ((a0.size : Int) ≤ (wrap64 ((wrap64 (a1 + 6)) + x12_4))) = false := decide_eq_false c27
              clear c27
              obtain ⟨ji28, hji28⟩ : ∃ j_ : Int, (wrap64 ((wrap64 (a1 + 6)) + x12_4)) = j_ := ⟨_, rfl⟩
              replace H : (if 0 ≤ (ji28) then (if (ji28) < (a0.size : Int) then (if 0 ≤ x12_4 then (if (bt a0 (ji28)) = (bt (⟨#[92, 117]⟩ : ByteArray) x12_4) then (ndjqref03_unicode.l0 k4 a0 a1 t192 (wrap64 (x12_4 + 1))) else (some (0, (-1)))) else (none)) else (none)) else (none)) = some (r1, r2) := by first | (rw [hji28] at H; exact H) | (simp only [hji28] at H ⊢; exact H)
              (try rw [hji28] at c27b0)
              have hji28w : (IntKind.i64.wrap ((wrap64 (a1 + 6)) + x12_4)) = ji28 := (i64_w _).trans hji28
              by_cases c29 : 0 ≤ (ji28)
              ·rw [if_pos c29] at H
               have c29b0 : decide (0 ≤ (ji28)) = true := decide_eq_true c29
               clear c29
               by_cases c30 : (ji28) < (a0.size : Int)
               ·rw [if_pos c30] at H
                have c30b0 : decide ((ji28) < (a0.size : Int)) = true := decide_eq_true c30
                clear c30
                by_cases c32 : 0 ≤ x12_4
                ·rw [if_pos c32] at H
                 have c32b0 : decide (0 ≤ x12_4) = true := decide_eq_true c32
                 clear c32
                 by_cases c34 : (bt a0 (ji28)) = (bt (⟨#[92, 117]⟩ : ByteArray) x12_4)
                 ·rw [if_pos c34] at H
                  have c34b0 : ((bt a0 (ji28)) == (bt (⟨#[92, 117]⟩ : ByteArray) x12_4)) = true := beq_iff_eq.mpr c34
                  have c34b1 : ((bt a0 (ji28)) != (bt (⟨#[92, 117]⟩ : ByteArray) x12_4)) = false := bne_eq_false_iff_eq.mpr c34
                  clear c34
                  have H' := Aside0.mk H
                  clear H
                  have p31 : 0 ≤ ((ji28) : Int) := of_decide_eq_true (by first | (with_reducible assumption) | assumption)
                  have q31 : (ji28) < (a0.size : Int) := of_decide_eq_true (by first | (with_reducible assumption) | assumption)
                  have hx31 := bt_at a0 (ji28)
                  replace p31 := eq_true p31; replace q31 := eq_true q31
                  have p33 : 0 ≤ (x12_4 : Int) := of_decide_eq_true (by first | (with_reducible assumption) | assumption)
                  have q33 : x12_4 < (2 : Int) := of_decide_eq_true (by first | (with_reducible assumption) | assumption)
                  have hx33 := bt_at (⟨#[92, 117]⟩ : ByteArray) x12_4
                  replace p33 := eq_true p33; replace q33 := eq_true q33
                  go_wp2
                  repeat (go_quiet (fail); try go_wp2)
                  go_roundg k4
                  case measure => have := HJ3.out; have := HJ6.out; have := HJ21.out; have := HK4.out; omega
                  case rel => exact ⟨(wrap64 (x12_4 + 1)), (by first | rfl | (simp; done) | (simp [*]; done)), H', ⟨by have := HJ3.out; have := HJ6.out; have := HJ21.out; have := HK4.out; omega⟩, by repeat (first | exact Drawn0.refl _ | apply Drawn0.step)⟩
                 ·rw [if_neg c34] at H
                  have c34b0 : ((bt a0 (ji28)) == (bt (⟨#[92, 117]⟩ : ByteArray) x12_4)) = false := beq_eq_false_iff_ne.mpr c34
                  have c34b1 : ((bt a0 (ji28)) != (bt (⟨#[92, 117]⟩ : ByteArray) x12_4)) = true := bne_iff_ne.mpr c34
                  simp only [Option.some.injEq, Prod.mk.injEq] at H
                  obtain ⟨rfl, rfl⟩ := H
                  have p31 : 0 ≤ ((ji28) : Int) := of_decide_eq_true (by first | (with_reducible assumption) | assumption)
                  have q31 : (ji28) < (a0.size : Int) := of_decide_eq_true (by first | (with_reducible assumption) | assumption)
                  have hx31 := bt_at a0 (ji28)
                  replace p31 := eq_true p31; replace q31 := eq_true q31
                  have p33 : 0 ≤ (x12_4 : Int) := of_decide_eq_true (by first | (with_reducible assumption) | assumption)
                  have q33 : x12_4 < (2 : Int) := of_decide_eq_true (by first | (with_reducible assumption) | assumption)
                  have hx33 := bt_at (⟨#[92, 117]⟩ : ByteArray) x12_4
                  replace p33 := eq_true p33; replace q33 := eq_true q33
                  go_wp2
                  repeat (go_quiet (fail); try go_wp2)
                  go_ret2
                  exact ⟨by first | rfl | (simp; done) | (simp only [← hji28] <;> (first | rfl | (simp; done))) | (simp [*]; done), by repeat (first | exact Drawn0.refl _ | apply Drawn0.step)⟩
                ·rw [if_neg c32] at H
                 exact absurd H (by simp)
               ·rw [if_neg c30] at H
                exact absurd H (by simp)
              ·rw [if_neg c29] at H
               exact absurd H (by simp)
            ·rw [if_neg c26] at H
             have c26b0 : decide (x12_4 < 2) = false := decide_eq_false c26
             clear c26
             replace H := Option.bind_eq_some_iff.mp H
             obtain ⟨⟨t197, t198⟩, A350, H⟩ := H
             replace H : (if t197 < 4 then (some (0, t198)) else (some (wrap64 ((wrap64 (65536 + (wrap64 ((wrap64 (t192 - 55296)) * 1024)))) + (wrap64 (t198 - 56320))), 12))) = some (r1, r2) := H
             have A35 := Aside0.mk A350
             clear A350
             by_cases c36 : t197 < 4
             ·rw [if_pos c36] at H
              have c36b0 : decide (t197 < 4) = true := decide_eq_true c36
              clear c36
              simp only [Option.some.injEq, Prod.mk.injEq] at H
              obtain ⟨rfl, rfl⟩ := H
              go_wp2_with (first | (go_at_call 47; (with_reducible refine (ndjqref03_quad.calls k4 a0 (wrap64 (a1 + 8)) 56320 57343 t197 t198 _ A35.out).mono ?_); rintro e w' ⟨rfl, ⟨nd, rfl⟩⟩; (try first | exact ⟨rfl, _, World.drewN_drewN _ _ _⟩ | exact ⟨rfl, _, Eq.trans (World.drewN_drewN _ _ _) (congrArg (World.drewN _) (Nat.add_assoc _ _ _))⟩)))
              repeat (go_quiet (first | (go_at_call 47; (with_reducible refine (ndjqref03_quad.calls k4 a0 (wrap64 (a1 + 8)) 56320 57343 t197 t198 _ A35.out).mono ?_); rintro e w' ⟨rfl, ⟨nd, rfl⟩⟩; (try first | exact ⟨rfl, _, World.drewN_drewN _ _ _⟩ | exact ⟨rfl, _, Eq.trans (World.drewN_drewN _ _ _) (congrArg (World.drewN _) (Nat.add_assoc _ _ _))⟩))); try go_wp2_with (first | (go_at_call 47; (with_reducible refine (ndjqref03_quad.calls k4 a0 (wrap64 (a1 + 8)) 56320 57343 t197 t198 _ A35.out).mono ?_); rintro e w' ⟨rfl, ⟨nd, rfl⟩⟩; (try first | exact ⟨rfl, _, World.drewN_drewN _ _ _⟩ | exact ⟨rfl, _, Eq.trans (World.drewN_drewN _ _ _) (congrArg (World.drewN _) (Nat.add_assoc _ _ _))⟩))))
              go_ret2
              exact ⟨by first | rfl | (simp; done) | (simp [*]; done), by repeat (first | exact Drawn0.refl _ | apply Drawn0.step)⟩
             ·rw [if_neg c36] at H
              have c36b0 : decide (t197 < 4) = false := decide_eq_false c36
              clear c36
              simp only [Option.some.injEq, Prod.mk.injEq] at H
              obtain ⟨rfl, rfl⟩ := H
              go_wp2_with (first | (go_at_call 47; (with_reducible refine (ndjqref03_quad.calls k4 a0 (wrap64 (a1 + 8)) 56320 57343 t197 t198 _ A35.out).mono ?_); rintro e w' ⟨rfl, ⟨nd, rfl⟩⟩; (try first | exact ⟨rfl, _, World.drewN_drewN _ _ _⟩ | exact ⟨rfl, _, Eq.trans (World.drewN_drewN _ _ _) (congrArg (World.drewN _) (Nat.add_assoc _ _ _))⟩)))
              repeat (go_quiet (first | (go_at_call 47; (with_reducible refine (ndjqref03_quad.calls k4 a0 (wrap64 (a1 + 8)) 56320 57343 t197 t198 _ A35.out).mono ?_); rintro e w' ⟨rfl, ⟨nd, rfl⟩⟩; (try first | exact ⟨rfl, _, World.drewN_drewN _ _ _⟩ | exact ⟨rfl, _, Eq.trans (World.drewN_drewN _ _ _) (congrArg (World.drewN _) (Nat.add_assoc _ _ _))⟩))); try go_wp2_with (first | (go_at_call 47; (with_reducible refine (ndjqref03_quad.calls k4 a0 (wrap64 (a1 + 8)) 56320 57343 t197 t198 _ A35.out).mono ?_); rintro e w' ⟨rfl, ⟨nd, rfl⟩⟩; (try first | exact ⟨rfl, _, World.drewN_drewN _ _ _⟩ | exact ⟨rfl, _, Eq.trans (World.drewN_drewN _ _ _) (congrArg (World.drewN _) (Nat.add_assoc _ _ _))⟩))))
              go_ret2
              exact ⟨by first | rfl | (simp; done) | (simp [*]; done), by repeat (first | exact Drawn0.refl _ | apply Drawn0.step)⟩

/-! ### ndjqref03_escape: function 35 -/
def ndjqref03_escape.j0 : Nat → ByteArray → Int → Int → Bool → Option (Int × Int)
  | 0, _, _, _, _ => none
  | k + 1, x0, x1, x14, x15 => if x15 = true then (if 0 ≤ (wrap64 (x1 + 1)) then (if (wrap64 (x1 + 1)) < (x0.size : Int) then (some (wrap64 (bt x0 (wrap64 (x1 + 1))), 2)) else (none)) else (none)) else (if x14 = 98 then (some (8, 2)) else (if x14 = 102 then (some (12, 2)) else (if x14 = 110 then (some (10, 2)) else (if x14 = 114 then (some (13, 2)) else (if x14 = 116 then (some (9, 2)) else (if x14 = 117 then ((ndjqref03_unicode.f k x0 x1).bind fun bt199 => (some (bt199.1, bt199.2))) else (some (0, (-1)))))))))
def ndjqref03_escape.f (k : Nat) (a0 : ByteArray) (a1 : Int) : Option (Int × Int) := if (wrap64 (a1 + 1)) ≥ (a0.size : Int) then (some (0, 0)) else (if 0 ≤ (wrap64 (a1 + 1)) then (if (wrap64 (a1 + 1)) < (a0.size : Int) then (if (bt a0 (wrap64 (a1 + 1))) = 34 then (ndjqref03_escape.j0 k a0 a1 (bt a0 (wrap64 (a1 + 1))) ((bt a0 (wrap64 (a1 + 1))) == 34)) else (if (bt a0 (wrap64 (a1 + 1))) = 92 then (ndjqref03_escape.j0 k a0 a1 (bt a0 (wrap64 (a1 + 1))) ((bt a0 (wrap64 (a1 + 1))) == 92)) else (ndjqref03_escape.j0 k a0 a1 (bt a0 (wrap64 (a1 + 1))) ((bt a0 (wrap64 (a1 + 1))) == 47)))) else (none)) else (none))
theorem ndjqref03_escape.mono_l : ∀ k, (∀ y0 y1 y2 y3, LeO (ndjqref03_escape.j0 k y0 y1 y2 y3) (ndjqref03_escape.j0 (k + 1) y0 y1 y2 y3))
  | 0 => fun _ _ _ _ r h => by simp [ndjqref03_escape.j0] at h
  | k + 1 => by
    have ih0 := ndjqref03_escape.mono_l k
    · intro y0 y1 y2 y3
      unfold ndjqref03_escape.j0
      repeat' first
      | (with_reducible exact ih0 _ _ _ _)
      | (with_reducible exact ndjqref03_unicode.mono _ _ _)
      | (with_reducible exact LeO.refl _)
      | (with_reducible exact LeO.none _)
      | (with_reducible refine LeO.ite ?_ ?_)
      | (with_reducible refine LeO.bind ?_ (fun _ => ?_))
      | exact ih0 _ _ _ _
      | exact ndjqref03_unicode.mono _ _ _
      | exact LeO.none _
      | refine LeO.ite ?_ ?_
      | refine LeO.bind ?_ (fun _ => ?_)
theorem ndjqref03_escape.mono : ∀ a0 a1 k, LeO (ndjqref03_escape.f k a0 a1) (ndjqref03_escape.f (k + 1) a0 a1) := by
  intro a0 a1 k
  have ih0 := ndjqref03_escape.mono_l k
  unfold ndjqref03_escape.f
  repeat' first
      | (with_reducible exact ih0 _ _ _ _)
      | (with_reducible exact ndjqref03_unicode.mono _ _ _)
      | (with_reducible exact LeO.refl _)
      | (with_reducible exact LeO.none _)
      | (with_reducible refine LeO.ite ?_ ?_)
      | (with_reducible refine LeO.bind ?_ (fun _ => ?_))
      | exact ih0 _ _ _ _
      | exact ndjqref03_unicode.mono _ _ _
      | exact LeO.none _
      | refine LeO.ite ?_ ?_
      | refine LeO.bind ?_ (fun _ => ?_)
set_option maxHeartbeats 8000000 in
set_option maxRecDepth 100000 in
theorem ndjqref03_escape.calls (k : Nat) (a0 : ByteArray) (a1 : Int) (r1 : Int) (r2 : Int) (w : World) (h : ndjqref03_escape.f k a0 a1 = some (r1, r2)) :
    Calls Try.prog 35 #[.string a0, .int .i64 a1] w fun e w' => e = .returned (.tuple #[.int .i64 r1, .int .i64 r2]) ∧ Drawn0 w w' := by
  have H : (if (wrap64 (a1 + 1)) ≥ (a0.size : Int) then (some (0, 0)) else (if 0 ≤ (wrap64 (a1 + 1)) then (if (wrap64 (a1 + 1)) < (a0.size : Int) then (if (bt a0 (wrap64 (a1 + 1))) = 34 then (ndjqref03_escape.j0 k a0 a1 (bt a0 (wrap64 (a1 + 1))) ((bt a0 (wrap64 (a1 + 1))) == 34)) else (if (bt a0 (wrap64 (a1 + 1))) = 92 then (ndjqref03_escape.j0 k a0 a1 (bt a0 (wrap64 (a1 + 1))) ((bt a0 (wrap64 (a1 + 1))) == 92)) else (ndjqref03_escape.j0 k a0 a1 (bt a0 (wrap64 (a1 + 1))) ((bt a0 (wrap64 (a1 + 1))) == 47)))) else (none)) else (none))) = some (r1, r2) := h
  clear h
  by_cases c3 : (wrap64 (a1 + 1)) ≥ (a0.size : Int)
  · rw [if_pos c3] at H
    have c3b0 : decide ((a0.size : Int) ≤ (wrap64 (a1 + 1))) = true := decide_eq_true c3
    clear c3
    simp only [Option.some.injEq, Prod.mk.injEq] at H
    obtain ⟨rfl, rfl⟩ := H
    go_enter Try.func35, Try.ntmps35
    go_wp2
    go_ret2
    exact ⟨by first | rfl | (simp; done) | (simp [*]; done), by repeat (first | exact Drawn0.refl _ | apply Drawn0.step)⟩
  · rw [if_neg c3] at H
    have c3b0 : decide ((a0.size : Int) ≤ (wrap64 (a1 + 1))) = false := decide_eq_false c3
    clear c3
    obtain ⟨ji4, hji4⟩ : ∃ j_ : Int, (wrap64 (a1 + 1)) = j_ := ⟨_, rfl⟩
    replace H : (if 0 ≤ (ji4) then (if (ji4) < (a0.size : Int) then (if (bt a0 (ji4)) = 34 then (ndjqref03_escape.j0 k a0 a1 (bt a0 (ji4)) ((bt a0 (ji4)) == 34)) else (if (bt a0 (ji4)) = 92 then (ndjqref03_escape.j0 k a0 a1 (bt a0 (ji4)) ((bt a0 (ji4)) == 92)) else (ndjqref03_escape.j0 k a0 a1 (bt a0 (ji4)) ((bt a0 (ji4)) == 47)))) else (none)) else (none)) = some (r1, r2) := by first | (rw [hji4] at H; exact H) | (simp only [hji4] at H ⊢; exact H)
    (try rw [hji4] at c3b0)
    have hji4w : (IntKind.i64.wrap (a1 + 1)) = ji4 := (i64_w _).trans hji4
    by_cases c5 : 0 ≤ (ji4)
    · rw [if_pos c5] at H
      have c5b0 : decide (0 ≤ (ji4)) = true := decide_eq_true c5
      clear c5
      by_cases c6 : (ji4) < (a0.size : Int)
      · rw [if_pos c6] at H
        have c6b0 : decide ((ji4) < (a0.size : Int)) = true := decide_eq_true c6
        clear c6
        have HC8 := Aside0.mk H
        clear H
        have p7 : 0 ≤ ((ji4) : Int) := of_decide_eq_true (by first | (with_reducible assumption) | assumption)
        have q7 : (ji4) < (a0.size : Int) := of_decide_eq_true (by first | (with_reducible assumption) | assumption)
        have hx7 := bt_at a0 (ji4)
        replace p7 := eq_true p7
        replace q7 := eq_true q7
        go_enter Try.func35, Try.ntmps35
        go_upto_if 15 with (fail)
        go_cut [15] (fun v15 wc => ∃ (kq : Nat) (x15_7 : Bool), v15 = .bool x15_7 ∧ Aside0 (ndjqref03_escape.j0 kq a0 a1 (bt a0 (ji4)) x15_7 = some (r1, r2)) ∧ Aside0 (kq ≤ k) ∧ Drawn0 w wc)
        case first =>
          have H := HC8.out
          clear HC8
          by_cases c9 : (bt a0 (ji4)) = 34
          · rw [if_pos c9] at H
            have c9b0 : ((bt a0 (ji4)) == 34) = true := beq_iff_eq.mpr c9
            have c9b1 : ((bt a0 (ji4)) != 34) = false := bne_eq_false_iff_eq.mpr c9
            clear c9
            (first | rw [c9b0] | (simp only [i64_w, i32_w]; rw [c9b0]) | skip)
            have H' := Aside0.mk H
            clear H
            go_wp2
            go_meet
            case rel => exact ⟨_, (((bt a0 (ji4)) == 34)), (by first | rfl | (simp; done) | (simp only [← hji4] <;> (first | rfl | (simp; done))) | (simp [*]; done)), H', ⟨by first | omega | exact Nat.le_refl _⟩, by repeat (first | exact Drawn0.refl _ | apply Drawn0.step)⟩
          · rw [if_neg c9] at H
            have c9b0 : ((bt a0 (ji4)) == 34) = false := beq_eq_false_iff_ne.mpr c9
            have c9b1 : ((bt a0 (ji4)) != 34) = true := bne_iff_ne.mpr c9
            (first | rw [c9b0] | (simp only [i64_w, i32_w]; rw [c9b0]) | skip)
            by_cases c10 : (bt a0 (ji4)) = 92
            · rw [if_pos c10] at H
              have c10b0 : ((bt a0 (ji4)) == 92) = true := beq_iff_eq.mpr c10
              have c10b1 : ((bt a0 (ji4)) != 92) = false := bne_eq_false_iff_eq.mpr c10
              clear c10
              have H' := Aside0.mk H
              clear H
              go_wp2
              go_meet
              case rel => exact ⟨_, (((bt a0 (ji4)) == 92)), (by first | rfl | (simp; done) | (simp only [← hji4] <;> (first | rfl | (simp; done))) | (simp [*]; done)), H', ⟨by first | omega | exact Nat.le_refl _⟩, by repeat (first | exact Drawn0.refl _ | apply Drawn0.step)⟩
            · rw [if_neg c10] at H
              have c10b0 : ((bt a0 (ji4)) == 92) = false := beq_eq_false_iff_ne.mpr c10
              have c10b1 : ((bt a0 (ji4)) != 92) = true := bne_iff_ne.mpr c10
              have H' := Aside0.mk H
              clear H
              go_wp2
              go_meet
              case rel => exact ⟨_, (((bt a0 (ji4)) == 47)), (by first | rfl | (simp; done) | (simp only [← hji4] <;> (first | rfl | (simp; done))) | (simp [*]; done)), H', ⟨by first | omega | exact Nat.le_refl _⟩, by repeat (first | exact Drawn0.refl _ | apply Drawn0.step)⟩
        case rest =>
          clear HC8
          (try clear c1); (try clear p2); (try clear c3); (try clear c3b0); (try clear c5); (try clear c5b0); (try clear c6); (try clear c6b0); (try clear p6); (try clear p7); (try clear q7); (try clear hx7); (try clear c9); (try clear c9b0); (try clear c9b1); (try clear c10); (try clear c10b0); (try clear c10b1); (try clear p7); (try clear q7)
          obtain ⟨kq, x15_7, rfl, HA, HJ7, ⟨mc7, rfl⟩⟩ := hcut
          cases kq with
          | zero => exact absurd HA.out (by simp [ndjqref03_escape.j0])
          | succ kj7 =>
            have H := HA.out
            clear HA
            simp only [ndjqref03_escape.j0] at H
            by_cases c11 : x15_7 = true
            · subst c11
              have H1 : (if 0 ≤ (wrap64 (a1 + 1)) then (if (wrap64 (a1 + 1)) < (a0.size : Int) then (some (wrap64 (bt a0 (wrap64 (a1 + 1))), 2)) else (none)) else (none)) = some (r1, r2) := by rw [if_pos rfl] at H; exact H
              clear H
              have H := H1
              clear H1
              replace H : (if 0 ≤ (ji4) then (if (ji4) < (a0.size : Int) then (some (wrap64 (bt a0 (ji4)), 2)) else (none)) else (none)) = some (r1, r2) := by first | (rw [hji4] at H; exact H) | (simp only [hji4] at H ⊢; exact H)
              (try rw [hji4] at c3b0)
              by_cases c13 : 0 ≤ (ji4)
              · rw [if_pos c13] at H
                have c13b0 : decide (0 ≤ (ji4)) = true := decide_eq_true c13
                clear c13
                by_cases c14 : (ji4) < (a0.size : Int)
                · rw [if_pos c14] at H
                  have c14b0 : decide ((ji4) < (a0.size : Int)) = true := decide_eq_true c14
                  clear c14
                  simp only [Option.some.injEq, Prod.mk.injEq] at H
                  obtain ⟨rfl, rfl⟩ := H
                  have p15 : 0 ≤ ((ji4) : Int) := of_decide_eq_true (by first | (with_reducible assumption) | assumption)
                  have q15 : (ji4) < (a0.size : Int) := of_decide_eq_true (by first | (with_reducible assumption) | assumption)
                  have hx15 := bt_at a0 (ji4)
                  replace p15 := eq_true p15
                  replace q15 := eq_true q15
                  go_wp2
                  go_ret2
                  exact ⟨by first | rfl | (simp; done) | (simp only [← hji4] <;> (first | rfl | (simp; done))) | (simp [*]; done), by repeat (first | exact Drawn0.refl _ | apply Drawn0.step)⟩
                · rw [if_neg c14] at H
                  exact absurd H (by simp)
              · rw [if_neg c13] at H
                exact absurd H (by simp)
            · replace c11 := Bool.eq_false_iff.mpr c11
              subst c11
              have H1 : (if (bt a0 (ji4)) = 98 then (some (8, 2)) else (if (bt a0 (ji4)) = 102 then (some (12, 2)) else (if (bt a0 (ji4)) = 110 then (some (10, 2)) else (if (bt a0 (ji4)) = 114 then (some (13, 2)) else (if (bt a0 (ji4)) = 116 then (some (9, 2)) else (if (bt a0 (ji4)) = 117 then ((ndjqref03_unicode.f kj7 a0 a1).bind fun bt199 => (some (bt199.1, bt199.2))) else (some (0, (-1))))))))) = some (r1, r2) := by rw [if_neg (show ¬ (false = true) by decide)] at H; exact H
              clear H
              have H := H1
              clear H1
              by_cases c16 : (bt a0 (ji4)) = 98
              · rw [if_pos c16] at H
                have c16b0 : ((bt a0 (ji4)) == 98) = true := beq_iff_eq.mpr c16
                have c16b1 : ((bt a0 (ji4)) != 98) = false := bne_eq_false_iff_eq.mpr c16
                clear c16
                simp only [Option.some.injEq, Prod.mk.injEq] at H
                obtain ⟨rfl, rfl⟩ := H
                go_wp2
                go_ret2
                exact ⟨by first | rfl | (simp; done) | (simp only [← hji4] <;> (first | rfl | (simp; done))) | (simp [*]; done), by repeat (first | exact Drawn0.refl _ | apply Drawn0.step)⟩
              · rw [if_neg c16] at H
                have c16b0 : ((bt a0 (ji4)) == 98) = false := beq_eq_false_iff_ne.mpr c16
                have c16b1 : ((bt a0 (ji4)) != 98) = true := bne_iff_ne.mpr c16
                by_cases c17 : (bt a0 (ji4)) = 102
                · rw [if_pos c17] at H
                  have c17b0 : ((bt a0 (ji4)) == 102) = true := beq_iff_eq.mpr c17
                  have c17b1 : ((bt a0 (ji4)) != 102) = false := bne_eq_false_iff_eq.mpr c17
                  clear c17
                  simp only [Option.some.injEq, Prod.mk.injEq] at H
                  obtain ⟨rfl, rfl⟩ := H
                  go_wp2
                  go_ret2
                  exact ⟨by first | rfl | (simp; done) | (simp only [← hji4] <;> (first | rfl | (simp; done))) | (simp [*]; done), by repeat (first | exact Drawn0.refl _ | apply Drawn0.step)⟩
                · rw [if_neg c17] at H
                  have c17b0 : ((bt a0 (ji4)) == 102) = false := beq_eq_false_iff_ne.mpr c17
                  have c17b1 : ((bt a0 (ji4)) != 102) = true := bne_iff_ne.mpr c17
                  by_cases c18 : (bt a0 (ji4)) = 110
                  · rw [if_pos c18] at H
                    have c18b0 : ((bt a0 (ji4)) == 110) = true := beq_iff_eq.mpr c18
                    have c18b1 : ((bt a0 (ji4)) != 110) = false := bne_eq_false_iff_eq.mpr c18
                    clear c18
                    simp only [Option.some.injEq, Prod.mk.injEq] at H
                    obtain ⟨rfl, rfl⟩ := H
                    go_wp2
                    go_ret2
                    exact ⟨by first | rfl | (simp; done) | (simp only [← hji4] <;> (first | rfl | (simp; done))) | (simp [*]; done), by repeat (first | exact Drawn0.refl _ | apply Drawn0.step)⟩
                  · rw [if_neg c18] at H
                    have c18b0 : ((bt a0 (ji4)) == 110) = false := beq_eq_false_iff_ne.mpr c18
                    have c18b1 : ((bt a0 (ji4)) != 110) = true := bne_iff_ne.mpr c18
                    by_cases c19 : (bt a0 (ji4)) = 114
                    · rw [if_pos c19] at H
                      have c19b0 : ((bt a0 (ji4)) == 114) = true := beq_iff_eq.mpr c19
                      have c19b1 : ((bt a0 (ji4)) != 114) = false := bne_eq_false_iff_eq.mpr c19
                      clear c19
                      simp only [Option.some.injEq, Prod.mk.injEq] at H
                      obtain ⟨rfl, rfl⟩ := H
                      go_wp2
                      go_ret2
                      exact ⟨by first | rfl | (simp; done) | (simp only [← hji4] <;> (first | rfl | (simp; done))) | (simp [*]; done), by repeat (first | exact Drawn0.refl _ | apply Drawn0.step)⟩
                    · rw [if_neg c19] at H
                      have c19b0 : ((bt a0 (ji4)) == 114) = false := beq_eq_false_iff_ne.mpr c19
                      have c19b1 : ((bt a0 (ji4)) != 114) = true := bne_iff_ne.mpr c19
                      by_cases c20 : (bt a0 (ji4)) = 116
                      · rw [if_pos c20] at H
                        have c20b0 : ((bt a0 (ji4)) == 116) = true := beq_iff_eq.mpr c20
                        have c20b1 : ((bt a0 (ji4)) != 116) = false := bne_eq_false_iff_eq.mpr c20
                        clear c20
                        simp only [Option.some.injEq, Prod.mk.injEq] at H
                        obtain ⟨rfl, rfl⟩ := H
                        go_wp2
                        go_ret2
                        exact ⟨by first | rfl | (simp; done) | (simp only [← hji4] <;> (first | rfl | (simp; done))) | (simp [*]; done), by repeat (first | exact Drawn0.refl _ | apply Drawn0.step)⟩
                      · rw [if_neg c20] at H
                        have c20b0 : ((bt a0 (ji4)) == 116) = false := beq_eq_false_iff_ne.mpr c20
                        have c20b1 : ((bt a0 (ji4)) != 116) = true := bne_iff_ne.mpr c20
                        by_cases c21 : (bt a0 (ji4)) = 117
                        · rw [if_pos c21] at H
                          have c21b0 : ((bt a0 (ji4)) == 117) = true := beq_iff_eq.mpr c21
                          have c21b1 : ((bt a0 (ji4)) != 117) = false := bne_eq_false_iff_eq.mpr c21
                          clear c21
                          replace H := Option.bind_eq_some_iff.mp H
                          obtain ⟨⟨t199, t200⟩, A220, H⟩ := H
                          replace H : (some (t199, t200)) = some (r1, r2) := H
                          have A22 := Aside0.mk A220
                          clear A220
                          simp only [Option.some.injEq, Prod.mk.injEq] at H
                          obtain ⟨rfl, rfl⟩ := H
                          go_wp2_with (first | ((with_reducible refine gate_callee (f := 44) rfl ?_); refine goesL_ (some 38) rfl rfl Try.func44 (by kernel_rfl) rfl #[.string a0, .int .i64 a1] rfl (by (try simp only [List.map_toArray, List.map_cons, List.map_nil]); first | done | rfl | (simp only [List.length_drop, List.length_take]; rfl)) ?_; (with_reducible refine (ndjqref03_unicode.calls kj7 a0 a1 t199 t200 _ A22.out).mono ?_); rintro e w' ⟨rfl, ⟨nd, rfl⟩⟩; refine ⟨_, rfl, ?_⟩))
                          go_ret2
                          exact ⟨by first | rfl | (simp; done) | (simp only [← hji4] <;> (first | rfl | (simp; done))) | (simp [*]; done), by repeat (first | exact Drawn0.refl _ | apply Drawn0.step)⟩
                        · rw [if_neg c21] at H
                          have c21b0 : ((bt a0 (ji4)) == 117) = false := beq_eq_false_iff_ne.mpr c21
                          have c21b1 : ((bt a0 (ji4)) != 117) = true := bne_iff_ne.mpr c21
                          simp only [Option.some.injEq, Prod.mk.injEq] at H
                          obtain ⟨rfl, rfl⟩ := H
                          go_wp2
                          go_ret2
                          exact ⟨by first | rfl | (simp; done) | (simp only [← hji4] <;> (first | rfl | (simp; done))) | (simp [*]; done), by repeat (first | exact Drawn0.refl _ | apply Drawn0.step)⟩
      · rw [if_neg c6] at H
        exact absurd H (by simp)
    · rw [if_neg c5] at H
      exact absurd H (by simp)

end Go.Proofs.Ytcnojfoiolbnaaa.QJsonlexStrings
