/- The reference's measure, by hand. -/
import Derived.Test.YtgpjkojnmeaoiaaKB
import Derived.Deep.QuietTactic
import Derived.BigQuiet
import Derived.Deep.RegionHeld3
import Derived.Deep.DeepCutAuto
import Derived.Deep.CutRange
/- The reference's measure, by hand. -/
namespace Go.Proofs.Ytgpjkojnmeaoiaa.QV
open Go Go.RowKit Go.Proofs.YtgpjkojnmeaoiaaW.PrintWords Go.Proofs.YtgpjkojnmeaoiaaW.PrintLast Go.Proofs.YtgpjkojnmeaoiaaW.PrintMore
set_option linter.unusedVariables false
set_option linter.unusedSimpArgs false
set_option maxRecDepth 100000
set_option maxHeartbeats 4000000
mutual
def okr : Nat → S28 → Bool
  | ar, ⟨a, b, s, ks, es⟩ => decide (0 ≤ a) && decide (a ≤ 6) && kz ⟨a, b, s, ks, es⟩ && decide (s.size ≤ 4096) && u8 s && decide (es.length ≤ 1024) && (a != 6 || ks.length == es.length) && (decide (a < 5) || decide (ar < 32)) && ko none ks && okrL (ar + 1) es
def okrL : Nat → List S28 → Bool
  | _, [] => true
  | ar, e :: l => okr ar e && okrL ar l
end
theorem okr_eq (ar : Nat) (x : S28) : okr ar x = (decide (0 ≤ x.f0) && decide (x.f0 ≤ 6) && kz x && decide (x.f2.size ≤ 4096) && u8 x.f2 && decide (x.f4.length ≤ 1024) && (x.f0 != 6 || x.f3.length == x.f4.length) && (decide (x.f0 < 5) || decide (ar < 32)) && ko none x.f3 && okrL (ar + 1) x.f4) := by obtain ⟨a, b, c, d, e⟩ := x; rw [okr]
theorem okrL_app (ar : Nat) (l m : List S28) : okrL ar (l ++ m) = (okrL ar l && okrL ar m) := by
  induction l with
  | nil => simp [okrL]
  | cons k l ih => simp only [List.cons_append, okrL, ih, Bool.and_assoc]
theorem okrL_take {ar : Nat} {l : List S28} {i : Nat} {k : S28} (h : l[i]? = some k) : okrL ar (l.take (i + 1)) = (okrL ar (l.take i) && okr ar k) := by
  rw [List.take_add_one, h, okrL_app]
  simp [okrL]
theorem okrL_le {ar : Nat} (l : List S28) (i : Nat) : okrL ar l = true → okrL ar (l.take i) = true := by
  have h := okrL_app ar (l.take i) (l.drop i)
  rw [List.take_append_drop] at h
  intro e
  rw [h] at e
  simpa using (Bool.and_eq_true_iff.1 e).1
/-- Whether measure answers. -/
def mr (ar : Nat) (x : S28) : Bool := okr ar x && (x.f4.length == 0 || (decide (nds x ≤ 4096) && decide (bts x ≤ 65536)))
theorem mr_o {ar : Nat} {x : S28} (h : okr ar x = false) : mr ar x = false := by unfold mr; rw [h]; rfl
def MePost (ar : Nat) (x : S28) (w : World) (e : Ending) (w' : World) : Prop := e = .returned (if mr ar x = true then .tuple #[.int .i64 (nds x : Int), .int .i64 (bts x : Int), .bool true] else .tuple #[.int .i64 0, .int .i64 0, .bool false]) ∧ Below w.heap.size w w'
theorem measC (st : Nat) : ∀ (x : S28) (ar : Nat) (w : World) {A3 : Option Addr} {c3 : Nat} {A4 : Option Addr} {c4 : Nat}, SizeOf.sizeOf x < st → Wv x → cnt x ≤ 1000000000000000 → ar ≤ 40 → Rd w A3 c3 A4 c4 x →
    Calls Try.prog 60 #[.agg #[.int .i64 x.f0, .int .i64 x.f1, .string x.f2, .slice A3 x.f3.length c3, .slice A4 x.f4.length c4], .int .i64 (ar : Int)] w (MePost ar x w) := by
  induction st with
  | zero => intro x ar w A3 c3 A4 c4 h; omega
  | succ st ih =>
  intro x ar w A3 c3 A4 c4 hs hx hc har hr
  obtain ⟨a, b, s, ks, es⟩ := x
  have HS := Aside0.mk hs
  have HX := Aside0.mk hx
  have HC := Aside0.mk hc
  have HR := Aside0.mk hr
  have HIH := Aside0.mk ih
  have h1 := hx.s
  have h2 := hx.kl
  have h3 := hx.el
  have HU : Aside0 (∀ W, s.size ≤ 4096 → Calls Try.prog 45 #[.string s] W fun e w' => e = .returned (.bool (u8 s)) ∧ Below W.heap.size W w') := ⟨fun W hz => ru8C s (by omega) W⟩
  obtain ⟨u, hu⟩ : ∃ u, u8 s = u := ⟨_, rfl⟩
  rw [hu] at HU
  have Hu := Aside0.mk hu
  have HO : Aside0 True := ⟨trivial⟩
  have HP : Aside0 ((mr ar ⟨a, b, s, ks, es⟩ = true → ∀ (e : Ending) (w' : World), e = .returned (.tuple #[.int .i64 (nds ⟨a, b, s, ks, es⟩ : Int), .int .i64 (bts ⟨a, b, s, ks, es⟩ : Int), .bool true]) → Below w.heap.size w w' → MePost ar ⟨a, b, s, ks, es⟩ w e w') ∧
      (mr ar ⟨a, b, s, ks, es⟩ = false → ∀ (e : Ending) (w' : World), e = .returned (.tuple #[.int .i64 0, .int .i64 0, .bool false]) → Below w.heap.size w w' → MePost ar ⟨a, b, s, ks, es⟩ w e w')) :=
    ⟨fun h e w' h1 h2 => ⟨by rw [h, if_pos rfl]; exact h1, h2⟩, fun h e w' h1 h2 => ⟨by rw [h, if_neg (by decide)]; exact h1, h2⟩⟩
  dsimp only at *
  clear hx hr hs hc hu ih
  go_enter Try.func60, Try.ntmps60
  go_upto_region 1 with fail
  have HB := Aside0.mk (Bv.new (HR.out))
  have HW := Aside0.mk (new_below w (.cells #[.int .i64 ((S28.mk a b s ks es)).f0, .int .i64 ((S28.mk a b s ks es)).f1, .string ((S28.mk a b s ks es)).f2, .slice A3 ((S28.mk a b s ks es)).f3.length c3, .slice A4 ((S28.mk a b s ks es)).f4.length c4] 28))
  dsimp only at HB HW
  obtain ⟨bb, hb⟩ : ∃ b, w.heap.size = b := ⟨_, rfl⟩
  obtain ⟨W, hW⟩ : ∃ W, w.alloc (.cells #[.int .i64 a, .int .i64 b, .string s, .slice A3 ks.length c3, .slice A4 es.length c4] 28) = W := ⟨_, rfl⟩
  rw [hW, hb] at HB
  rw [hW] at HW
  rw [hW, hb]
  clear hW hb HR
  obtain ⟨q0, q1, q2, q3, q4⟩ := HB.out.cells
  dsimp only at q0 q1 q2 q3 q4
  obtain ⟨bz, hbz⟩ : ∃ bz, (decide (0 ≤ a) && decide (a ≤ 6) && kz ⟨a, b, s, ks, es⟩) = bz := ⟨_, rfl⟩
  have HBz := Aside0.mk hbz
  clear hbz
  go_cut [63] (fun v63 wc => v63 = .bool (!bz) ∧ wc = W)
  case first =>
    as_aux_lemma =>
      by_cases ha0 : 0 ≤ a
      rotate_left
      · have g0 : decide (a < 0) = true := decide_eq_true (by omega)
        have e : bz = false := by rw [← HBz.out]; simp [kz, ha0]
        subst e
        clear HBz
        go_wp2_with fail
        go_meet
        exact ⟨rfl, rfl⟩
      by_cases ha6 : a ≤ 6
      rotate_left
      · have g0 : decide (a < 0) = false := decide_eq_false (by omega)
        have g0' : decide (a > 6) = true := decide_eq_true (by omega)
        have e : bz = false := by rw [← HBz.out]; simp [kz, ha6]
        subst e
        clear HBz
        go_wp2_with fail
        go_meet
        exact ⟨rfl, rfl⟩
      have cls : a = 3 ∨ a = 4 ∨ a = 6 ∨ (a ≠ 3 ∧ a ≠ 4 ∧ a ≠ 6 ∧ a < 5) ∨ a = 5 := by omega
      clear ha6
      rcases cls with rfl | rfl | rfl | cls | rfl
      · skip
        by_cases ts : s.toList = []
        rotate_left
        · have HT := Aside0.mk ts
          obtain ⟨p2, p2'⟩ := isN ts
          clear ts
          have e : bz = false := by rw [← HBz.out]; simp [kz, HT.out]
          subst e
          clear HBz
          go_wp2_with fail
          go_meet
          exact ⟨rfl, rfl⟩
        have HTs := Aside0.mk ts
        obtain ⟨p2, p2'⟩ := isE ts
        clear ts
        by_cases tk : ks.length = 0
        rotate_left
        · have HT := Aside0.mk tk
          have p3 : decide (0 < ks.length) = true := decide_eq_true (by omega); have p3' : decide ((0 : Int) < (ks.length : Int)) = true := decide_eq_true (by omega)
          clear tk
          have e : bz = false := by rw [← HBz.out]; simp [kz, HT.out, HTs.out]
          subst e
          clear HBz
          go_wp2_with fail
          go_meet
          exact ⟨rfl, rfl⟩
        have HTk := Aside0.mk tk
        have p3 : decide (0 < ks.length) = false := decide_eq_false (by omega); have p3' : decide ((0 : Int) < (ks.length : Int)) = false := decide_eq_false (by omega)
        clear tk
        by_cases te : es.length = 0
        rotate_left
        · have HT := Aside0.mk te
          have p4 : decide (0 < es.length) = true := decide_eq_true (by omega); have p4' : decide ((0 : Int) < (es.length : Int)) = true := decide_eq_true (by omega)
          clear te
          have e : bz = false := by rw [← HBz.out]; simp [kz, HT.out, HTs.out, HTk.out]
          subst e
          clear HBz
          go_wp2_with fail
          go_meet
          exact ⟨rfl, rfl⟩
        have HTe := Aside0.mk te
        have p4 : decide (0 < es.length) = false := decide_eq_false (by omega); have p4' : decide ((0 : Int) < (es.length : Int)) = false := decide_eq_false (by omega)
        clear te
        have e : bz = true := by rw [← HBz.out]; simp [kz, HTs.out, HTk.out, HTe.out]
        subst e
        clear HBz
        go_wp2_with fail
        go_meet
        exact ⟨rfl, rfl⟩
      · skip
        by_cases tb : b = 0
        rotate_left
        · have HT := Aside0.mk tb
          have p1 : (b != 0) = true := by simpa using tb
          clear tb
          have e : bz = false := by rw [← HBz.out]; simp [kz, HT.out]
          subst e
          clear HBz
          go_wp2_with fail
          go_meet
          exact ⟨rfl, rfl⟩
        have HTb := Aside0.mk tb
        have p1 : (b != 0) = false := by rw [tb]; rfl
        clear tb
        by_cases tk : ks.length = 0
        rotate_left
        · have HT := Aside0.mk tk
          have p3 : decide (0 < ks.length) = true := decide_eq_true (by omega); have p3' : decide ((0 : Int) < (ks.length : Int)) = true := decide_eq_true (by omega)
          clear tk
          have e : bz = false := by rw [← HBz.out]; simp [kz, HT.out, HTb.out]
          subst e
          clear HBz
          go_wp2_with fail
          go_meet
          exact ⟨rfl, rfl⟩
        have HTk := Aside0.mk tk
        have p3 : decide (0 < ks.length) = false := decide_eq_false (by omega); have p3' : decide ((0 : Int) < (ks.length : Int)) = false := decide_eq_false (by omega)
        clear tk
        by_cases te : es.length = 0
        rotate_left
        · have HT := Aside0.mk te
          have p4 : decide (0 < es.length) = true := decide_eq_true (by omega); have p4' : decide ((0 : Int) < (es.length : Int)) = true := decide_eq_true (by omega)
          clear te
          have e : bz = false := by rw [← HBz.out]; simp [kz, HT.out, HTb.out, HTk.out]
          subst e
          clear HBz
          go_wp2_with fail
          go_meet
          exact ⟨rfl, rfl⟩
        have HTe := Aside0.mk te
        have p4 : decide (0 < es.length) = false := decide_eq_false (by omega); have p4' : decide ((0 : Int) < (es.length : Int)) = false := decide_eq_false (by omega)
        clear te
        have e : bz = true := by rw [← HBz.out]; simp [kz, HTb.out, HTk.out, HTe.out]
        subst e
        clear HBz
        go_wp2_with fail
        go_meet
        exact ⟨rfl, rfl⟩
      · skip
        by_cases tb : b = 0
        rotate_left
        · have HT := Aside0.mk tb
          have p1 : (b != 0) = true := by simpa using tb
          clear tb
          have e : bz = false := by rw [← HBz.out]; simp [kz, HT.out]
          subst e
          clear HBz
          go_wp2_with fail
          go_meet
          exact ⟨rfl, rfl⟩
        have HTb := Aside0.mk tb
        have p1 : (b != 0) = false := by rw [tb]; rfl
        clear tb
        by_cases ts : s.toList = []
        rotate_left
        · have HT := Aside0.mk ts
          obtain ⟨p2, p2'⟩ := isN ts
          clear ts
          have e : bz = false := by rw [← HBz.out]; simp [kz, HT.out, HTb.out]
          subst e
          clear HBz
          go_wp2_with fail
          go_meet
          exact ⟨rfl, rfl⟩
        have HTs := Aside0.mk ts
        obtain ⟨p2, p2'⟩ := isE ts
        clear ts
        have e : bz = true := by rw [← HBz.out]; simp [kz, HTb.out, HTs.out]
        subst e
        clear HBz
        go_wp2_with fail
        go_meet
        exact ⟨rfl, rfl⟩
      · skip
        have g3 : (a != 3) = true := by simpa using cls.1
        have g4 : (a != 4) = true := by simpa using cls.2.1
        have g6 : (a != 6) = true := by simpa using cls.2.2.1
        have g5 : decide (a < 5) = true := decide_eq_true cls.2.2.2
        have g0 : decide (a < 0) = false := decide_eq_false (by omega)
        have g0' : decide (a > 6) = false := decide_eq_false (by omega)
        have HK := Aside0.mk cls
        have HA0 := Aside0.mk ha0
        clear cls
        by_cases tb : b = 0
        rotate_left
        · have HT := Aside0.mk tb
          have p1 : (b != 0) = true := by simpa using tb
          clear tb
          have e : bz = false := by rw [← HBz.out]; simp [kz, HT.out, HK.out.1, HK.out.2.1, HK.out.2.2.1, (show ¬ 5 ≤ a by have := HK.out; omega), (show a < 5 from HK.out.2.2.2), (show a ≤ 6 by have := HK.out; omega), HA0.out]
          subst e
          clear HBz
          go_wp2_with fail
          go_meet
          exact ⟨rfl, rfl⟩
        have HTb := Aside0.mk tb
        have p1 : (b != 0) = false := by rw [tb]; rfl
        clear tb
        by_cases ts : s.toList = []
        rotate_left
        · have HT := Aside0.mk ts
          obtain ⟨p2, p2'⟩ := isN ts
          clear ts
          have e : bz = false := by rw [← HBz.out]; simp [kz, HT.out, HTb.out, HK.out.1, HK.out.2.1, HK.out.2.2.1, (show ¬ 5 ≤ a by have := HK.out; omega), (show a < 5 from HK.out.2.2.2), (show a ≤ 6 by have := HK.out; omega), HA0.out]
          subst e
          clear HBz
          go_wp2_with fail
          go_meet
          exact ⟨rfl, rfl⟩
        have HTs := Aside0.mk ts
        obtain ⟨p2, p2'⟩ := isE ts
        clear ts
        by_cases tk : ks.length = 0
        rotate_left
        · have HT := Aside0.mk tk
          have p3 : decide (0 < ks.length) = true := decide_eq_true (by omega); have p3' : decide ((0 : Int) < (ks.length : Int)) = true := decide_eq_true (by omega)
          clear tk
          have e : bz = false := by rw [← HBz.out]; simp [kz, HT.out, HTb.out, HTs.out, HK.out.1, HK.out.2.1, HK.out.2.2.1, (show ¬ 5 ≤ a by have := HK.out; omega), (show a < 5 from HK.out.2.2.2), (show a ≤ 6 by have := HK.out; omega), HA0.out]
          subst e
          clear HBz
          go_wp2_with fail
          go_meet
          exact ⟨rfl, rfl⟩
        have HTk := Aside0.mk tk
        have p3 : decide (0 < ks.length) = false := decide_eq_false (by omega); have p3' : decide ((0 : Int) < (ks.length : Int)) = false := decide_eq_false (by omega)
        clear tk
        by_cases te : es.length = 0
        rotate_left
        · have HT := Aside0.mk te
          have p4 : decide (0 < es.length) = true := decide_eq_true (by omega); have p4' : decide ((0 : Int) < (es.length : Int)) = true := decide_eq_true (by omega)
          clear te
          have e : bz = false := by rw [← HBz.out]; simp [kz, HT.out, HTb.out, HTs.out, HTk.out, HK.out.1, HK.out.2.1, HK.out.2.2.1, (show ¬ 5 ≤ a by have := HK.out; omega), (show a < 5 from HK.out.2.2.2), (show a ≤ 6 by have := HK.out; omega), HA0.out]
          subst e
          clear HBz
          go_wp2_with fail
          go_meet
          exact ⟨rfl, rfl⟩
        have HTe := Aside0.mk te
        have p4 : decide (0 < es.length) = false := decide_eq_false (by omega); have p4' : decide ((0 : Int) < (es.length : Int)) = false := decide_eq_false (by omega)
        clear te
        have e : bz = true := by rw [← HBz.out]; simp [kz, HTb.out, HTs.out, HTk.out, HTe.out, HK.out.1, HK.out.2.1, HK.out.2.2.1, (show ¬ 5 ≤ a by have := HK.out; omega), (show a < 5 from HK.out.2.2.2), (show a ≤ 6 by have := HK.out; omega), HA0.out]
        subst e
        clear HBz
        go_wp2_with fail
        go_meet
        exact ⟨rfl, rfl⟩
      · skip
        by_cases tb : b = 0
        rotate_left
        · have HT := Aside0.mk tb
          have p1 : (b != 0) = true := by simpa using tb
          clear tb
          have e : bz = false := by rw [← HBz.out]; simp [kz, HT.out]
          subst e
          clear HBz
          go_wp2_with fail
          go_meet
          exact ⟨rfl, rfl⟩
        have HTb := Aside0.mk tb
        have p1 : (b != 0) = false := by rw [tb]; rfl
        clear tb
        by_cases ts : s.toList = []
        rotate_left
        · have HT := Aside0.mk ts
          obtain ⟨p2, p2'⟩ := isN ts
          clear ts
          have e : bz = false := by rw [← HBz.out]; simp [kz, HT.out, HTb.out]
          subst e
          clear HBz
          go_wp2_with fail
          go_meet
          exact ⟨rfl, rfl⟩
        have HTs := Aside0.mk ts
        obtain ⟨p2, p2'⟩ := isE ts
        clear ts
        by_cases tk : ks.length = 0
        rotate_left
        · have HT := Aside0.mk tk
          have p3 : decide (0 < ks.length) = true := decide_eq_true (by omega); have p3' : decide ((0 : Int) < (ks.length : Int)) = true := decide_eq_true (by omega)
          clear tk
          have e : bz = false := by rw [← HBz.out]; simp [kz, HT.out, HTb.out, HTs.out]
          subst e
          clear HBz
          go_wp2_with fail
          go_meet
          exact ⟨rfl, rfl⟩
        have HTk := Aside0.mk tk
        have p3 : decide (0 < ks.length) = false := decide_eq_false (by omega); have p3' : decide ((0 : Int) < (ks.length : Int)) = false := decide_eq_false (by omega)
        clear tk
        have e : bz = true := by rw [← HBz.out]; simp [kz, HTb.out, HTs.out, HTk.out]
        subst e
        clear HBz
        go_wp2_with fail
        go_meet
        exact ⟨rfl, rfl⟩
  case rest =>
    obtain ⟨rfl, rfl⟩ := hcut
    cases bz with
    | false =>
      have hff : mr ar ⟨a, b, s, ks, es⟩ = false := mr_o (by rw [okr_eq]; have h := HBz.out; dsimp only; rw [h]; rfl)
      have HPf := HP.out.2 hff
      clear HP HO hff
      go_wp2_with fail
      go_ret3
      exact HPf _ _ rfl HW.out
    | true =>
    go_upto_region 3 with fail
    go_quiet (fail)
    obtain ⟨W5, hW5⟩ : ∃ W5, wc.drewN nq = W5 := ⟨_, rfl⟩
    have hd5 : Drawn0 wc W5 := ⟨nq, hW5.symm⟩
    rw [hW5]
    have HB2 := Aside0.mk (HB.out.below (drawn_below hd5)); have HW2 := Aside0.mk (step_drawn HW.out hd5); clear HB HW; have HB := HB2; have HW := HW2; clear HB2 HW2 q0 q1 q2 q3 q4 hW5 hd5
    obtain ⟨q0, q1, q2, q3, q4⟩ := HB.out.cells
    dsimp only at q0 q1 q2 q3 q4
    go_upto_region 4 with fail
    obtain ⟨bo, hbo⟩ : ∃ bo, (decide (s.size ≤ 4096) && u && decide (es.length ≤ 1024) && (a != 6 || ks.length == es.length) && (decide (a < 5) || decide (ar < 32))) = bo := ⟨_, rfl⟩
    have HBo := Aside0.mk hbo
    clear hbo
    go_cut [105] (fun v105 wc => v105 = .bool (!bo) ∧ Aside0 (Below W5.heap.size W5 wc))
    case first =>
      as_aux_lemma =>
        by_cases tz : s.size ≤ 4096
        rotate_left
        · have HT := Aside0.mk tz
          have p7 : decide (4096 < s.size) = true := decide_eq_true (by omega)
          have p7' : decide ((s.size : Int) > 4096) = true := decide_eq_true (by omega)
          clear tz
          have e : bo = false := by rw [← HBo.out]; simp [HT.out]
          subst e
          clear HBo
          go_wp2_with fail
          go_meet
          exact ⟨rfl, ⟨Below.refl _ _⟩⟩
        have p7 : decide (4096 < s.size) = false := decide_eq_false (by omega)
        have p7' : decide ((s.size : Int) > 4096) = false := decide_eq_false (by omega)
        have HSz := Aside0.mk tz
        clear tz
        cases u with
        | false =>
          have e : bo = false := by rw [← HBo.out]; simp [Hu.out]
          subst e
          clear HBo
          go_wp2_with (first | (go_at_call 45; (with_reducible refine (HU.out _ HSz.out).mono ?_); rintro e we ⟨rfl, hb⟩; have HX5 := Aside0.mk hb; have HB2 := Aside0.mk (HB.out.below hb); clear HB hb; have HB := HB2; clear HB2; obtain ⟨q0, q1, q2, q3, q4⟩ := HB.out.cells; dsimp only at q0 q1 q2 q3 q4))
          go_meet
          exact ⟨rfl, HX5⟩
        | true =>
          by_cases tn : es.length ≤ 1024
          rotate_left
          · have HT := Aside0.mk tn
            have p8 : decide (1024 < es.length) = true := decide_eq_true (by omega)
            have p8' : decide ((es.length : Int) > 1024) = true := decide_eq_true (by omega)
            clear tn
            have e : bo = false := by rw [← HBo.out]; simp [HT.out]
            subst e
            clear HBo
            go_wp2_with (first | (go_at_call 45; (with_reducible refine (HU.out _ HSz.out).mono ?_); rintro e we ⟨rfl, hb⟩; have HX5 := Aside0.mk hb; have HB2 := Aside0.mk (HB.out.below hb); clear HB hb; have HB := HB2; clear HB2; obtain ⟨q0, q1, q2, q3, q4⟩ := HB.out.cells; dsimp only at q0 q1 q2 q3 q4))
            go_meet
            exact ⟨rfl, HX5⟩
          have p8 : decide (1024 < es.length) = false := decide_eq_false (by omega)
          have p8' : decide ((es.length : Int) > 1024) = false := decide_eq_false (by omega)
          have HTn := Aside0.mk tn
          clear tn
          by_cases t6 : a = 6
          · have HA6 := Aside0.mk t6
            have g6 : (a == 6) = true := by rw [t6]; rfl
            have g5 : decide (a ≥ 5) = true := decide_eq_true (by omega)
            have g5' : decide (5 ≤ a) = true := g5
            clear t6
            by_cases tl : ks.length = es.length
            rotate_left
            · have HT := Aside0.mk tl
              have p5 : (ks.length != es.length) = true := bne_iff_ne.mpr tl
              have p5' : ((ks.length : Int) != (es.length : Int)) = true := bne_iff_ne.mpr (by omega)
              clear tl
              have e : bo = false := by rw [← HBo.out]; simp [HT.out, HA6.out]
              subst e
              clear HBo
              go_wp2_with (first | (go_at_call 45; (with_reducible refine (HU.out _ HSz.out).mono ?_); rintro e we ⟨rfl, hb⟩; have HX5 := Aside0.mk hb; have HB2 := Aside0.mk (HB.out.below hb); clear HB hb; have HB := HB2; clear HB2; obtain ⟨q0, q1, q2, q3, q4⟩ := HB.out.cells; dsimp only at q0 q1 q2 q3 q4))
              go_meet
              exact ⟨rfl, HX5⟩
            have HTl := Aside0.mk tl
            have p5 : (ks.length != es.length) = false := by rw [tl]; simp
            have p5' : ((ks.length : Int) != (es.length : Int)) = false := by rw [tl]; simp
            clear tl
            by_cases ta : ar < 32
            rotate_left
            · have HT := Aside0.mk ta
              have p9 : decide ((ar : Int) ≥ 32) = true := decide_eq_true (by omega)
              have p9' : decide (32 ≤ ar) = true := decide_eq_true (by omega)
              clear ta
              have e : bo = false := by rw [← HBo.out]; simp [HT.out, HA6.out, HTl.out]
              subst e
              clear HBo
              go_wp2_with (first | (go_at_call 45; (with_reducible refine (HU.out _ HSz.out).mono ?_); rintro e we ⟨rfl, hb⟩; have HX5 := Aside0.mk hb; have HB2 := Aside0.mk (HB.out.below hb); clear HB hb; have HB := HB2; clear HB2; obtain ⟨q0, q1, q2, q3, q4⟩ := HB.out.cells; dsimp only at q0 q1 q2 q3 q4))
              go_meet
              exact ⟨rfl, HX5⟩
            have HTa := Aside0.mk ta
            have p9 : decide ((ar : Int) ≥ 32) = false := decide_eq_false (by omega)
            have p9' : decide (32 ≤ ar) = false := decide_eq_false (by omega)
            clear ta
            have e : bo = true := by rw [← HBo.out]; simp [HTa.out, HTn.out, HSz.out, Hu.out, HA6.out, HTl.out]
            subst e
            clear HBo
            go_wp2_with (first | (go_at_call 45; (with_reducible refine (HU.out _ HSz.out).mono ?_); rintro e we ⟨rfl, hb⟩; have HX5 := Aside0.mk hb; have HB2 := Aside0.mk (HB.out.below hb); clear HB hb; have HB := HB2; clear HB2; obtain ⟨q0, q1, q2, q3, q4⟩ := HB.out.cells; dsimp only at q0 q1 q2 q3 q4))
            go_meet
            exact ⟨rfl, HX5⟩
          have HA6 := Aside0.mk t6
          have g6 : (a == 6) = false := by simpa using t6
          by_cases t5 : 5 ≤ a
          · have g5 : decide (a ≥ 5) = true := decide_eq_true (by omega)
            have g5' : decide (5 ≤ a) = true := g5
            have HA5 := Aside0.mk t5
            clear t5 t6
            by_cases ta : ar < 32
            rotate_left
            · have HT := Aside0.mk ta
              have p9 : decide ((ar : Int) ≥ 32) = true := decide_eq_true (by omega)
              have p9' : decide (32 ≤ ar) = true := decide_eq_true (by omega)
              clear ta
              have e : bo = false := by rw [← HBo.out]; simp [HT.out, HA6.out, (show ¬ a < 5 by have := HA5.out; omega)]
              subst e
              clear HBo
              go_wp2_with (first | (go_at_call 45; (with_reducible refine (HU.out _ HSz.out).mono ?_); rintro e we ⟨rfl, hb⟩; have HX5 := Aside0.mk hb; have HB2 := Aside0.mk (HB.out.below hb); clear HB hb; have HB := HB2; clear HB2; obtain ⟨q0, q1, q2, q3, q4⟩ := HB.out.cells; dsimp only at q0 q1 q2 q3 q4))
              go_meet
              exact ⟨rfl, HX5⟩
            have HTa := Aside0.mk ta
            have p9 : decide ((ar : Int) ≥ 32) = false := decide_eq_false (by omega)
            have p9' : decide (32 ≤ ar) = false := decide_eq_false (by omega)
            clear ta
            have e : bo = true := by rw [← HBo.out]; simp [HTa.out, HTn.out, HSz.out, Hu.out, HA6.out, (show ¬ a < 5 by have := HA5.out; omega)]
            subst e
            clear HBo
            go_wp2_with (first | (go_at_call 45; (with_reducible refine (HU.out _ HSz.out).mono ?_); rintro e we ⟨rfl, hb⟩; have HX5 := Aside0.mk hb; have HB2 := Aside0.mk (HB.out.below hb); clear HB hb; have HB := HB2; clear HB2; obtain ⟨q0, q1, q2, q3, q4⟩ := HB.out.cells; dsimp only at q0 q1 q2 q3 q4))
            go_meet
            exact ⟨rfl, HX5⟩
          have g5 : decide (a ≥ 5) = false := decide_eq_false (by omega)
          have g5' : decide (5 ≤ a) = false := decide_eq_false (by omega)
          have HA5 := Aside0.mk t5
          clear t5 t6
          have e : bo = true := by rw [← HBo.out]; simp [HTn.out, HSz.out, Hu.out, HA6.out, (show a < 5 by have := HA5.out; omega)]
          subst e
          clear HBo
          go_wp2_with (first | (go_at_call 45; (with_reducible refine (HU.out _ HSz.out).mono ?_); rintro e we ⟨rfl, hb⟩; have HX5 := Aside0.mk hb; have HB2 := Aside0.mk (HB.out.below hb); clear HB hb; have HB := HB2; clear HB2; obtain ⟨q0, q1, q2, q3, q4⟩ := HB.out.cells; dsimp only at q0 q1 q2 q3 q4))
          go_meet
          exact ⟨rfl, HX5⟩
    case rest =>
    obtain ⟨rfl, HX5⟩ := hcut
    have HB2 := Aside0.mk (HB.out.below HX5.out); have HW2 := Aside0.mk (below_step HW.out HX5.out); clear HB HW; have HB := HB2; have HW := HW2; clear HB2 HW2 q0 q1 q2 q3 q4 HX5
    obtain ⟨q0, q1, q2, q3, q4⟩ := HB.out.cells
    dsimp only at q0 q1 q2 q3 q4
    have HO2 : Aside0 (okr ar ⟨a, b, s, ks, es⟩ = (bo && (ko none ks && okrL (ar + 1) es))) := ⟨by
      rw [okr_eq]
      (try dsimp only)
      have h := HBz.out
      have h2 := HBo.out
      rw [h, Hu.out, Bool.true_and]
      rw [← h2]
      simp only [Bool.and_assoc]⟩
    cases bo with
    | false =>
      have HPf := HP.out.2 (mr_o (by rw [HO2.out]; rfl))
      clear HP HO HO2
      go_wp2_with fail
      go_ret3
      exact HPf _ _ rfl HW.out
    | true =>
    have he5 : a < 5 → es = [] := fun h5 => by
      have h := HBz.out
      simp only [Bool.and_eq_true] at h
      have h1 := h.2
      unfold kz at h1
      simp only [Bool.and_eq_true] at h1
      have h2 := h1.2
      (try dsimp only at h2)
      rw [decide_eq_false (show ¬ 5 ≤ a by omega), Bool.false_or] at h2
      exact List.length_eq_zero_iff.1 (by simpa using h2)
    have HO3 : Aside0 (okr ar ⟨a, b, s, ks, es⟩ = (ko none ks && okrL (ar + 1) es) ∧ nds ⟨a, b, s, ks, es⟩ = 1 + ndsL es ∧ bts ⟨a, b, s, ks, es⟩ = s.size + ksum ks + btsL es) := ⟨by
      refine ⟨by rw [HO2.out, Bool.true_and], ?_, ?_⟩
      · rw [nds_eq]
        dsimp only
        by_cases c5 : a < 5
        · rw [if_pos c5, he5 c5]; rfl
        · rw [if_neg c5]
      · rw [bts_eq]
        dsimp only
        by_cases c5 : a < 5
        · rw [if_pos c5, he5 c5]; rfl
        · rw [if_neg c5]⟩
    have HA32 : Aside0 (ar + 1 ≤ 40 ∨ es.length = 0) := ⟨by
      by_cases c5 : a < 5
      · right; rw [he5 c5]; rfl
      · left
        have h := HBo.out
        simp only [Bool.and_eq_true] at h
        have h2 := h.2
        rw [decide_eq_false c5, Bool.false_or, decide_eq_true_eq] at h2
        omega⟩
    clear HO HO2 he5 HBz HBo Hu HU
    have HO := HO3
    clear HO3
    go_wp2_with fail
    clear q0 q1 q2 q3 q4
    go_loopg [8, 9] ks.length (fun kq v8 v9 w' => ∃ (i : Nat) (c : Int), kq + i = ks.length ∧ v9 = .int .i64 (i : Int) ∧ v8 = .int .i64 c ∧ Aside0 (c = (s.size + ksum (ks.take i) : Nat) ∧ ko (if i = 0 then none else ks[i - 1]?) (ks.drop i) = ko none ks) ∧ (0 ≤ c ∧ c ≤ 3000000000000000) ∧ Aside0 (Bv w' bb A3 c3 A4 c4 ⟨a, b, s, ks, es⟩) ∧ Aside0 (Below w.heap.size w w'))
    case atStart => exact ⟨0, _, by omega, rfl, rfl, ⟨by simp [ksum], rfl⟩, by omega, HB, HW⟩
    case round =>
      clear HB HW
      obtain ⟨i, c, hi, rfl, rfl, HN, hcb, HB, HW⟩ := hrel
      obtain ⟨q0, q1, q2, q3, q4⟩ := HB.out.cells
      dsimp only at q0 q1 q2 q3 q4
      have hkr := HB.out.rd.r3
      dsimp only at hkr
      by_cases ci : i < ks.length
      · have hil : ks[i]? = some ks[i] := List.getElem?_eq_getElem ci
        have hm := List.getElem_mem ci
        have hqz := HX.out.ks _ hm
        have hd := List.drop_eq_getElem_cons ci
        obtain ⟨q, hq⟩ : ∃ q, ks[i] = q := ⟨_, rfl⟩
        rw [hq] at hil hqz hd
        obtain ⟨ad, e1, he⟩ := str_at hkr i ci hil
        have hF := HN.out.2
        rw [hd, ko_cons] at hF
        have g0 : decide ((i : Int) < (ks.length : Int)) = true := decide_eq_true (by omega)
        have g2 : (0 ≤ (i : Int)) = True := eq_true (by omega)
        have g3 : ((i : Int) < (ks.length : Int)) = True := eq_true (by omega)
        obtain ⟨j1, rfl⟩ : ∃ j1, gk = j1 + 1 := ⟨gk - 1, by omega⟩
        have HI := Aside0.mk hi
        have HD := Aside0.mk hil
        have HNc := Aside0.mk HN.out.1
        have HKt := Aside0.mk (ksum_take hil)
        have hcq : c + (q.size : Int) ≤ 3000000000000000 := by
          have h1 := HKt.out
          have h2 := HNc.out
          have h3 := ksum_le ks (i + 1)
          have h4 := ksum_ksz ks
          have h5 := cnt_eq ⟨a, b, s, ks, es⟩
          have h6 := HC.out
          dsimp only at h5
          omega
        have hbelow := fun (W' : World) (hb : Below wr.heap.size wr W') => (hb.cell (World.block_lt_of_cell? wr _ q3)).trans q3
        have hbel2 := fun (W' : World) (hb : Below wr.heap.size wr W') => (hb.cell (World.block_lt_of_cell? wr _ he)).trans he
        have HK3 := Aside0.mk hbelow
        have HKq := Aside0.mk hbel2
        have HX9 : Aside0 (Below wr.heap.size wr wr.drew) := ⟨(Below.refl _ _).drew⟩
        subst e1
        clear hi hd hq hm HN hbelow hbel2 hil
        by_cases c1 : q.size ≤ 4096
        rotate_left
        · have hff : ko none ks = false := by rw [← hF, decide_eq_false c1]; rfl
          have p7 : decide (4096 < q.size) = true := decide_eq_true (by omega)
          have p7' : decide ((q.size : Int) > 4096) = true := decide_eq_true (by omega)
          have HPf := HP.out.2 (mr_o (by rw [HO.out.1, hff]; rfl))
          clear hF hqz hkr c1 hff HP HO
          as_aux_lemma =>
            go_upto_region 9 with fail
            refine start_ (n := 34) (S := fun w' => w'.cell? ⟨bb, 3, none⟩ = some (.slice (some ad) ks.length c3) ∧ w'.cell? (ad.add i) = some (.string q)) (ds := []) #[false, false, false, false, false, false, false, false, false, false, false, false, false, false, false, false, false, false, false, false, false, false, false, false, false, false, false, false, false, false, false, false, false, false] (by kernel_rfl) rfl (by rfl) ⟨HK3.out _ HX9.out, HKq.out _ HX9.out⟩ (fun hS => ?_)
            refine take_ (i := 0) (N := some 113) (v := (.pointer (some ⟨bb, 3, none⟩))) #[true, false, false, false, false, false, false, false, false, false, false, false, false, false, false, false, false, false, false, false, false, false, false, false, false, false, false, false, false, false, false, false, false, false] rfl rfl (by kernel_rfl) (fun _ _ _ h => h) (Or.inl ⟨by rfl, by intro w hSw; (try dsimp only at hSw); go_simp⟩) hS rfl ?_
            try simp only [Act.put, List.setIfInBounds_toArray, List.set_cons_zero, List.set_cons_succ]
            refine take_ (i := 1) (N := some 114) (v := (.slice (some ad) ks.length c3)) #[true, true, false, false, false, false, false, false, false, false, false, false, false, false, false, false, false, false, false, false, false, false, false, false, false, false, false, false, false, false, false, false, false, false] rfl rfl (by kernel_rfl) (fun _ _ _ h => h) (Or.inl ⟨by rfl, by intro w hSw; (try dsimp only at hSw); go_simp⟩) hS rfl ?_
            try simp only [Act.put, List.setIfInBounds_toArray, List.set_cons_zero, List.set_cons_succ]
            refine take_ (i := 2) (N := some 115) (v := (.int .i64 (i : Int))) #[true, true, true, false, false, false, false, false, false, false, false, false, false, false, false, false, false, false, false, false, false, false, false, false, false, false, false, false, false, false, false, false, false, false] rfl rfl (by kernel_rfl) (fun _ _ _ h => h) (Or.inl ⟨by rfl, by intro w hSw; (try dsimp only at hSw); go_simp⟩) hS rfl ?_
            try simp only [Act.put, List.setIfInBounds_toArray, List.set_cons_zero, List.set_cons_succ]
            refine take_ (i := 3) (N := some 116) (v := (.pointer (some (ad.add i)))) #[true, true, true, true, false, false, false, false, false, false, false, false, false, false, false, false, false, false, false, false, false, false, false, false, false, false, false, false, false, false, false, false, false, false] rfl rfl (by kernel_rfl) (fun _ _ _ h => h) (Or.inl ⟨by rfl, by intro w hSw; (try dsimp only at hSw); go_simp⟩) hS rfl ?_
            try simp only [Act.put, List.setIfInBounds_toArray, List.set_cons_zero, List.set_cons_succ]
            refine take_ (i := 4) (N := some 117) (v := (.string q)) #[true, true, true, true, true, false, false, false, false, false, false, false, false, false, false, false, false, false, false, false, false, false, false, false, false, false, false, false, false, false, false, false, false, false] rfl rfl (by kernel_rfl) (fun _ _ _ h => h) (Or.inl ⟨by rfl, by intro w hSw; (try dsimp only at hSw); go_simp⟩) hS rfl ?_
            try simp only [Act.put, List.setIfInBounds_toArray, List.set_cons_zero, List.set_cons_succ]
            refine take_ (i := 5) (N := some 118) (v := (.int .i64 (q.size : Int))) #[true, true, true, true, true, true, false, false, false, false, false, false, false, false, false, false, false, false, false, false, false, false, false, false, false, false, false, false, false, false, false, false, false, false] rfl rfl (by kernel_rfl) (fun _ _ _ h => h) (Or.inl ⟨by rfl, by intro w hSw; (try dsimp only at hSw); go_simp⟩) hS rfl ?_
            try simp only [Act.put, List.setIfInBounds_toArray, List.set_cons_zero, List.set_cons_succ]
            refine take_ (i := 6) (N := some 119) (v := (.bool true)) #[true, true, true, true, true, true, true, false, false, false, false, false, false, false, false, false, false, false, false, false, false, false, false, false, false, false, false, false, false, false, false, false, false, false] rfl rfl (by kernel_rfl) (fun _ _ _ h => h) (Or.inl ⟨by rfl, by intro w hSw; (try dsimp only at hSw); go_simp⟩) hS rfl ?_
            try simp only [Act.put, List.setIfInBounds_toArray, List.set_cons_zero, List.set_cons_succ]
            refine take_ (i := 7) (N := some 120) (v := (.bool true)) #[true, true, true, true, true, true, true, true, false, false, false, false, false, false, false, false, false, false, false, false, false, false, false, false, false, false, false, false, false, false, false, false, false, false] rfl rfl (by kernel_rfl) (fun _ _ _ h => h) (Or.inl ⟨by rfl, by intro w hSw; (try dsimp only at hSw); go_simp⟩) hS rfl ?_
            try simp only [Act.put, List.setIfInBounds_toArray, List.set_cons_zero, List.set_cons_succ]
            refine take_ (i := 8) (N := some 121) (v := undef) #[true, true, true, true, true, true, true, true, true, false, false, false, false, false, false, false, false, false, false, false, false, false, false, false, false, false, false, false, false, false, false, false, false, false] rfl rfl (by kernel_rfl) (fun _ _ _ h => h) (Or.inr ⟨by rfl, rfl⟩) hS rfl ?_
            try simp only [Act.put, List.setIfInBounds_toArray, List.set_cons_zero, List.set_cons_succ]
            refine take_ (i := 9) (N := some 122) (v := undef) #[true, true, true, true, true, true, true, true, true, true, false, false, false, false, false, false, false, false, false, false, false, false, false, false, false, false, false, false, false, false, false, false, false, false] rfl rfl (by kernel_rfl) (fun _ _ _ h => h) (Or.inr ⟨by rfl, rfl⟩) hS rfl ?_
            try simp only [Act.put, List.setIfInBounds_toArray, List.set_cons_zero, List.set_cons_succ]
            refine take_ (i := 10) (N := some 123) (v := undef) #[true, true, true, true, true, true, true, true, true, true, true, false, false, false, false, false, false, false, false, false, false, false, false, false, false, false, false, false, false, false, false, false, false, false] rfl rfl (by kernel_rfl) (fun _ _ _ h => h) (Or.inr ⟨by rfl, rfl⟩) hS rfl ?_
            try simp only [Act.put, List.setIfInBounds_toArray, List.set_cons_zero, List.set_cons_succ]
            refine take_ (i := 11) (N := some 124) (v := undef) #[true, true, true, true, true, true, true, true, true, true, true, true, false, false, false, false, false, false, false, false, false, false, false, false, false, false, false, false, false, false, false, false, false, false] rfl rfl (by kernel_rfl) (fun _ _ _ h => h) (Or.inr ⟨by rfl, rfl⟩) hS rfl ?_
            try simp only [Act.put, List.setIfInBounds_toArray, List.set_cons_zero, List.set_cons_succ]
            refine take_ (i := 12) (N := some 125) (v := undef) #[true, true, true, true, true, true, true, true, true, true, true, true, true, false, false, false, false, false, false, false, false, false, false, false, false, false, false, false, false, false, false, false, false, false] rfl rfl (by kernel_rfl) (fun _ _ _ h => h) (Or.inr ⟨by rfl, rfl⟩) hS rfl ?_
            try simp only [Act.put, List.setIfInBounds_toArray, List.set_cons_zero, List.set_cons_succ]
            refine take_ (i := 13) (N := some 126) (v := undef) #[true, true, true, true, true, true, true, true, true, true, true, true, true, true, false, false, false, false, false, false, false, false, false, false, false, false, false, false, false, false, false, false, false, false] rfl rfl (by kernel_rfl) (fun _ _ _ h => h) (Or.inr ⟨by rfl, rfl⟩) hS rfl ?_
            try simp only [Act.put, List.setIfInBounds_toArray, List.set_cons_zero, List.set_cons_succ]
            refine take_ (i := 14) (N := some 127) (v := undef) #[true, true, true, true, true, true, true, true, true, true, true, true, true, true, true, false, false, false, false, false, false, false, false, false, false, false, false, false, false, false, false, false, false, false] rfl rfl (by kernel_rfl) (fun _ _ _ h => h) (Or.inr ⟨by rfl, rfl⟩) hS rfl ?_
            try simp only [Act.put, List.setIfInBounds_toArray, List.set_cons_zero, List.set_cons_succ]
            refine take_ (i := 15) (N := some 128) (v := (.bool true)) #[true, true, true, true, true, true, true, true, true, true, true, true, true, true, true, true, false, false, false, false, false, false, false, false, false, false, false, false, false, false, false, false, false, false] rfl rfl (by kernel_rfl) (fun _ _ _ h => h) (Or.inl ⟨by rfl, by intro w hSw; (try dsimp only at hSw); go_simp⟩) hS rfl ?_
            try simp only [Act.put, List.setIfInBounds_toArray, List.set_cons_zero, List.set_cons_succ]
            refine take_ (i := 16) (N := some 129) (v := (.bool true)) #[true, true, true, true, true, true, true, true, true, true, true, true, true, true, true, true, true, false, false, false, false, false, false, false, false, false, false, false, false, false, false, false, false, false] rfl rfl (by kernel_rfl) (fun _ _ _ h => h) (Or.inl ⟨by rfl, by intro w hSw; (try dsimp only at hSw); go_simp⟩) hS rfl ?_
            try simp only [Act.put, List.setIfInBounds_toArray, List.set_cons_zero, List.set_cons_succ]
            refine take_ (i := 17) (N := some 130) (v := undef) #[true, true, true, true, true, true, true, true, true, true, true, true, true, true, true, true, true, true, false, false, false, false, false, false, false, false, false, false, false, false, false, false, false, false] rfl rfl (by kernel_rfl) (fun _ _ _ h => h) (Or.inr ⟨by rfl, rfl⟩) hS rfl ?_
            try simp only [Act.put, List.setIfInBounds_toArray, List.set_cons_zero, List.set_cons_succ]
            refine take_ (i := 18) (N := some 131) (v := undef) #[true, true, true, true, true, true, true, true, true, true, true, true, true, true, true, true, true, true, true, false, false, false, false, false, false, false, false, false, false, false, false, false, false, false] rfl rfl (by kernel_rfl) (fun _ _ _ h => h) (Or.inr ⟨by rfl, rfl⟩) hS rfl ?_
            try simp only [Act.put, List.setIfInBounds_toArray, List.set_cons_zero, List.set_cons_succ]
            refine take_ (i := 19) (N := some 132) (v := undef) #[true, true, true, true, true, true, true, true, true, true, true, true, true, true, true, true, true, true, true, true, false, false, false, false, false, false, false, false, false, false, false, false, false, false] rfl rfl (by kernel_rfl) (fun _ _ _ h => h) (Or.inr ⟨by rfl, rfl⟩) hS rfl ?_
            try simp only [Act.put, List.setIfInBounds_toArray, List.set_cons_zero, List.set_cons_succ]
            refine take_ (i := 20) (N := some 133) (v := undef) #[true, true, true, true, true, true, true, true, true, true, true, true, true, true, true, true, true, true, true, true, true, false, false, false, false, false, false, false, false, false, false, false, false, false] rfl rfl (by kernel_rfl) (fun _ _ _ h => h) (Or.inr ⟨by rfl, rfl⟩) hS rfl ?_
            try simp only [Act.put, List.setIfInBounds_toArray, List.set_cons_zero, List.set_cons_succ]
            refine take_ (i := 21) (N := some 134) (v := undef) #[true, true, true, true, true, true, true, true, true, true, true, true, true, true, true, true, true, true, true, true, true, true, false, false, false, false, false, false, false, false, false, false, false, false] rfl rfl (by kernel_rfl) (fun _ _ _ h => h) (Or.inr ⟨by rfl, rfl⟩) hS rfl ?_
            try simp only [Act.put, List.setIfInBounds_toArray, List.set_cons_zero, List.set_cons_succ]
            refine take_ (i := 22) (N := some 135) (v := undef) #[true, true, true, true, true, true, true, true, true, true, true, true, true, true, true, true, true, true, true, true, true, true, true, false, false, false, false, false, false, false, false, false, false, false] rfl rfl (by kernel_rfl) (fun _ _ _ h => h) (Or.inr ⟨by rfl, rfl⟩) hS rfl ?_
            try simp only [Act.put, List.setIfInBounds_toArray, List.set_cons_zero, List.set_cons_succ]
            refine take_ (i := 23) (N := some 136) (v := undef) #[true, true, true, true, true, true, true, true, true, true, true, true, true, true, true, true, true, true, true, true, true, true, true, true, false, false, false, false, false, false, false, false, false, false] rfl rfl (by kernel_rfl) (fun _ _ _ h => h) (Or.inr ⟨by rfl, rfl⟩) hS rfl ?_
            try simp only [Act.put, List.setIfInBounds_toArray, List.set_cons_zero, List.set_cons_succ]
            refine take_ (i := 24) (N := some 137) (v := undef) #[true, true, true, true, true, true, true, true, true, true, true, true, true, true, true, true, true, true, true, true, true, true, true, true, true, false, false, false, false, false, false, false, false, false] rfl rfl (by kernel_rfl) (fun _ _ _ h => h) (Or.inr ⟨by rfl, rfl⟩) hS rfl ?_
            try simp only [Act.put, List.setIfInBounds_toArray, List.set_cons_zero, List.set_cons_succ]
            refine take_ (i := 25) (N := some 138) (v := undef) #[true, true, true, true, true, true, true, true, true, true, true, true, true, true, true, true, true, true, true, true, true, true, true, true, true, true, false, false, false, false, false, false, false, false] rfl rfl (by kernel_rfl) (fun _ _ _ h => h) (Or.inr ⟨by rfl, rfl⟩) hS rfl ?_
            try simp only [Act.put, List.setIfInBounds_toArray, List.set_cons_zero, List.set_cons_succ]
            refine take_ (i := 26) (N := some 139) (v := undef) #[true, true, true, true, true, true, true, true, true, true, true, true, true, true, true, true, true, true, true, true, true, true, true, true, true, true, true, false, false, false, false, false, false, false] rfl rfl (by kernel_rfl) (fun _ _ _ h => h) (Or.inr ⟨by rfl, rfl⟩) hS rfl ?_
            try simp only [Act.put, List.setIfInBounds_toArray, List.set_cons_zero, List.set_cons_succ]
            refine take_ (i := 27) (N := some 140) (v := undef) #[true, true, true, true, true, true, true, true, true, true, true, true, true, true, true, true, true, true, true, true, true, true, true, true, true, true, true, true, false, false, false, false, false, false] rfl rfl (by kernel_rfl) (fun _ _ _ h => h) (Or.inr ⟨by rfl, rfl⟩) hS rfl ?_
            try simp only [Act.put, List.setIfInBounds_toArray, List.set_cons_zero, List.set_cons_succ]
            refine take_ (i := 28) (N := some 141) (v := undef) #[true, true, true, true, true, true, true, true, true, true, true, true, true, true, true, true, true, true, true, true, true, true, true, true, true, true, true, true, true, false, false, false, false, false] rfl rfl (by kernel_rfl) (fun _ _ _ h => h) (Or.inr ⟨by rfl, rfl⟩) hS rfl ?_
            try simp only [Act.put, List.setIfInBounds_toArray, List.set_cons_zero, List.set_cons_succ]
            refine take_ (i := 29) (N := some 142) (v := undef) #[true, true, true, true, true, true, true, true, true, true, true, true, true, true, true, true, true, true, true, true, true, true, true, true, true, true, true, true, true, true, false, false, false, false] rfl rfl (by kernel_rfl) (fun _ _ _ h => h) (Or.inr ⟨by rfl, rfl⟩) hS rfl ?_
            try simp only [Act.put, List.setIfInBounds_toArray, List.set_cons_zero, List.set_cons_succ]
            refine take_ (i := 30) (N := some 143) (v := undef) #[true, true, true, true, true, true, true, true, true, true, true, true, true, true, true, true, true, true, true, true, true, true, true, true, true, true, true, true, true, true, true, false, false, false] rfl rfl (by kernel_rfl) (fun _ _ _ h => h) (Or.inr ⟨by rfl, rfl⟩) hS rfl ?_
            try simp only [Act.put, List.setIfInBounds_toArray, List.set_cons_zero, List.set_cons_succ]
            refine take_ (i := 31) (N := some 144) (v := undef) #[true, true, true, true, true, true, true, true, true, true, true, true, true, true, true, true, true, true, true, true, true, true, true, true, true, true, true, true, true, true, true, true, false, false] rfl rfl (by kernel_rfl) (fun _ _ _ h => h) (Or.inr ⟨by rfl, rfl⟩) hS rfl ?_
            try simp only [Act.put, List.setIfInBounds_toArray, List.set_cons_zero, List.set_cons_succ]
            refine take_ (i := 32) (N := some 145) (v := undef) #[true, true, true, true, true, true, true, true, true, true, true, true, true, true, true, true, true, true, true, true, true, true, true, true, true, true, true, true, true, true, true, true, true, false] rfl rfl (by kernel_rfl) (fun _ _ _ h => h) (Or.inr ⟨by rfl, rfl⟩) hS rfl ?_
            try simp only [Act.put, List.setIfInBounds_toArray, List.set_cons_zero, List.set_cons_succ]
            refine take_ (i := 33) (N := some 146) (v := (.bool true)) #[true, true, true, true, true, true, true, true, true, true, true, true, true, true, true, true, true, true, true, true, true, true, true, true, true, true, true, true, true, true, true, true, true, true] rfl rfl (by kernel_rfl) (fun _ _ _ h => h) (Or.inl ⟨by rfl, by intro w hSw; (try dsimp only at hSw); go_simp⟩) hS rfl ?_
            try simp only [Act.put, List.setIfInBounds_toArray, List.set_cons_zero, List.set_cons_succ]
            refine done_ (by kernel_rfl) ?_
            go_wp2_with fail
            go_ret3
            exact HPf _ _ rfl (below_step HW.out HX9.out)
        have p7 : decide (4096 < q.size) = false := decide_eq_false (by omega)
        have p7' : decide ((q.size : Int) > 4096) = false := decide_eq_false (by omega)
        rw [decide_eq_true c1, Bool.true_and] at hF
        have HV := Aside0.mk (fun W => ru8C q (by omega) W)
        obtain ⟨v, hv⟩ : ∃ v, u8 q = v := ⟨_, rfl⟩
        rw [hv] at hF HV
        cases v with
        | false =>
          have hff : ko none ks = false := by rw [← hF]; rfl
          have HPf := HP.out.2 (mr_o (by rw [HO.out.1, hff]; rfl))
          clear hF hqz hkr c1 hff HP HO hv
          as_aux_lemma =>
            go_upto_region 9 with fail
            refine start_ (n := 34) (S := fun w' => w'.cell? ⟨bb, 3, none⟩ = some (.slice (some ad) ks.length c3) ∧ w'.cell? (ad.add i) = some (.string q)) (ds := []) #[false, false, false, false, false, false, false, false, false, false, false, false, false, false, false, false, false, false, false, false, false, false, false, false, false, false, false, false, false, false, false, false, false, false] (by kernel_rfl) rfl (by rfl) ⟨HK3.out _ HX9.out, HKq.out _ HX9.out⟩ (fun hS => ?_)
            refine take_ (i := 0) (N := some 113) (v := (.pointer (some ⟨bb, 3, none⟩))) #[true, false, false, false, false, false, false, false, false, false, false, false, false, false, false, false, false, false, false, false, false, false, false, false, false, false, false, false, false, false, false, false, false, false] rfl rfl (by kernel_rfl) (fun _ _ _ h => h) (Or.inl ⟨by rfl, by intro w hSw; (try dsimp only at hSw); go_simp⟩) hS rfl ?_
            try simp only [Act.put, List.setIfInBounds_toArray, List.set_cons_zero, List.set_cons_succ]
            refine take_ (i := 1) (N := some 114) (v := (.slice (some ad) ks.length c3)) #[true, true, false, false, false, false, false, false, false, false, false, false, false, false, false, false, false, false, false, false, false, false, false, false, false, false, false, false, false, false, false, false, false, false] rfl rfl (by kernel_rfl) (fun _ _ _ h => h) (Or.inl ⟨by rfl, by intro w hSw; (try dsimp only at hSw); go_simp⟩) hS rfl ?_
            try simp only [Act.put, List.setIfInBounds_toArray, List.set_cons_zero, List.set_cons_succ]
            refine take_ (i := 2) (N := some 115) (v := (.int .i64 (i : Int))) #[true, true, true, false, false, false, false, false, false, false, false, false, false, false, false, false, false, false, false, false, false, false, false, false, false, false, false, false, false, false, false, false, false, false] rfl rfl (by kernel_rfl) (fun _ _ _ h => h) (Or.inl ⟨by rfl, by intro w hSw; (try dsimp only at hSw); go_simp⟩) hS rfl ?_
            try simp only [Act.put, List.setIfInBounds_toArray, List.set_cons_zero, List.set_cons_succ]
            refine take_ (i := 3) (N := some 116) (v := (.pointer (some (ad.add i)))) #[true, true, true, true, false, false, false, false, false, false, false, false, false, false, false, false, false, false, false, false, false, false, false, false, false, false, false, false, false, false, false, false, false, false] rfl rfl (by kernel_rfl) (fun _ _ _ h => h) (Or.inl ⟨by rfl, by intro w hSw; (try dsimp only at hSw); go_simp⟩) hS rfl ?_
            try simp only [Act.put, List.setIfInBounds_toArray, List.set_cons_zero, List.set_cons_succ]
            refine take_ (i := 4) (N := some 117) (v := (.string q)) #[true, true, true, true, true, false, false, false, false, false, false, false, false, false, false, false, false, false, false, false, false, false, false, false, false, false, false, false, false, false, false, false, false, false] rfl rfl (by kernel_rfl) (fun _ _ _ h => h) (Or.inl ⟨by rfl, by intro w hSw; (try dsimp only at hSw); go_simp⟩) hS rfl ?_
            try simp only [Act.put, List.setIfInBounds_toArray, List.set_cons_zero, List.set_cons_succ]
            refine take_ (i := 5) (N := some 118) (v := (.int .i64 (q.size : Int))) #[true, true, true, true, true, true, false, false, false, false, false, false, false, false, false, false, false, false, false, false, false, false, false, false, false, false, false, false, false, false, false, false, false, false] rfl rfl (by kernel_rfl) (fun _ _ _ h => h) (Or.inl ⟨by rfl, by intro w hSw; (try dsimp only at hSw); go_simp⟩) hS rfl ?_
            try simp only [Act.put, List.setIfInBounds_toArray, List.set_cons_zero, List.set_cons_succ]
            refine take_ (i := 6) (N := some 119) (v := (.bool false)) #[true, true, true, true, true, true, true, false, false, false, false, false, false, false, false, false, false, false, false, false, false, false, false, false, false, false, false, false, false, false, false, false, false, false] rfl rfl (by kernel_rfl) (fun _ _ _ h => h) (Or.inl ⟨by rfl, by intro w hSw; (try dsimp only at hSw); go_simp⟩) hS rfl ?_
            try simp only [Act.put, List.setIfInBounds_toArray, List.set_cons_zero, List.set_cons_succ]
            refine take_ (i := 7) (N := some 120) (v := (.bool false)) #[true, true, true, true, true, true, true, true, false, false, false, false, false, false, false, false, false, false, false, false, false, false, false, false, false, false, false, false, false, false, false, false, false, false] rfl rfl (by kernel_rfl) (fun _ _ _ h => h) (Or.inl ⟨by rfl, by intro w hSw; (try dsimp only at hSw); go_simp⟩) hS rfl ?_
            try simp only [Act.put, List.setIfInBounds_toArray, List.set_cons_zero, List.set_cons_succ]
            refine take_ (i := 8) (N := some 121) (v := (.pointer (some ⟨bb, 3, none⟩))) #[true, true, true, true, true, true, true, true, true, false, false, false, false, false, false, false, false, false, false, false, false, false, false, false, false, false, false, false, false, false, false, false, false, false] rfl rfl (by kernel_rfl) (fun _ _ _ h => h) (Or.inl ⟨by rfl, by intro w hSw; (try dsimp only at hSw); go_simp⟩) hS rfl ?_
            try simp only [Act.put, List.setIfInBounds_toArray, List.set_cons_zero, List.set_cons_succ]
            refine take_ (i := 9) (N := some 122) (v := (.slice (some ad) ks.length c3)) #[true, true, true, true, true, true, true, true, true, true, false, false, false, false, false, false, false, false, false, false, false, false, false, false, false, false, false, false, false, false, false, false, false, false] rfl rfl (by kernel_rfl) (fun _ _ _ h => h) (Or.inl ⟨by rfl, by intro w hSw; (try dsimp only at hSw); go_simp⟩) hS rfl ?_
            try simp only [Act.put, List.setIfInBounds_toArray, List.set_cons_zero, List.set_cons_succ]
            refine take_ (i := 10) (N := some 123) (v := (.int .i64 (i : Int))) #[true, true, true, true, true, true, true, true, true, true, true, false, false, false, false, false, false, false, false, false, false, false, false, false, false, false, false, false, false, false, false, false, false, false] rfl rfl (by kernel_rfl) (fun _ _ _ h => h) (Or.inl ⟨by rfl, by intro w hSw; (try dsimp only at hSw); go_simp⟩) hS rfl ?_
            try simp only [Act.put, List.setIfInBounds_toArray, List.set_cons_zero, List.set_cons_succ]
            refine take_ (i := 11) (N := some 124) (v := (.pointer (some (ad.add i)))) #[true, true, true, true, true, true, true, true, true, true, true, true, false, false, false, false, false, false, false, false, false, false, false, false, false, false, false, false, false, false, false, false, false, false] rfl rfl (by kernel_rfl) (fun _ _ _ h => h) (Or.inl ⟨by rfl, by intro w hSw; (try dsimp only at hSw); go_simp⟩) hS rfl ?_
            try simp only [Act.put, List.setIfInBounds_toArray, List.set_cons_zero, List.set_cons_succ]
            refine take_ (i := 12) (N := some 125) (v := (.string q)) #[true, true, true, true, true, true, true, true, true, true, true, true, true, false, false, false, false, false, false, false, false, false, false, false, false, false, false, false, false, false, false, false, false, false] rfl rfl (by kernel_rfl) (fun _ _ _ h => h) (Or.inl ⟨by rfl, by intro w hSw; (try dsimp only at hSw); go_simp⟩) hS rfl ?_
            try simp only [Act.put, List.setIfInBounds_toArray, List.set_cons_zero, List.set_cons_succ]
            refine one_ (i := 13) (N := some 126) #[true, true, true, true, true, true, true, true, true, true, true, true, true, true, false, false, false, false, false, false, false, false, false, false, false, false, false, false, false, false, false, false, false, false] rfl rfl (by kernel_rfl) (by decide) ?_
            intro K hK
            go_simp
            go_at_call 45; (with_reducible refine (HV.out _).mono ?_); rintro e we ⟨rfl, hb⟩; have HX92 := Aside0.mk (below_step HX9.out hb); clear HX9; have HX9 := HX92; clear HX92 hb
            refine hK.out _ _ ⟨HK3.out _ HX9.out, HKq.out _ HX9.out⟩ (fun hS => ?_)
            clear hK K
            try simp only [Act.put, List.setIfInBounds_toArray, List.set_cons_zero, List.set_cons_succ]
            refine take_ (i := 14) (N := some 127) (v := (.bool true)) #[true, true, true, true, true, true, true, true, true, true, true, true, true, true, true, false, false, false, false, false, false, false, false, false, false, false, false, false, false, false, false, false, false, false] rfl rfl (by kernel_rfl) (fun _ _ _ h => h) (Or.inl ⟨by rfl, by intro w hSw; (try dsimp only at hSw); go_simp⟩) hS rfl ?_
            try simp only [Act.put, List.setIfInBounds_toArray, List.set_cons_zero, List.set_cons_succ]
            refine take_ (i := 15) (N := some 128) (v := (.bool true)) #[true, true, true, true, true, true, true, true, true, true, true, true, true, true, true, true, false, false, false, false, false, false, false, false, false, false, false, false, false, false, false, false, false, false] rfl rfl (by kernel_rfl) (fun _ _ _ h => h) (Or.inl ⟨by rfl, by intro w hSw; (try dsimp only at hSw); go_simp⟩) hS rfl ?_
            try simp only [Act.put, List.setIfInBounds_toArray, List.set_cons_zero, List.set_cons_succ]
            refine take_ (i := 16) (N := some 129) (v := (.bool true)) #[true, true, true, true, true, true, true, true, true, true, true, true, true, true, true, true, true, false, false, false, false, false, false, false, false, false, false, false, false, false, false, false, false, false] rfl rfl (by kernel_rfl) (fun _ _ _ h => h) (Or.inl ⟨by rfl, by intro w hSw; (try dsimp only at hSw); go_simp⟩) hS rfl ?_
            try simp only [Act.put, List.setIfInBounds_toArray, List.set_cons_zero, List.set_cons_succ]
            refine take_ (i := 17) (N := some 130) (v := undef) #[true, true, true, true, true, true, true, true, true, true, true, true, true, true, true, true, true, true, false, false, false, false, false, false, false, false, false, false, false, false, false, false, false, false] rfl rfl (by kernel_rfl) (fun _ _ _ h => h) (Or.inr ⟨by rfl, rfl⟩) hS rfl ?_
            try simp only [Act.put, List.setIfInBounds_toArray, List.set_cons_zero, List.set_cons_succ]
            refine take_ (i := 18) (N := some 131) (v := undef) #[true, true, true, true, true, true, true, true, true, true, true, true, true, true, true, true, true, true, true, false, false, false, false, false, false, false, false, false, false, false, false, false, false, false] rfl rfl (by kernel_rfl) (fun _ _ _ h => h) (Or.inr ⟨by rfl, rfl⟩) hS rfl ?_
            try simp only [Act.put, List.setIfInBounds_toArray, List.set_cons_zero, List.set_cons_succ]
            refine take_ (i := 19) (N := some 132) (v := undef) #[true, true, true, true, true, true, true, true, true, true, true, true, true, true, true, true, true, true, true, true, false, false, false, false, false, false, false, false, false, false, false, false, false, false] rfl rfl (by kernel_rfl) (fun _ _ _ h => h) (Or.inr ⟨by rfl, rfl⟩) hS rfl ?_
            try simp only [Act.put, List.setIfInBounds_toArray, List.set_cons_zero, List.set_cons_succ]
            refine take_ (i := 20) (N := some 133) (v := undef) #[true, true, true, true, true, true, true, true, true, true, true, true, true, true, true, true, true, true, true, true, true, false, false, false, false, false, false, false, false, false, false, false, false, false] rfl rfl (by kernel_rfl) (fun _ _ _ h => h) (Or.inr ⟨by rfl, rfl⟩) hS rfl ?_
            try simp only [Act.put, List.setIfInBounds_toArray, List.set_cons_zero, List.set_cons_succ]
            refine take_ (i := 21) (N := some 134) (v := undef) #[true, true, true, true, true, true, true, true, true, true, true, true, true, true, true, true, true, true, true, true, true, true, false, false, false, false, false, false, false, false, false, false, false, false] rfl rfl (by kernel_rfl) (fun _ _ _ h => h) (Or.inr ⟨by rfl, rfl⟩) hS rfl ?_
            try simp only [Act.put, List.setIfInBounds_toArray, List.set_cons_zero, List.set_cons_succ]
            refine take_ (i := 22) (N := some 135) (v := undef) #[true, true, true, true, true, true, true, true, true, true, true, true, true, true, true, true, true, true, true, true, true, true, true, false, false, false, false, false, false, false, false, false, false, false] rfl rfl (by kernel_rfl) (fun _ _ _ h => h) (Or.inr ⟨by rfl, rfl⟩) hS rfl ?_
            try simp only [Act.put, List.setIfInBounds_toArray, List.set_cons_zero, List.set_cons_succ]
            refine take_ (i := 23) (N := some 136) (v := undef) #[true, true, true, true, true, true, true, true, true, true, true, true, true, true, true, true, true, true, true, true, true, true, true, true, false, false, false, false, false, false, false, false, false, false] rfl rfl (by kernel_rfl) (fun _ _ _ h => h) (Or.inr ⟨by rfl, rfl⟩) hS rfl ?_
            try simp only [Act.put, List.setIfInBounds_toArray, List.set_cons_zero, List.set_cons_succ]
            refine take_ (i := 24) (N := some 137) (v := undef) #[true, true, true, true, true, true, true, true, true, true, true, true, true, true, true, true, true, true, true, true, true, true, true, true, true, false, false, false, false, false, false, false, false, false] rfl rfl (by kernel_rfl) (fun _ _ _ h => h) (Or.inr ⟨by rfl, rfl⟩) hS rfl ?_
            try simp only [Act.put, List.setIfInBounds_toArray, List.set_cons_zero, List.set_cons_succ]
            refine take_ (i := 25) (N := some 138) (v := undef) #[true, true, true, true, true, true, true, true, true, true, true, true, true, true, true, true, true, true, true, true, true, true, true, true, true, true, false, false, false, false, false, false, false, false] rfl rfl (by kernel_rfl) (fun _ _ _ h => h) (Or.inr ⟨by rfl, rfl⟩) hS rfl ?_
            try simp only [Act.put, List.setIfInBounds_toArray, List.set_cons_zero, List.set_cons_succ]
            refine take_ (i := 26) (N := some 139) (v := undef) #[true, true, true, true, true, true, true, true, true, true, true, true, true, true, true, true, true, true, true, true, true, true, true, true, true, true, true, false, false, false, false, false, false, false] rfl rfl (by kernel_rfl) (fun _ _ _ h => h) (Or.inr ⟨by rfl, rfl⟩) hS rfl ?_
            try simp only [Act.put, List.setIfInBounds_toArray, List.set_cons_zero, List.set_cons_succ]
            refine take_ (i := 27) (N := some 140) (v := undef) #[true, true, true, true, true, true, true, true, true, true, true, true, true, true, true, true, true, true, true, true, true, true, true, true, true, true, true, true, false, false, false, false, false, false] rfl rfl (by kernel_rfl) (fun _ _ _ h => h) (Or.inr ⟨by rfl, rfl⟩) hS rfl ?_
            try simp only [Act.put, List.setIfInBounds_toArray, List.set_cons_zero, List.set_cons_succ]
            refine take_ (i := 28) (N := some 141) (v := undef) #[true, true, true, true, true, true, true, true, true, true, true, true, true, true, true, true, true, true, true, true, true, true, true, true, true, true, true, true, true, false, false, false, false, false] rfl rfl (by kernel_rfl) (fun _ _ _ h => h) (Or.inr ⟨by rfl, rfl⟩) hS rfl ?_
            try simp only [Act.put, List.setIfInBounds_toArray, List.set_cons_zero, List.set_cons_succ]
            refine take_ (i := 29) (N := some 142) (v := undef) #[true, true, true, true, true, true, true, true, true, true, true, true, true, true, true, true, true, true, true, true, true, true, true, true, true, true, true, true, true, true, false, false, false, false] rfl rfl (by kernel_rfl) (fun _ _ _ h => h) (Or.inr ⟨by rfl, rfl⟩) hS rfl ?_
            try simp only [Act.put, List.setIfInBounds_toArray, List.set_cons_zero, List.set_cons_succ]
            refine take_ (i := 30) (N := some 143) (v := undef) #[true, true, true, true, true, true, true, true, true, true, true, true, true, true, true, true, true, true, true, true, true, true, true, true, true, true, true, true, true, true, true, false, false, false] rfl rfl (by kernel_rfl) (fun _ _ _ h => h) (Or.inr ⟨by rfl, rfl⟩) hS rfl ?_
            try simp only [Act.put, List.setIfInBounds_toArray, List.set_cons_zero, List.set_cons_succ]
            refine take_ (i := 31) (N := some 144) (v := undef) #[true, true, true, true, true, true, true, true, true, true, true, true, true, true, true, true, true, true, true, true, true, true, true, true, true, true, true, true, true, true, true, true, false, false] rfl rfl (by kernel_rfl) (fun _ _ _ h => h) (Or.inr ⟨by rfl, rfl⟩) hS rfl ?_
            try simp only [Act.put, List.setIfInBounds_toArray, List.set_cons_zero, List.set_cons_succ]
            refine take_ (i := 32) (N := some 145) (v := undef) #[true, true, true, true, true, true, true, true, true, true, true, true, true, true, true, true, true, true, true, true, true, true, true, true, true, true, true, true, true, true, true, true, true, false] rfl rfl (by kernel_rfl) (fun _ _ _ h => h) (Or.inr ⟨by rfl, rfl⟩) hS rfl ?_
            try simp only [Act.put, List.setIfInBounds_toArray, List.set_cons_zero, List.set_cons_succ]
            refine take_ (i := 33) (N := some 146) (v := (.bool true)) #[true, true, true, true, true, true, true, true, true, true, true, true, true, true, true, true, true, true, true, true, true, true, true, true, true, true, true, true, true, true, true, true, true, true] rfl rfl (by kernel_rfl) (fun _ _ _ h => h) (Or.inl ⟨by rfl, by intro w hSw; (try dsimp only at hSw); go_simp⟩) hS rfl ?_
            try simp only [Act.put, List.setIfInBounds_toArray, List.set_cons_zero, List.set_cons_succ]
            refine done_ (by kernel_rfl) ?_
            go_wp2_with fail
            go_ret3
            exact HPf _ _ rfl (below_step HW.out HX9.out)
        | true =>
          rw [Bool.true_and] at hF
          by_cases c2 : i = 0
          · subst c2
            have HG : Aside0 (ko (some q) (ks.drop 1) = ko none ks) := ⟨hF⟩
            have HKq2 : Aside0 (∀ W', Below wr.heap.size wr W' → W'.cell? ad = some (.string q)) := ⟨HKq.out⟩
            clear hF hqz hkr c1 hv he HKq
            as_aux_lemma =>
              go_upto_region 9 with fail
              refine start_ (n := 34) (S := fun w' => w'.cell? ⟨bb, 3, none⟩ = some (.slice (some ad) ks.length c3) ∧ w'.cell? ad = some (.string q)) (ds := []) #[false, false, false, false, false, false, false, false, false, false, false, false, false, false, false, false, false, false, false, false, false, false, false, false, false, false, false, false, false, false, false, false, false, false] (by kernel_rfl) rfl (by rfl) ⟨HK3.out _ HX9.out, HKq2.out _ HX9.out⟩ (fun hS => ?_)
              refine take_ (i := 0) (N := some 113) (v := (.pointer (some ⟨bb, 3, none⟩))) #[true, false, false, false, false, false, false, false, false, false, false, false, false, false, false, false, false, false, false, false, false, false, false, false, false, false, false, false, false, false, false, false, false, false] rfl rfl (by kernel_rfl) (fun _ _ _ h => h) (Or.inl ⟨by rfl, by intro w hSw; (try dsimp only at hSw); go_simp⟩) hS rfl ?_
              try simp only [Act.put, List.setIfInBounds_toArray, List.set_cons_zero, List.set_cons_succ]
              refine take_ (i := 1) (N := some 114) (v := (.slice (some ad) ks.length c3)) #[true, true, false, false, false, false, false, false, false, false, false, false, false, false, false, false, false, false, false, false, false, false, false, false, false, false, false, false, false, false, false, false, false, false] rfl rfl (by kernel_rfl) (fun _ _ _ h => h) (Or.inl ⟨by rfl, by intro w hSw; (try dsimp only at hSw); go_simp⟩) hS rfl ?_
              try simp only [Act.put, List.setIfInBounds_toArray, List.set_cons_zero, List.set_cons_succ]
              refine take_ (i := 2) (N := some 115) (v := (.int .i64 0)) #[true, true, true, false, false, false, false, false, false, false, false, false, false, false, false, false, false, false, false, false, false, false, false, false, false, false, false, false, false, false, false, false, false, false] rfl rfl (by kernel_rfl) (fun _ _ _ h => h) (Or.inl ⟨by rfl, by intro w hSw; (try dsimp only at hSw); go_simp⟩) hS rfl ?_
              try simp only [Act.put, List.setIfInBounds_toArray, List.set_cons_zero, List.set_cons_succ]
              refine take_ (i := 3) (N := some 116) (v := (.pointer (some ad))) #[true, true, true, true, false, false, false, false, false, false, false, false, false, false, false, false, false, false, false, false, false, false, false, false, false, false, false, false, false, false, false, false, false, false] rfl rfl (by kernel_rfl) (fun _ _ _ h => h) (Or.inl ⟨by rfl, by intro w hSw; (try dsimp only at hSw); go_simp⟩) hS rfl ?_
              try simp only [Act.put, List.setIfInBounds_toArray, List.set_cons_zero, List.set_cons_succ]
              refine take_ (i := 4) (N := some 117) (v := (.string q)) #[true, true, true, true, true, false, false, false, false, false, false, false, false, false, false, false, false, false, false, false, false, false, false, false, false, false, false, false, false, false, false, false, false, false] rfl rfl (by kernel_rfl) (fun _ _ _ h => h) (Or.inl ⟨by rfl, by intro w hSw; (try dsimp only at hSw); go_simp⟩) hS rfl ?_
              try simp only [Act.put, List.setIfInBounds_toArray, List.set_cons_zero, List.set_cons_succ]
              refine take_ (i := 5) (N := some 118) (v := (.int .i64 (q.size : Int))) #[true, true, true, true, true, true, false, false, false, false, false, false, false, false, false, false, false, false, false, false, false, false, false, false, false, false, false, false, false, false, false, false, false, false] rfl rfl (by kernel_rfl) (fun _ _ _ h => h) (Or.inl ⟨by rfl, by intro w hSw; (try dsimp only at hSw); go_simp⟩) hS rfl ?_
              try simp only [Act.put, List.setIfInBounds_toArray, List.set_cons_zero, List.set_cons_succ]
              refine take_ (i := 6) (N := some 119) (v := (.bool false)) #[true, true, true, true, true, true, true, false, false, false, false, false, false, false, false, false, false, false, false, false, false, false, false, false, false, false, false, false, false, false, false, false, false, false] rfl rfl (by kernel_rfl) (fun _ _ _ h => h) (Or.inl ⟨by rfl, by intro w hSw; (try dsimp only at hSw); go_simp⟩) hS rfl ?_
              try simp only [Act.put, List.setIfInBounds_toArray, List.set_cons_zero, List.set_cons_succ]
              refine take_ (i := 7) (N := some 120) (v := (.bool false)) #[true, true, true, true, true, true, true, true, false, false, false, false, false, false, false, false, false, false, false, false, false, false, false, false, false, false, false, false, false, false, false, false, false, false] rfl rfl (by kernel_rfl) (fun _ _ _ h => h) (Or.inl ⟨by rfl, by intro w hSw; (try dsimp only at hSw); go_simp⟩) hS rfl ?_
              try simp only [Act.put, List.setIfInBounds_toArray, List.set_cons_zero, List.set_cons_succ]
              refine take_ (i := 8) (N := some 121) (v := (.pointer (some ⟨bb, 3, none⟩))) #[true, true, true, true, true, true, true, true, true, false, false, false, false, false, false, false, false, false, false, false, false, false, false, false, false, false, false, false, false, false, false, false, false, false] rfl rfl (by kernel_rfl) (fun _ _ _ h => h) (Or.inl ⟨by rfl, by intro w hSw; (try dsimp only at hSw); go_simp⟩) hS rfl ?_
              try simp only [Act.put, List.setIfInBounds_toArray, List.set_cons_zero, List.set_cons_succ]
              refine take_ (i := 9) (N := some 122) (v := (.slice (some ad) ks.length c3)) #[true, true, true, true, true, true, true, true, true, true, false, false, false, false, false, false, false, false, false, false, false, false, false, false, false, false, false, false, false, false, false, false, false, false] rfl rfl (by kernel_rfl) (fun _ _ _ h => h) (Or.inl ⟨by rfl, by intro w hSw; (try dsimp only at hSw); go_simp⟩) hS rfl ?_
              try simp only [Act.put, List.setIfInBounds_toArray, List.set_cons_zero, List.set_cons_succ]
              refine take_ (i := 10) (N := some 123) (v := (.int .i64 0)) #[true, true, true, true, true, true, true, true, true, true, true, false, false, false, false, false, false, false, false, false, false, false, false, false, false, false, false, false, false, false, false, false, false, false] rfl rfl (by kernel_rfl) (fun _ _ _ h => h) (Or.inl ⟨by rfl, by intro w hSw; (try dsimp only at hSw); go_simp⟩) hS rfl ?_
              try simp only [Act.put, List.setIfInBounds_toArray, List.set_cons_zero, List.set_cons_succ]
              refine take_ (i := 11) (N := some 124) (v := (.pointer (some ad))) #[true, true, true, true, true, true, true, true, true, true, true, true, false, false, false, false, false, false, false, false, false, false, false, false, false, false, false, false, false, false, false, false, false, false] rfl rfl (by kernel_rfl) (fun _ _ _ h => h) (Or.inl ⟨by rfl, by intro w hSw; (try dsimp only at hSw); go_simp⟩) hS rfl ?_
              try simp only [Act.put, List.setIfInBounds_toArray, List.set_cons_zero, List.set_cons_succ]
              refine take_ (i := 12) (N := some 125) (v := (.string q)) #[true, true, true, true, true, true, true, true, true, true, true, true, true, false, false, false, false, false, false, false, false, false, false, false, false, false, false, false, false, false, false, false, false, false] rfl rfl (by kernel_rfl) (fun _ _ _ h => h) (Or.inl ⟨by rfl, by intro w hSw; (try dsimp only at hSw); go_simp⟩) hS rfl ?_
              try simp only [Act.put, List.setIfInBounds_toArray, List.set_cons_zero, List.set_cons_succ]
              refine one_ (i := 13) (N := some 126) #[true, true, true, true, true, true, true, true, true, true, true, true, true, true, false, false, false, false, false, false, false, false, false, false, false, false, false, false, false, false, false, false, false, false] rfl rfl (by kernel_rfl) (by decide) ?_
              intro K hK
              go_simp
              go_at_call 45; (with_reducible refine (HV.out _).mono ?_); rintro e we ⟨rfl, hb⟩; have HX92 := Aside0.mk (below_step HX9.out hb); clear HX9; have HX9 := HX92; clear HX92 hb
              refine hK.out _ _ ⟨HK3.out _ HX9.out, HKq2.out _ HX9.out⟩ (fun hS => ?_)
              clear hK K
              try simp only [Act.put, List.setIfInBounds_toArray, List.set_cons_zero, List.set_cons_succ]
              refine take_ (i := 14) (N := some 127) (v := (.bool false)) #[true, true, true, true, true, true, true, true, true, true, true, true, true, true, true, false, false, false, false, false, false, false, false, false, false, false, false, false, false, false, false, false, false, false] rfl rfl (by kernel_rfl) (fun _ _ _ h => h) (Or.inl ⟨by rfl, by intro w hSw; (try dsimp only at hSw); go_simp⟩) hS rfl ?_
              try simp only [Act.put, List.setIfInBounds_toArray, List.set_cons_zero, List.set_cons_succ]
              refine take_ (i := 15) (N := some 128) (v := (.bool false)) #[true, true, true, true, true, true, true, true, true, true, true, true, true, true, true, true, false, false, false, false, false, false, false, false, false, false, false, false, false, false, false, false, false, false] rfl rfl (by kernel_rfl) (fun _ _ _ h => h) (Or.inl ⟨by rfl, by intro w hSw; (try dsimp only at hSw); go_simp⟩) hS rfl ?_
              try simp only [Act.put, List.setIfInBounds_toArray, List.set_cons_zero, List.set_cons_succ]
              refine take_ (i := 16) (N := some 129) (v := (.bool false)) #[true, true, true, true, true, true, true, true, true, true, true, true, true, true, true, true, true, false, false, false, false, false, false, false, false, false, false, false, false, false, false, false, false, false] rfl rfl (by kernel_rfl) (fun _ _ _ h => h) (Or.inl ⟨by rfl, by intro w hSw; (try dsimp only at hSw); go_simp⟩) hS rfl ?_
              try simp only [Act.put, List.setIfInBounds_toArray, List.set_cons_zero, List.set_cons_succ]
              refine take_ (i := 17) (N := some 130) (v := (.int .i64 0)) #[true, true, true, true, true, true, true, true, true, true, true, true, true, true, true, true, true, true, false, false, false, false, false, false, false, false, false, false, false, false, false, false, false, false] rfl rfl (by kernel_rfl) (fun _ _ _ h => h) (Or.inl ⟨by rfl, by intro w hSw; (try dsimp only at hSw); go_simp⟩) hS rfl ?_
              try simp only [Act.put, List.setIfInBounds_toArray, List.set_cons_zero, List.set_cons_succ]
              refine take_ (i := 18) (N := some 131) (v := (.bool false)) #[true, true, true, true, true, true, true, true, true, true, true, true, true, true, true, true, true, true, true, false, false, false, false, false, false, false, false, false, false, false, false, false, false, false] rfl rfl (by kernel_rfl) (fun _ _ _ h => h) (Or.inl ⟨by rfl, by intro w hSw; (try dsimp only at hSw); go_simp⟩) hS rfl ?_
              try simp only [Act.put, List.setIfInBounds_toArray, List.set_cons_zero, List.set_cons_succ]
              refine take_ (i := 19) (N := some 132) (v := (.bool false)) #[true, true, true, true, true, true, true, true, true, true, true, true, true, true, true, true, true, true, true, true, false, false, false, false, false, false, false, false, false, false, false, false, false, false] rfl rfl (by kernel_rfl) (fun _ _ _ h => h) (Or.inl ⟨by rfl, by intro w hSw; (try dsimp only at hSw); go_simp⟩) hS rfl ?_
              try simp only [Act.put, List.setIfInBounds_toArray, List.set_cons_zero, List.set_cons_succ]
              refine take_ (i := 20) (N := some 133) (v := undef) #[true, true, true, true, true, true, true, true, true, true, true, true, true, true, true, true, true, true, true, true, true, false, false, false, false, false, false, false, false, false, false, false, false, false] rfl rfl (by kernel_rfl) (fun _ _ _ h => h) (Or.inr ⟨by rfl, rfl⟩) hS rfl ?_
              try simp only [Act.put, List.setIfInBounds_toArray, List.set_cons_zero, List.set_cons_succ]
              refine take_ (i := 21) (N := some 134) (v := undef) #[true, true, true, true, true, true, true, true, true, true, true, true, true, true, true, true, true, true, true, true, true, true, false, false, false, false, false, false, false, false, false, false, false, false] rfl rfl (by kernel_rfl) (fun _ _ _ h => h) (Or.inr ⟨by rfl, rfl⟩) hS rfl ?_
              try simp only [Act.put, List.setIfInBounds_toArray, List.set_cons_zero, List.set_cons_succ]
              refine take_ (i := 22) (N := some 135) (v := undef) #[true, true, true, true, true, true, true, true, true, true, true, true, true, true, true, true, true, true, true, true, true, true, true, false, false, false, false, false, false, false, false, false, false, false] rfl rfl (by kernel_rfl) (fun _ _ _ h => h) (Or.inr ⟨by rfl, rfl⟩) hS rfl ?_
              try simp only [Act.put, List.setIfInBounds_toArray, List.set_cons_zero, List.set_cons_succ]
              refine take_ (i := 23) (N := some 136) (v := undef) #[true, true, true, true, true, true, true, true, true, true, true, true, true, true, true, true, true, true, true, true, true, true, true, true, false, false, false, false, false, false, false, false, false, false] rfl rfl (by kernel_rfl) (fun _ _ _ h => h) (Or.inr ⟨by rfl, rfl⟩) hS rfl ?_
              try simp only [Act.put, List.setIfInBounds_toArray, List.set_cons_zero, List.set_cons_succ]
              refine take_ (i := 24) (N := some 137) (v := undef) #[true, true, true, true, true, true, true, true, true, true, true, true, true, true, true, true, true, true, true, true, true, true, true, true, true, false, false, false, false, false, false, false, false, false] rfl rfl (by kernel_rfl) (fun _ _ _ h => h) (Or.inr ⟨by rfl, rfl⟩) hS rfl ?_
              try simp only [Act.put, List.setIfInBounds_toArray, List.set_cons_zero, List.set_cons_succ]
              refine take_ (i := 25) (N := some 138) (v := undef) #[true, true, true, true, true, true, true, true, true, true, true, true, true, true, true, true, true, true, true, true, true, true, true, true, true, true, false, false, false, false, false, false, false, false] rfl rfl (by kernel_rfl) (fun _ _ _ h => h) (Or.inr ⟨by rfl, rfl⟩) hS rfl ?_
              try simp only [Act.put, List.setIfInBounds_toArray, List.set_cons_zero, List.set_cons_succ]
              refine take_ (i := 26) (N := some 139) (v := undef) #[true, true, true, true, true, true, true, true, true, true, true, true, true, true, true, true, true, true, true, true, true, true, true, true, true, true, true, false, false, false, false, false, false, false] rfl rfl (by kernel_rfl) (fun _ _ _ h => h) (Or.inr ⟨by rfl, rfl⟩) hS rfl ?_
              try simp only [Act.put, List.setIfInBounds_toArray, List.set_cons_zero, List.set_cons_succ]
              refine take_ (i := 27) (N := some 140) (v := undef) #[true, true, true, true, true, true, true, true, true, true, true, true, true, true, true, true, true, true, true, true, true, true, true, true, true, true, true, true, false, false, false, false, false, false] rfl rfl (by kernel_rfl) (fun _ _ _ h => h) (Or.inr ⟨by rfl, rfl⟩) hS rfl ?_
              try simp only [Act.put, List.setIfInBounds_toArray, List.set_cons_zero, List.set_cons_succ]
              refine take_ (i := 28) (N := some 141) (v := undef) #[true, true, true, true, true, true, true, true, true, true, true, true, true, true, true, true, true, true, true, true, true, true, true, true, true, true, true, true, true, false, false, false, false, false] rfl rfl (by kernel_rfl) (fun _ _ _ h => h) (Or.inr ⟨by rfl, rfl⟩) hS rfl ?_
              try simp only [Act.put, List.setIfInBounds_toArray, List.set_cons_zero, List.set_cons_succ]
              refine take_ (i := 29) (N := some 142) (v := undef) #[true, true, true, true, true, true, true, true, true, true, true, true, true, true, true, true, true, true, true, true, true, true, true, true, true, true, true, true, true, true, false, false, false, false] rfl rfl (by kernel_rfl) (fun _ _ _ h => h) (Or.inr ⟨by rfl, rfl⟩) hS rfl ?_
              try simp only [Act.put, List.setIfInBounds_toArray, List.set_cons_zero, List.set_cons_succ]
              refine take_ (i := 30) (N := some 143) (v := undef) #[true, true, true, true, true, true, true, true, true, true, true, true, true, true, true, true, true, true, true, true, true, true, true, true, true, true, true, true, true, true, true, false, false, false] rfl rfl (by kernel_rfl) (fun _ _ _ h => h) (Or.inr ⟨by rfl, rfl⟩) hS rfl ?_
              try simp only [Act.put, List.setIfInBounds_toArray, List.set_cons_zero, List.set_cons_succ]
              refine take_ (i := 31) (N := some 144) (v := undef) #[true, true, true, true, true, true, true, true, true, true, true, true, true, true, true, true, true, true, true, true, true, true, true, true, true, true, true, true, true, true, true, true, false, false] rfl rfl (by kernel_rfl) (fun _ _ _ h => h) (Or.inr ⟨by rfl, rfl⟩) hS rfl ?_
              try simp only [Act.put, List.setIfInBounds_toArray, List.set_cons_zero, List.set_cons_succ]
              refine take_ (i := 32) (N := some 145) (v := (.bool false)) #[true, true, true, true, true, true, true, true, true, true, true, true, true, true, true, true, true, true, true, true, true, true, true, true, true, true, true, true, true, true, true, true, true, false] rfl rfl (by kernel_rfl) (fun _ _ _ h => h) (Or.inl ⟨by rfl, by intro w hSw; (try dsimp only at hSw); go_simp⟩) hS rfl ?_
              try simp only [Act.put, List.setIfInBounds_toArray, List.set_cons_zero, List.set_cons_succ]
              refine take_ (i := 33) (N := some 146) (v := (.bool false)) #[true, true, true, true, true, true, true, true, true, true, true, true, true, true, true, true, true, true, true, true, true, true, true, true, true, true, true, true, true, true, true, true, true, true] rfl rfl (by kernel_rfl) (fun _ _ _ h => h) (Or.inl ⟨by rfl, by intro w hSw; (try dsimp only at hSw); go_simp⟩) hS rfl ?_
              try simp only [Act.put, List.setIfInBounds_toArray, List.set_cons_zero, List.set_cons_succ]
              refine done_ (by kernel_rfl) ?_
              have HB2 := Aside0.mk (HB.out.below HX9.out); have HW2 := Aside0.mk (below_step HW.out HX9.out); clear HB HW; have HB := HB2; have HW := HW2; clear HB2 HW2
              clear q0 q1 q2 q3 q4
              obtain ⟨q0, q1, q2, q3, q4⟩ := HB.out.cells
              dsimp only at q0 q1 q2 q3 q4
              have he := HKq2.out _ HX9.out
              go_wp2_with fail
              go_roundg j1
              case measure => omega
              case rel => exact ⟨1, c + (q.size : Int), by have := HI.out; omega, rfl, rfl, ⟨by have h1 := HKt.out; have h2 := HNc.out; rw [Nat.zero_add] at h1; omega, by have h1 := HD.out; simp only [Nat.sub_self, h1]; exact HG.out⟩, by omega, HB, HW⟩
          · obtain ⟨i, rfl⟩ : ∃ m, i = m + 1 := ⟨i - 1, by omega⟩
            have hpi : ks[i]? = some ks[i] := List.getElem?_eq_getElem (by omega)
            obtain ⟨p, hp⟩ : ∃ p, ks[i] = p := ⟨_, rfl⟩
            rw [hp] at hpi
            obtain ⟨ad', e1', he'⟩ := str_at hkr i (by omega) hpi
            obtain rfl : ad = ad' := Option.some.inj e1'
            rw [if_neg c2, Nat.add_sub_cancel, hpi] at hF
            dsimp only at hF
            have g4 : decide (((i + 1 : Nat) : Int) > 0) = true := decide_eq_true (by omega)
            have g5 : decide (0 < i + 1) = true := decide_eq_true (by omega)
            have g6 : (0 ≤ (i : Int)) = True := eq_true (by omega)
            have g7 : ((i : Int) < (ks.length : Int)) = True := eq_true (by omega)
            have g8 : ((i : Int) + 1 < 0) = False := eq_false (by omega)
            have g9 : ((i : Int) + 1 < (ks.length : Int)) = True := eq_true (by omega)
            have g10 : (0 ≤ (i : Int) + 1) = True := eq_true (by omega)
            have hwi : IntKind.i64.wrap (i : Int) = (i : Int) := by rw [i64_w]; unfold Go.RowKit.wrap64; omega
            have HKq2 : Aside0 (∀ W', Below wr.heap.size wr W' → W'.cell? ⟨ad.block, ad.off + (i + 1), none⟩ = some (.string q)) := ⟨HKq.out⟩
            have HKp := Aside0.mk (fun (W' : World) (hb : Below wr.heap.size wr W') => (hb.cell (World.block_lt_of_cell? wr _ he')).trans he')
            obtain ⟨lb, hlb⟩ : ∃ lb, blt p q = lb := ⟨_, rfl⟩
            have b1 : Op.bytesLess p.toList q.toList = lb := hlb
            rw [hlb] at hF
            clear hqz hkr c1 hv hp hpi e1' c2 he he' hlb HKq
            cases lb with
            | true =>
              rw [Bool.true_and] at hF
              have HG := Aside0.mk hF
              clear hF
              as_aux_lemma =>
                go_upto_region 9 with fail
                refine start_ (n := 34) (S := fun w' => w'.cell? ⟨bb, 3, none⟩ = some (.slice (some ad) ks.length c3) ∧ w'.cell? ⟨ad.block, ad.off + (i + 1), none⟩ = some (.string q) ∧ w'.cell? (ad.add i) = some (.string p)) (ds := []) #[false, false, false, false, false, false, false, false, false, false, false, false, false, false, false, false, false, false, false, false, false, false, false, false, false, false, false, false, false, false, false, false, false, false] (by kernel_rfl) rfl (by rfl) ⟨HK3.out _ HX9.out, HKq2.out _ HX9.out, HKp.out _ HX9.out⟩ (fun hS => ?_)
                refine take_ (i := 0) (N := some 113) (v := (.pointer (some ⟨bb, 3, none⟩))) #[true, false, false, false, false, false, false, false, false, false, false, false, false, false, false, false, false, false, false, false, false, false, false, false, false, false, false, false, false, false, false, false, false, false] rfl rfl (by kernel_rfl) (fun _ _ _ h => h) (Or.inl ⟨by rfl, by intro w hSw; (try dsimp only at hSw); go_simp⟩) hS rfl ?_
                try simp only [Act.put, List.setIfInBounds_toArray, List.set_cons_zero, List.set_cons_succ]
                refine take_ (i := 1) (N := some 114) (v := (.slice (some ad) ks.length c3)) #[true, true, false, false, false, false, false, false, false, false, false, false, false, false, false, false, false, false, false, false, false, false, false, false, false, false, false, false, false, false, false, false, false, false] rfl rfl (by kernel_rfl) (fun _ _ _ h => h) (Or.inl ⟨by rfl, by intro w hSw; (try dsimp only at hSw); go_simp⟩) hS rfl ?_
                try simp only [Act.put, List.setIfInBounds_toArray, List.set_cons_zero, List.set_cons_succ]
                refine take_ (i := 2) (N := some 115) (v := (.int .i64 ((i : Int) + 1))) #[true, true, true, false, false, false, false, false, false, false, false, false, false, false, false, false, false, false, false, false, false, false, false, false, false, false, false, false, false, false, false, false, false, false] rfl rfl (by kernel_rfl) (fun _ _ _ h => h) (Or.inl ⟨by rfl, by intro w hSw; (try dsimp only at hSw); go_simp⟩) hS rfl ?_
                try simp only [Act.put, List.setIfInBounds_toArray, List.set_cons_zero, List.set_cons_succ]
                refine take_ (i := 3) (N := some 116) (v := (.pointer (some ⟨ad.block, ad.off + (i + 1), none⟩))) #[true, true, true, true, false, false, false, false, false, false, false, false, false, false, false, false, false, false, false, false, false, false, false, false, false, false, false, false, false, false, false, false, false, false] rfl rfl (by kernel_rfl) (fun _ _ _ h => h) (Or.inl ⟨by rfl, by intro w hSw; (try dsimp only at hSw); go_simp⟩) hS rfl ?_
                try simp only [Act.put, List.setIfInBounds_toArray, List.set_cons_zero, List.set_cons_succ]
                refine take_ (i := 4) (N := some 117) (v := (.string q)) #[true, true, true, true, true, false, false, false, false, false, false, false, false, false, false, false, false, false, false, false, false, false, false, false, false, false, false, false, false, false, false, false, false, false] rfl rfl (by kernel_rfl) (fun _ _ _ h => h) (Or.inl ⟨by rfl, by intro w hSw; (try dsimp only at hSw); go_simp⟩) hS rfl ?_
                try simp only [Act.put, List.setIfInBounds_toArray, List.set_cons_zero, List.set_cons_succ]
                refine take_ (i := 5) (N := some 118) (v := (.int .i64 (q.size : Int))) #[true, true, true, true, true, true, false, false, false, false, false, false, false, false, false, false, false, false, false, false, false, false, false, false, false, false, false, false, false, false, false, false, false, false] rfl rfl (by kernel_rfl) (fun _ _ _ h => h) (Or.inl ⟨by rfl, by intro w hSw; (try dsimp only at hSw); go_simp⟩) hS rfl ?_
                try simp only [Act.put, List.setIfInBounds_toArray, List.set_cons_zero, List.set_cons_succ]
                refine take_ (i := 6) (N := some 119) (v := (.bool false)) #[true, true, true, true, true, true, true, false, false, false, false, false, false, false, false, false, false, false, false, false, false, false, false, false, false, false, false, false, false, false, false, false, false, false] rfl rfl (by kernel_rfl) (fun _ _ _ h => h) (Or.inl ⟨by rfl, by intro w hSw; (try dsimp only at hSw); go_simp⟩) hS rfl ?_
                try simp only [Act.put, List.setIfInBounds_toArray, List.set_cons_zero, List.set_cons_succ]
                refine take_ (i := 7) (N := some 120) (v := (.bool false)) #[true, true, true, true, true, true, true, true, false, false, false, false, false, false, false, false, false, false, false, false, false, false, false, false, false, false, false, false, false, false, false, false, false, false] rfl rfl (by kernel_rfl) (fun _ _ _ h => h) (Or.inl ⟨by rfl, by intro w hSw; (try dsimp only at hSw); go_simp⟩) hS rfl ?_
                try simp only [Act.put, List.setIfInBounds_toArray, List.set_cons_zero, List.set_cons_succ]
                refine take_ (i := 8) (N := some 121) (v := (.pointer (some ⟨bb, 3, none⟩))) #[true, true, true, true, true, true, true, true, true, false, false, false, false, false, false, false, false, false, false, false, false, false, false, false, false, false, false, false, false, false, false, false, false, false] rfl rfl (by kernel_rfl) (fun _ _ _ h => h) (Or.inl ⟨by rfl, by intro w hSw; (try dsimp only at hSw); go_simp⟩) hS rfl ?_
                try simp only [Act.put, List.setIfInBounds_toArray, List.set_cons_zero, List.set_cons_succ]
                refine take_ (i := 9) (N := some 122) (v := (.slice (some ad) ks.length c3)) #[true, true, true, true, true, true, true, true, true, true, false, false, false, false, false, false, false, false, false, false, false, false, false, false, false, false, false, false, false, false, false, false, false, false] rfl rfl (by kernel_rfl) (fun _ _ _ h => h) (Or.inl ⟨by rfl, by intro w hSw; (try dsimp only at hSw); go_simp⟩) hS rfl ?_
                try simp only [Act.put, List.setIfInBounds_toArray, List.set_cons_zero, List.set_cons_succ]
                refine take_ (i := 10) (N := some 123) (v := (.int .i64 ((i : Int) + 1))) #[true, true, true, true, true, true, true, true, true, true, true, false, false, false, false, false, false, false, false, false, false, false, false, false, false, false, false, false, false, false, false, false, false, false] rfl rfl (by kernel_rfl) (fun _ _ _ h => h) (Or.inl ⟨by rfl, by intro w hSw; (try dsimp only at hSw); go_simp⟩) hS rfl ?_
                try simp only [Act.put, List.setIfInBounds_toArray, List.set_cons_zero, List.set_cons_succ]
                refine take_ (i := 11) (N := some 124) (v := (.pointer (some ⟨ad.block, ad.off + (i + 1), none⟩))) #[true, true, true, true, true, true, true, true, true, true, true, true, false, false, false, false, false, false, false, false, false, false, false, false, false, false, false, false, false, false, false, false, false, false] rfl rfl (by kernel_rfl) (fun _ _ _ h => h) (Or.inl ⟨by rfl, by intro w hSw; (try dsimp only at hSw); go_simp⟩) hS rfl ?_
                try simp only [Act.put, List.setIfInBounds_toArray, List.set_cons_zero, List.set_cons_succ]
                refine take_ (i := 12) (N := some 125) (v := (.string q)) #[true, true, true, true, true, true, true, true, true, true, true, true, true, false, false, false, false, false, false, false, false, false, false, false, false, false, false, false, false, false, false, false, false, false] rfl rfl (by kernel_rfl) (fun _ _ _ h => h) (Or.inl ⟨by rfl, by intro w hSw; (try dsimp only at hSw); go_simp⟩) hS rfl ?_
                try simp only [Act.put, List.setIfInBounds_toArray, List.set_cons_zero, List.set_cons_succ]
                refine one_ (i := 13) (N := some 126) #[true, true, true, true, true, true, true, true, true, true, true, true, true, true, false, false, false, false, false, false, false, false, false, false, false, false, false, false, false, false, false, false, false, false] rfl rfl (by kernel_rfl) (by decide) ?_
                intro K hK
                go_simp
                go_at_call 45; (with_reducible refine (HV.out _).mono ?_); rintro e we ⟨rfl, hb⟩; have HX92 := Aside0.mk (below_step HX9.out hb); clear HX9; have HX9 := HX92; clear HX92 hb
                refine hK.out _ _ ⟨HK3.out _ HX9.out, HKq2.out _ HX9.out, HKp.out _ HX9.out⟩ (fun hS => ?_)
                clear hK K
                try simp only [Act.put, List.setIfInBounds_toArray, List.set_cons_zero, List.set_cons_succ]
                refine take_ (i := 14) (N := some 127) (v := (.bool false)) #[true, true, true, true, true, true, true, true, true, true, true, true, true, true, true, false, false, false, false, false, false, false, false, false, false, false, false, false, false, false, false, false, false, false] rfl rfl (by kernel_rfl) (fun _ _ _ h => h) (Or.inl ⟨by rfl, by intro w hSw; (try dsimp only at hSw); go_simp⟩) hS rfl ?_
                try simp only [Act.put, List.setIfInBounds_toArray, List.set_cons_zero, List.set_cons_succ]
                refine take_ (i := 15) (N := some 128) (v := (.bool false)) #[true, true, true, true, true, true, true, true, true, true, true, true, true, true, true, true, false, false, false, false, false, false, false, false, false, false, false, false, false, false, false, false, false, false] rfl rfl (by kernel_rfl) (fun _ _ _ h => h) (Or.inl ⟨by rfl, by intro w hSw; (try dsimp only at hSw); go_simp⟩) hS rfl ?_
                try simp only [Act.put, List.setIfInBounds_toArray, List.set_cons_zero, List.set_cons_succ]
                refine take_ (i := 16) (N := some 129) (v := (.bool false)) #[true, true, true, true, true, true, true, true, true, true, true, true, true, true, true, true, true, false, false, false, false, false, false, false, false, false, false, false, false, false, false, false, false, false] rfl rfl (by kernel_rfl) (fun _ _ _ h => h) (Or.inl ⟨by rfl, by intro w hSw; (try dsimp only at hSw); go_simp⟩) hS rfl ?_
                try simp only [Act.put, List.setIfInBounds_toArray, List.set_cons_zero, List.set_cons_succ]
                refine take_ (i := 17) (N := some 130) (v := (.int .i64 ((i : Int) + 1))) #[true, true, true, true, true, true, true, true, true, true, true, true, true, true, true, true, true, true, false, false, false, false, false, false, false, false, false, false, false, false, false, false, false, false] rfl rfl (by kernel_rfl) (fun _ _ _ h => h) (Or.inl ⟨by rfl, by intro w hSw; (try dsimp only at hSw); go_simp⟩) hS rfl ?_
                try simp only [Act.put, List.setIfInBounds_toArray, List.set_cons_zero, List.set_cons_succ]
                refine take_ (i := 18) (N := some 131) (v := (.bool true)) #[true, true, true, true, true, true, true, true, true, true, true, true, true, true, true, true, true, true, true, false, false, false, false, false, false, false, false, false, false, false, false, false, false, false] rfl rfl (by kernel_rfl) (fun _ _ _ h => h) (Or.inl ⟨by rfl, by intro w hSw; (try dsimp only at hSw); go_simp⟩) hS rfl ?_
                try simp only [Act.put, List.setIfInBounds_toArray, List.set_cons_zero, List.set_cons_succ]
                refine take_ (i := 19) (N := some 132) (v := (.bool true)) #[true, true, true, true, true, true, true, true, true, true, true, true, true, true, true, true, true, true, true, true, false, false, false, false, false, false, false, false, false, false, false, false, false, false] rfl rfl (by kernel_rfl) (fun _ _ _ h => h) (Or.inl ⟨by rfl, by intro w hSw; (try dsimp only at hSw); go_simp⟩) hS rfl ?_
                try simp only [Act.put, List.setIfInBounds_toArray, List.set_cons_zero, List.set_cons_succ]
                refine take_ (i := 20) (N := some 133) (v := (.pointer (some ⟨bb, 3, none⟩))) #[true, true, true, true, true, true, true, true, true, true, true, true, true, true, true, true, true, true, true, true, true, false, false, false, false, false, false, false, false, false, false, false, false, false] rfl rfl (by kernel_rfl) (fun _ _ _ h => h) (Or.inl ⟨by rfl, by intro w hSw; (try dsimp only at hSw); go_simp⟩) hS rfl ?_
                try simp only [Act.put, List.setIfInBounds_toArray, List.set_cons_zero, List.set_cons_succ]
                refine take_ (i := 21) (N := some 134) (v := (.slice (some ad) ks.length c3)) #[true, true, true, true, true, true, true, true, true, true, true, true, true, true, true, true, true, true, true, true, true, true, false, false, false, false, false, false, false, false, false, false, false, false] rfl rfl (by kernel_rfl) (fun _ _ _ h => h) (Or.inl ⟨by rfl, by intro w hSw; (try dsimp only at hSw); go_simp⟩) hS rfl ?_
                try simp only [Act.put, List.setIfInBounds_toArray, List.set_cons_zero, List.set_cons_succ]
                refine take_ (i := 22) (N := some 135) (v := (.int .i64 ((i : Int) + 1))) #[true, true, true, true, true, true, true, true, true, true, true, true, true, true, true, true, true, true, true, true, true, true, true, false, false, false, false, false, false, false, false, false, false, false] rfl rfl (by kernel_rfl) (fun _ _ _ h => h) (Or.inl ⟨by rfl, by intro w hSw; (try dsimp only at hSw); go_simp⟩) hS rfl ?_
                try simp only [Act.put, List.setIfInBounds_toArray, List.set_cons_zero, List.set_cons_succ]
                refine take_ (i := 23) (N := some 136) (v := (.int .i64 (i : Int))) #[true, true, true, true, true, true, true, true, true, true, true, true, true, true, true, true, true, true, true, true, true, true, true, true, false, false, false, false, false, false, false, false, false, false] rfl rfl (by kernel_rfl) (fun _ _ _ h => h) (Or.inl ⟨by rfl, by intro w hSw; (try dsimp only at hSw); go_simp⟩) hS rfl ?_
                try simp only [Act.put, List.setIfInBounds_toArray, List.set_cons_zero, List.set_cons_succ]
                refine take_ (i := 24) (N := some 137) (v := (.pointer (some (ad.add i)))) #[true, true, true, true, true, true, true, true, true, true, true, true, true, true, true, true, true, true, true, true, true, true, true, true, true, false, false, false, false, false, false, false, false, false] rfl rfl (by kernel_rfl) (fun _ _ _ h => h) (Or.inl ⟨by rfl, by intro w hSw; (try dsimp only at hSw); go_simp⟩) hS rfl ?_
                try simp only [Act.put, List.setIfInBounds_toArray, List.set_cons_zero, List.set_cons_succ]
                refine take_ (i := 25) (N := some 138) (v := (.string p)) #[true, true, true, true, true, true, true, true, true, true, true, true, true, true, true, true, true, true, true, true, true, true, true, true, true, true, false, false, false, false, false, false, false, false] rfl rfl (by kernel_rfl) (fun _ _ _ h => h) (Or.inl ⟨by rfl, by intro w hSw; (try dsimp only at hSw); go_simp⟩) hS rfl ?_
                try simp only [Act.put, List.setIfInBounds_toArray, List.set_cons_zero, List.set_cons_succ]
                refine take_ (i := 26) (N := some 139) (v := (.pointer (some ⟨bb, 3, none⟩))) #[true, true, true, true, true, true, true, true, true, true, true, true, true, true, true, true, true, true, true, true, true, true, true, true, true, true, true, false, false, false, false, false, false, false] rfl rfl (by kernel_rfl) (fun _ _ _ h => h) (Or.inl ⟨by rfl, by intro w hSw; (try dsimp only at hSw); go_simp⟩) hS rfl ?_
                try simp only [Act.put, List.setIfInBounds_toArray, List.set_cons_zero, List.set_cons_succ]
                refine take_ (i := 27) (N := some 140) (v := (.slice (some ad) ks.length c3)) #[true, true, true, true, true, true, true, true, true, true, true, true, true, true, true, true, true, true, true, true, true, true, true, true, true, true, true, true, false, false, false, false, false, false] rfl rfl (by kernel_rfl) (fun _ _ _ h => h) (Or.inl ⟨by rfl, by intro w hSw; (try dsimp only at hSw); go_simp⟩) hS rfl ?_
                try simp only [Act.put, List.setIfInBounds_toArray, List.set_cons_zero, List.set_cons_succ]
                refine take_ (i := 28) (N := some 141) (v := (.int .i64 ((i : Int) + 1))) #[true, true, true, true, true, true, true, true, true, true, true, true, true, true, true, true, true, true, true, true, true, true, true, true, true, true, true, true, true, false, false, false, false, false] rfl rfl (by kernel_rfl) (fun _ _ _ h => h) (Or.inl ⟨by rfl, by intro w hSw; (try dsimp only at hSw); go_simp⟩) hS rfl ?_
                try simp only [Act.put, List.setIfInBounds_toArray, List.set_cons_zero, List.set_cons_succ]
                refine take_ (i := 29) (N := some 142) (v := (.pointer (some ⟨ad.block, ad.off + (i + 1), none⟩))) #[true, true, true, true, true, true, true, true, true, true, true, true, true, true, true, true, true, true, true, true, true, true, true, true, true, true, true, true, true, true, false, false, false, false] rfl rfl (by kernel_rfl) (fun _ _ _ h => h) (Or.inl ⟨by rfl, by intro w hSw; (try dsimp only at hSw); go_simp⟩) hS rfl ?_
                try simp only [Act.put, List.setIfInBounds_toArray, List.set_cons_zero, List.set_cons_succ]
                refine take_ (i := 30) (N := some 143) (v := (.string q)) #[true, true, true, true, true, true, true, true, true, true, true, true, true, true, true, true, true, true, true, true, true, true, true, true, true, true, true, true, true, true, true, false, false, false] rfl rfl (by kernel_rfl) (fun _ _ _ h => h) (Or.inl ⟨by rfl, by intro w hSw; (try dsimp only at hSw); go_simp⟩) hS rfl ?_
                try simp only [Act.put, List.setIfInBounds_toArray, List.set_cons_zero, List.set_cons_succ]
                refine take_ (i := 31) (N := some 144) (v := (.bool false)) #[true, true, true, true, true, true, true, true, true, true, true, true, true, true, true, true, true, true, true, true, true, true, true, true, true, true, true, true, true, true, true, true, false, false] rfl rfl (by kernel_rfl) (fun _ _ _ h => h) (Or.inl ⟨by rfl, by intro w hSw; (try dsimp only at hSw); go_simp⟩) hS rfl ?_
                try simp only [Act.put, List.setIfInBounds_toArray, List.set_cons_zero, List.set_cons_succ]
                refine take_ (i := 32) (N := some 145) (v := (.bool false)) #[true, true, true, true, true, true, true, true, true, true, true, true, true, true, true, true, true, true, true, true, true, true, true, true, true, true, true, true, true, true, true, true, true, false] rfl rfl (by kernel_rfl) (fun _ _ _ h => h) (Or.inl ⟨by rfl, by intro w hSw; (try dsimp only at hSw); go_simp⟩) hS rfl ?_
                try simp only [Act.put, List.setIfInBounds_toArray, List.set_cons_zero, List.set_cons_succ]
                refine take_ (i := 33) (N := some 146) (v := (.bool false)) #[true, true, true, true, true, true, true, true, true, true, true, true, true, true, true, true, true, true, true, true, true, true, true, true, true, true, true, true, true, true, true, true, true, true] rfl rfl (by kernel_rfl) (fun _ _ _ h => h) (Or.inl ⟨by rfl, by intro w hSw; (try dsimp only at hSw); go_simp⟩) hS rfl ?_
                try simp only [Act.put, List.setIfInBounds_toArray, List.set_cons_zero, List.set_cons_succ]
                refine done_ (by kernel_rfl) ?_
                have HB2 := Aside0.mk (HB.out.below HX9.out); have HW2 := Aside0.mk (below_step HW.out HX9.out); clear HB HW; have HB := HB2; have HW := HW2; clear HB2 HW2
                clear q0 q1 q2 q3 q4 b1
                obtain ⟨q0, q1, q2, q3, q4⟩ := HB.out.cells
                dsimp only at q0 q1 q2 q3 q4
                have he := HKq2.out _ HX9.out
                go_wp2_with fail
                go_roundg j1
                case measure => omega
                case rel => exact ⟨i + 2, c + (q.size : Int), by have := HI.out; omega, by first | rfl | (congr 1; omega), rfl, ⟨by have h1 : ksum (ks.take (i + 2)) = ksum (ks.take (i + 1)) + q.size := HKt.out; have h2 := HNc.out; omega, by have h1 := HD.out; rw [if_neg (by omega), show i + 2 - 1 = i + 1 by omega, h1]; exact HG.out⟩, by omega, HB, HW⟩
            | false =>
              have hff : ko none ks = false := by rw [← hF]; rfl
              have HPf := HP.out.2 (mr_o (by rw [HO.out.1, hff]; rfl))
              clear hF hff HP HO
              as_aux_lemma =>
                go_upto_region 9 with fail
                refine start_ (n := 34) (S := fun w' => w'.cell? ⟨bb, 3, none⟩ = some (.slice (some ad) ks.length c3) ∧ w'.cell? ⟨ad.block, ad.off + (i + 1), none⟩ = some (.string q) ∧ w'.cell? (ad.add i) = some (.string p)) (ds := []) #[false, false, false, false, false, false, false, false, false, false, false, false, false, false, false, false, false, false, false, false, false, false, false, false, false, false, false, false, false, false, false, false, false, false] (by kernel_rfl) rfl (by rfl) ⟨HK3.out _ HX9.out, HKq2.out _ HX9.out, HKp.out _ HX9.out⟩ (fun hS => ?_)
                refine take_ (i := 0) (N := some 113) (v := (.pointer (some ⟨bb, 3, none⟩))) #[true, false, false, false, false, false, false, false, false, false, false, false, false, false, false, false, false, false, false, false, false, false, false, false, false, false, false, false, false, false, false, false, false, false] rfl rfl (by kernel_rfl) (fun _ _ _ h => h) (Or.inl ⟨by rfl, by intro w hSw; (try dsimp only at hSw); go_simp⟩) hS rfl ?_
                try simp only [Act.put, List.setIfInBounds_toArray, List.set_cons_zero, List.set_cons_succ]
                refine take_ (i := 1) (N := some 114) (v := (.slice (some ad) ks.length c3)) #[true, true, false, false, false, false, false, false, false, false, false, false, false, false, false, false, false, false, false, false, false, false, false, false, false, false, false, false, false, false, false, false, false, false] rfl rfl (by kernel_rfl) (fun _ _ _ h => h) (Or.inl ⟨by rfl, by intro w hSw; (try dsimp only at hSw); go_simp⟩) hS rfl ?_
                try simp only [Act.put, List.setIfInBounds_toArray, List.set_cons_zero, List.set_cons_succ]
                refine take_ (i := 2) (N := some 115) (v := (.int .i64 ((i : Int) + 1))) #[true, true, true, false, false, false, false, false, false, false, false, false, false, false, false, false, false, false, false, false, false, false, false, false, false, false, false, false, false, false, false, false, false, false] rfl rfl (by kernel_rfl) (fun _ _ _ h => h) (Or.inl ⟨by rfl, by intro w hSw; (try dsimp only at hSw); go_simp⟩) hS rfl ?_
                try simp only [Act.put, List.setIfInBounds_toArray, List.set_cons_zero, List.set_cons_succ]
                refine take_ (i := 3) (N := some 116) (v := (.pointer (some ⟨ad.block, ad.off + (i + 1), none⟩))) #[true, true, true, true, false, false, false, false, false, false, false, false, false, false, false, false, false, false, false, false, false, false, false, false, false, false, false, false, false, false, false, false, false, false] rfl rfl (by kernel_rfl) (fun _ _ _ h => h) (Or.inl ⟨by rfl, by intro w hSw; (try dsimp only at hSw); go_simp⟩) hS rfl ?_
                try simp only [Act.put, List.setIfInBounds_toArray, List.set_cons_zero, List.set_cons_succ]
                refine take_ (i := 4) (N := some 117) (v := (.string q)) #[true, true, true, true, true, false, false, false, false, false, false, false, false, false, false, false, false, false, false, false, false, false, false, false, false, false, false, false, false, false, false, false, false, false] rfl rfl (by kernel_rfl) (fun _ _ _ h => h) (Or.inl ⟨by rfl, by intro w hSw; (try dsimp only at hSw); go_simp⟩) hS rfl ?_
                try simp only [Act.put, List.setIfInBounds_toArray, List.set_cons_zero, List.set_cons_succ]
                refine take_ (i := 5) (N := some 118) (v := (.int .i64 (q.size : Int))) #[true, true, true, true, true, true, false, false, false, false, false, false, false, false, false, false, false, false, false, false, false, false, false, false, false, false, false, false, false, false, false, false, false, false] rfl rfl (by kernel_rfl) (fun _ _ _ h => h) (Or.inl ⟨by rfl, by intro w hSw; (try dsimp only at hSw); go_simp⟩) hS rfl ?_
                try simp only [Act.put, List.setIfInBounds_toArray, List.set_cons_zero, List.set_cons_succ]
                refine take_ (i := 6) (N := some 119) (v := (.bool false)) #[true, true, true, true, true, true, true, false, false, false, false, false, false, false, false, false, false, false, false, false, false, false, false, false, false, false, false, false, false, false, false, false, false, false] rfl rfl (by kernel_rfl) (fun _ _ _ h => h) (Or.inl ⟨by rfl, by intro w hSw; (try dsimp only at hSw); go_simp⟩) hS rfl ?_
                try simp only [Act.put, List.setIfInBounds_toArray, List.set_cons_zero, List.set_cons_succ]
                refine take_ (i := 7) (N := some 120) (v := (.bool false)) #[true, true, true, true, true, true, true, true, false, false, false, false, false, false, false, false, false, false, false, false, false, false, false, false, false, false, false, false, false, false, false, false, false, false] rfl rfl (by kernel_rfl) (fun _ _ _ h => h) (Or.inl ⟨by rfl, by intro w hSw; (try dsimp only at hSw); go_simp⟩) hS rfl ?_
                try simp only [Act.put, List.setIfInBounds_toArray, List.set_cons_zero, List.set_cons_succ]
                refine take_ (i := 8) (N := some 121) (v := (.pointer (some ⟨bb, 3, none⟩))) #[true, true, true, true, true, true, true, true, true, false, false, false, false, false, false, false, false, false, false, false, false, false, false, false, false, false, false, false, false, false, false, false, false, false] rfl rfl (by kernel_rfl) (fun _ _ _ h => h) (Or.inl ⟨by rfl, by intro w hSw; (try dsimp only at hSw); go_simp⟩) hS rfl ?_
                try simp only [Act.put, List.setIfInBounds_toArray, List.set_cons_zero, List.set_cons_succ]
                refine take_ (i := 9) (N := some 122) (v := (.slice (some ad) ks.length c3)) #[true, true, true, true, true, true, true, true, true, true, false, false, false, false, false, false, false, false, false, false, false, false, false, false, false, false, false, false, false, false, false, false, false, false] rfl rfl (by kernel_rfl) (fun _ _ _ h => h) (Or.inl ⟨by rfl, by intro w hSw; (try dsimp only at hSw); go_simp⟩) hS rfl ?_
                try simp only [Act.put, List.setIfInBounds_toArray, List.set_cons_zero, List.set_cons_succ]
                refine take_ (i := 10) (N := some 123) (v := (.int .i64 ((i : Int) + 1))) #[true, true, true, true, true, true, true, true, true, true, true, false, false, false, false, false, false, false, false, false, false, false, false, false, false, false, false, false, false, false, false, false, false, false] rfl rfl (by kernel_rfl) (fun _ _ _ h => h) (Or.inl ⟨by rfl, by intro w hSw; (try dsimp only at hSw); go_simp⟩) hS rfl ?_
                try simp only [Act.put, List.setIfInBounds_toArray, List.set_cons_zero, List.set_cons_succ]
                refine take_ (i := 11) (N := some 124) (v := (.pointer (some ⟨ad.block, ad.off + (i + 1), none⟩))) #[true, true, true, true, true, true, true, true, true, true, true, true, false, false, false, false, false, false, false, false, false, false, false, false, false, false, false, false, false, false, false, false, false, false] rfl rfl (by kernel_rfl) (fun _ _ _ h => h) (Or.inl ⟨by rfl, by intro w hSw; (try dsimp only at hSw); go_simp⟩) hS rfl ?_
                try simp only [Act.put, List.setIfInBounds_toArray, List.set_cons_zero, List.set_cons_succ]
                refine take_ (i := 12) (N := some 125) (v := (.string q)) #[true, true, true, true, true, true, true, true, true, true, true, true, true, false, false, false, false, false, false, false, false, false, false, false, false, false, false, false, false, false, false, false, false, false] rfl rfl (by kernel_rfl) (fun _ _ _ h => h) (Or.inl ⟨by rfl, by intro w hSw; (try dsimp only at hSw); go_simp⟩) hS rfl ?_
                try simp only [Act.put, List.setIfInBounds_toArray, List.set_cons_zero, List.set_cons_succ]
                refine one_ (i := 13) (N := some 126) #[true, true, true, true, true, true, true, true, true, true, true, true, true, true, false, false, false, false, false, false, false, false, false, false, false, false, false, false, false, false, false, false, false, false] rfl rfl (by kernel_rfl) (by decide) ?_
                intro K hK
                go_simp
                go_at_call 45; (with_reducible refine (HV.out _).mono ?_); rintro e we ⟨rfl, hb⟩; have HX92 := Aside0.mk (below_step HX9.out hb); clear HX9; have HX9 := HX92; clear HX92 hb
                refine hK.out _ _ ⟨HK3.out _ HX9.out, HKq2.out _ HX9.out, HKp.out _ HX9.out⟩ (fun hS => ?_)
                clear hK K
                try simp only [Act.put, List.setIfInBounds_toArray, List.set_cons_zero, List.set_cons_succ]
                refine take_ (i := 14) (N := some 127) (v := (.bool false)) #[true, true, true, true, true, true, true, true, true, true, true, true, true, true, true, false, false, false, false, false, false, false, false, false, false, false, false, false, false, false, false, false, false, false] rfl rfl (by kernel_rfl) (fun _ _ _ h => h) (Or.inl ⟨by rfl, by intro w hSw; (try dsimp only at hSw); go_simp⟩) hS rfl ?_
                try simp only [Act.put, List.setIfInBounds_toArray, List.set_cons_zero, List.set_cons_succ]
                refine take_ (i := 15) (N := some 128) (v := (.bool false)) #[true, true, true, true, true, true, true, true, true, true, true, true, true, true, true, true, false, false, false, false, false, false, false, false, false, false, false, false, false, false, false, false, false, false] rfl rfl (by kernel_rfl) (fun _ _ _ h => h) (Or.inl ⟨by rfl, by intro w hSw; (try dsimp only at hSw); go_simp⟩) hS rfl ?_
                try simp only [Act.put, List.setIfInBounds_toArray, List.set_cons_zero, List.set_cons_succ]
                refine take_ (i := 16) (N := some 129) (v := (.bool false)) #[true, true, true, true, true, true, true, true, true, true, true, true, true, true, true, true, true, false, false, false, false, false, false, false, false, false, false, false, false, false, false, false, false, false] rfl rfl (by kernel_rfl) (fun _ _ _ h => h) (Or.inl ⟨by rfl, by intro w hSw; (try dsimp only at hSw); go_simp⟩) hS rfl ?_
                try simp only [Act.put, List.setIfInBounds_toArray, List.set_cons_zero, List.set_cons_succ]
                refine take_ (i := 17) (N := some 130) (v := (.int .i64 ((i : Int) + 1))) #[true, true, true, true, true, true, true, true, true, true, true, true, true, true, true, true, true, true, false, false, false, false, false, false, false, false, false, false, false, false, false, false, false, false] rfl rfl (by kernel_rfl) (fun _ _ _ h => h) (Or.inl ⟨by rfl, by intro w hSw; (try dsimp only at hSw); go_simp⟩) hS rfl ?_
                try simp only [Act.put, List.setIfInBounds_toArray, List.set_cons_zero, List.set_cons_succ]
                refine take_ (i := 18) (N := some 131) (v := (.bool true)) #[true, true, true, true, true, true, true, true, true, true, true, true, true, true, true, true, true, true, true, false, false, false, false, false, false, false, false, false, false, false, false, false, false, false] rfl rfl (by kernel_rfl) (fun _ _ _ h => h) (Or.inl ⟨by rfl, by intro w hSw; (try dsimp only at hSw); go_simp⟩) hS rfl ?_
                try simp only [Act.put, List.setIfInBounds_toArray, List.set_cons_zero, List.set_cons_succ]
                refine take_ (i := 19) (N := some 132) (v := (.bool true)) #[true, true, true, true, true, true, true, true, true, true, true, true, true, true, true, true, true, true, true, true, false, false, false, false, false, false, false, false, false, false, false, false, false, false] rfl rfl (by kernel_rfl) (fun _ _ _ h => h) (Or.inl ⟨by rfl, by intro w hSw; (try dsimp only at hSw); go_simp⟩) hS rfl ?_
                try simp only [Act.put, List.setIfInBounds_toArray, List.set_cons_zero, List.set_cons_succ]
                refine take_ (i := 20) (N := some 133) (v := (.pointer (some ⟨bb, 3, none⟩))) #[true, true, true, true, true, true, true, true, true, true, true, true, true, true, true, true, true, true, true, true, true, false, false, false, false, false, false, false, false, false, false, false, false, false] rfl rfl (by kernel_rfl) (fun _ _ _ h => h) (Or.inl ⟨by rfl, by intro w hSw; (try dsimp only at hSw); go_simp⟩) hS rfl ?_
                try simp only [Act.put, List.setIfInBounds_toArray, List.set_cons_zero, List.set_cons_succ]
                refine take_ (i := 21) (N := some 134) (v := (.slice (some ad) ks.length c3)) #[true, true, true, true, true, true, true, true, true, true, true, true, true, true, true, true, true, true, true, true, true, true, false, false, false, false, false, false, false, false, false, false, false, false] rfl rfl (by kernel_rfl) (fun _ _ _ h => h) (Or.inl ⟨by rfl, by intro w hSw; (try dsimp only at hSw); go_simp⟩) hS rfl ?_
                try simp only [Act.put, List.setIfInBounds_toArray, List.set_cons_zero, List.set_cons_succ]
                refine take_ (i := 22) (N := some 135) (v := (.int .i64 ((i : Int) + 1))) #[true, true, true, true, true, true, true, true, true, true, true, true, true, true, true, true, true, true, true, true, true, true, true, false, false, false, false, false, false, false, false, false, false, false] rfl rfl (by kernel_rfl) (fun _ _ _ h => h) (Or.inl ⟨by rfl, by intro w hSw; (try dsimp only at hSw); go_simp⟩) hS rfl ?_
                try simp only [Act.put, List.setIfInBounds_toArray, List.set_cons_zero, List.set_cons_succ]
                refine take_ (i := 23) (N := some 136) (v := (.int .i64 (i : Int))) #[true, true, true, true, true, true, true, true, true, true, true, true, true, true, true, true, true, true, true, true, true, true, true, true, false, false, false, false, false, false, false, false, false, false] rfl rfl (by kernel_rfl) (fun _ _ _ h => h) (Or.inl ⟨by rfl, by intro w hSw; (try dsimp only at hSw); go_simp⟩) hS rfl ?_
                try simp only [Act.put, List.setIfInBounds_toArray, List.set_cons_zero, List.set_cons_succ]
                refine take_ (i := 24) (N := some 137) (v := (.pointer (some (ad.add i)))) #[true, true, true, true, true, true, true, true, true, true, true, true, true, true, true, true, true, true, true, true, true, true, true, true, true, false, false, false, false, false, false, false, false, false] rfl rfl (by kernel_rfl) (fun _ _ _ h => h) (Or.inl ⟨by rfl, by intro w hSw; (try dsimp only at hSw); go_simp⟩) hS rfl ?_
                try simp only [Act.put, List.setIfInBounds_toArray, List.set_cons_zero, List.set_cons_succ]
                refine take_ (i := 25) (N := some 138) (v := (.string p)) #[true, true, true, true, true, true, true, true, true, true, true, true, true, true, true, true, true, true, true, true, true, true, true, true, true, true, false, false, false, false, false, false, false, false] rfl rfl (by kernel_rfl) (fun _ _ _ h => h) (Or.inl ⟨by rfl, by intro w hSw; (try dsimp only at hSw); go_simp⟩) hS rfl ?_
                try simp only [Act.put, List.setIfInBounds_toArray, List.set_cons_zero, List.set_cons_succ]
                refine take_ (i := 26) (N := some 139) (v := (.pointer (some ⟨bb, 3, none⟩))) #[true, true, true, true, true, true, true, true, true, true, true, true, true, true, true, true, true, true, true, true, true, true, true, true, true, true, true, false, false, false, false, false, false, false] rfl rfl (by kernel_rfl) (fun _ _ _ h => h) (Or.inl ⟨by rfl, by intro w hSw; (try dsimp only at hSw); go_simp⟩) hS rfl ?_
                try simp only [Act.put, List.setIfInBounds_toArray, List.set_cons_zero, List.set_cons_succ]
                refine take_ (i := 27) (N := some 140) (v := (.slice (some ad) ks.length c3)) #[true, true, true, true, true, true, true, true, true, true, true, true, true, true, true, true, true, true, true, true, true, true, true, true, true, true, true, true, false, false, false, false, false, false] rfl rfl (by kernel_rfl) (fun _ _ _ h => h) (Or.inl ⟨by rfl, by intro w hSw; (try dsimp only at hSw); go_simp⟩) hS rfl ?_
                try simp only [Act.put, List.setIfInBounds_toArray, List.set_cons_zero, List.set_cons_succ]
                refine take_ (i := 28) (N := some 141) (v := (.int .i64 ((i : Int) + 1))) #[true, true, true, true, true, true, true, true, true, true, true, true, true, true, true, true, true, true, true, true, true, true, true, true, true, true, true, true, true, false, false, false, false, false] rfl rfl (by kernel_rfl) (fun _ _ _ h => h) (Or.inl ⟨by rfl, by intro w hSw; (try dsimp only at hSw); go_simp⟩) hS rfl ?_
                try simp only [Act.put, List.setIfInBounds_toArray, List.set_cons_zero, List.set_cons_succ]
                refine take_ (i := 29) (N := some 142) (v := (.pointer (some ⟨ad.block, ad.off + (i + 1), none⟩))) #[true, true, true, true, true, true, true, true, true, true, true, true, true, true, true, true, true, true, true, true, true, true, true, true, true, true, true, true, true, true, false, false, false, false] rfl rfl (by kernel_rfl) (fun _ _ _ h => h) (Or.inl ⟨by rfl, by intro w hSw; (try dsimp only at hSw); go_simp⟩) hS rfl ?_
                try simp only [Act.put, List.setIfInBounds_toArray, List.set_cons_zero, List.set_cons_succ]
                refine take_ (i := 30) (N := some 143) (v := (.string q)) #[true, true, true, true, true, true, true, true, true, true, true, true, true, true, true, true, true, true, true, true, true, true, true, true, true, true, true, true, true, true, true, false, false, false] rfl rfl (by kernel_rfl) (fun _ _ _ h => h) (Or.inl ⟨by rfl, by intro w hSw; (try dsimp only at hSw); go_simp⟩) hS rfl ?_
                try simp only [Act.put, List.setIfInBounds_toArray, List.set_cons_zero, List.set_cons_succ]
                refine take_ (i := 31) (N := some 144) (v := (.bool true)) #[true, true, true, true, true, true, true, true, true, true, true, true, true, true, true, true, true, true, true, true, true, true, true, true, true, true, true, true, true, true, true, true, false, false] rfl rfl (by kernel_rfl) (fun _ _ _ h => h) (Or.inl ⟨by rfl, by intro w hSw; (try dsimp only at hSw); go_simp⟩) hS rfl ?_
                try simp only [Act.put, List.setIfInBounds_toArray, List.set_cons_zero, List.set_cons_succ]
                refine take_ (i := 32) (N := some 145) (v := (.bool true)) #[true, true, true, true, true, true, true, true, true, true, true, true, true, true, true, true, true, true, true, true, true, true, true, true, true, true, true, true, true, true, true, true, true, false] rfl rfl (by kernel_rfl) (fun _ _ _ h => h) (Or.inl ⟨by rfl, by intro w hSw; (try dsimp only at hSw); go_simp⟩) hS rfl ?_
                try simp only [Act.put, List.setIfInBounds_toArray, List.set_cons_zero, List.set_cons_succ]
                refine take_ (i := 33) (N := some 146) (v := (.bool true)) #[true, true, true, true, true, true, true, true, true, true, true, true, true, true, true, true, true, true, true, true, true, true, true, true, true, true, true, true, true, true, true, true, true, true] rfl rfl (by kernel_rfl) (fun _ _ _ h => h) (Or.inl ⟨by rfl, by intro w hSw; (try dsimp only at hSw); go_simp⟩) hS rfl ?_
                try simp only [Act.put, List.setIfInBounds_toArray, List.set_cons_zero, List.set_cons_succ]
                refine done_ (by kernel_rfl) ?_
                go_wp2_with fail
                go_ret3
                exact HPf _ _ rfl (below_step HW.out HX9.out)
      · have g0 : decide (i < ks.length) = false := decide_eq_false ci
        have hko : ko none ks = true := by
          have hF := HN.out.2
          rw [List.drop_eq_nil_of_le (by omega), ko_nil] at hF
          exact hF.symm
        have hcc : c = (s.size + ksum ks : Nat) := by
          have h1 := HN.out.1
          rw [List.take_of_length_le (by omega)] at h1
          exact h1
        have HBd : Aside0 (ndsL es ≤ 1000000000000000 ∧ btsL es ≤ 1000000000000000 ∧ s.size + ksum ks ≤ 1000000000000000) := ⟨by
          have h1 := bts_cnt _ ⟨a, b, s, ks, es⟩ (Nat.lt_succ_self _)
          have h2 := HC.out
          have h3 := HO.out.2
          omega⟩
        have HO3 : Aside0 (okr ar ⟨a, b, s, ks, es⟩ = okrL (ar + 1) es ∧ nds ⟨a, b, s, ks, es⟩ = 1 + ndsL es ∧ bts ⟨a, b, s, ks, es⟩ = s.size + ksum ks + btsL es) := ⟨by rw [HO.out.1, hko, Bool.true_and], HO.out.2⟩
        have HI0 : Aside0 ((1 : Int) = (1 + ndsL (es.take 0) : Nat) ∧ c = (s.size + ksum ks + btsL (es.take 0) : Nat) ∧ okrL (ar + 1) (es.take 0) = true ∧ (0 < 0 → (1 : Int) ≤ 4096 ∧ c ≤ 65536)) := ⟨by simp [ndsL], by simp [btsL]; omega, by simp [okrL], fun h => absurd h (by omega)⟩
        clear HN hko hkr HO ci hi hcc
        go_wp2_with fail
        clear g0 q0 q1 q2 q3 q4
        go_loopg [7, 8, 10] es.length (fun kq v7 v8 v10 w' => ∃ (i : Nat) (ni bi : Int), kq + i = es.length ∧ v10 = .int .i64 (i : Int) ∧ v7 = .int .i64 ni ∧ v8 = .int .i64 bi ∧ Aside0 (ni = (1 + ndsL (es.take i) : Nat) ∧ bi = (s.size + ksum ks + btsL (es.take i) : Nat) ∧ okrL (ar + 1) (es.take i) = true ∧ (0 < i → ni ≤ 4096 ∧ bi ≤ 65536)) ∧ (0 ≤ ni ∧ ni ≤ 3000000000000000 ∧ 0 ≤ bi ∧ bi ≤ 3000000000000000) ∧ Aside0 (Bv w' bb A3 c3 A4 c4 ⟨a, b, s, ks, es⟩) ∧ Aside0 (Below w.heap.size w w'))
        case atStart => exact ⟨0, 1, c, by omega, rfl, rfl, rfl, HI0, by omega, HB, HW⟩
        case round =>
          clear HB HW HI0
          obtain ⟨i, ni, bi, hi, rfl, rfl, rfl, HN, hnb, HB, HW⟩ := hrel
          obtain ⟨q0, q1, q2, q3, q4⟩ := HB.out.cells
          dsimp only at q0 q1 q2 q3 q4
          have hkr := HB.out.rd.r4
          dsimp only at hkr
          by_cases ci : i < es.length
          · have g0 : decide ((i : Int) < (es.length : Int)) = true := decide_eq_true (by omega)
            have g2 : (0 ≤ (i : Int)) = True := eq_true (by omega)
            have g3 : ((i : Int) < (es.length : Int)) = True := eq_true (by omega)
            obtain ⟨j1, rfl⟩ : ∃ j1, gk = j1 + 1 := ⟨gk - 1, by omega⟩
            have hil : es[i]? = some es[i] := List.getElem?_eq_getElem ci
            have hm := List.getElem_mem ci
            have hq := HX.out.es _ hm
            have hz := sz_mem (x := ⟨a, b, s, ks, es⟩) hm
            obtain ⟨y, hq'⟩ : ∃ y, es[i] = y := ⟨_, rfl⟩
            rw [hq'] at hil hq hz
            obtain ⟨ad, Y3, y3, Y4, y4, e1, he0⟩ := el_at hkr i ci hil
            have HT := Aside0.mk (And.intro (ndsL_take hil) (And.intro (btsL_take hil) (okrL_take (ar := ar + 1) hil)))
            have h1 := part_le (form := true) (ar := 0) es (i + 1)
            have HPl := Aside0.mk (And.intro h1.1 (And.intro h1.2.1 (okrL_le (ar := ar + 1) es (i + 1))))
            have HI := Aside0.mk hi
            have hcy : cnt y ≤ 1000000000000000 := by
              have h1 := HC.out
              have h2 := cnt_eq ⟨a, b, s, ks, es⟩
              have h3 := cntL_take hil
              have h4 := cntL_le es (i + 1)
              dsimp only at h2
              omega
            have HYb : Aside0 (ni + nds y ≤ 3000000000000000 ∧ bi + bts y ≤ 3000000000000000) := ⟨by
              obtain ⟨k1, k2, k3⟩ := HT.out
              obtain ⟨n1, n2, n3, n4⟩ := HN.out
              obtain ⟨l1, l2, l3⟩ := HPl.out
              have := HBd.out
              omega⟩
            have HY0 := HIH.out y (ar + 1) wr (by have := HS.out; omega) hq hcy (by have := HA32.out; omega) he0.rd
            rw [show ((ar + 1 : Nat) : Int) = (ar : Int) + 1 by omega] at HY0
            obtain ⟨e0, e2, e3, e4, e5, _⟩ := he0
            obtain ⟨my, hmy⟩ : ∃ my, mr (ar + 1) y = my := ⟨_, rfl⟩
            have Hmy := Aside0.mk hmy
            clear hil hq' hi hm hq hz hcy hkr h1
            subst e1
            cases my with
            | false =>
              have HY : Aside0 (Calls Try.prog 60 #[.agg #[.int .i64 y.f0, .int .i64 y.f1, .string y.f2, .slice Y3 y.f3.length y3, .slice Y4 y.f4.length y4], .int .i64 ((ar : Int) + 1)] wr fun e we => e = .returned (.tuple #[.int .i64 0, .int .i64 0, .bool false]) ∧ Below wr.heap.size wr we) := ⟨HY0.mono fun e we h => ⟨by have h1 := h.1; rw [hmy, if_neg (by decide)] at h1; exact h1, h.2⟩⟩
              have hff : mr ar ⟨a, b, s, ks, es⟩ = false := by
                obtain ⟨k1, k2, k3⟩ := HT.out
                obtain ⟨n1, n2, n3, n4⟩ := HN.out
                obtain ⟨l1, l2, l3⟩ := HPl.out
                obtain ⟨o1, o2, o3⟩ := HO3.out
                have h1 := Hmy.out
                unfold mr at h1 ⊢
                rw [o1, o2, o3]
                by_cases z1 : okrL (ar + 1) es = true
                · have z2 := l3 z1
                  rw [k3, n3, Bool.true_and] at z2
                  rw [z2, Bool.true_and] at h1
                  have h2 := (Bool.or_eq_false_iff.1 h1).2
                  have h3 : (es.length == 0) = false := by rw [beq_eq_false_iff_ne]; omega
                  rw [z1, Bool.true_and]
                  show (es.length == 0 || _) = false
                  rw [h3, Bool.false_or]
                  by_cases z3 : 1 + ndsL es ≤ 4096
                  · rw [decide_eq_true (show nds y ≤ 4096 by omega), Bool.true_and, decide_eq_false_iff_not] at h2
                    rw [decide_eq_false (show ¬ s.size + ksum ks + btsL es ≤ 65536 by omega)]
                    simp
                  · rw [decide_eq_false z3]
                    rfl
                · rw [Bool.eq_false_iff.2 z1]
                  rfl
              have HPf := HP.out.2 hff
              clear HP HO3 hff HY0 hmy
              go_wp2_with (first | (go_at_call 60; (with_reducible refine HY.out.mono ?_); rintro e we ⟨rfl, hb⟩; have HW2 := Aside0.mk (below_step HW.out hb); clear HW; have HW := HW2; clear HW2 hb))
              go_ret3
              exact HPf _ _ rfl HW.out
            | true =>
              have HY : Aside0 (Calls Try.prog 60 #[.agg #[.int .i64 y.f0, .int .i64 y.f1, .string y.f2, .slice Y3 y.f3.length y3, .slice Y4 y.f4.length y4], .int .i64 ((ar : Int) + 1)] wr fun e we => e = .returned (.tuple #[.int .i64 (nds y : Int), .int .i64 (bts y : Int), .bool true]) ∧ Below wr.heap.size wr we) := ⟨HY0.mono fun e we h => ⟨by have h1 := h.1; rw [hmy, if_pos rfl] at h1; exact h1, h.2⟩⟩
              have hyb := HYb.out
              have hy0 : 0 ≤ (nds y : Int) ∧ 0 ≤ (bts y : Int) := by omega
              obtain ⟨N, hN⟩ : ∃ N, ni + (nds y : Int) = N := ⟨_, rfl⟩
              obtain ⟨M, hM⟩ : ∃ M, bi + (bts y : Int) = M := ⟨_, rfl⟩
              have HNM := Aside0.mk (And.intro hN hM)
              have hNb : N ≤ 3000000000000000 ∧ M ≤ 3000000000000000 := by omega
              have hw1 : IntKind.i64.wrap (ni + (nds y : Int)) = N := by rw [i64_w, ← hN]; unfold Go.RowKit.wrap64; omega
              have hw2 : IntKind.i64.wrap (bi + (bts y : Int)) = M := by rw [i64_w, ← hM]; unfold Go.RowKit.wrap64; omega
              have HN2 : Aside0 (N = (1 + ndsL (es.take (i + 1)) : Nat) ∧ M = (s.size + ksum ks + btsL (es.take (i + 1)) : Nat) ∧ okrL (ar + 1) (es.take (i + 1)) = true) := ⟨by
                obtain ⟨k1, k2, k3⟩ := HT.out
                obtain ⟨n1, n2, n3, n4⟩ := HN.out
                have hoy : okr (ar + 1) y = true := by
                  have h1 := Hmy.out
                  unfold mr at h1
                  exact (Bool.and_eq_true_iff.1 h1).1
                exact ⟨by omega, by omega, by rw [k3, n3, hoy]; rfl⟩⟩
              have HE : Aside0 (es.length ≠ 0) := ⟨by omega⟩
              have HM2 : Aside0 (4096 < N ∨ 65536 < M → mr ar ⟨a, b, s, ks, es⟩ = false) := ⟨fun h => by
                obtain ⟨n1, n2, n3⟩ := HN2.out
                obtain ⟨l1, l2, l3⟩ := HPl.out
                obtain ⟨o1, o2, o3⟩ := HO3.out
                unfold mr
                have h3 : (es.length == 0) = false := beq_eq_false_iff_ne.mpr HE.out
                rw [o2, o3]
                show (_ && (es.length == 0 || _)) = false
                rw [h3, Bool.false_or]
                rcases h with h | h
                · rw [decide_eq_false (show ¬ 1 + ndsL es ≤ 4096 by omega)]
                  simp
                · rw [decide_eq_false (show ¬ s.size + ksum ks + btsL es ≤ 65536 by omega)]
                  simp⟩
              have hN0 : 0 ≤ N ∧ 0 ≤ M := by omega
              clear HN HT HPl HY0 hmy Hmy hyb hy0 HE hN hM HYb
              by_cases tn : 4096 < N
              · have p1 : decide (N > 4096) = true := decide_eq_true (by omega)
                have HPf := HP.out.2 (HM2.out (.inl tn))
                clear HP HO3 HM2
                go_wp2_with (first | (go_at_call 60; (with_reducible refine HY.out.mono ?_); rintro e we ⟨rfl, hb⟩; have HW2 := Aside0.mk (below_step HW.out hb); clear HW; have HW := HW2; clear HW2 hb))
                go_ret3
                exact HPf _ _ rfl HW.out
              have p1 : decide (N > 4096) = false := decide_eq_false (by omega)
              by_cases tm : 65536 < M
              · have p2 : decide (M > 65536) = true := decide_eq_true (by omega)
                have HPf := HP.out.2 (HM2.out (.inr tm))
                clear HP HO3 HM2
                go_wp2_with (first | (go_at_call 60; (with_reducible refine HY.out.mono ?_); rintro e we ⟨rfl, hb⟩; have HW2 := Aside0.mk (below_step HW.out hb); clear HW; have HW := HW2; clear HW2 hb))
                go_ret3
                exact HPf _ _ rfl HW.out
              have p2 : decide (M > 65536) = false := decide_eq_false (by omega)
              go_wp2_with (first | (go_at_call 60; (with_reducible refine HY.out.mono ?_); rintro e we ⟨rfl, hb⟩; have HW2 := Aside0.mk (below_step HW.out hb); have HB2 := Aside0.mk (HB.out.below hb); clear HW HB; have HW := HW2; have HB := HB2; clear HW2 HB2 hb))
              go_roundg j1
              case measure => omega
              case rel => exact ⟨i + 1, N, M, by have := HI.out; omega, rfl, rfl, rfl, ⟨HN2.out.1, HN2.out.2.1, HN2.out.2.2, fun _ => ⟨by omega, by omega⟩⟩, by omega, HB, HW⟩
          · have g0 : decide (i < es.length) = false := decide_eq_false ci
            have HE : Aside0 (mr ar ⟨a, b, s, ks, es⟩ = true ∧ ni = (nds ⟨a, b, s, ks, es⟩ : Int) ∧ bi = (bts ⟨a, b, s, ks, es⟩ : Int)) := ⟨by
              obtain ⟨n1, n2, n3, n4⟩ := HN.out
              rw [List.take_of_length_le (by omega)] at n1 n2 n3
              obtain ⟨o1, o2, o3⟩ := HO3.out
              refine ⟨?_, by omega, by omega⟩
              unfold mr
              rw [o1, n3, Bool.true_and]
              show (es.length == 0 || _) = true
              by_cases z : es.length = 0
              · rw [z]; rfl
              · have h4 := n4 (by omega)
                rw [decide_eq_true (by omega), decide_eq_true (by omega)]
                simp⟩
            have HPf := HP.out.1 HE.out.1
            obtain ⟨_, hn1, hn2⟩ := HE.out
            have HPg : Aside0 (∀ (e : Ending) (w' : World), e = .returned (.tuple #[.int .i64 ni, .int .i64 bi, .bool true]) → Below w.heap.size w w' → MePost ar ⟨a, b, s, ks, es⟩ w e w') := ⟨fun e w' h1 h2 => HPf e w' (by rw [← hn1, ← hn2]; exact h1) h2⟩
            clear HP HPf HO3 HE hn1 hn2 HN ci hi hkr
            go_wp2
            go_ret3
            exact HPg.out _ _ rfl HW.out
end Go.Proofs.Ytgpjkojnmeaoiaa.QV
