/- vals.formed, the meter, vals.Valid, by hand. -/
import Derived.Test.YtgpjkojnmeaoiaaV1
import Derived.Test.YtgpjkojnmeaoiaaU
import Derived.WalkLawsBesides
import Derived.Sort.Walk0
namespace Go.Proofs.Ytgpjkojnmeaoiaa.QV
open Go Go.RowKit Go.Proofs.YtgpjkojnmeaoiaaW.PrintWords Go.Proofs.YtgpjkojnmeaoiaaW.PrintLast Go.Proofs.YtgpjkojnmeaoiaaW.PrintMore
set_option linter.unusedVariables false
set_option linter.unusedSimpArgs false
set_option maxRecDepth 100000
set_option maxHeartbeats 4000000
theorem drawn_below {w w' : World} (h : Drawn0 w w') : Below w.heap.size w w' := Drawn0.below h
theorem u8C (s : ByteArray) (hs : s.size ≤ 140737488351232) (w : World) : Calls Try.prog 43 #[.string s] w fun e w' => e = .returned (.bool (u8 s)) ∧ Drawn0 w w' :=
  utf_Valid.calls (s.size + 10) s _ w (valid_at s hs _ (Nat.le_refl _))
theorem ru8C (s : ByteArray) (hs : s.size < 17592186044416) (w : World) : Calls Try.prog 45 #[.string s] w fun e w' => e = .returned (.bool (u8 s)) ∧ Below w.heap.size w w' :=
  ndjqref01_Valid.calls (s.size + 20) s _ w (rvalid_at s hs _ (Nat.le_refl _))
/-! ### the keys in ascending order, a value's fields -/
def blt (a b : ByteArray) : Bool := Op.bytesLess a.toList b.toList
def ko : Option ByteArray → List ByteArray → Bool
  | _, [] => true
  | p, k :: l => decide (k.size ≤ 4096) && u8 k && (match p with | none => true | some q => blt q k) && ko (some k) l
theorem ko_nil (p : Option ByteArray) : ko p [] = true := by cases p <;> rfl
theorem ko_cons (p : Option ByteArray) (k : ByteArray) (l : List ByteArray) : ko p (k :: l) = (decide (k.size ≤ 4096) && u8 k && (match p with | none => true | some q => blt q k) && ko (some k) l) := by cases p <;> rfl
def kz (x : S28) : Bool := (x.f0 == 3 || x.f1 == 0) && (x.f0 == 4 || x.f2.toList == []) && (x.f0 == 6 || x.f3.length == 0) && (decide (5 ≤ x.f0) || x.f4.length == 0)
def fm (x : S28) : Bool := kz x && u8 x.f2 && (x.f0 != 6 || (x.f3.length == x.f4.length && decide (x.f3.length ≤ 1024) && ko none x.f3))
theorem rdS_at {l : List ByteArray} {i : Nat} {k : ByteArray} (h : l[i]? = some k) : rdOf ByteArray.empty l (i : Int) = k := by
  unfold rdOf
  rw [Int.toNat_natCast, List.getD_eq_getElem?_getD, h]
  rfl
theorem below_drawn {B : Nat} {w W W' : World} (h : Below B w W) (hB : B ≤ W.heap.size) (hd : Drawn0 W W') : Below B w W' := h.trans ((drawn_below hd).mono hB)
theorem step_drawn {w W W' : World} (h : Below w.heap.size w W) (hd : Drawn0 W W') : Below w.heap.size w W' := below_step h (drawn_below hd)
theorem isE {s : ByteArray} (h : s.toList = []) : s.toList.isEmpty = true ∧ (!s.toList.isEmpty) = false := by rw [h]; exact ⟨rfl, rfl⟩
theorem isN {s : ByteArray} (h : ¬ s.toList = []) : s.toList.isEmpty = false ∧ (!s.toList.isEmpty) = true := by
  cases e : s.toList with
  | nil => exact absurd e h
  | cons a l => exact ⟨rfl, rfl⟩
theorem blt_cases (p q : ByteArray) : (blt p q = true ∧ Op.bytesLess q.toList p.toList = false ∧ (q.toList == p.toList) = false) ∨ (blt p q = false ∧ Op.bytesLess q.toList p.toList = true) ∨ (blt p q = false ∧ Op.bytesLess q.toList p.toList = false ∧ (q.toList == p.toList) = true) := by
  unfold blt
  rw [bytesLess_eq, bytesLess_eq]
  by_cases h1 : p.toList < q.toList
  · refine .inl ⟨decide_eq_true h1, decide_eq_false (List.lt_asymm h1), ?_⟩
    rw [beq_eq_false_iff_ne]
    intro e
    rw [e] at h1
    exact List.lt_irrefl _ h1
  · by_cases h2 : q.toList < p.toList
    · exact .inr (.inl ⟨decide_eq_false h1, decide_eq_true h2⟩)
    · refine .inr (.inr ⟨decide_eq_false h1, decide_eq_false h2, ?_⟩)
      rw [beq_iff_eq]
      exact List.le_antisymm (List.not_lt.1 h1) (List.not_lt.1 h2)
theorem fmC (x : S28) (hx : Wv x) (w : World) {A3 : Option Addr} {c3 : Nat} {A4 : Option Addr} {c4 : Nat} (hr : Rd w A3 c3 A4 c4 x) : Calls Try.prog 85 #[.agg #[.int .i64 x.f0, .int .i64 x.f1, .string x.f2, .slice A3 x.f3.length c3, .slice A4 x.f4.length c4]] w fun e w' => e = .returned (.bool (fm x)) ∧ Below w.heap.size w w' := by
  obtain ⟨a, b, s, ks, es⟩ := x
  have hs := hx.s
  have HX := Aside0.mk hx
  have HR := Aside0.mk hr
  have HU := Aside0.mk (fun W => u8C s hs W)
  obtain ⟨u, hu⟩ : ∃ u, u8 s = u := ⟨_, rfl⟩
  obtain ⟨r, hfr⟩ : ∃ r, fm ⟨a, b, s, ks, es⟩ = r := ⟨_, rfl⟩
  rw [hu] at HU
  rw [hfr]
  have HF := Aside0.mk hfr
  have Hu := Aside0.mk hu
  have h2 := hx.kl
  have h3 := hx.el
  dsimp only at *
  clear hx hr hs hu hfr
  go_enter Try.func85, Try.ntmps85
  go_upto_region 1 with fail
  have HB := Aside0.mk (Bv.new (HR.out))
  have HW := Aside0.mk (new_below w (.cells #[.int .i64 ((S28.mk a b s ks es)).f0, .int .i64 ((S28.mk a b s ks es)).f1, .string ((S28.mk a b s ks es)).f2, .slice A3 ((S28.mk a b s ks es)).f3.length c3, .slice A4 ((S28.mk a b s ks es)).f4.length c4] 28))
  dsimp only at HB HW
  obtain ⟨bb, hb⟩ : ∃ b, w.heap.size = b := ⟨_, rfl⟩
  obtain ⟨W, hW⟩ : ∃ W, w.alloc (.cells #[.int .i64 a, .int .i64 b, .string s, .slice A3 ks.length c3, .slice A4 es.length c4] 28) = W := ⟨_, rfl⟩
  rw [hW, hb] at HB
  rw [hW] at HW
  rw [hW, hb]
  clear hW hb HR
  obtain ⟨q0, q1, q2, q3, q4⟩ := HB.out.cells
  dsimp only at q0 q1 q2 q3 q4
  have cls : a = 3 ∨ a = 4 ∨ a = 6 ∨ (a ≠ 3 ∧ a ≠ 4 ∧ a ≠ 6 ∧ a < 5) ∨ (a ≠ 3 ∧ a ≠ 4 ∧ a ≠ 6 ∧ 5 ≤ a) := by omega
  rcases cls with rfl | rfl | rfl | cls | cls
  · skip
    by_cases ts : s.toList = []
    rotate_left
    · have HT := Aside0.mk ts
      obtain ⟨p2, p2'⟩ := isN ts
      clear ts
      have hF := HF.out
      have hff : r = false := by rw [← hF]; simp [fm, kz, HT.out]
      subst hff
      clear hF
      clear HF
      go_wp2_with (first | (go_at_call 43; (with_reducible refine (HU.out _).mono ?_); rintro e we ⟨rfl, ⟨nd, rfl⟩⟩))
      go_ret
      first | exact ⟨rfl, HW.out⟩ | exact ⟨rfl, step_drawn HW.out ⟨_, rfl⟩⟩
    have HTs := Aside0.mk ts
    obtain ⟨p2, p2'⟩ := isE ts
    clear ts
    by_cases tk : ks.length = 0
    rotate_left
    · have HT := Aside0.mk tk
      have p3 : decide (0 < ks.length) = true := decide_eq_true (by omega); have p3' : decide ((0 : Int) < (ks.length : Int)) = true := decide_eq_true (by omega)
      clear tk
      have hF := HF.out
      have hff : r = false := by rw [← hF]; simp [fm, kz, HT.out, HTs.out]
      subst hff
      clear hF
      clear HF
      go_wp2_with (first | (go_at_call 43; (with_reducible refine (HU.out _).mono ?_); rintro e we ⟨rfl, ⟨nd, rfl⟩⟩))
      go_ret
      first | exact ⟨rfl, HW.out⟩ | exact ⟨rfl, step_drawn HW.out ⟨_, rfl⟩⟩
    have HTk := Aside0.mk tk
    have p3 : decide (0 < ks.length) = false := decide_eq_false (by omega); have p3' : decide ((0 : Int) < (ks.length : Int)) = false := decide_eq_false (by omega)
    clear tk
    by_cases te : es.length = 0
    rotate_left
    · have HT := Aside0.mk te
      have p4 : decide (0 < es.length) = true := decide_eq_true (by omega); have p4' : decide ((0 : Int) < (es.length : Int)) = true := decide_eq_true (by omega)
      clear te
      have hF := HF.out
      have hff : r = false := by rw [← hF]; simp [fm, kz, HT.out, HTs.out, HTk.out]
      subst hff
      clear hF
      clear HF
      go_wp2_with (first | (go_at_call 43; (with_reducible refine (HU.out _).mono ?_); rintro e we ⟨rfl, ⟨nd, rfl⟩⟩))
      go_ret
      first | exact ⟨rfl, HW.out⟩ | exact ⟨rfl, step_drawn HW.out ⟨_, rfl⟩⟩
    have HTe := Aside0.mk te
    have p4 : decide (0 < es.length) = false := decide_eq_false (by omega); have p4' : decide ((0 : Int) < (es.length : Int)) = false := decide_eq_false (by omega)
    clear te
    cases u with
    | false =>
      have hF := HF.out
      have hff : r = false := by rw [← hF]; simp [fm, kz, Hu.out, HTs.out, HTk.out, HTe.out]
      subst hff
      clear hF
      clear HF
      go_wp2_with (first | (go_at_call 43; (with_reducible refine (HU.out _).mono ?_); rintro e we ⟨rfl, ⟨nd, rfl⟩⟩))
      go_ret
      first | exact ⟨rfl, HW.out⟩ | exact ⟨rfl, step_drawn HW.out ⟨_, rfl⟩⟩
    | true =>
      have hF := HF.out
      have hff : r = true := by rw [← hF]; simp [fm, kz, Hu.out, HTs.out, HTk.out, HTe.out]
      subst hff
      clear hF HF
      go_wp2_with (first | (go_at_call 43; (with_reducible refine (HU.out _).mono ?_); rintro e we ⟨rfl, ⟨nd, rfl⟩⟩))
      go_ret
      exact ⟨rfl, step_drawn HW.out ⟨_, rfl⟩⟩
  · skip
    by_cases tb : b = 0
    rotate_left
    · have HT := Aside0.mk tb
      have p1 : (b != 0) = true := by simpa using tb
      clear tb
      have hF := HF.out
      have hff : r = false := by rw [← hF]; simp [fm, kz, HT.out]
      subst hff
      clear hF
      clear HF
      go_wp2_with (first | (go_at_call 43; (with_reducible refine (HU.out _).mono ?_); rintro e we ⟨rfl, ⟨nd, rfl⟩⟩))
      go_ret
      first | exact ⟨rfl, HW.out⟩ | exact ⟨rfl, step_drawn HW.out ⟨_, rfl⟩⟩
    have HTb := Aside0.mk tb
    have p1 : (b != 0) = false := by rw [tb]; rfl
    clear tb
    by_cases tk : ks.length = 0
    rotate_left
    · have HT := Aside0.mk tk
      have p3 : decide (0 < ks.length) = true := decide_eq_true (by omega); have p3' : decide ((0 : Int) < (ks.length : Int)) = true := decide_eq_true (by omega)
      clear tk
      have hF := HF.out
      have hff : r = false := by rw [← hF]; simp [fm, kz, HT.out, HTb.out]
      subst hff
      clear hF
      clear HF
      go_wp2_with (first | (go_at_call 43; (with_reducible refine (HU.out _).mono ?_); rintro e we ⟨rfl, ⟨nd, rfl⟩⟩))
      go_ret
      first | exact ⟨rfl, HW.out⟩ | exact ⟨rfl, step_drawn HW.out ⟨_, rfl⟩⟩
    have HTk := Aside0.mk tk
    have p3 : decide (0 < ks.length) = false := decide_eq_false (by omega); have p3' : decide ((0 : Int) < (ks.length : Int)) = false := decide_eq_false (by omega)
    clear tk
    by_cases te : es.length = 0
    rotate_left
    · have HT := Aside0.mk te
      have p4 : decide (0 < es.length) = true := decide_eq_true (by omega); have p4' : decide ((0 : Int) < (es.length : Int)) = true := decide_eq_true (by omega)
      clear te
      have hF := HF.out
      have hff : r = false := by rw [← hF]; simp [fm, kz, HT.out, HTb.out, HTk.out]
      subst hff
      clear hF
      clear HF
      go_wp2_with (first | (go_at_call 43; (with_reducible refine (HU.out _).mono ?_); rintro e we ⟨rfl, ⟨nd, rfl⟩⟩))
      go_ret
      first | exact ⟨rfl, HW.out⟩ | exact ⟨rfl, step_drawn HW.out ⟨_, rfl⟩⟩
    have HTe := Aside0.mk te
    have p4 : decide (0 < es.length) = false := decide_eq_false (by omega); have p4' : decide ((0 : Int) < (es.length : Int)) = false := decide_eq_false (by omega)
    clear te
    cases u with
    | false =>
      have hF := HF.out
      have hff : r = false := by rw [← hF]; simp [fm, kz, Hu.out, HTb.out, HTk.out, HTe.out]
      subst hff
      clear hF
      clear HF
      go_wp2_with (first | (go_at_call 43; (with_reducible refine (HU.out _).mono ?_); rintro e we ⟨rfl, ⟨nd, rfl⟩⟩))
      go_ret
      first | exact ⟨rfl, HW.out⟩ | exact ⟨rfl, step_drawn HW.out ⟨_, rfl⟩⟩
    | true =>
      have hF := HF.out
      have hff : r = true := by rw [← hF]; simp [fm, kz, Hu.out, HTb.out, HTk.out, HTe.out]
      subst hff
      clear hF HF
      go_wp2_with (first | (go_at_call 43; (with_reducible refine (HU.out _).mono ?_); rintro e we ⟨rfl, ⟨nd, rfl⟩⟩))
      go_ret
      exact ⟨rfl, step_drawn HW.out ⟨_, rfl⟩⟩
  · skip
    by_cases tb : b = 0
    rotate_left
    · have HT := Aside0.mk tb
      have p1 : (b != 0) = true := by simpa using tb
      clear tb
      have hF := HF.out
      have hff : r = false := by rw [← hF]; simp [fm, kz, HT.out]
      subst hff
      clear hF
      clear HF
      go_wp2_with (first | (go_at_call 43; (with_reducible refine (HU.out _).mono ?_); rintro e we ⟨rfl, ⟨nd, rfl⟩⟩))
      go_ret
      first | exact ⟨rfl, HW.out⟩ | exact ⟨rfl, step_drawn HW.out ⟨_, rfl⟩⟩
    have HTb := Aside0.mk tb
    have p1 : (b != 0) = false := by rw [tb]; rfl
    clear tb
    by_cases ts : s.toList = []
    rotate_left
    · have HT := Aside0.mk ts
      obtain ⟨p2, p2'⟩ := isN ts
      clear ts
      have hF := HF.out
      have hff : r = false := by rw [← hF]; simp [fm, kz, HT.out, HTb.out]
      subst hff
      clear hF
      clear HF
      go_wp2_with (first | (go_at_call 43; (with_reducible refine (HU.out _).mono ?_); rintro e we ⟨rfl, ⟨nd, rfl⟩⟩))
      go_ret
      first | exact ⟨rfl, HW.out⟩ | exact ⟨rfl, step_drawn HW.out ⟨_, rfl⟩⟩
    have HTs := Aside0.mk ts
    obtain ⟨p2, p2'⟩ := isE ts
    clear ts
    cases u with
    | false =>
      have hF := HF.out
      have hff : r = false := by rw [← hF]; simp [fm, kz, Hu.out, HTb.out, HTs.out]
      subst hff
      clear hF
      clear HF
      go_wp2_with (first | (go_at_call 43; (with_reducible refine (HU.out _).mono ?_); rintro e we ⟨rfl, ⟨nd, rfl⟩⟩))
      go_ret
      first | exact ⟨rfl, HW.out⟩ | exact ⟨rfl, step_drawn HW.out ⟨_, rfl⟩⟩
    | true =>
      by_cases tl : ks.length = es.length
      rotate_left
      · have HT := Aside0.mk tl
        have p5 : (ks.length != es.length) = true := bne_iff_ne.mpr tl
        have p5' : ((ks.length : Int) != (es.length : Int)) = true := bne_iff_ne.mpr (by omega)
        clear tl
        have hF := HF.out
        have hff : r = false := by rw [← hF]; simp [fm, kz, HT.out, Hu.out, HTb.out, HTs.out]
        subst hff
        clear hF
        clear HF
        go_wp2_with (first | (go_at_call 43; (with_reducible refine (HU.out _).mono ?_); rintro e we ⟨rfl, ⟨nd, rfl⟩⟩))
        go_ret
        first | exact ⟨rfl, HW.out⟩ | exact ⟨rfl, step_drawn HW.out ⟨_, rfl⟩⟩
      have HTl := Aside0.mk tl
      have p5 : (ks.length != es.length) = false := by rw [tl]; simp
      have p5' : ((ks.length : Int) != (es.length : Int)) = false := by rw [tl]; simp
      clear tl
      by_cases tm : ks.length ≤ 1024
      rotate_left
      · have HT := Aside0.mk tm
        have p6 : decide (1024 < ks.length) = true := decide_eq_true (by omega)
        have p6' : decide ((1024 : Int) < (ks.length : Int)) = true := decide_eq_true (by omega)
        have p6'' : decide ((ks.length : Int) > 1024) = true := decide_eq_true (by omega)
        clear tm
        have hF := HF.out
        have hff : r = false := by rw [← hF]; simp [fm, kz, HT.out, Hu.out, HTb.out, HTs.out]
        subst hff
        clear hF
        clear HF
        go_wp2_with (first | (go_at_call 43; (with_reducible refine (HU.out _).mono ?_); rintro e we ⟨rfl, ⟨nd, rfl⟩⟩))
        go_ret
        first | exact ⟨rfl, HW.out⟩ | exact ⟨rfl, step_drawn HW.out ⟨_, rfl⟩⟩
      have HF2 : Aside0 (ko none ks = r) := ⟨by
        have hF := HF.out
        rw [← hF]
        simp [fm, kz, Hu.out, HTb.out, HTs.out, HTl.out]
        intro _
        have := HTl.out
        omega⟩
      have p6 : decide (1024 < ks.length) = false := decide_eq_false (by omega)
      have p6' : decide ((1024 : Int) < (ks.length : Int)) = false := decide_eq_false (by omega)
      have p6'' : decide ((ks.length : Int) > 1024) = false := decide_eq_false (by omega)
      clear HF HTl HTb HTs Hu
      go_wp2_with (first | (go_at_call 43; (with_reducible refine (HU.out _).mono ?_); rintro e we ⟨rfl, ⟨nd, rfl⟩⟩))
      clear p1 p2 p2' p5 p5' p6 p6' p6'' q0 q1 q2 q3 q4 HU
      go_loopg [70] ks.length (fun kq v70 w' => ∃ (i : Nat), kq + i = ks.length ∧ v70 = .int .i64 (i : Int) ∧ Aside0 (ko (if i = 0 then none else ks[i - 1]?) (ks.drop i) = r) ∧ Aside0 (Bv w' bb A3 c3 A4 c4 ⟨6, b, s, ks, es⟩) ∧ Aside0 (Below w.heap.size w w'))
      case atStart => exact ⟨0, by omega, rfl, HF2, ⟨HB.out.below (drawn_below ⟨_, rfl⟩)⟩, ⟨step_drawn HW.out ⟨_, rfl⟩⟩⟩
      case round =>
        clear HB HW HF2
        obtain ⟨i, hi, rfl, HF, HB, HW⟩ := hrel
        obtain ⟨q0, q1, q2, q3, q4⟩ := HB.out.cells
        dsimp only at q0 q1 q2 q3 q4
        have hkr := HB.out.rd.r3
        dsimp only at hkr
        by_cases ci : i < ks.length
        rotate_left
        · have g0 : decide (i < ks.length) = false := decide_eq_false ci
          have hF := HF.out
          rw [List.drop_eq_nil_of_le (by omega), ko_nil] at hF
          subst hF
          clear HF hkr
          go_wp2
          go_ret
          exact ⟨rfl, HW.out⟩
        have hil : ks[i]? = some ks[i] := List.getElem?_eq_getElem ci
        have hm := List.getElem_mem ci
        have hqz := HX.out.ks _ hm
        have hd := List.drop_eq_getElem_cons ci
        obtain ⟨q, hq⟩ : ∃ q, ks[i] = q := ⟨_, rfl⟩
        rw [hq] at hil hqz hd
        obtain ⟨ad, e1, he⟩ := str_at hkr i ci hil
        have hF := HF.out
        rw [hd, ko_cons] at hF
        have g0 : decide ((i : Int) < (ks.length : Int)) = true := decide_eq_true (by omega)
        have g2 : (0 ≤ (i : Int)) = True := eq_true (by omega)
        have g3 : ((i : Int) < (ks.length : Int)) = True := eq_true (by omega)
        obtain ⟨j1, rfl⟩ : ∃ j1, gk = j1 + 1 := ⟨gk - 1, by omega⟩
        have HI := Aside0.mk hi
        have HD := Aside0.mk hil
        have HV := Aside0.mk (fun W => u8C q hqz W)
        subst e1
        clear hi hd hq hm HF
        by_cases c1 : q.size ≤ 4096
        rotate_left
        · have hff : r = false := by rw [← hF, decide_eq_false c1]; rfl
          subst hff
          have p7 : decide (4096 < q.size) = true := decide_eq_true (by omega)
          have p7' : decide ((q.size : Int) > 4096) = true := decide_eq_true (by omega)
          clear hF hil hqz hkr c1 HV
          go_wp2
          go_ret
          exact ⟨rfl, HW.out⟩
        have p7 : decide (4096 < q.size) = false := decide_eq_false (by omega)
        have p7' : decide ((q.size : Int) > 4096) = false := decide_eq_false (by omega)
        rw [decide_eq_true c1, Bool.true_and] at hF
        obtain ⟨v, hv⟩ : ∃ v, u8 q = v := ⟨_, rfl⟩
        rw [hv] at hF HV
        cases v with
        | false =>
          have hff : r = false := by rw [← hF]; rfl
          subst hff
          clear hF hil hqz hkr c1 hv
          go_wp2_with (first | (go_at_call 43; (with_reducible refine (HV.out _).mono ?_); rintro e we ⟨rfl, ⟨nd, rfl⟩⟩))
          go_ret
          exact ⟨rfl, step_drawn HW.out ⟨_, rfl⟩⟩
        | true =>
          rw [Bool.true_and] at hF
          by_cases c2 : i = 0
          · subst c2
            have hG : Aside0 (ko (some q) (ks.drop 1) = r) := ⟨hF⟩
            have he0 : wr.cell? ad = some (.string q) := he
            clear hF hil hqz hkr c1 hv he
            go_wp2_with (first | (go_at_call 43; (with_reducible refine (HV.out _).mono ?_); rintro e we ⟨rfl, ⟨nd, rfl⟩⟩))
            go_roundg j1
            case measure => omega
            case rel => exact ⟨1, by have := HI.out; omega, rfl, ⟨by have h1 := HD.out; simp only [Nat.sub_self, h1]; exact hG.out⟩, ⟨HB.out.below (drawn_below ⟨_, rfl⟩)⟩, ⟨step_drawn HW.out ⟨_, rfl⟩⟩⟩
          · obtain ⟨i, rfl⟩ : ∃ m, i = m + 1 := ⟨i - 1, by omega⟩
            have hpi : ks[i]? = some ks[i] := List.getElem?_eq_getElem (by omega)
            obtain ⟨p, hp⟩ : ∃ p, ks[i] = p := ⟨_, rfl⟩
            rw [hp] at hpi
            obtain ⟨ad', e1', he'⟩ := str_at hkr i (by omega) hpi
            obtain rfl : ad = ad' := Option.some.inj e1'
            rw [if_neg c2, Nat.add_sub_cancel, hpi] at hF
            dsimp only at hF
            have g4 : decide (((i + 1 : Nat) : Int) > 0) = true := decide_eq_true (by omega)
            have g5 : decide (0 < i + 1) = true := decide_eq_true (by omega)
            have hcs := blt_cases p q
            have he0 : wr.cell? ⟨ad.block, ad.off + (i + 1), none⟩ = some (.string q) := he
            have g6 : (0 ≤ (i : Int)) = True := eq_true (by omega)
            have g7 : ((i : Int) < (ks.length : Int)) = True := eq_true (by omega)
            clear hil hqz hkr c1 hv hp hpi e1' c2 he
            rcases hcs with ⟨b1, b2, b3⟩ | ⟨b1, b2⟩ | ⟨b1, b2, b3⟩
            · rw [b1, Bool.true_and] at hF
              have hG := Aside0.mk hF
              clear hF b1
              go_wp2_with (first | (go_at_call 43; (with_reducible refine (HV.out _).mono ?_); rintro e we ⟨rfl, ⟨nd, rfl⟩⟩))
              go_roundg j1
              case measure => omega
              case rel => exact ⟨i + 2, by have := HI.out; omega, by first | rfl | (congr 1; omega), ⟨by have h1 := HD.out; rw [if_neg (by omega), show i + 2 - 1 = i + 1 by omega, h1]; exact hG.out⟩, ⟨HB.out.below (drawn_below ⟨_, rfl⟩)⟩, ⟨step_drawn HW.out ⟨_, rfl⟩⟩⟩
            · rw [b1, Bool.false_and] at hF
              subst hF
              clear b1
              go_wp2_with (first | (go_at_call 43; (with_reducible refine (HV.out _).mono ?_); rintro e we ⟨rfl, ⟨nd, rfl⟩⟩))
              go_ret
              exact ⟨rfl, step_drawn HW.out ⟨_, rfl⟩⟩
            · rw [b1, Bool.false_and] at hF
              subst hF
              clear b1
              go_wp2_with (first | (go_at_call 43; (with_reducible refine (HV.out _).mono ?_); rintro e we ⟨rfl, ⟨nd, rfl⟩⟩))
              go_ret
              exact ⟨rfl, step_drawn HW.out ⟨_, rfl⟩⟩
  · skip
    have g3 : (a != 3) = true := by simpa using cls.1
    have g4 : (a != 4) = true := by simpa using cls.2.1
    have g6 : (a != 6) = true := by simpa using cls.2.2.1
    have g5 : decide (a < 5) = true := decide_eq_true cls.2.2.2
    have HK := Aside0.mk cls
    clear cls
    by_cases tb : b = 0
    rotate_left
    · have HT := Aside0.mk tb
      have p1 : (b != 0) = true := by simpa using tb
      clear tb
      have hF := HF.out
      have hff : r = false := by rw [← hF]; simp [fm, kz, HT.out, HK.out.1, HK.out.2.1, HK.out.2.2.1, (show ¬ 5 ≤ a by have := HK.out; omega)]
      subst hff
      clear hF
      clear HF
      go_wp2_with (first | (go_at_call 43; (with_reducible refine (HU.out _).mono ?_); rintro e we ⟨rfl, ⟨nd, rfl⟩⟩))
      go_ret
      first | exact ⟨rfl, HW.out⟩ | exact ⟨rfl, step_drawn HW.out ⟨_, rfl⟩⟩
    have HTb := Aside0.mk tb
    have p1 : (b != 0) = false := by rw [tb]; rfl
    clear tb
    by_cases ts : s.toList = []
    rotate_left
    · have HT := Aside0.mk ts
      obtain ⟨p2, p2'⟩ := isN ts
      clear ts
      have hF := HF.out
      have hff : r = false := by rw [← hF]; simp [fm, kz, HT.out, HTb.out, HK.out.1, HK.out.2.1, HK.out.2.2.1, (show ¬ 5 ≤ a by have := HK.out; omega)]
      subst hff
      clear hF
      clear HF
      go_wp2_with (first | (go_at_call 43; (with_reducible refine (HU.out _).mono ?_); rintro e we ⟨rfl, ⟨nd, rfl⟩⟩))
      go_ret
      first | exact ⟨rfl, HW.out⟩ | exact ⟨rfl, step_drawn HW.out ⟨_, rfl⟩⟩
    have HTs := Aside0.mk ts
    obtain ⟨p2, p2'⟩ := isE ts
    clear ts
    by_cases tk : ks.length = 0
    rotate_left
    · have HT := Aside0.mk tk
      have p3 : decide (0 < ks.length) = true := decide_eq_true (by omega); have p3' : decide ((0 : Int) < (ks.length : Int)) = true := decide_eq_true (by omega)
      clear tk
      have hF := HF.out
      have hff : r = false := by rw [← hF]; simp [fm, kz, HT.out, HTb.out, HTs.out, HK.out.1, HK.out.2.1, HK.out.2.2.1, (show ¬ 5 ≤ a by have := HK.out; omega)]
      subst hff
      clear hF
      clear HF
      go_wp2_with (first | (go_at_call 43; (with_reducible refine (HU.out _).mono ?_); rintro e we ⟨rfl, ⟨nd, rfl⟩⟩))
      go_ret
      first | exact ⟨rfl, HW.out⟩ | exact ⟨rfl, step_drawn HW.out ⟨_, rfl⟩⟩
    have HTk := Aside0.mk tk
    have p3 : decide (0 < ks.length) = false := decide_eq_false (by omega); have p3' : decide ((0 : Int) < (ks.length : Int)) = false := decide_eq_false (by omega)
    clear tk
    by_cases te : es.length = 0
    rotate_left
    · have HT := Aside0.mk te
      have p4 : decide (0 < es.length) = true := decide_eq_true (by omega); have p4' : decide ((0 : Int) < (es.length : Int)) = true := decide_eq_true (by omega)
      clear te
      have hF := HF.out
      have hff : r = false := by rw [← hF]; simp [fm, kz, HT.out, HTb.out, HTs.out, HTk.out, HK.out.1, HK.out.2.1, HK.out.2.2.1, (show ¬ 5 ≤ a by have := HK.out; omega)]
      subst hff
      clear hF
      clear HF
      go_wp2_with (first | (go_at_call 43; (with_reducible refine (HU.out _).mono ?_); rintro e we ⟨rfl, ⟨nd, rfl⟩⟩))
      go_ret
      first | exact ⟨rfl, HW.out⟩ | exact ⟨rfl, step_drawn HW.out ⟨_, rfl⟩⟩
    have HTe := Aside0.mk te
    have p4 : decide (0 < es.length) = false := decide_eq_false (by omega); have p4' : decide ((0 : Int) < (es.length : Int)) = false := decide_eq_false (by omega)
    clear te
    cases u with
    | false =>
      have hF := HF.out
      have hff : r = false := by rw [← hF]; simp [fm, kz, Hu.out, HTb.out, HTs.out, HTk.out, HTe.out, HK.out.1, HK.out.2.1, HK.out.2.2.1, (show ¬ 5 ≤ a by have := HK.out; omega)]
      subst hff
      clear hF
      clear HF
      go_wp2_with (first | (go_at_call 43; (with_reducible refine (HU.out _).mono ?_); rintro e we ⟨rfl, ⟨nd, rfl⟩⟩))
      go_ret
      first | exact ⟨rfl, HW.out⟩ | exact ⟨rfl, step_drawn HW.out ⟨_, rfl⟩⟩
    | true =>
      have hF := HF.out
      have hff : r = true := by rw [← hF]; simp [fm, kz, Hu.out, HTb.out, HTs.out, HTk.out, HTe.out, HK.out.1, HK.out.2.1, HK.out.2.2.1, (show ¬ 5 ≤ a by have := HK.out; omega)]
      subst hff
      clear hF HF
      go_wp2_with (first | (go_at_call 43; (with_reducible refine (HU.out _).mono ?_); rintro e we ⟨rfl, ⟨nd, rfl⟩⟩))
      go_ret
      exact ⟨rfl, step_drawn HW.out ⟨_, rfl⟩⟩
  · skip
    have g3 : (a != 3) = true := by simpa using cls.1
    have g4 : (a != 4) = true := by simpa using cls.2.1
    have g6 : (a != 6) = true := by simpa using cls.2.2.1
    have g5 : decide (a < 5) = false := decide_eq_false (by omega)
    have HK := Aside0.mk cls
    clear cls
    by_cases tb : b = 0
    rotate_left
    · have HT := Aside0.mk tb
      have p1 : (b != 0) = true := by simpa using tb
      clear tb
      have hF := HF.out
      have hff : r = false := by rw [← hF]; simp [fm, kz, HT.out, HK.out.1, HK.out.2.1, HK.out.2.2.1, (show 5 ≤ a from HK.out.2.2.2)]
      subst hff
      clear hF
      clear HF
      go_wp2_with (first | (go_at_call 43; (with_reducible refine (HU.out _).mono ?_); rintro e we ⟨rfl, ⟨nd, rfl⟩⟩))
      go_ret
      first | exact ⟨rfl, HW.out⟩ | exact ⟨rfl, step_drawn HW.out ⟨_, rfl⟩⟩
    have HTb := Aside0.mk tb
    have p1 : (b != 0) = false := by rw [tb]; rfl
    clear tb
    by_cases ts : s.toList = []
    rotate_left
    · have HT := Aside0.mk ts
      obtain ⟨p2, p2'⟩ := isN ts
      clear ts
      have hF := HF.out
      have hff : r = false := by rw [← hF]; simp [fm, kz, HT.out, HTb.out, HK.out.1, HK.out.2.1, HK.out.2.2.1, (show 5 ≤ a from HK.out.2.2.2)]
      subst hff
      clear hF
      clear HF
      go_wp2_with (first | (go_at_call 43; (with_reducible refine (HU.out _).mono ?_); rintro e we ⟨rfl, ⟨nd, rfl⟩⟩))
      go_ret
      first | exact ⟨rfl, HW.out⟩ | exact ⟨rfl, step_drawn HW.out ⟨_, rfl⟩⟩
    have HTs := Aside0.mk ts
    obtain ⟨p2, p2'⟩ := isE ts
    clear ts
    by_cases tk : ks.length = 0
    rotate_left
    · have HT := Aside0.mk tk
      have p3 : decide (0 < ks.length) = true := decide_eq_true (by omega); have p3' : decide ((0 : Int) < (ks.length : Int)) = true := decide_eq_true (by omega)
      clear tk
      have hF := HF.out
      have hff : r = false := by rw [← hF]; simp [fm, kz, HT.out, HTb.out, HTs.out, HK.out.1, HK.out.2.1, HK.out.2.2.1, (show 5 ≤ a from HK.out.2.2.2)]
      subst hff
      clear hF
      clear HF
      go_wp2_with (first | (go_at_call 43; (with_reducible refine (HU.out _).mono ?_); rintro e we ⟨rfl, ⟨nd, rfl⟩⟩))
      go_ret
      first | exact ⟨rfl, HW.out⟩ | exact ⟨rfl, step_drawn HW.out ⟨_, rfl⟩⟩
    have HTk := Aside0.mk tk
    have p3 : decide (0 < ks.length) = false := decide_eq_false (by omega); have p3' : decide ((0 : Int) < (ks.length : Int)) = false := decide_eq_false (by omega)
    clear tk
    cases u with
    | false =>
      have hF := HF.out
      have hff : r = false := by rw [← hF]; simp [fm, kz, Hu.out, HTb.out, HTs.out, HTk.out, HK.out.1, HK.out.2.1, HK.out.2.2.1, (show 5 ≤ a from HK.out.2.2.2)]
      subst hff
      clear hF
      clear HF
      go_wp2_with (first | (go_at_call 43; (with_reducible refine (HU.out _).mono ?_); rintro e we ⟨rfl, ⟨nd, rfl⟩⟩))
      go_ret
      first | exact ⟨rfl, HW.out⟩ | exact ⟨rfl, step_drawn HW.out ⟨_, rfl⟩⟩
    | true =>
      have hF := HF.out
      have hff : r = true := by rw [← hF]; simp [fm, kz, Hu.out, HTb.out, HTs.out, HTk.out, HK.out.1, HK.out.2.1, HK.out.2.2.1, (show 5 ≤ a from HK.out.2.2.2)]
      subst hff
      clear hF HF
      go_wp2_with (first | (go_at_call 43; (with_reducible refine (HU.out _).mono ?_); rintro e we ⟨rfl, ⟨nd, rfl⟩⟩))
      go_ret
      exact ⟨rfl, step_drawn HW.out ⟨_, rfl⟩⟩
end Go.Proofs.Ytgpjkojnmeaoiaa.QV
