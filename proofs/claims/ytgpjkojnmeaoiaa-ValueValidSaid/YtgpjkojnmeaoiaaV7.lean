/- Names of kinds; vals.All, keep.Small, vals.Fit. -/
import Derived.Test.YtgpjkojnmeaoiaaV6
namespace Go.Proofs.Ytgpjkojnmeaoiaa.QV
open Go Go.RowKit Go.Proofs.YtgpjkojnmeaoiaaW.PrintWords Go.Proofs.YtgpjkojnmeaoiaaW.PrintLast Go.Proofs.YtgpjkojnmeaoiaaW.PrintMore
set_option linter.unusedVariables false
set_option linter.unusedSimpArgs false
set_option maxRecDepth 100000
set_option maxHeartbeats 4000000
def tn (a : Int) : ByteArray := if a = 0 then (⟨#[110, 117, 108, 108]⟩ : ByteArray) else if a = 1 then (⟨#[98, 111, 111, 108, 101, 97, 110]⟩ : ByteArray) else if a = 2 then (⟨#[98, 111, 111, 108, 101, 97, 110]⟩ : ByteArray) else if a = 3 then (⟨#[110, 117, 109, 98, 101, 114]⟩ : ByteArray) else if a = 4 then (⟨#[115, 116, 114, 105, 110, 103]⟩ : ByteArray) else if a = 5 then (⟨#[97, 114, 114, 97, 121]⟩ : ByteArray) else if a = 6 then (⟨#[111, 98, 106, 101, 99, 116]⟩ : ByteArray) else (⟨#[]⟩ : ByteArray)
theorem nameC (x : S28) (w : World) {A3 : Option Addr} {c3 : Nat} {A4 : Option Addr} {c4 : Nat} (h0 : 0 ≤ x.f0) (h6 : x.f0 ≤ 6) :
    Calls Try.prog 64 #[.agg #[.int .i64 x.f0, .int .i64 x.f1, .string x.f2, .slice A3 x.f3.length c3, .slice A4 x.f4.length c4]] w fun e w' => e = .returned (.string (tn x.f0)) ∧ Below w.heap.size w w' := by
  obtain ⟨a, b, s, ks, es⟩ := x
  dsimp only at *
  have cls : a = 0 ∨ a = 1 ∨ a = 2 ∨ a = 3 ∨ a = 4 ∨ a = 5 ∨ a = 6 := by omega
  clear h0 h6
  have i0 : ∀ w, (Instr.index 80 (.agg #[.string ⟨#[110, 117, 108, 108]⟩, .string ⟨#[98, 111, 111, 108, 101, 97, 110]⟩, .string ⟨#[98, 111, 111, 108, 101, 97, 110]⟩, .string ⟨#[110, 117, 109, 98, 101, 114]⟩, .string ⟨#[115, 116, 114, 105, 110, 103]⟩, .string ⟨#[97, 114, 114, 97, 121]⟩, .string ⟨#[111, 98, 106, 101, 99, 116]⟩]) (.int .i64 0)).run Try.prog w = .ok (.string ⟨#[110, 117, 108, 108]⟩) w := fun _ => by kernel_rfl
  have i1 : ∀ w, (Instr.index 80 (.agg #[.string ⟨#[110, 117, 108, 108]⟩, .string ⟨#[98, 111, 111, 108, 101, 97, 110]⟩, .string ⟨#[98, 111, 111, 108, 101, 97, 110]⟩, .string ⟨#[110, 117, 109, 98, 101, 114]⟩, .string ⟨#[115, 116, 114, 105, 110, 103]⟩, .string ⟨#[97, 114, 114, 97, 121]⟩, .string ⟨#[111, 98, 106, 101, 99, 116]⟩]) (.int .i64 1)).run Try.prog w = .ok (.string ⟨#[98, 111, 111, 108, 101, 97, 110]⟩) w := fun _ => by kernel_rfl
  have i2 : ∀ w, (Instr.index 80 (.agg #[.string ⟨#[110, 117, 108, 108]⟩, .string ⟨#[98, 111, 111, 108, 101, 97, 110]⟩, .string ⟨#[98, 111, 111, 108, 101, 97, 110]⟩, .string ⟨#[110, 117, 109, 98, 101, 114]⟩, .string ⟨#[115, 116, 114, 105, 110, 103]⟩, .string ⟨#[97, 114, 114, 97, 121]⟩, .string ⟨#[111, 98, 106, 101, 99, 116]⟩]) (.int .i64 2)).run Try.prog w = .ok (.string ⟨#[98, 111, 111, 108, 101, 97, 110]⟩) w := fun _ => by kernel_rfl
  have i3 : ∀ w, (Instr.index 80 (.agg #[.string ⟨#[110, 117, 108, 108]⟩, .string ⟨#[98, 111, 111, 108, 101, 97, 110]⟩, .string ⟨#[98, 111, 111, 108, 101, 97, 110]⟩, .string ⟨#[110, 117, 109, 98, 101, 114]⟩, .string ⟨#[115, 116, 114, 105, 110, 103]⟩, .string ⟨#[97, 114, 114, 97, 121]⟩, .string ⟨#[111, 98, 106, 101, 99, 116]⟩]) (.int .i64 3)).run Try.prog w = .ok (.string ⟨#[110, 117, 109, 98, 101, 114]⟩) w := fun _ => by kernel_rfl
  have i4 : ∀ w, (Instr.index 80 (.agg #[.string ⟨#[110, 117, 108, 108]⟩, .string ⟨#[98, 111, 111, 108, 101, 97, 110]⟩, .string ⟨#[98, 111, 111, 108, 101, 97, 110]⟩, .string ⟨#[110, 117, 109, 98, 101, 114]⟩, .string ⟨#[115, 116, 114, 105, 110, 103]⟩, .string ⟨#[97, 114, 114, 97, 121]⟩, .string ⟨#[111, 98, 106, 101, 99, 116]⟩]) (.int .i64 4)).run Try.prog w = .ok (.string ⟨#[115, 116, 114, 105, 110, 103]⟩) w := fun _ => by kernel_rfl
  have i5 : ∀ w, (Instr.index 80 (.agg #[.string ⟨#[110, 117, 108, 108]⟩, .string ⟨#[98, 111, 111, 108, 101, 97, 110]⟩, .string ⟨#[98, 111, 111, 108, 101, 97, 110]⟩, .string ⟨#[110, 117, 109, 98, 101, 114]⟩, .string ⟨#[115, 116, 114, 105, 110, 103]⟩, .string ⟨#[97, 114, 114, 97, 121]⟩, .string ⟨#[111, 98, 106, 101, 99, 116]⟩]) (.int .i64 5)).run Try.prog w = .ok (.string ⟨#[97, 114, 114, 97, 121]⟩) w := fun _ => by kernel_rfl
  have i6 : ∀ w, (Instr.index 80 (.agg #[.string ⟨#[110, 117, 108, 108]⟩, .string ⟨#[98, 111, 111, 108, 101, 97, 110]⟩, .string ⟨#[98, 111, 111, 108, 101, 97, 110]⟩, .string ⟨#[110, 117, 109, 98, 101, 114]⟩, .string ⟨#[115, 116, 114, 105, 110, 103]⟩, .string ⟨#[97, 114, 114, 97, 121]⟩, .string ⟨#[111, 98, 106, 101, 99, 116]⟩]) (.int .i64 6)).run Try.prog w = .ok (.string ⟨#[111, 98, 106, 101, 99, 116]⟩) w := fun _ => by kernel_rfl
  rcases cls with rfl | rfl | rfl | rfl | rfl | rfl | rfl
  all_goals
    go_enter Try.func64, Try.ntmps64
    go_wp2_with fail
    go_ret
    exact ⟨rfl, new_below _ _⟩
theorem vd_kind {x : S28} (h : vd x = true) : 0 ≤ x.f0 ∧ x.f0 ≤ 6 := by
  unfold vd fitR at h
  rw [okv_eq] at h
  simp only [Bool.and_eq_true, decide_eq_true_eq] at h
  exact ⟨h.1.1.1.1.1.1, h.1.1.1.1.1.2⟩
theorem valueTypeNameC (x : S28) (w : World) {A3 : Option Addr} {c3 : Nat} {A4 : Option Addr} {c4 : Nat} (hx : Wv x) (hc : cnt x ≤ 1000000000000000) (hr : Rd w A3 c3 A4 c4 x) :
    Calls Try.prog 32 #[.agg #[.int .i64 x.f0, .int .i64 x.f1, .string x.f2, .slice A3 x.f3.length c3, .slice A4 x.f4.length c4]] w fun e w' => e = .returned (.string (if vd x = true then tn x.f0 else (⟨#[]⟩ : ByteArray))) ∧ Below w.heap.size w w' := by
  have HV := Aside0.mk (fun W (hb : Below w.heap.size w W) => validC x W hx hc (hr.below hb))
  have HQ : Aside0 (vd x = true → ∀ W, Calls Try.prog 64 #[.agg #[.int .i64 x.f0, .int .i64 x.f1, .string x.f2, .slice A3 x.f3.length c3, .slice A4 x.f4.length c4]] W fun e w' => e = .returned (.string (tn x.f0)) ∧ Below W.heap.size W w') := ⟨fun h W => nameC x W (vd_kind h).1 (vd_kind h).2⟩
  have HA := Aside0.mk (new_below w (.cells #[.int .i64 x.f0, .int .i64 x.f1, .string x.f2, .slice A3 x.f3.length c3, .slice A4 x.f4.length c4] 28))
  have HB := Aside0.mk (Bv.new hr)
  obtain ⟨r, hvr⟩ : ∃ r, vd x = r := ⟨_, rfl⟩
  rw [hvr] at HV HQ ⊢
  clear hx hc hr hvr
  go_enter Try.func32, Try.ntmps32
  cases r with
  | false =>
    go_wp2_with (first | (go_at_call 59; (with_reducible refine (HV.out _ HA.out).mono ?_); rintro e we ⟨rfl, hb⟩; have HB2 := Aside0.mk (below_step HA.out hb); clear hb))
    go_ret
    exact ⟨rfl, HB2.out⟩
  | true =>
    have HQ2 := Aside0.mk (HQ.out rfl)
    clear HQ
    go_wp2_with (first | (go_at_call 59; (with_reducible refine (HV.out _ HA.out).mono ?_); rintro e we ⟨rfl, hb⟩; have HB2 := Aside0.mk (below_step HA.out hb); have HB3 := Aside0.mk (HB.out.below hb); obtain ⟨q0, q1, q2, q3, q4⟩ := HB3.out.cells; clear hb) | (go_at_call 64; (with_reducible refine (HQ2.out _).mono ?_); rintro e we2 ⟨rfl, hb⟩; have HB4 := Aside0.mk (below_step HB2.out hb); clear hb))
    go_ret
    exact ⟨rfl, HB4.out⟩
/-- All: every value of the list is valid. -/
theorem allC (l : List S28) (w : World) {A : Option Addr} {c : Nat} (hl : Kd.C k28 w A l.length l) (hw : ∀ y ∈ l, Wv y ∧ cnt y ≤ 1000000000000000) (hm : l.length ≤ 140737488351232) :
    Calls Try.prog 48 #[.slice A l.length c] w fun e w' => e = .returned (.bool (l.all vd)) ∧ Below w.heap.size w w' := by
  have HL := Aside0.mk hl
  have HWv := Aside0.mk hw
  obtain ⟨r, hfr⟩ : ∃ r, l.all vd = r := ⟨_, rfl⟩
  rw [hfr]
  have HF : Aside0 ((l.drop 0).all vd = r) := ⟨hfr⟩
  have HW := Aside0.mk (Below.refl w.heap.size w)
  clear hl hw hfr
  go_enter Try.func48, Try.ntmps48
  go_wp2_with fail
  go_loopg [7] l.length (fun kq vi w' => ∃ (i : Nat), kq + i = l.length ∧ vi = .int .i64 (i : Int) ∧ Aside0 ((l.drop i).all vd = r) ∧ Aside0 (Below w.heap.size w w'))
  case atStart => exact ⟨0, by omega, rfl, HF, HW⟩
  case round =>
    clear HF HW
    obtain ⟨i, hi, rfl, HF, HW⟩ := hrel
    by_cases ci : i < l.length
    · have g0 : decide ((i : Int) < (l.length : Int)) = true := decide_eq_true (by omega)
      have g2 : (0 ≤ (i : Int)) = True := eq_true (by omega)
      have g3 : ((i : Int) < (l.length : Int)) = True := eq_true (by omega)
      obtain ⟨j1, rfl⟩ : ∃ j1, gk = j1 + 1 := ⟨gk - 1, by omega⟩
      have hil : l[i]? = some l[i] := List.getElem?_eq_getElem ci
      have hm := List.getElem_mem ci
      have hq := HWv.out _ hm
      have hd := List.drop_eq_getElem_cons ci
      obtain ⟨y, hq'⟩ : ∃ y, l[i] = y := ⟨_, rfl⟩
      rw [hq'] at hil hq hd
      obtain ⟨ad, Y3, y3, Y4, y4, e1, he0⟩ := el_at (Kd.C_below HL.out HW.out) i ci hil
      have hF := HF.out
      rw [hd, List.all_cons] at hF
      have HI := Aside0.mk hi
      have HP := Aside0.mk (new_below wr (.cells #[.int .i64 y.f0, .int .i64 y.f1, .string y.f2, .slice Y3 y.f3.length y3, .slice Y4 y.f4.length y4] 28))
      have HY := Aside0.mk (validC y (wr.alloc (.cells #[.int .i64 y.f0, .int .i64 y.f1, .string y.f2, .slice Y3 y.f3.length y3, .slice Y4 y.f4.length y4] 28)) hq.1 hq.2 (he0.rd.below HP.out))
      obtain ⟨v, hv⟩ : ∃ v, vd y = v := ⟨_, rfl⟩
      rw [hv] at hF HY
      obtain ⟨e0, e2, e3, e4, e5, _⟩ := he0
      clear hil hq' hi hm hq hd hv HF
      subst e1
      cases v with
      | false =>
        rw [Bool.false_and] at hF
        subst hF
        go_wp2_with (first | (go_at_call 59; (with_reducible refine HY.out.mono ?_); rintro e we ⟨rfl, hb⟩; have HW2 := Aside0.mk (below_step (below_step HW.out HP.out) hb); clear HW; have HW := HW2; clear HW2 hb))
        go_ret
        exact ⟨rfl, HW.out⟩
      | true =>
        rw [Bool.true_and] at hF
        have HG := Aside0.mk hF
        clear hF
        go_wp2_with (first | (go_at_call 59; (with_reducible refine HY.out.mono ?_); rintro e we ⟨rfl, hb⟩; have HW2 := Aside0.mk (below_step (below_step HW.out HP.out) hb); clear HW; have HW := HW2; clear HW2 hb))
        go_roundg j1
        case measure => omega
        case rel => exact ⟨i + 1, by have := HI.out; omega, rfl, HG, HW⟩
    · have g0 : decide (i < l.length) = false := decide_eq_false ci
      have hF := HF.out
      rw [List.drop_eq_nil_of_le (by omega)] at hF
      have hff : r = true := hF.symm
      subst hff
      clear HF hF ci hi
      go_wp2
      go_ret
      exact ⟨rfl, HW.out⟩
/-- Small: every value of the list is small. -/
theorem smallC (most : Int) (l : List S28) (w : World) {A : Option Addr} {c : Nat} (h0 : 0 ≤ most) (h1 : most ≤ 1000000) (hl : Kd.C k28 w A l.length l) (hw : ∀ y ∈ l, Wv y) (hm : l.length ≤ 140737488351232) :
    Calls Try.prog 11 #[.int .i64 most, .slice A l.length c] w fun e w' => e = .returned (.bool (l.all fun y => decide ((cnt y : Int) ≤ most))) ∧ Below w.heap.size w w' := by
  have HL := Aside0.mk hl
  have HWv := Aside0.mk hw
  obtain ⟨r, hfr⟩ : ∃ r, (l.all fun y => decide ((cnt y : Int) ≤ most)) = r := ⟨_, rfl⟩
  rw [hfr]
  have HF : Aside0 (((l.drop 0).all fun y => decide ((cnt y : Int) ≤ most)) = r) := ⟨hfr⟩
  have HW := Aside0.mk (Below.refl w.heap.size w)
  clear hl hw hfr
  go_enter Try.func11, Try.ntmps11
  go_wp2_with fail
  go_loopg [5] l.length (fun kq vi w' => ∃ (i : Nat), kq + i = l.length ∧ vi = .int .i64 (i : Int) ∧ Aside0 (((l.drop i).all fun y => decide ((cnt y : Int) ≤ most)) = r) ∧ Aside0 (Below w.heap.size w w'))
  case atStart => exact ⟨0, by omega, rfl, HF, HW⟩
  case round =>
    clear HF HW
    obtain ⟨i, hi, rfl, HF, HW⟩ := hrel
    by_cases ci : i < l.length
    · have g0 : decide ((i : Int) < (l.length : Int)) = true := decide_eq_true (by omega)
      have g2 : (0 ≤ (i : Int)) = True := eq_true (by omega)
      have g3 : ((i : Int) < (l.length : Int)) = True := eq_true (by omega)
      obtain ⟨j1, rfl⟩ : ∃ j1, gk = j1 + 1 := ⟨gk - 1, by omega⟩
      have hil : l[i]? = some l[i] := List.getElem?_eq_getElem ci
      have hm := List.getElem_mem ci
      have hq := HWv.out _ hm
      have hd := List.drop_eq_getElem_cons ci
      obtain ⟨y, hq'⟩ : ∃ y, l[i] = y := ⟨_, rfl⟩
      rw [hq'] at hil hq hd
      obtain ⟨ad, Y3, y3, Y4, y4, e1, he0⟩ := el_at (Kd.C_below HL.out HW.out) i ci hil
      have hF := HF.out
      rw [hd, List.all_cons] at hF
      have HI := Aside0.mk hi
      have HY := Aside0.mk (countC _ y most wr (Nat.lt_succ_self _) hq h0 h1 he0.rd)
      obtain ⟨e0, e2, e3, e4, e5, _⟩ := he0
      clear hil hq' hi hm hq hd HF
      subst e1
      by_cases cy : (cnt y : Int) ≤ most
      rotate_left
      · rw [decide_eq_false cy, Bool.false_and] at hF
        subst hF
        have HN := Aside0.mk cy
        clear cy
        go_wp2_with (first | (go_at_call 41; (with_reducible refine HY.out.mono ?_); rintro e we ⟨n3, rfl, p0, p1, p2, p3, hb⟩; have g9 : decide (n3 > most) = true := (decide_eq_true (by have h := HN.out; have h2 : ¬ n3 ≤ most := fun h3 => h (p2.2 h3); omega)); have HW2 := Aside0.mk (below_step HW.out hb); clear HW p2 p3; have HW := HW2; clear HW2 hb))
        go_ret
        exact ⟨rfl, HW.out⟩
      · rw [decide_eq_true cy, Bool.true_and] at hF
        have HG := Aside0.mk hF
        have HN := Aside0.mk cy
        clear hF cy
        go_wp2_with (first | (go_at_call 41; (with_reducible refine HY.out.mono ?_); rintro e we ⟨n3, rfl, p0, p1, p2, p3, hb⟩; have g9 : decide (n3 > most) = false := (decide_eq_false (by have h := p2.1 HN.out; omega)); have HW2 := Aside0.mk (below_step HW.out hb); clear HW p2 p3; have HW := HW2; clear HW2 hb))
        go_roundg j1
        case measure => omega
        case rel => exact ⟨i + 1, by have := HI.out; omega, rfl, HG, HW⟩
    · have g0 : decide (i < l.length) = false := decide_eq_false ci
      have hF := HF.out
      rw [List.drop_eq_nil_of_le (by omega)] at hF
      have hff : r = true := hF.symm
      subst hff
      clear HF hF ci hi
      go_wp2
      go_ret
      exact ⟨rfl, HW.out⟩
end Go.Proofs.Ytgpjkojnmeaoiaa.QV
