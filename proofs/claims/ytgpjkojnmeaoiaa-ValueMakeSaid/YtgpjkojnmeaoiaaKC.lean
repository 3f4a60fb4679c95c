/- vals.Valid and what is above it; sorting; copies; comparisons. -/
import Derived.Test.YtgpjkojnmeaoiaaKB
import Derived.Test.YtgpjkojnmeaoiaaKA
import Derived.RegionTactic
import Derived.ChangeAlike
import Derived.BigRegion
import Derived.Deep.QuietTactic
import Derived.BigQuiet
import Derived.Deep.DeepCutAuto
import Derived.Deep.CutRange
import Derived.Lib.SliceRun
import Derived.WideShapes
/- vals.Valid, Fit, All, Depth, Nodes, Truthy, Name; the value package over them, by hand. -/
namespace Go.Proofs.Ytgpjkojnmeaoiaa.QV
open Go Go.RowKit Go.Proofs.YtgpjkojnmeaoiaaW.PrintWords Go.Proofs.YtgpjkojnmeaoiaaW.PrintLast Go.Proofs.YtgpjkojnmeaoiaaW.PrintMore
set_option linter.unusedVariables false
set_option linter.unusedSimpArgs false
set_option maxRecDepth 100000
set_option maxHeartbeats 4000000
def vd (x : S28) : Bool := fitR true 0 x 0 0
theorem meter_new (w : World) : (w.alloc (.cells #[.int .i64 0, .int .i64 0] 72)).heap[w.heap.size]? = some (.cells #[.int .i64 0, .int .i64 0] 72 (0, 0)) := heap_alloc_new w _
theorem fit0 (form : Bool) (x : S28) (w0 w : World) {A3 : Option Addr} {c3 : Nat} {A4 : Option Addr} {c4 : Nat} (hx : Wv x) (hc : cnt x ≤ 1000000000000000) (hr : Rd w0 A3 c3 A4 c4 x) (m : Nat) (hm : w0.heap.size ≤ m) (hb : Below w0.heap.size w0 w) (hM : w.heap[m]? = some (.cells #[.int .i64 0, .int .i64 0] 72 (0, 0))) :
    Calls Try.prog 72 #[.pointer (some ⟨m, 0, none⟩), .agg #[.int .i64 x.f0, .int .i64 x.f1, .string x.f2, .slice A3 x.f3.length c3, .slice A4 x.f4.length c4], .int .i64 0, .bool form] w fun e w' => e = .returned (.bool (fitR form 0 x 0 0)) ∧ w.grownBy w' (some m) :=
  (fitC form _ x 0 0 0 m w0 w (Nat.lt_succ_self _) hx hc (by omega) (by omega) (by omega) (by omega) (by omega) hr hm hb hM).mono fun e w' h => by
    obtain ⟨n', b', h1, h2, h3, h4⟩ := h
    exact ⟨h1, h2⟩
theorem validC (x : S28) (w : World) {A3 : Option Addr} {c3 : Nat} {A4 : Option Addr} {c4 : Nat} (hx : Wv x) (hc : cnt x ≤ 1000000000000000) (hr : Rd w A3 c3 A4 c4 x) :
    Calls Try.prog 59 #[.agg #[.int .i64 x.f0, .int .i64 x.f1, .string x.f2, .slice A3 x.f3.length c3, .slice A4 x.f4.length c4]] w fun e w' => e = .returned (.bool (vd x)) ∧ Below w.heap.size w w' := by
  have ha := new_below w (.cells #[.int .i64 x.f0, .int .i64 x.f1, .string x.f2, .slice A3 x.f3.length c3, .slice A4 x.f4.length c4] 28)
  obtain ⟨W, hW⟩ : ∃ W, w.alloc (.cells #[.int .i64 x.f0, .int .i64 x.f1, .string x.f2, .slice A3 x.f3.length c3, .slice A4 x.f4.length c4] 28) = W := ⟨_, rfl⟩
  have hW1 : Bv W w.heap.size A3 c3 A4 c4 x := by rw [← hW]; exact Bv.new hr
  have hWs : W.heap.size = w.heap.size + 1 := by rw [← hW]; simp
  rw [hW] at ha
  have hb2 := new_below W (.cells #[.int .i64 0, .int .i64 0] 72)
  have HF := Aside0.mk (fit0 true x w (W.alloc (.cells #[.int .i64 0, .int .i64 0] 72)) hx hc hr W.heap.size (by omega) (below_step ha hb2) (meter_new W))
  have HA := Aside0.mk ha
  have HB := Aside0.mk (hW1.below hb2)
  have HS := Aside0.mk hWs
  obtain ⟨r, hvr⟩ : ∃ r, vd x = r := ⟨_, rfl⟩
  rw [hvr]
  unfold vd at hvr
  rw [hvr] at HF
  have HA2 := Aside0.mk (below_step ha hb2)
  have HWe := Aside0.mk hW
  clear ha hW1 hb2 hWs hx hc hr hvr hW
  go_enter Try.func59, Try.ntmps59
  go_upto_region 1 with fail
  rw [HWe.out]
  clear HWe
  obtain ⟨q0, q1, q2, q3, q4⟩ := HB.out.cells
  go_wp2_with (first | (go_at_call 72; (with_reducible refine HF.out.mono ?_); rintro e we ⟨rfl, hg⟩; have HG := Aside0.mk hg; clear hg))
  go_ret
  exact ⟨rfl, below_of_grown HA2.out (by have := HS.out; omega) (by have := HS.out; simp; omega) HG.out⟩
theorem valueValidC (x : S28) (w : World) {A3 : Option Addr} {c3 : Nat} {A4 : Option Addr} {c4 : Nat} (hx : Wv x) (hc : cnt x ≤ 1000000000000000) (hr : Rd w A3 c3 A4 c4 x) :
    Calls Try.prog 24 #[.agg #[.int .i64 x.f0, .int .i64 x.f1, .string x.f2, .slice A3 x.f3.length c3, .slice A4 x.f4.length c4]] w fun e w' => e = .returned (.bool (vd x)) ∧ Below w.heap.size w w' := by
  have HR := Aside0.mk hr
  have HV := Aside0.mk (fun W (hb : Below w.heap.size w W) => validC x W hx hc (hr.below hb))
  have HA := Aside0.mk (new_below w (.cells #[.int .i64 x.f0, .int .i64 x.f1, .string x.f2, .slice A3 x.f3.length c3, .slice A4 x.f4.length c4] 28))
  clear hx hc hr
  go_enter Try.func24, Try.ntmps24
  go_wp2_with (first | (go_at_call 59; (with_reducible refine (HV.out _ HA.out).mono ?_); rintro e we ⟨rfl, hb⟩; have HB := Aside0.mk (below_step HA.out hb); clear hb))
  go_ret
  exact ⟨rfl, HB.out⟩
theorem truthyC (x : S28) (w : World) {A3 : Option Addr} {c3 : Nat} {A4 : Option Addr} {c4 : Nat} : Calls Try.prog 63 #[.agg #[.int .i64 x.f0, .int .i64 x.f1, .string x.f2, .slice A3 x.f3.length c3, .slice A4 x.f4.length c4]] w fun e w' => e = .returned (.bool (decide (x.f0 > 1))) ∧ Below w.heap.size w w' := by
  go_enter Try.func63, Try.ntmps63
  go_wp2_with fail
  go_ret
  exact ⟨rfl, new_below _ _⟩
theorem valueTruthyC (x : S28) (w : World) {A3 : Option Addr} {c3 : Nat} {A4 : Option Addr} {c4 : Nat} (hx : Wv x) (hc : cnt x ≤ 1000000000000000) (hr : Rd w A3 c3 A4 c4 x) :
    Calls Try.prog 30 #[.agg #[.int .i64 x.f0, .int .i64 x.f1, .string x.f2, .slice A3 x.f3.length c3, .slice A4 x.f4.length c4]] w fun e w' => e = .returned (.bool (vd x && decide (x.f0 > 1))) ∧ Below w.heap.size w w' := by
  have HR := Aside0.mk hr
  have HV := Aside0.mk (fun W (hb : Below w.heap.size w W) => validC x W hx hc (hr.below hb))
  have HA := Aside0.mk (new_below w (.cells #[.int .i64 x.f0, .int .i64 x.f1, .string x.f2, .slice A3 x.f3.length c3, .slice A4 x.f4.length c4] 28))
  have HB := Aside0.mk (Bv.new hr)
  obtain ⟨r, hvr⟩ : ∃ r, vd x = r := ⟨_, rfl⟩
  rw [hvr] at HV ⊢
  clear hx hc hr hvr
  go_enter Try.func30, Try.ntmps30
  cases r with
  | false =>
    go_wp2_with (first | (go_at_call 59; (with_reducible refine (HV.out _ HA.out).mono ?_); rintro e we ⟨rfl, hb⟩; have HB2 := Aside0.mk (below_step HA.out hb); clear hb))
    go_ret
    exact ⟨rfl, HB2.out⟩
  | true =>
    go_wp2_with (first | (go_at_call 59; (with_reducible refine (HV.out _ HA.out).mono ?_); rintro e we ⟨rfl, hb⟩; have HB2 := Aside0.mk (below_step HA.out hb); have HB3 := Aside0.mk (HB.out.below hb); obtain ⟨q0, q1, q2, q3, q4⟩ := HB3.out.cells; clear hb) | (go_at_call 63; (with_reducible refine (truthyC x _).mono ?_); rintro e we2 ⟨rfl, hb⟩; have HB4 := Aside0.mk (below_step HB2.out hb); clear hb))
    go_ret
    exact ⟨rfl, HB4.out⟩
/-! ### Depth, Nodes -/
mutual
def dpt : S28 → Nat
  | ⟨a, _, _, _, es⟩ => if a < 5 then 0 else dptL es + 1
def dptL : List S28 → Nat
  | [] => 0
  | e :: l => max (dpt e) (dptL l)
end
mutual
def nda : S28 → Nat
  | ⟨_, _, _, _, es⟩ => 1 + ndaL es
def ndaL : List S28 → Nat
  | [] => 0
  | e :: l => nda e + ndaL l
end
theorem dpt_eq (x : S28) : dpt x = if x.f0 < 5 then 0 else dptL x.f4 + 1 := by obtain ⟨a, b, c, d, e⟩ := x; rw [dpt]
theorem nda_eq (x : S28) : nda x = 1 + ndaL x.f4 := by obtain ⟨a, b, c, d, e⟩ := x; rw [nda]
theorem dptL_app (l m : List S28) : dptL (l ++ m) = max (dptL l) (dptL m) := by
  induction l with
  | nil => simp [dptL]
  | cons k l ih => simp only [List.cons_append, dptL, ih]; omega
theorem ndaL_app (l m : List S28) : ndaL (l ++ m) = ndaL l + ndaL m := by
  induction l with
  | nil => simp [ndaL]
  | cons k l ih => simp only [List.cons_append, ndaL, ih]; omega
theorem dptL_take {l : List S28} {i : Nat} {k : S28} (h : l[i]? = some k) : dptL (l.take (i + 1)) = max (dptL (l.take i)) (dpt k) := by
  rw [List.take_add_one, h, dptL_app]
  simp [dptL]
theorem ndaL_take {l : List S28} {i : Nat} {k : S28} (h : l[i]? = some k) : ndaL (l.take (i + 1)) = ndaL (l.take i) + nda k := by
  rw [List.take_add_one, h, ndaL_app]
  simp [ndaL]
theorem nda_cnt (s : Nat) : ∀ x : S28, SizeOf.sizeOf x < s → nda x ≤ cnt x ∧ dpt x ≤ cnt x := by
  induction s with
  | zero => intro x h; omega
  | succ s ih =>
    intro x h
    have hl : ∀ l : List S28, (∀ y ∈ l, SizeOf.sizeOf y < s) → ndaL l ≤ cntL l ∧ dptL l ≤ cntL l := fun l => by
      induction l with
      | nil => intro _; simp [ndaL, dptL, cntL]
      | cons y l ihl =>
        intro hy
        have h1 := ih y (hy y List.mem_cons_self)
        have h2 := ihl (fun z hz => hy z (List.mem_cons_of_mem _ hz))
        simp only [ndaL, dptL, cntL]
        omega
    have h1 := hl x.f4 (fun y hy => by have := sz_mem hy; omega)
    have h3 := cnt_eq x
    rw [nda_eq, dpt_eq]
    split <;> omega
theorem cnt_mem {x y : S28} (h : y ∈ x.f4) : cnt y ≤ cnt x := by
  have h1 : ∀ l : List S28, y ∈ l → cnt y ≤ cntL l := fun l => by
    induction l with
    | nil => intro h; cases h
    | cons z l ih =>
      intro h
      simp only [cntL]
      rcases List.mem_cons.1 h with rfl | h
      · omega
      · have := ih h; omega
  have h2 := h1 x.f4 h
  rw [cnt_eq x]
  omega
theorem dptL_le (l : List S28) (i : Nat) : dptL (l.take i) ≤ dptL l := by
  have h := dptL_app (l.take i) (l.drop i)
  rw [List.take_append_drop] at h
  omega
theorem ndaL_le (l : List S28) (i : Nat) : ndaL (l.take i) ≤ ndaL l := by
  have h := ndaL_app (l.take i) (l.drop i)
  rw [List.take_append_drop] at h
  omega
theorem nodesC (st : Nat) : ∀ (x : S28) (w : World) {A3 : Option Addr} {c3 : Nat} {A4 : Option Addr} {c4 : Nat}, SizeOf.sizeOf x < st → Wv x → cnt x ≤ 1000000000000000 → Rd w A3 c3 A4 c4 x →
    Calls Try.prog 62 #[.agg #[.int .i64 x.f0, .int .i64 x.f1, .string x.f2, .slice A3 x.f3.length c3, .slice A4 x.f4.length c4]] w fun e w' => e = .returned (.int .i64 (nda x : Int)) ∧ Below w.heap.size w w' := by
  induction st with
  | zero => intro x w A3 c3 A4 c4 h; omega
  | succ st ih =>
  intro x w A3 c3 A4 c4 hs hx hc hr
  have HS := Aside0.mk hs
  have HX := Aside0.mk hx
  have HC := Aside0.mk hc
  have HR := Aside0.mk hr
  have HIH := Aside0.mk ih
  have h3 := hx.el
  have HE := Aside0.mk (nda_eq x)
  have HBd := Aside0.mk (nda_cnt _ x (Nat.lt_succ_self _))
  obtain ⟨r, hfr⟩ : ∃ r : Int, (nda x : Int) = r := ⟨_, rfl⟩
  rw [hfr]
  have HF := Aside0.mk hfr
  have HB := Aside0.mk (Bv.new hr)
  have HW := Aside0.mk (new_below w (.cells #[.int .i64 x.f0, .int .i64 x.f1, .string x.f2, .slice A3 x.f3.length c3, .slice A4 x.f4.length c4] 28))
  clear hx hr hs hc ih hfr
  go_enter Try.func62, Try.ntmps62
  go_upto_region 1 with fail
  obtain ⟨bb, hb⟩ : ∃ b, w.heap.size = b := ⟨_, rfl⟩
  obtain ⟨W, hW⟩ : ∃ W, w.alloc (.cells #[.int .i64 x.f0, .int .i64 x.f1, .string x.f2, .slice A3 x.f3.length c3, .slice A4 x.f4.length c4] 28) = W := ⟨_, rfl⟩
  rw [hW, hb] at HB
  rw [hW] at HW
  rw [hW, hb]
  clear hW hb HR
  obtain ⟨q0, q1, q2, q3, q4⟩ := HB.out.cells

  go_wp2_with fail
  clear q0 q1 q2 q3 q4
  go_loopg [3, 9] x.f4.length (fun kq v3 vi w' => ∃ (i : Nat) (c : Int), kq + i = x.f4.length ∧ vi = .int .i64 (i : Int) ∧ v3 = .int .i64 c ∧ Aside0 (c = (1 + ndaL (x.f4.take i) : Nat)) ∧ (0 ≤ c ∧ c ≤ 3000000000000000) ∧ Aside0 (Bv w' bb A3 c3 A4 c4 x) ∧ Aside0 (Below w.heap.size w w'))
  case atStart => exact ⟨0, _, by omega, rfl, rfl, ⟨by simp [ndaL]⟩, by omega, HB, HW⟩
  case round =>
    clear HB HW
    obtain ⟨i, c, hi, rfl, rfl, HN, hcb, HB, HW⟩ := hrel
    obtain ⟨q0, q1, q2, q3, q4⟩ := HB.out.cells
    by_cases ci : i < x.f4.length
    · have g0 : decide ((i : Int) < (x.f4.length : Int)) = true := decide_eq_true (by omega)
      have g2 : (0 ≤ (i : Int)) = True := eq_true (by omega)
      have g3 : ((i : Int) < (x.f4.length : Int)) = True := eq_true (by omega)
      obtain ⟨j1, rfl⟩ : ∃ j1, gk = j1 + 1 := ⟨gk - 1, by omega⟩
      have hil : x.f4[i]? = some x.f4[i] := List.getElem?_eq_getElem ci
      have hm := List.getElem_mem ci
      have hq := HX.out.es _ hm
      have hz := sz_mem hm
      have hcy := cnt_mem hm
      obtain ⟨y, hq'⟩ : ∃ y, x.f4[i] = y := ⟨_, rfl⟩
      rw [hq'] at hil hq hz hcy
      obtain ⟨ad, Y3, y3, Y4, y4, e1, he0⟩ := el_at HB.out.rd.r4 i ci hil
      have HT := Aside0.mk (ndaL_take hil)
      have hL := ndaL_take hil
      have HI := Aside0.mk hi
      have HP := Aside0.mk (new_below wr (.cells #[.int .i64 y.f0, .int .i64 y.f1, .string y.f2, .slice Y3 y.f3.length y3, .slice Y4 y.f4.length y4] 28))
      have HY := Aside0.mk (HIH.out y (wr.alloc (.cells #[.int .i64 y.f0, .int .i64 y.f1, .string y.f2, .slice Y3 y.f3.length y3, .slice Y4 y.f4.length y4] 28)) (by have := HS.out; omega) hq (by have := HC.out; omega) (he0.rd.below HP.out))
      have hyb : (nda y : Int) ≤ 1000000000000000 := by
        have h1 := nda_cnt _ y (Nat.lt_succ_self _)
        have := HC.out
        omega
      have hcn : c + (nda y : Int) ≤ 3000000000000000 ∧ 0 ≤ c + (nda y : Int) := by
        have h1 := HN.out
        have h2 := HBd.out
        have h3 := HE.out
        have h4 := HC.out
        have h5 := ndaL_le x.f4 (i + 1)

        omega
      have hy0 : 0 ≤ (nda y : Int) := by omega
      obtain ⟨d, hd⟩ : ∃ d : Int, (nda y : Int) = d := ⟨_, rfl⟩
      rw [hd] at HY hyb hcn hy0
      have HD := Aside0.mk hd
      obtain ⟨e0, e2, e3, e4, e5, _⟩ := he0

      clear hil hq' hi hm hq hz hcy hL hd
      subst e1
      go_wp2_with (first | (go_at_call 62; (with_reducible refine HY.out.mono ?_); rintro e we ⟨rfl, hb⟩; have HW2 := Aside0.mk (below_step (below_step HW.out HP.out) hb); have HB2 := Aside0.mk ((HB.out.below HP.out).below hb); clear HW HB; have HW := HW2; have HB := HB2; clear HW2 HB2 hb))
      go_roundg j1
      case measure => omega
      case rel => exact ⟨i + 1, c + d, by have := HI.out; omega, rfl, rfl, ⟨by have h1 := HT.out; have h2 := HN.out; have h3 := HD.out; omega⟩, by omega, HB, HW⟩
    · have g0 : decide (i < x.f4.length) = false := decide_eq_false ci
      have hff : r = c := by
        have h1 := HN.out
        rw [List.take_of_length_le (by omega)] at h1
        rw [← HF.out, HE.out]
        omega
      subst hff
      clear HF ci hi HN
      go_wp2
      go_ret
      exact ⟨rfl, HW.out⟩
theorem depthC (st : Nat) : ∀ (x : S28) (w : World) {A3 : Option Addr} {c3 : Nat} {A4 : Option Addr} {c4 : Nat}, SizeOf.sizeOf x < st → Wv x → cnt x ≤ 1000000000000000 → Rd w A3 c3 A4 c4 x →
    Calls Try.prog 61 #[.agg #[.int .i64 x.f0, .int .i64 x.f1, .string x.f2, .slice A3 x.f3.length c3, .slice A4 x.f4.length c4]] w fun e w' => e = .returned (.int .i64 (dpt x : Int)) ∧ Below w.heap.size w w' := by
  induction st with
  | zero => intro x w A3 c3 A4 c4 h; omega
  | succ st ih =>
  intro x w A3 c3 A4 c4 hs hx hc hr
  have HS := Aside0.mk hs
  have HX := Aside0.mk hx
  have HC := Aside0.mk hc
  have HR := Aside0.mk hr
  have HIH := Aside0.mk ih
  have h3 := hx.el
  have HE := Aside0.mk (dpt_eq x)
  have HBd := Aside0.mk (nda_cnt _ x (Nat.lt_succ_self _))
  obtain ⟨r, hfr⟩ : ∃ r : Int, (dpt x : Int) = r := ⟨_, rfl⟩
  rw [hfr]
  have HF := Aside0.mk hfr
  have HB := Aside0.mk (Bv.new hr)
  have HW := Aside0.mk (new_below w (.cells #[.int .i64 x.f0, .int .i64 x.f1, .string x.f2, .slice A3 x.f3.length c3, .slice A4 x.f4.length c4] 28))
  clear hx hr hs hc ih hfr
  go_enter Try.func61, Try.ntmps61
  go_upto_region 1 with fail
  obtain ⟨bb, hb⟩ : ∃ b, w.heap.size = b := ⟨_, rfl⟩
  obtain ⟨W, hW⟩ : ∃ W, w.alloc (.cells #[.int .i64 x.f0, .int .i64 x.f1, .string x.f2, .slice A3 x.f3.length c3, .slice A4 x.f4.length c4] 28) = W := ⟨_, rfl⟩
  rw [hW, hb] at HB
  rw [hW] at HW
  rw [hW, hb]
  clear hW hb HR
  obtain ⟨q0, q1, q2, q3, q4⟩ := HB.out.cells
  by_cases t5 : x.f0 < 5
  · have g5 : decide (x.f0 < 5) = true := decide_eq_true t5
    have hff : r = 0 := by rw [← HF.out, HE.out, if_pos t5]; rfl
    subst hff
    clear HF
    go_wp2_with fail
    go_ret
    exact ⟨rfl, HW.out⟩
  have g5 : decide (x.f0 < 5) = false := decide_eq_false t5
  have HT5 := Aside0.mk t5
  clear t5
  go_wp2_with fail
  clear q0 q1 q2 q3 q4
  go_loopg [3, 12] x.f4.length (fun kq v3 vi w' => ∃ (i : Nat) (c : Int), kq + i = x.f4.length ∧ vi = .int .i64 (i : Int) ∧ v3 = .int .i64 c ∧ Aside0 (c = (dptL (x.f4.take i) : Nat)) ∧ (0 ≤ c ∧ c ≤ 3000000000000000) ∧ Aside0 (Bv w' bb A3 c3 A4 c4 x) ∧ Aside0 (Below w.heap.size w w'))
  case atStart => exact ⟨0, _, by omega, rfl, rfl, ⟨by simp [dptL]⟩, by omega, HB, HW⟩
  case round =>
    clear HB HW
    obtain ⟨i, c, hi, rfl, rfl, HN, hcb, HB, HW⟩ := hrel
    obtain ⟨q0, q1, q2, q3, q4⟩ := HB.out.cells
    by_cases ci : i < x.f4.length
    · have g0 : decide ((i : Int) < (x.f4.length : Int)) = true := decide_eq_true (by omega)
      have g2 : (0 ≤ (i : Int)) = True := eq_true (by omega)
      have g3 : ((i : Int) < (x.f4.length : Int)) = True := eq_true (by omega)
      obtain ⟨j1, rfl⟩ : ∃ j1, gk = j1 + 1 := ⟨gk - 1, by omega⟩
      have hil : x.f4[i]? = some x.f4[i] := List.getElem?_eq_getElem ci
      have hm := List.getElem_mem ci
      have hq := HX.out.es _ hm
      have hz := sz_mem hm
      have hcy := cnt_mem hm
      obtain ⟨y, hq'⟩ : ∃ y, x.f4[i] = y := ⟨_, rfl⟩
      rw [hq'] at hil hq hz hcy
      obtain ⟨ad, Y3, y3, Y4, y4, e1, he0⟩ := el_at HB.out.rd.r4 i ci hil
      have HT := Aside0.mk (dptL_take hil)
      have hL := dptL_take hil
      have HI := Aside0.mk hi
      have HP := Aside0.mk (new_below wr (.cells #[.int .i64 y.f0, .int .i64 y.f1, .string y.f2, .slice Y3 y.f3.length y3, .slice Y4 y.f4.length y4] 28))
      have HY := Aside0.mk (HIH.out y (wr.alloc (.cells #[.int .i64 y.f0, .int .i64 y.f1, .string y.f2, .slice Y3 y.f3.length y3, .slice Y4 y.f4.length y4] 28)) (by have := HS.out; omega) hq (by have := HC.out; omega) (he0.rd.below HP.out))
      have hyb : (dpt y : Int) ≤ 1000000000000000 := by
        have h1 := nda_cnt _ y (Nat.lt_succ_self _)
        have := HC.out
        omega
      have hcn : max c (dpt y : Int) ≤ 3000000000000000 ∧ 0 ≤ max c (dpt y : Int) := by
        have h1 := HN.out
        have h2 := HBd.out
        have h3 := HE.out
        have h4 := HC.out
        have h5 := dptL_le x.f4 (i + 1)
        rw [if_neg (by have := HT5.out; omega)] at h3
        omega
      have hy0 : 0 ≤ (dpt y : Int) := by omega
      obtain ⟨d, hd⟩ : ∃ d : Int, (dpt y : Int) = d := ⟨_, rfl⟩
      rw [hd] at HY hyb hcn hy0
      have HD := Aside0.mk hd
      obtain ⟨e0, e2, e3, e4, e5, _⟩ := he0

      clear hil hq' hi hm hq hz hcy hL hd
      subst e1
      go_wp2_with (first | (go_at_call 61; (with_reducible refine HY.out.mono ?_); rintro e we ⟨rfl, hb⟩; have HW2 := Aside0.mk (below_step (below_step HW.out HP.out) hb); have HB2 := Aside0.mk ((HB.out.below HP.out).below hb); clear HW HB; have HW := HW2; have HB := HB2; clear HW2 HB2 hb))
      go_roundg j1
      case measure => omega
      case rel => exact ⟨i + 1, max c d, by have := HI.out; omega, rfl, rfl, ⟨by have h1 := HT.out; have h2 := HN.out; have h3 := HD.out; omega⟩, by omega, HB, HW⟩
    · have g0 : decide (i < x.f4.length) = false := decide_eq_false ci
      have hff : r = c + 1 := by
        have h1 := HN.out
        rw [List.take_of_length_le (by omega)] at h1
        rw [← HF.out, HE.out]
        rw [if_neg (by have := HT5.out; omega)]
        omega
      subst hff
      clear HF ci hi HN
      go_wp2
      go_ret
      exact ⟨rfl, HW.out⟩
theorem valueDepthC (x : S28) (w : World) {A3 : Option Addr} {c3 : Nat} {A4 : Option Addr} {c4 : Nat} (hx : Wv x) (hc : cnt x ≤ 1000000000000000) (hr : Rd w A3 c3 A4 c4 x) :
    Calls Try.prog 26 #[.agg #[.int .i64 x.f0, .int .i64 x.f1, .string x.f2, .slice A3 x.f3.length c3, .slice A4 x.f4.length c4]] w fun e w' => e = .returned (.int .i64 (if vd x = true then (dpt x : Int) else 0)) ∧ Below w.heap.size w w' := by
  have HV := Aside0.mk (fun W (hb : Below w.heap.size w W) => validC x W hx hc (hr.below hb))
  have HQ := Aside0.mk (fun W (hb : Below w.heap.size w W) => depthC _ x W (Nat.lt_succ_self _) hx hc (hr.below hb))
  have HA := Aside0.mk (new_below w (.cells #[.int .i64 x.f0, .int .i64 x.f1, .string x.f2, .slice A3 x.f3.length c3, .slice A4 x.f4.length c4] 28))
  have HB := Aside0.mk (Bv.new hr)
  obtain ⟨r, hvr⟩ : ∃ r, vd x = r := ⟨_, rfl⟩
  rw [hvr] at HV ⊢
  clear hx hc hr hvr
  go_enter Try.func26, Try.ntmps26
  cases r with
  | false =>
    go_wp2_with (first | (go_at_call 59; (with_reducible refine (HV.out _ HA.out).mono ?_); rintro e we ⟨rfl, hb⟩; have HB2 := Aside0.mk (below_step HA.out hb); clear hb))
    go_ret
    exact ⟨rfl, HB2.out⟩
  | true =>
    go_wp2_with (first | (go_at_call 59; (with_reducible refine (HV.out _ HA.out).mono ?_); rintro e we ⟨rfl, hb⟩; have HB2 := Aside0.mk (below_step HA.out hb); have HB3 := Aside0.mk (HB.out.below hb); obtain ⟨q0, q1, q2, q3, q4⟩ := HB3.out.cells; clear hb) | (go_at_call 61; (with_reducible refine (HQ.out _ HB2.out).mono ?_); rintro e we2 ⟨rfl, hb⟩; have HB4 := Aside0.mk (below_step HB2.out hb); clear hb))
    go_ret
    exact ⟨rfl, HB4.out⟩
theorem valueNodesC (x : S28) (w : World) {A3 : Option Addr} {c3 : Nat} {A4 : Option Addr} {c4 : Nat} (hx : Wv x) (hc : cnt x ≤ 1000000000000000) (hr : Rd w A3 c3 A4 c4 x) :
    Calls Try.prog 28 #[.agg #[.int .i64 x.f0, .int .i64 x.f1, .string x.f2, .slice A3 x.f3.length c3, .slice A4 x.f4.length c4]] w fun e w' => e = .returned (.int .i64 (if vd x = true then (nda x : Int) else 0)) ∧ Below w.heap.size w w' := by
  have HV := Aside0.mk (fun W (hb : Below w.heap.size w W) => validC x W hx hc (hr.below hb))
  have HQ := Aside0.mk (fun W (hb : Below w.heap.size w W) => nodesC _ x W (Nat.lt_succ_self _) hx hc (hr.below hb))
  have HA := Aside0.mk (new_below w (.cells #[.int .i64 x.f0, .int .i64 x.f1, .string x.f2, .slice A3 x.f3.length c3, .slice A4 x.f4.length c4] 28))
  have HB := Aside0.mk (Bv.new hr)
  obtain ⟨r, hvr⟩ : ∃ r, vd x = r := ⟨_, rfl⟩
  rw [hvr] at HV ⊢
  clear hx hc hr hvr
  go_enter Try.func28, Try.ntmps28
  cases r with
  | false =>
    go_wp2_with (first | (go_at_call 59; (with_reducible refine (HV.out _ HA.out).mono ?_); rintro e we ⟨rfl, hb⟩; have HB2 := Aside0.mk (below_step HA.out hb); clear hb))
    go_ret
    exact ⟨rfl, HB2.out⟩
  | true =>
    go_wp2_with (first | (go_at_call 59; (with_reducible refine (HV.out _ HA.out).mono ?_); rintro e we ⟨rfl, hb⟩; have HB2 := Aside0.mk (below_step HA.out hb); have HB3 := Aside0.mk (HB.out.below hb); obtain ⟨q0, q1, q2, q3, q4⟩ := HB3.out.cells; clear hb) | (go_at_call 62; (with_reducible refine (HQ.out _ HB2.out).mono ?_); rintro e we2 ⟨rfl, hb⟩; have HB4 := Aside0.mk (below_step HB2.out hb); clear hb))
    go_ret
    exact ⟨rfl, HB4.out⟩
end Go.Proofs.Ytgpjkojnmeaoiaa.QV

/- Names of kinds; vals.All, keep.Small, vals.Fit. -/
namespace Go.Proofs.Ytgpjkojnmeaoiaa.QV
open Go Go.RowKit Go.Proofs.YtgpjkojnmeaoiaaW.PrintWords Go.Proofs.YtgpjkojnmeaoiaaW.PrintLast Go.Proofs.YtgpjkojnmeaoiaaW.PrintMore
set_option linter.unusedVariables false
set_option linter.unusedSimpArgs false
set_option maxRecDepth 100000
set_option maxHeartbeats 4000000
def tn (a : Int) : ByteArray := if a = 0 then (⟨#[110, 117, 108, 108]⟩ : ByteArray) else if a = 1 then (⟨#[98, 111, 111, 108, 101, 97, 110]⟩ : ByteArray) else if a = 2 then (⟨#[98, 111, 111, 108, 101, 97, 110]⟩ : ByteArray) else if a = 3 then (⟨#[110, 117, 109, 98, 101, 114]⟩ : ByteArray) else if a = 4 then (⟨#[115, 116, 114, 105, 110, 103]⟩ : ByteArray) else if a = 5 then (⟨#[97, 114, 114, 97, 121]⟩ : ByteArray) else if a = 6 then (⟨#[111, 98, 106, 101, 99, 116]⟩ : ByteArray) else (⟨#[]⟩ : ByteArray)
theorem nameC (x : S28) (w : World) {A3 : Option Addr} {c3 : Nat} {A4 : Option Addr} {c4 : Nat} (h0 : 0 ≤ x.f0) (h6 : x.f0 ≤ 6) :
    Calls Try.prog 64 #[.agg #[.int .i64 x.f0, .int .i64 x.f1, .string x.f2, .slice A3 x.f3.length c3, .slice A4 x.f4.length c4]] w fun e w' => e = .returned (.string (tn x.f0)) ∧ Below w.heap.size w w' := by
  obtain ⟨a, b, s, ks, es⟩ := x
  dsimp only at *
  have cls : a = 0 ∨ a = 1 ∨ a = 2 ∨ a = 3 ∨ a = 4 ∨ a = 5 ∨ a = 6 := by omega
  clear h0 h6
  have i0 : ∀ w, (Instr.index 80 (.agg #[.string ⟨#[110, 117, 108, 108]⟩, .string ⟨#[98, 111, 111, 108, 101, 97, 110]⟩, .string ⟨#[98, 111, 111, 108, 101, 97, 110]⟩, .string ⟨#[110, 117, 109, 98, 101, 114]⟩, .string ⟨#[115, 116, 114, 105, 110, 103]⟩, .string ⟨#[97, 114, 114, 97, 121]⟩, .string ⟨#[111, 98, 106, 101, 99, 116]⟩]) (.int .i64 0)).run Try.prog w = .ok (.string ⟨#[110, 117, 108, 108]⟩) w := fun _ => by kernel_rfl
  have i1 : ∀ w, (Instr.index 80 (.agg #[.string ⟨#[110, 117, 108, 108]⟩, .string ⟨#[98, 111, 111, 108, 101, 97, 110]⟩, .string ⟨#[98, 111, 111, 108, 101, 97, 110]⟩, .string ⟨#[110, 117, 109, 98, 101, 114]⟩, .string ⟨#[115, 116, 114, 105, 110, 103]⟩, .string ⟨#[97, 114, 114, 97, 121]⟩, .string ⟨#[111, 98, 106, 101, 99, 116]⟩]) (.int .i64 1)).run Try.prog w = .ok (.string ⟨#[98, 111, 111, 108, 101, 97, 110]⟩) w := fun _ => by kernel_rfl
  have i2 : ∀ w, (Instr.index 80 (.agg #[.string ⟨#[110, 117, 108, 108]⟩, .string ⟨#[98, 111, 111, 108, 101, 97, 110]⟩, .string ⟨#[98, 111, 111, 108, 101, 97, 110]⟩, .string ⟨#[110, 117, 109, 98, 101, 114]⟩, .string ⟨#[115, 116, 114, 105, 110, 103]⟩, .string ⟨#[97, 114, 114, 97, 121]⟩, .string ⟨#[111, 98, 106, 101, 99, 116]⟩]) (.int .i64 2)).run Try.prog w = .ok (.string ⟨#[98, 111, 111, 108, 101, 97, 110]⟩) w := fun _ => by kernel_rfl
  have i3 : ∀ w, (Instr.index 80 (.agg #[.string ⟨#[110, 117, 108, 108]⟩, .string ⟨#[98, 111, 111, 108, 101, 97, 110]⟩, .string ⟨#[98, 111, 111, 108, 101, 97, 110]⟩, .string ⟨#[110, 117, 109, 98, 101, 114]⟩, .string ⟨#[115, 116, 114, 105, 110, 103]⟩, .string ⟨#[97, 114, 114, 97, 121]⟩, .string ⟨#[111, 98, 106, 101, 99, 116]⟩]) (.int .i64 3)).run Try.prog w = .ok (.string ⟨#[110, 117, 109, 98, 101, 114]⟩) w := fun _ => by kernel_rfl
  have i4 : ∀ w, (Instr.index 80 (.agg #[.string ⟨#[110, 117, 108, 108]⟩, .string ⟨#[98, 111, 111, 108, 101, 97, 110]⟩, .string ⟨#[98, 111, 111, 108, 101, 97, 110]⟩, .string ⟨#[110, 117, 109, 98, 101, 114]⟩, .string ⟨#[115, 116, 114, 105, 110, 103]⟩, .string ⟨#[97, 114, 114, 97, 121]⟩, .string ⟨#[111, 98, 106, 101, 99, 116]⟩]) (.int .i64 4)).run Try.prog w = .ok (.string ⟨#[115, 116, 114, 105, 110, 103]⟩) w := fun _ => by kernel_rfl
  have i5 : ∀ w, (Instr.index 80 (.agg #[.string ⟨#[110, 117, 108, 108]⟩, .string ⟨#[98, 111, 111, 108, 101, 97, 110]⟩, .string ⟨#[98, 111, 111, 108, 101, 97, 110]⟩, .string ⟨#[110, 117, 109, 98, 101, 114]⟩, .string ⟨#[115, 116, 114, 105, 110, 103]⟩, .string ⟨#[97, 114, 114, 97, 121]⟩, .string ⟨#[111, 98, 106, 101, 99, 116]⟩]) (.int .i64 5)).run Try.prog w = .ok (.string ⟨#[97, 114, 114, 97, 121]⟩) w := fun _ => by kernel_rfl
  have i6 : ∀ w, (Instr.index 80 (.agg #[.string ⟨#[110, 117, 108, 108]⟩, .string ⟨#[98, 111, 111, 108, 101, 97, 110]⟩, .string ⟨#[98, 111, 111, 108, 101, 97, 110]⟩, .string ⟨#[110, 117, 109, 98, 101, 114]⟩, .string ⟨#[115, 116, 114, 105, 110, 103]⟩, .string ⟨#[97, 114, 114, 97, 121]⟩, .string ⟨#[111, 98, 106, 101, 99, 116]⟩]) (.int .i64 6)).run Try.prog w = .ok (.string ⟨#[111, 98, 106, 101, 99, 116]⟩) w := fun _ => by kernel_rfl
  rcases cls with rfl | rfl | rfl | rfl | rfl | rfl | rfl
  all_goals
    go_enter Try.func64, Try.ntmps64
    go_wp2_with fail
    go_ret
    exact ⟨rfl, new_below _ _⟩
theorem vd_kind {x : S28} (h : vd x = true) : 0 ≤ x.f0 ∧ x.f0 ≤ 6 := by
  unfold vd fitR at h
  rw [okv_eq] at h
  simp only [Bool.and_eq_true, decide_eq_true_eq] at h
  exact ⟨h.1.1.1.1.1.1, h.1.1.1.1.1.2⟩
theorem valueTypeNameC (x : S28) (w : World) {A3 : Option Addr} {c3 : Nat} {A4 : Option Addr} {c4 : Nat} (hx : Wv x) (hc : cnt x ≤ 1000000000000000) (hr : Rd w A3 c3 A4 c4 x) :
    Calls Try.prog 32 #[.agg #[.int .i64 x.f0, .int .i64 x.f1, .string x.f2, .slice A3 x.f3.length c3, .slice A4 x.f4.length c4]] w fun e w' => e = .returned (.string (if vd x = true then tn x.f0 else (⟨#[]⟩ : ByteArray))) ∧ Below w.heap.size w w' := by
  have HV := Aside0.mk (fun W (hb : Below w.heap.size w W) => validC x W hx hc (hr.below hb))
  have HQ : Aside0 (vd x = true → ∀ W, Calls Try.prog 64 #[.agg #[.int .i64 x.f0, .int .i64 x.f1, .string x.f2, .slice A3 x.f3.length c3, .slice A4 x.f4.length c4]] W fun e w' => e = .returned (.string (tn x.f0)) ∧ Below W.heap.size W w') := ⟨fun h W => nameC x W (vd_kind h).1 (vd_kind h).2⟩
  have HA := Aside0.mk (new_below w (.cells #[.int .i64 x.f0, .int .i64 x.f1, .string x.f2, .slice A3 x.f3.length c3, .slice A4 x.f4.length c4] 28))
  have HB := Aside0.mk (Bv.new hr)
  obtain ⟨r, hvr⟩ : ∃ r, vd x = r := ⟨_, rfl⟩
  rw [hvr] at HV HQ ⊢
  clear hx hc hr hvr
  go_enter Try.func32, Try.ntmps32
  cases r with
  | false =>
    go_wp2_with (first | (go_at_call 59; (with_reducible refine (HV.out _ HA.out).mono ?_); rintro e we ⟨rfl, hb⟩; have HB2 := Aside0.mk (below_step HA.out hb); clear hb))
    go_ret
    exact ⟨rfl, HB2.out⟩
  | true =>
    have HQ2 := Aside0.mk (HQ.out rfl)
    clear HQ
    go_wp2_with (first | (go_at_call 59; (with_reducible refine (HV.out _ HA.out).mono ?_); rintro e we ⟨rfl, hb⟩; have HB2 := Aside0.mk (below_step HA.out hb); have HB3 := Aside0.mk (HB.out.below hb); obtain ⟨q0, q1, q2, q3, q4⟩ := HB3.out.cells; clear hb) | (go_at_call 64; (with_reducible refine (HQ2.out _).mono ?_); rintro e we2 ⟨rfl, hb⟩; have HB4 := Aside0.mk (below_step HB2.out hb); clear hb))
    go_ret
    exact ⟨rfl, HB4.out⟩
/-- All: every value of the list is valid. -/
theorem allC (l : List S28) (w : World) {A : Option Addr} {c : Nat} (hl : Kd.C k28 w A l.length l) (hw : ∀ y ∈ l, Wv y ∧ cnt y ≤ 1000000000000000) (hm : l.length ≤ 140737488351232) :
    Calls Try.prog 48 #[.slice A l.length c] w fun e w' => e = .returned (.bool (l.all vd)) ∧ Below w.heap.size w w' := by
  have HL := Aside0.mk hl
  have HWv := Aside0.mk hw
  obtain ⟨r, hfr⟩ : ∃ r, l.all vd = r := ⟨_, rfl⟩
  rw [hfr]
  have HF : Aside0 ((l.drop 0).all vd = r) := ⟨hfr⟩
  have HW := Aside0.mk (Below.refl w.heap.size w)
  clear hl hw hfr
  go_enter Try.func48, Try.ntmps48
  go_wp2_with fail
  go_loopg [7] l.length (fun kq vi w' => ∃ (i : Nat), kq + i = l.length ∧ vi = .int .i64 (i : Int) ∧ Aside0 ((l.drop i).all vd = r) ∧ Aside0 (Below w.heap.size w w'))
  case atStart => exact ⟨0, by omega, rfl, HF, HW⟩
  case round =>
    clear HF HW
    obtain ⟨i, hi, rfl, HF, HW⟩ := hrel
    by_cases ci : i < l.length
    · have g0 : decide ((i : Int) < (l.length : Int)) = true := decide_eq_true (by omega)
      have g2 : (0 ≤ (i : Int)) = True := eq_true (by omega)
      have g3 : ((i : Int) < (l.length : Int)) = True := eq_true (by omega)
      obtain ⟨j1, rfl⟩ : ∃ j1, gk = j1 + 1 := ⟨gk - 1, by omega⟩
      have hil : l[i]? = some l[i] := List.getElem?_eq_getElem ci
      have hm := List.getElem_mem ci
      have hq := HWv.out _ hm
      have hd := List.drop_eq_getElem_cons ci
      obtain ⟨y, hq'⟩ : ∃ y, l[i] = y := ⟨_, rfl⟩
      rw [hq'] at hil hq hd
      obtain ⟨ad, Y3, y3, Y4, y4, e1, he0⟩ := el_at (Kd.C_below HL.out HW.out) i ci hil
      have hF := HF.out
      rw [hd, List.all_cons] at hF
      have HI := Aside0.mk hi
      have HP := Aside0.mk (new_below wr (.cells #[.int .i64 y.f0, .int .i64 y.f1, .string y.f2, .slice Y3 y.f3.length y3, .slice Y4 y.f4.length y4] 28))
      have HY := Aside0.mk (validC y (wr.alloc (.cells #[.int .i64 y.f0, .int .i64 y.f1, .string y.f2, .slice Y3 y.f3.length y3, .slice Y4 y.f4.length y4] 28)) hq.1 hq.2 (he0.rd.below HP.out))
      obtain ⟨v, hv⟩ : ∃ v, vd y = v := ⟨_, rfl⟩
      rw [hv] at hF HY
      obtain ⟨e0, e2, e3, e4, e5, _⟩ := he0
      clear hil hq' hi hm hq hd hv HF
      subst e1
      cases v with
      | false =>
        rw [Bool.false_and] at hF
        subst hF
        go_wp2_with (first | (go_at_call 59; (with_reducible refine HY.out.mono ?_); rintro e we ⟨rfl, hb⟩; have HW2 := Aside0.mk (below_step (below_step HW.out HP.out) hb); clear HW; have HW := HW2; clear HW2 hb))
        go_ret
        exact ⟨rfl, HW.out⟩
      | true =>
        rw [Bool.true_and] at hF
        have HG := Aside0.mk hF
        clear hF
        go_wp2_with (first | (go_at_call 59; (with_reducible refine HY.out.mono ?_); rintro e we ⟨rfl, hb⟩; have HW2 := Aside0.mk (below_step (below_step HW.out HP.out) hb); clear HW; have HW := HW2; clear HW2 hb))
        go_roundg j1
        case measure => omega
        case rel => exact ⟨i + 1, by have := HI.out; omega, rfl, HG, HW⟩
    · have g0 : decide (i < l.length) = false := decide_eq_false ci
      have hF := HF.out
      rw [List.drop_eq_nil_of_le (by omega)] at hF
      have hff : r = true := hF.symm
      subst hff
      clear HF hF ci hi
      go_wp2
      go_ret
      exact ⟨rfl, HW.out⟩
/-- Small: every value of the list is small. -/
theorem smallC (most : Int) (l : List S28) (w : World) {A : Option Addr} {c : Nat} (h0 : 0 ≤ most) (h1 : most ≤ 1000000) (hl : Kd.C k28 w A l.length l) (hw : ∀ y ∈ l, Wv y) (hm : l.length ≤ 140737488351232) :
    Calls Try.prog 11 #[.int .i64 most, .slice A l.length c] w fun e w' => e = .returned (.bool (l.all fun y => decide ((cnt y : Int) ≤ most))) ∧ Below w.heap.size w w' := by
  have HL := Aside0.mk hl
  have HWv := Aside0.mk hw
  obtain ⟨r, hfr⟩ : ∃ r, (l.all fun y => decide ((cnt y : Int) ≤ most)) = r := ⟨_, rfl⟩
  rw [hfr]
  have HF : Aside0 (((l.drop 0).all fun y => decide ((cnt y : Int) ≤ most)) = r) := ⟨hfr⟩
  have HW := Aside0.mk (Below.refl w.heap.size w)
  clear hl hw hfr
  go_enter Try.func11, Try.ntmps11
  go_wp2_with fail
  go_loopg [5] l.length (fun kq vi w' => ∃ (i : Nat), kq + i = l.length ∧ vi = .int .i64 (i : Int) ∧ Aside0 (((l.drop i).all fun y => decide ((cnt y : Int) ≤ most)) = r) ∧ Aside0 (Below w.heap.size w w'))
  case atStart => exact ⟨0, by omega, rfl, HF, HW⟩
  case round =>
    clear HF HW
    obtain ⟨i, hi, rfl, HF, HW⟩ := hrel
    by_cases ci : i < l.length
    · have g0 : decide ((i : Int) < (l.length : Int)) = true := decide_eq_true (by omega)
      have g2 : (0 ≤ (i : Int)) = True := eq_true (by omega)
      have g3 : ((i : Int) < (l.length : Int)) = True := eq_true (by omega)
      obtain ⟨j1, rfl⟩ : ∃ j1, gk = j1 + 1 := ⟨gk - 1, by omega⟩
      have hil : l[i]? = some l[i] := List.getElem?_eq_getElem ci
      have hm := List.getElem_mem ci
      have hq := HWv.out _ hm
      have hd := List.drop_eq_getElem_cons ci
      obtain ⟨y, hq'⟩ : ∃ y, l[i] = y := ⟨_, rfl⟩
      rw [hq'] at hil hq hd
      obtain ⟨ad, Y3, y3, Y4, y4, e1, he0⟩ := el_at (Kd.C_below HL.out HW.out) i ci hil
      have hF := HF.out
      rw [hd, List.all_cons] at hF
      have HI := Aside0.mk hi
      have HY := Aside0.mk (countC _ y most wr (Nat.lt_succ_self _) hq h0 h1 he0.rd)
      obtain ⟨e0, e2, e3, e4, e5, _⟩ := he0
      clear hil hq' hi hm hq hd HF
      subst e1
      by_cases cy : (cnt y : Int) ≤ most
      rotate_left
      · rw [decide_eq_false cy, Bool.false_and] at hF
        subst hF
        have HN := Aside0.mk cy
        clear cy
        go_wp2_with (first | (go_at_call 41; (with_reducible refine HY.out.mono ?_); rintro e we ⟨n3, rfl, p0, p1, p2, p3, hb⟩; have g9 : decide (n3 > most) = true := (decide_eq_true (by have h := HN.out; have h2 : ¬ n3 ≤ most := fun h3 => h (p2.2 h3); omega)); have HW2 := Aside0.mk (below_step HW.out hb); clear HW p2 p3; have HW := HW2; clear HW2 hb))
        go_ret
        exact ⟨rfl, HW.out⟩
      · rw [decide_eq_true cy, Bool.true_and] at hF
        have HG := Aside0.mk hF
        have HN := Aside0.mk cy
        clear hF cy
        go_wp2_with (first | (go_at_call 41; (with_reducible refine HY.out.mono ?_); rintro e we ⟨n3, rfl, p0, p1, p2, p3, hb⟩; have g9 : decide (n3 > most) = false := (decide_eq_false (by have h := p2.1 HN.out; omega)); have HW2 := Aside0.mk (below_step HW.out hb); clear HW p2 p3; have HW := HW2; clear HW2 hb))
        go_roundg j1
        case measure => omega
        case rel => exact ⟨i + 1, by have := HI.out; omega, rfl, HG, HW⟩
    · have g0 : decide (i < l.length) = false := decide_eq_false ci
      have hF := HF.out
      rw [List.drop_eq_nil_of_le (by omega)] at hF
      have hff : r = true := hF.symm
      subst hff
      clear HF hF ci hi
      go_wp2
      go_ret
      exact ⟨rfl, HW.out⟩
end Go.Proofs.Ytgpjkojnmeaoiaa.QV

/- The stable sort of at most twenty members, by hand. -/
namespace Go.Proofs.Ytgpjkojnmeaoiaa.QV
open Go Go.RowKit Go.Proofs.YtgpjkojnmeaoiaaW.PrintWords Go.Proofs.YtgpjkojnmeaoiaaW.PrintLast Go.Proofs.YtgpjkojnmeaoiaaW.PrintMore
set_option linter.unusedVariables false
set_option linter.unusedSimpArgs false
set_option maxRecDepth 100000
set_option maxHeartbeats 4000000
abbrev Mem := ByteArray × Int
def flat : List Mem → List Value
  | [] => []
  | (k, a) :: l => .string k :: .int .i64 a :: flat l
theorem flat_length (l : List Mem) : (flat l).length = 2 * l.length := by
  induction l with
  | nil => rfl
  | cons m l ih => obtain ⟨k, a⟩ := m; simp only [flat, List.length_cons, ih]; omega
theorem flat_app (l m : List Mem) : flat (l ++ m) = flat l ++ flat m := by
  induction l with
  | nil => rfl
  | cons x l ih => obtain ⟨k, a⟩ := x; simp only [List.cons_append, flat, ih]
theorem flat_get (l : List Mem) (i : Nat) {k : ByteArray} {a : Int} (h : l[i]? = some (k, a)) : (flat l)[2 * i]? = some (.string k) ∧ (flat l)[2 * i + 1]? = some (.int .i64 a) := by
  induction l generalizing i with
  | nil => simp at h
  | cons m l ih =>
    obtain ⟨k', a'⟩ := m
    cases i with
    | zero =>
      simp at h
      obtain ⟨rfl, rfl⟩ := h
      exact ⟨rfl, rfl⟩
    | succ i =>
      have h2 := ih i (by simpa using h)
      rw [show 2 * (i + 1) = 2 * i + 1 + 1 by omega]
      simp only [flat, List.getElem?_cons_succ]
      exact h2
/-- The members lie in block g, with room behind them. -/
structure Mr (w : World) (g cap : Nat) (l : List Mem) : Prop where
  ex : ∃ cur : Array Value, w.heap[g]? = some (.cells cur 76 (0, 0)) ∧ cur.size = cap * 2 ∧ cur.toList.take (2 * l.length) = flat l
  le : l.length ≤ cap
theorem Mr.below {w w' : World} {g cap : Nat} {l : List Mem} (h : Mr w g cap l) (hb : Below w.heap.size w w') : Mr w' g cap l := by
  obtain ⟨⟨cur, h1, h2, h3⟩, h4⟩ := h
  exact ⟨⟨cur, (hb.block g (Array.getElem?_eq_some_iff.1 h1).1).trans h1, h2, h3⟩, h4⟩
theorem Mr.at {w : World} {g cap : Nat} {l : List Mem} (h : Mr w g cap l) (i : Nat) {k : ByteArray} {a : Int} (hi : l[i]? = some (k, a)) : w.cell? ⟨g, i * 2, none⟩ = some (.string k) ∧ w.cell? ⟨g, i * 2 + 1, none⟩ = some (.int .i64 a) := by
  obtain ⟨⟨cur, h1, h2, h3⟩, h4⟩ := h
  have hlt : i < l.length := (List.getElem?_eq_some_iff.1 hi).1
  obtain ⟨f1, f2⟩ := flat_get l i hi
  rw [← h3, List.getElem?_take_of_lt (by omega), Array.getElem?_toList] at f1 f2
  rw [Nat.mul_comm i 2]
  constructor <;> simp only [World.cell?, h1]
  · simpa using f1
  · simpa using f2
theorem Mr.frz {w : World} {g cap : Nat} {l : List Mem} (h : Mr w g cap l) (j : Nat) : w.frozen? ⟨g, j, none⟩ = false := by
  obtain ⟨⟨cur, h1, h2, h3⟩, h4⟩ := h
  simp [World.frozen?, h1]
def flip2 (a : List Mem) (y x : Mem) (c : List Mem) : List Mem := a ++ y :: x :: c
theorem set_flat (a : List Mem) (m m' : Mem) (c : List Mem) (cur : List Value) (h : cur.take (2 * (a ++ m :: c).length) = flat (a ++ m :: c)) :
    ((cur.set (2 * a.length) (.string m'.1)).set (2 * a.length + 1) (.int .i64 m'.2)).take (2 * (a ++ m' :: c).length) = flat (a ++ m' :: c) := by
  have hl : (a ++ m :: c).length = (a ++ m' :: c).length := by simp
  rw [← hl]
  have e : ∀ (l : List Value) (n i : Nat) (v : Value), (l.set i v).take n = (l.take n).set i v := fun l n i v => by rw [List.take_set]
  rw [e, e, h, flat_app, flat_app]
  obtain ⟨k, b⟩ := m
  obtain ⟨k', b'⟩ := m'
  have h1 := flat_length a
  rw [List.set_append_right _ _ (by omega), show 2 * a.length - (flat a).length = 0 by omega, List.set_append_right _ _ (by omega), show 2 * a.length + 1 - (flat a).length = 1 by omega]
  rfl
theorem Mr.set {w : World} {g cap : Nat} {a : List Mem} {m : Mem} {c : List Mem} (h : Mr w g cap (a ++ m :: c)) (m' : Mem) : Mr ((w.setCell ⟨g, a.length * 2, none⟩ (.string m'.1)).setCell ⟨g, a.length * 2 + 1, none⟩ (.int .i64 m'.2)) g cap (a ++ m' :: c) := by
  obtain ⟨⟨cur, h1, h2, h3⟩, h4⟩ := h
  refine ⟨⟨(cur.setIfInBounds (a.length * 2) (.string m'.1)).setIfInBounds (a.length * 2 + 1) (.int .i64 m'.2), ?_, ?_, ?_⟩, by simpa using h4⟩
  · exact heap_setCell_same _ _ _ _ _ _ (heap_setCell_same _ _ _ _ _ _ h1)
  · simpa using h2
  · rw [Array.toList_setIfInBounds, Array.toList_setIfInBounds, Nat.mul_comm a.length 2]
    exact set_flat a m m' c _ h3
theorem grownBy_cell' (W : World) (b j : Nat) (v : Value) : W.grownBy (W.setCell ⟨b, j, none⟩ v) (some b) :=
  ⟨rfl, rfl, rfl, by simp, fun k _ hk => Below.heap_setCell _ _ _ k (fun e => hk (by rw [e]))⟩
theorem Mr.swap {w : World} {g cap k : Nat} {a mc : List Mem} {x y : Mem} (h : Mr w g cap (a ++ [y] ++ x :: mc)) (hk : a.length = k) :
    ∃ W', ((((w.setCell ⟨g, (k + 1) * 2, none⟩ (.string y.1)).setCell ⟨g, (k + 1) * 2 + 1, none⟩ (.int .i64 y.2)).setCell ⟨g, k * 2, none⟩ (.string x.1)).setCell ⟨g, k * 2 + 1, none⟩ (.int .i64 x.2)).drew = W' ∧ Mr W' g cap (a ++ x :: (y :: mc)) ∧ w.grownBy W' (some g) := by
  refine ⟨_, rfl, ?_, ?_⟩
  · have h1 := h.set y
    have e : (a ++ [y]).length = k + 1 := by simp [hk]
    rw [e] at h1
    have h2 : Mr ((w.setCell ⟨g, (k + 1) * 2, none⟩ (.string y.1)).setCell ⟨g, (k + 1) * 2 + 1, none⟩ (.int .i64 y.2)) g cap (a ++ y :: (y :: mc)) := by simpa using h1
    have h3 := h2.set x
    rw [hk] at h3
    exact h3.below (Below.refl _ _).drew
  · exact ((((grownBy_cell' _ _ _ _).trans (grownBy_cell' _ _ _ _)).trans (grownBy_cell' _ _ _ _)).trans (grownBy_cell' _ _ _ _)).trans (Go.Proofs.YtgpjkojnmeaoiaaW.PrintWords.grown_of_below ((Below.refl _ _).drew) (some g))
/-! ### the comparison -/
theorem cmpC (a b : Mem) (w : World) : Calls Try.prog 74 #[.agg #[.string a.1, .int .i64 a.2], .agg #[.string b.1, .int .i64 b.2]] w fun e w' => e = .returned (.int .i64 (Lib.compareBytes a.1.data.toList b.1.data.toList)) ∧ Below w.heap.size w w' := by
  have HC := Aside0.mk (fun W => Try.strings_Compare a.1 b.1 W)
  obtain ⟨r, hr⟩ : ∃ r, Lib.compareBytes a.1.data.toList b.1.data.toList = r := ⟨_, rfl⟩
  rw [hr] at HC ⊢
  clear hr
  have HB := Aside0.mk (below_step (new_below w (.cells #[.string a.1, .int .i64 a.2] 76)) (new_below _ (.cells #[.string b.1, .int .i64 b.2] 76)))
  go_enter Try.func74, Try.ntmps74
  go_wp2_with (first | (go_at_call 75; (with_reducible refine (HC.out _).mono ?_); rintro e we ⟨rfl, rfl⟩))
  go_ret
  exact ⟨rfl, HB.out⟩
theorem cb_neg : ∀ (a b : List UInt8), (Lib.compareBytes a b < 0 ↔ a < b)
  | [], [] => by simp [Lib.compareBytes]
  | [], _ :: _ => by simp [Lib.compareBytes]
  | _ :: _, [] => by simp [Lib.compareBytes]
  | x :: a, y :: b => by
    simp only [Lib.compareBytes]
    rw [List.cons_lt_cons_iff]
    by_cases h1 : x < y
    · rw [if_pos h1]
      simp [h1]
    · rw [if_neg h1]
      by_cases h2 : y < x
      · rw [if_pos h2]
        constructor
        · intro h; omega
        · rintro (h | ⟨h, _⟩)
          · exact absurd h h1
          · rw [h] at h2
            exact absurd h2 (by simp)
      · rw [if_neg h2]
        have e : x = y := by
          have h3 := UInt8.not_lt.1 h1
          have h4 := UInt8.not_lt.1 h2
          exact UInt8.le_antisymm h4 h3
        rw [cb_neg a b]
        simp [e]
theorem cmp_blt (a b : Mem) : decide (Lib.compareBytes a.1.data.toList b.1.data.toList < 0) = blt a.1 b.1 := by
  unfold blt
  rw [bytesLess_eq]
  have h := cb_neg a.1.data.toList b.1.data.toList
  have e1 : a.1.toList = a.1.data.toList := Lib.toList_data _
  have e2 : b.1.toList = b.1.data.toList := Lib.toList_data _
  rw [e1, e2]
  exact decide_eq_decide.2 h
/-! ### the order, and one insertion -/
def lexM (x y : Mem) : Prop := blt x.1 y.1 = true ∨ (x.1 = y.1 ∧ x.2 < y.2)
theorem ba_ext {a b : ByteArray} (h : a.toList = b.toList) : a = b := by
  have e1 : a.toList = a.data.toList := Lib.toList_data _
  have e2 : b.toList = b.data.toList := Lib.toList_data _
  rw [e1, e2] at h
  cases a; cases b
  congr 1
  exact Array.toList_inj.1 h
theorem blt_lt (a b : ByteArray) : blt a b = true ↔ a.toList < b.toList := by
  unfold blt
  rw [bytesLess_eq, decide_eq_true_iff]
theorem blt_tri (a b : ByteArray) : blt a b = true ∨ a = b ∨ blt b a = true := by
  rw [blt_lt, blt_lt]
  by_cases h1 : a.toList < b.toList
  · exact .inl h1
  · by_cases h2 : b.toList < a.toList
    · exact .inr (.inr h2)
    · exact .inr (.inl (ba_ext (List.le_antisymm (List.not_lt.1 h2) (List.not_lt.1 h1))))
theorem blt_trans {a b c : ByteArray} (h : blt a b = true) (k : blt b c = true) : blt a c = true := by
  rw [blt_lt] at *
  exact List.lt_trans h k
theorem blt_irrefl (a : ByteArray) : blt a a = false := by
  cases h : blt a a with
  | false => rfl
  | true => rw [blt_lt] at h; exact absurd h (List.lt_irrefl _)
theorem blt_asymm {a b : ByteArray} (h : blt a b = true) : blt b a = false := by
  cases k : blt b a with
  | false => rfl
  | true => have := blt_trans h k; rw [blt_irrefl] at this; cases this
theorem lexM_trans {x y z : Mem} (h : lexM x y) (k : lexM y z) : lexM x z := by
  rcases h with h | ⟨h1, h2⟩ <;> rcases k with k | ⟨k1, k2⟩
  · exact .inl (blt_trans h k)
  · exact .inl (by rw [← k1]; exact h)
  · exact .inl (by rw [h1]; exact k)
  · exact .inr ⟨h1.trans k1, by omega⟩
/-- Where the member comes to rest. -/
theorem ins_sorted {a m : List Mem} {x : Mem} (hp : (a ++ m).Pairwise lexM) (hat : ∀ y ∈ a ++ m, y.2 < x.2) (hm : ∀ y ∈ m, blt x.1 y.1 = true) (ha : a = [] ∨ ∃ a' y, a = a' ++ [y] ∧ blt x.1 y.1 = false) : (a ++ x :: m).Pairwise lexM := by
  rw [List.pairwise_append] at hp ⊢
  obtain ⟨p1, p2, p3⟩ := hp
  have hax : ∀ y ∈ a, lexM y x := by
    rcases ha with rfl | ⟨a', z, rfl, hz⟩
    · intro y hy; cases hy
    · intro y hy
      have hzx : lexM z x := by
        rcases blt_tri z.1 x.1 with h | h | h
        · exact .inl h
        · exact .inr ⟨h, hat z (by simp)⟩
        · rw [h] at hz; cases hz
      rcases List.mem_append.1 hy with hy | hy
      · have h1 := (List.pairwise_append.1 p1).2.2 y hy z (by simp)
        exact lexM_trans h1 hzx
      · rw [List.mem_singleton.1 hy]
        exact hzx
  refine ⟨p1, ?_, ?_⟩
  · rw [List.pairwise_cons]
    exact ⟨fun y hy => .inl (hm y hy), p2⟩
  · intro y hy z hz
    rcases List.mem_cons.1 hz with rfl | hz
    · exact hax y hy
    · exact p3 y hy z hz
def SortPost (l : List Mem) (g cap : Nat) (w : World) (e : Ending) (w' : World) : Prop := (∃ v, e = .returned v) ∧ ∃ l' : List Mem, Mr w' g cap l' ∧ w.grownBy w' (some g) ∧ l'.Perm l ∧ l'.Pairwise lexM
theorem insC (l : List Mem) (g cap : Nat) (w : World) (h : Mr w g cap l) (hn : l.length ≤ 1000) (hat : l.Pairwise (fun x y => x.2 < y.2)) :
    Calls Try.prog 93 #[.slice (some ⟨g, 0, none⟩) l.length cap, .int .i64 0, .int .i64 (l.length : Int), .func (.func 74) #[] #[]] w (SortPost l g cap w) := by
  have HM := Aside0.mk h
  have HAt := Aside0.mk hat
  obtain ⟨n, hln⟩ : ∃ n, l.length = n := ⟨_, rfl⟩
  have HL := Aside0.mk hln
  have hcap : n ≤ cap := by have := h.le; omega
  rw [hln] at hn ⊢
  clear h hat hln
  go_enter Try.func93, Try.ntmps93
  go_wp2_with fail
  go_loopg [8] n (fun kq v8 w' => ∃ (i : Nat) (p : List Mem), kq + i = n + 1 ∧ v8 = .int .i64 (i : Int) ∧ (1 ≤ i ∧ i ≤ n + 1) ∧ Aside0 (Mr w' g cap (p ++ l.drop i) ∧ p.Perm (l.take i) ∧ p.Pairwise lexM ∧ w.grownBy w' (some g)))
  case atStart =>
    refine ⟨1, l.take 1, by omega, rfl, by omega, ⟨by rw [List.take_append_drop]; exact HM.out, List.Perm.refl _, ?_, ⟨rfl, rfl, rfl, Nat.le_refl _, fun _ _ _ => rfl⟩⟩⟩
    have : (l.take 1).length ≤ 1 := by simp; omega
    match l.take 1, this with
    | [], _ => exact List.Pairwise.nil
    | [_], _ => simp
  case round =>
    clear HM
    obtain ⟨i, p, hi, rfl, hib, HM⟩ := hrel
    by_cases ci : i < n
    · have g0 : decide ((i : Int) < (n : Int)) = true := decide_eq_true (by omega)
      have hil : i < l.length := by have := HL.out; omega
      have hd := List.drop_eq_getElem_cons hil
      obtain ⟨x, hx⟩ : ∃ x, l[i] = x := ⟨_, rfl⟩
      rw [hx] at hd
      obtain ⟨m1, m2, m3, m4⟩ := HM.out
      rw [hd] at m1
      have hpl : p.length = i := by rw [m2.length_eq, List.length_take]; omega
      have HAx : Aside0 (∀ y ∈ p, y.2 < x.2) := ⟨fun y hy => by
        have h1 : y ∈ l.take i := m2.mem_iff.1 hy
        have h2 : l = l.take i ++ (x :: l.drop (i + 1)) := by rw [← hd, List.take_append_drop]
        have h3 := HAt.out
        rw [h2, List.pairwise_append] at h3
        exact h3.2.2 y h1 x (by simp)⟩
      have HP : Aside0 (p.Perm (l.take i) ∧ p.Pairwise lexM ∧ l.take (i + 1) = l.take i ++ [x]) := ⟨m2, m3, by rw [List.take_add_one, List.getElem?_eq_getElem hil, hx]; rfl⟩
      obtain ⟨c, hc⟩ : ∃ c, l.drop (i + 1) = c := ⟨_, rfl⟩
      have HC := Aside0.mk hc
      rw [hc] at m1
      have HI0 : Aside0 (Mr wr g cap (p ++ x :: ([] ++ c)) ∧ p ++ [] = p ∧ (∀ y ∈ ([] : List Mem), blt x.1 y.1 = true) ∧ w.grownBy wr (some g)) := ⟨m1, by simp, by simp, m4⟩
      have HII := Aside0.mk hi
      have HPL := Aside0.mk hpl
      obtain ⟨j1, rfl⟩ : ∃ j1, gk = j1 + 1 := ⟨gk - 1, by omega⟩
      clear hx hd m1 m2 m3 m4 hpl hc hi HM hil
      go_wp2_with fail
      obtain ⟨wo, rfl⟩ : ∃ wo : World, wo = wr := ⟨_, rfl⟩
      go_loopg [9] i (fun kq v9 w' => ∃ (a m : List Mem), kq = a.length ∧ v9 = .int .i64 (a.length : Int) ∧ (a.length ≤ i) ∧ Aside0 (Mr w' g cap (a ++ x :: (m ++ c)) ∧ a ++ m = p ∧ (∀ y ∈ m, blt x.1 y.1 = true) ∧ w.grownBy w' (some g)))
      case atStart => exact ⟨p, [], by have := HPL.out; omega, by rw [HPL.out], by have := HPL.out; omega, HI0⟩
      case round =>
        clear HI0
        obtain ⟨a, m, ha, rfl, hai, HM⟩ := hrel
        obtain ⟨k0, hk0⟩ : ∃ k0, a.length = k0 := ⟨_, rfl⟩
        have HK0 := Aside0.mk hk0
        rw [hk0] at hai ha ⊢
        clear hk0
        by_cases cz : k0 = 0
        · subst cz
          have ha0 : a = [] := List.length_eq_zero_iff.1 HK0.out
          have HDone : Aside0 (Mr wr g cap ((x :: m) ++ c) ∧ (x :: m).Perm (l.take (i + 1)) ∧ (x :: m).Pairwise lexM ∧ w.grownBy wr (some g)) := ⟨by
            obtain ⟨m1, m2, m3, m4⟩ := HM.out
            subst ha0
            obtain ⟨p1, p2, p3⟩ := HP.out
            have e : m = p := by simpa using m2
            subst e
            refine ⟨m1, ?_, ?_, m4⟩
            · rw [p3]
              exact (List.Perm.cons x p1).trans (List.perm_append_singleton x _).symm
            · exact ins_sorted (a := []) (m := m) p2 HAx.out m3 (.inl rfl)⟩
          clear HM HK0 ha0 ha hai
          go_upto_region 4 with fail
          go_quiet (fail)
          go_wp2_with fail
          go_roundg j1
          case measure => omega
          case rel => exact ⟨i + 1, x :: m, by have := HII.out; omega, rfl, by omega, ⟨by rw [HC.out]; exact HDone.out.1.below (drawn_below ⟨_, rfl⟩), HDone.out.2.1, HDone.out.2.2.1, HDone.out.2.2.2.trans (Go.Proofs.YtgpjkojnmeaoiaaW.PrintWords.grown_of_below (drawn_below ⟨_, rfl⟩) (some g))⟩⟩
        · obtain ⟨k, rfl⟩ : ∃ k, k0 = k + 1 := ⟨k0 - 1, by omega⟩
          obtain ⟨a', y, hay⟩ : ∃ a' y, a = a' ++ [y] := by
            have hne : a ≠ [] := fun e => by have := HK0.out; rw [e] at this; simp at this
            exact ⟨a.dropLast, a.getLast hne, (List.dropLast_concat_getLast hne).symm⟩
          subst hay
          have hk' : a'.length = k := by have := HK0.out; simp at this; omega
          have HK' := Aside0.mk hk'
          have hMr := HM.out.1
          have hxk : (a' ++ [y] ++ x :: (m ++ c))[k + 1]? = some x := by
            rw [List.getElem?_append_right (by simp; omega)]
            simp [hk']
          have hyk : (a' ++ [y] ++ x :: (m ++ c))[k]? = some y := by
            rw [List.append_assoc, List.getElem?_append_right (by omega)]
            simp [hk']
          obtain ⟨q0, q1⟩ := hMr.at (k + 1) (k := x.1) (a := x.2) hxk
          obtain ⟨q2, q3⟩ := hMr.at k (k := y.1) (a := y.2) hyk
          have hfz := hMr.frz
          have hkn : k + 1 < n := by omega
          have HK : Aside0 (∀ W, Below wr.heap.size wr W → W.cell? ⟨g, (k + 1) * 2, none⟩ = some (.string x.1) ∧ W.cell? ⟨g, (k + 1) * 2 + 1, none⟩ = some (.int .i64 x.2) ∧ W.cell? ⟨g, k * 2, none⟩ = some (.string y.1) ∧ W.cell? ⟨g, k * 2 + 1, none⟩ = some (.int .i64 y.2)) := ⟨fun W hb => by
            have h2 := hMr.below hb
            exact ⟨(h2.at (k + 1) hxk).1, (h2.at (k + 1) hxk).2, (h2.at k hyk).1, (h2.at k hyk).2⟩⟩
          have HCm := Aside0.mk (fun W => cmpC x y W)
          obtain ⟨r, hr⟩ : ∃ r, Lib.compareBytes x.1.data.toList y.1.data.toList = r := ⟨_, rfl⟩
          rw [hr] at HCm
          have hbr : decide (r < 0) = blt x.1 y.1 := by rw [← hr]; exact cmp_blt x y
          obtain ⟨bb, hbb⟩ : ∃ bb, blt x.1 y.1 = bb := ⟨_, rfl⟩
          rw [hbb] at hbr
          have Hbb := Aside0.mk hbb
          have e1 : ((k : Int) + 1 < 0) = False := eq_false (by omega)
          have e2 : ((k : Int) + 1 < (n : Int)) = True := eq_true (by omega)
          have e3 : (0 ≤ (k : Int)) = True := eq_true (by omega)
          have e4 : ((k : Int) < (n : Int)) = True := eq_true (by omega)
          have e5 : (0 ≤ (k : Int) + 1) = True := eq_true (by omega)
          have e6 : IntKind.i64.wrap (k : Int) = (k : Int) := by rw [i64_w]; unfold Go.RowKit.wrap64; omega
          have e7 : decide ((k : Int) + 1 > 0) = true := decide_eq_true (by omega)
          clear q0 q1 q2 q3 hfz hxk hyk hMr hr hbb hk' cz HK0
          cases bb with
          | true =>
            go_upto_region 4 with fail
            have HX : Aside0 (Below wr.heap.size wr wr.drew) := ⟨(Below.refl _ _).drew⟩
            refine start_ (n := 17) (S := fun w' => w'.cell? ⟨g, (k + 1) * 2, none⟩ = some (.string x.1) ∧ w'.cell? ⟨g, (k + 1) * 2 + 1, none⟩ = some (.int .i64 x.2) ∧ w'.cell? ⟨g, k * 2, none⟩ = some (.string y.1) ∧ w'.cell? ⟨g, k * 2 + 1, none⟩ = some (.int .i64 y.2)) (ds := []) #[false, false, false, false, false, false, false, false, false, false, false, false, false, false, false, false, false] (by kernel_rfl) rfl (by rfl) (HK.out _ HX.out) (fun hS => ?_)
            refine take_ (i := 0) (N := some 18) (v := (.int .i64 ((k : Int) + 1))) #[true, false, false, false, false, false, false, false, false, false, false, false, false, false, false, false, false] rfl rfl (by kernel_rfl) (fun _ _ _ h => h) (Or.inl ⟨by rfl, by intro w hSw; (try dsimp only at hSw); go_simp⟩) hS rfl ?_
            try simp only [Act.put, List.setIfInBounds_toArray, List.set_cons_zero, List.set_cons_succ]
            refine take_ (i := 1) (N := some 19) (v := (.int .i64 0)) #[true, true, false, false, false, false, false, false, false, false, false, false, false, false, false, false, false] rfl rfl (by kernel_rfl) (fun _ _ _ h => h) (Or.inl ⟨by rfl, by intro w hSw; (try dsimp only at hSw); go_simp⟩) hS rfl ?_
            try simp only [Act.put, List.setIfInBounds_toArray, List.set_cons_zero, List.set_cons_succ]
            refine take_ (i := 2) (N := some 20) (v := (.bool true)) #[true, true, true, false, false, false, false, false, false, false, false, false, false, false, false, false, false] rfl rfl (by kernel_rfl) (fun _ _ _ h => h) (Or.inl ⟨by rfl, by intro w hSw; (try dsimp only at hSw); go_simp⟩) hS rfl ?_
            try simp only [Act.put, List.setIfInBounds_toArray, List.set_cons_zero, List.set_cons_succ]
            refine take_ (i := 3) (N := some 21) (v := (.bool true)) #[true, true, true, true, false, false, false, false, false, false, false, false, false, false, false, false, false] rfl rfl (by kernel_rfl) (fun _ _ _ h => h) (Or.inl ⟨by rfl, by intro w hSw; (try dsimp only at hSw); go_simp⟩) hS rfl ?_
            try simp only [Act.put, List.setIfInBounds_toArray, List.set_cons_zero, List.set_cons_succ]
            refine take_ (i := 4) (N := some 22) (v := (.func (.func 74) #[] #[])) #[true, true, true, true, true, false, false, false, false, false, false, false, false, false, false, false, false] rfl rfl (by kernel_rfl) (fun _ _ _ h => h) (Or.inl ⟨by rfl, by intro w hSw; (try dsimp only at hSw); go_simp⟩) hS rfl ?_
            try simp only [Act.put, List.setIfInBounds_toArray, List.set_cons_zero, List.set_cons_succ]
            refine take_ (i := 5) (N := some 23) (v := (.slice (some ⟨g, 0, none⟩) n cap)) #[true, true, true, true, true, true, false, false, false, false, false, false, false, false, false, false, false] rfl rfl (by kernel_rfl) (fun _ _ _ h => h) (Or.inl ⟨by rfl, by intro w hSw; (try dsimp only at hSw); go_simp⟩) hS rfl ?_
            try simp only [Act.put, List.setIfInBounds_toArray, List.set_cons_zero, List.set_cons_succ]
            refine take_ (i := 6) (N := some 24) (v := (.int .i64 ((k : Int) + 1))) #[true, true, true, true, true, true, true, false, false, false, false, false, false, false, false, false, false] rfl rfl (by kernel_rfl) (fun _ _ _ h => h) (Or.inl ⟨by rfl, by intro w hSw; (try dsimp only at hSw); go_simp⟩) hS rfl ?_
            try simp only [Act.put, List.setIfInBounds_toArray, List.set_cons_zero, List.set_cons_succ]
            refine take_ (i := 7) (N := some 25) (v := (.pointer (some ⟨g, (k + 1) * 2, none⟩))) #[true, true, true, true, true, true, true, true, false, false, false, false, false, false, false, false, false] rfl rfl (by kernel_rfl) (fun _ _ _ h => h) (Or.inl ⟨by rfl, by intro w hSw; (try dsimp only at hSw); go_simp⟩) hS rfl ?_
            try simp only [Act.put, List.setIfInBounds_toArray, List.set_cons_zero, List.set_cons_succ]
            refine take_ (i := 8) (N := some 26) (v := (.agg #[.string x.1, .int .i64 x.2])) #[true, true, true, true, true, true, true, true, true, false, false, false, false, false, false, false, false] rfl rfl (by kernel_rfl) (fun _ _ _ h => h) (Or.inl ⟨by rfl, by intro w hSw; (try dsimp only at hSw); go_simp⟩) hS rfl ?_
            try simp only [Act.put, List.setIfInBounds_toArray, List.set_cons_zero, List.set_cons_succ]
            refine take_ (i := 9) (N := some 27) (v := (.slice (some ⟨g, 0, none⟩) n cap)) #[true, true, true, true, true, true, true, true, true, true, false, false, false, false, false, false, false] rfl rfl (by kernel_rfl) (fun _ _ _ h => h) (Or.inl ⟨by rfl, by intro w hSw; (try dsimp only at hSw); go_simp⟩) hS rfl ?_
            try simp only [Act.put, List.setIfInBounds_toArray, List.set_cons_zero, List.set_cons_succ]
            refine take_ (i := 10) (N := some 28) (v := (.int .i64 ((k : Int) + 1))) #[true, true, true, true, true, true, true, true, true, true, true, false, false, false, false, false, false] rfl rfl (by kernel_rfl) (fun _ _ _ h => h) (Or.inl ⟨by rfl, by intro w hSw; (try dsimp only at hSw); go_simp⟩) hS rfl ?_
            try simp only [Act.put, List.setIfInBounds_toArray, List.set_cons_zero, List.set_cons_succ]
            refine take_ (i := 11) (N := some 29) (v := (.int .i64 (k : Int))) #[true, true, true, true, true, true, true, true, true, true, true, true, false, false, false, false, false] rfl rfl (by kernel_rfl) (fun _ _ _ h => h) (Or.inl ⟨by rfl, by intro w hSw; (try dsimp only at hSw); go_simp⟩) hS rfl ?_
            try simp only [Act.put, List.setIfInBounds_toArray, List.set_cons_zero, List.set_cons_succ]
            refine take_ (i := 12) (N := some 30) (v := (.pointer (some ⟨g, k * 2, none⟩))) #[true, true, true, true, true, true, true, true, true, true, true, true, true, false, false, false, false] rfl rfl (by kernel_rfl) (fun _ _ _ h => h) (Or.inl ⟨by rfl, by intro w hSw; (try dsimp only at hSw); go_simp⟩) hS rfl ?_
            try simp only [Act.put, List.setIfInBounds_toArray, List.set_cons_zero, List.set_cons_succ]
            refine take_ (i := 13) (N := some 31) (v := (.agg #[.string y.1, .int .i64 y.2])) #[true, true, true, true, true, true, true, true, true, true, true, true, true, true, false, false, false] rfl rfl (by kernel_rfl) (fun _ _ _ h => h) (Or.inl ⟨by rfl, by intro w hSw; (try dsimp only at hSw); go_simp⟩) hS rfl ?_
            try simp only [Act.put, List.setIfInBounds_toArray, List.set_cons_zero, List.set_cons_succ]
            refine one_ (i := 14) (N := some 32) #[true, true, true, true, true, true, true, true, true, true, true, true, true, true, true, false, false] rfl rfl (by kernel_rfl) (by decide) ?_
            intro K hK
            go_simp
            go_at_call 74; (with_reducible refine (HCm.out _).mono ?_); rintro e we ⟨rfl, hb⟩; have HX2 := Aside0.mk (below_step HX.out hb); clear HX hb; have HX := HX2; clear HX2
            refine hK.out _ _ (HK.out _ HX.out) (fun hS => ?_)
            clear hK K
            try simp only [Act.put, List.setIfInBounds_toArray, List.set_cons_zero, List.set_cons_succ]
            refine take_ (i := 15) (N := some 33) (v := (.bool true)) #[true, true, true, true, true, true, true, true, true, true, true, true, true, true, true, true, false] rfl rfl (by kernel_rfl) (fun _ _ _ h => h) (Or.inl ⟨by rfl, by intro w hSw; (try dsimp only at hSw); go_simp⟩) hS rfl ?_
            try simp only [Act.put, List.setIfInBounds_toArray, List.set_cons_zero, List.set_cons_succ]
            refine take_ (i := 16) (N := some 34) (v := (.bool true)) #[true, true, true, true, true, true, true, true, true, true, true, true, true, true, true, true, true] rfl rfl (by kernel_rfl) (fun _ _ _ h => h) (Or.inl ⟨by rfl, by intro w hSw; (try dsimp only at hSw); go_simp⟩) hS rfl ?_
            try simp only [Act.put, List.setIfInBounds_toArray, List.set_cons_zero, List.set_cons_succ]
            refine done_ (by kernel_rfl) ?_
            go_upto_region 6 with fail
            obtain ⟨q0, q1, q2, q3⟩ := HK.out _ HX.out
            have hM2 := HM.out.1.below HX.out
            have hfz := hM2.frz
            obtain ⟨W', hW', hMs, hg⟩ := hM2.swap HK'.out
            have HN2 : Aside0 (Mr W' g cap (a' ++ x :: ((y :: m) ++ c)) ∧ a' ++ (y :: m) = p ∧ (∀ z ∈ y :: m, blt x.1 z.1 = true) ∧ w.grownBy W' (some g)) := ⟨by
              obtain ⟨m1, m2, m3, m4⟩ := HM.out
              refine ⟨hMs, by simpa using m2, fun z hz => ?_, (m4.trans (Go.Proofs.YtgpjkojnmeaoiaaW.PrintWords.grown_of_below HX.out (some g))).trans hg⟩
              rcases List.mem_cons.1 hz with rfl | hz
              · exact Hbb.out
              · exact m3 z hz⟩
            have HWe := Aside0.mk hW'
            clear hM2 e7 hbr hMs hg hW'
            go_region
            rw [HWe.out]
            go_wp2_with fail
            subst ha
            go_roundg k
            case measure => omega
            case rel => exact ⟨a', y :: m, by rw [HK'.out], by rw [HK'.out], by have := HK'.out; omega, HN2⟩
          | false =>
            have HDone : Aside0 (Mr wr g cap ((a' ++ [y] ++ x :: m) ++ c) ∧ (a' ++ [y] ++ x :: m).Perm (l.take (i + 1)) ∧ (a' ++ [y] ++ x :: m).Pairwise lexM ∧ w.grownBy wr (some g)) := ⟨by
              obtain ⟨m1, m2, m3, m4⟩ := HM.out
              obtain ⟨p1, p2, p3⟩ := HP.out
              refine ⟨by simpa using m1, ?_, ?_, m4⟩
              · rw [p3, ← m2] at *
                exact (List.perm_middle).trans ((List.Perm.cons x p1).trans (List.perm_append_singleton x _).symm)
              · exact ins_sorted (by rw [m2]; exact p2) (by rw [m2]; exact HAx.out) m3 (.inr ⟨a', y, rfl, Hbb.out⟩)⟩
            clear HM
            go_upto_region 4 with fail
            have HX : Aside0 (Below wr.heap.size wr wr.drew) := ⟨(Below.refl _ _).drew⟩
            refine start_ (n := 17) (S := fun w' => w'.cell? ⟨g, (k + 1) * 2, none⟩ = some (.string x.1) ∧ w'.cell? ⟨g, (k + 1) * 2 + 1, none⟩ = some (.int .i64 x.2) ∧ w'.cell? ⟨g, k * 2, none⟩ = some (.string y.1) ∧ w'.cell? ⟨g, k * 2 + 1, none⟩ = some (.int .i64 y.2)) (ds := []) #[false, false, false, false, false, false, false, false, false, false, false, false, false, false, false, false, false] (by kernel_rfl) rfl (by rfl) (HK.out _ HX.out) (fun hS => ?_)
            refine take_ (i := 0) (N := some 18) (v := (.int .i64 ((k : Int) + 1))) #[true, false, false, false, false, false, false, false, false, false, false, false, false, false, false, false, false] rfl rfl (by kernel_rfl) (fun _ _ _ h => h) (Or.inl ⟨by rfl, by intro w hSw; (try dsimp only at hSw); go_simp⟩) hS rfl ?_
            try simp only [Act.put, List.setIfInBounds_toArray, List.set_cons_zero, List.set_cons_succ]
            refine take_ (i := 1) (N := some 19) (v := (.int .i64 0)) #[true, true, false, false, false, false, false, false, false, false, false, false, false, false, false, false, false] rfl rfl (by kernel_rfl) (fun _ _ _ h => h) (Or.inl ⟨by rfl, by intro w hSw; (try dsimp only at hSw); go_simp⟩) hS rfl ?_
            try simp only [Act.put, List.setIfInBounds_toArray, List.set_cons_zero, List.set_cons_succ]
            refine take_ (i := 2) (N := some 20) (v := (.bool true)) #[true, true, true, false, false, false, false, false, false, false, false, false, false, false, false, false, false] rfl rfl (by kernel_rfl) (fun _ _ _ h => h) (Or.inl ⟨by rfl, by intro w hSw; (try dsimp only at hSw); go_simp⟩) hS rfl ?_
            try simp only [Act.put, List.setIfInBounds_toArray, List.set_cons_zero, List.set_cons_succ]
            refine take_ (i := 3) (N := some 21) (v := (.bool true)) #[true, true, true, true, false, false, false, false, false, false, false, false, false, false, false, false, false] rfl rfl (by kernel_rfl) (fun _ _ _ h => h) (Or.inl ⟨by rfl, by intro w hSw; (try dsimp only at hSw); go_simp⟩) hS rfl ?_
            try simp only [Act.put, List.setIfInBounds_toArray, List.set_cons_zero, List.set_cons_succ]
            refine take_ (i := 4) (N := some 22) (v := (.func (.func 74) #[] #[])) #[true, true, true, true, true, false, false, false, false, false, false, false, false, false, false, false, false] rfl rfl (by kernel_rfl) (fun _ _ _ h => h) (Or.inl ⟨by rfl, by intro w hSw; (try dsimp only at hSw); go_simp⟩) hS rfl ?_
            try simp only [Act.put, List.setIfInBounds_toArray, List.set_cons_zero, List.set_cons_succ]
            refine take_ (i := 5) (N := some 23) (v := (.slice (some ⟨g, 0, none⟩) n cap)) #[true, true, true, true, true, true, false, false, false, false, false, false, false, false, false, false, false] rfl rfl (by kernel_rfl) (fun _ _ _ h => h) (Or.inl ⟨by rfl, by intro w hSw; (try dsimp only at hSw); go_simp⟩) hS rfl ?_
            try simp only [Act.put, List.setIfInBounds_toArray, List.set_cons_zero, List.set_cons_succ]
            refine take_ (i := 6) (N := some 24) (v := (.int .i64 ((k : Int) + 1))) #[true, true, true, true, true, true, true, false, false, false, false, false, false, false, false, false, false] rfl rfl (by kernel_rfl) (fun _ _ _ h => h) (Or.inl ⟨by rfl, by intro w hSw; (try dsimp only at hSw); go_simp⟩) hS rfl ?_
            try simp only [Act.put, List.setIfInBounds_toArray, List.set_cons_zero, List.set_cons_succ]
            refine take_ (i := 7) (N := some 25) (v := (.pointer (some ⟨g, (k + 1) * 2, none⟩))) #[true, true, true, true, true, true, true, true, false, false, false, false, false, false, false, false, false] rfl rfl (by kernel_rfl) (fun _ _ _ h => h) (Or.inl ⟨by rfl, by intro w hSw; (try dsimp only at hSw); go_simp⟩) hS rfl ?_
            try simp only [Act.put, List.setIfInBounds_toArray, List.set_cons_zero, List.set_cons_succ]
            refine take_ (i := 8) (N := some 26) (v := (.agg #[.string x.1, .int .i64 x.2])) #[true, true, true, true, true, true, true, true, true, false, false, false, false, false, false, false, false] rfl rfl (by kernel_rfl) (fun _ _ _ h => h) (Or.inl ⟨by rfl, by intro w hSw; (try dsimp only at hSw); go_simp⟩) hS rfl ?_
            try simp only [Act.put, List.setIfInBounds_toArray, List.set_cons_zero, List.set_cons_succ]
            refine take_ (i := 9) (N := some 27) (v := (.slice (some ⟨g, 0, none⟩) n cap)) #[true, true, true, true, true, true, true, true, true, true, false, false, false, false, false, false, false] rfl rfl (by kernel_rfl) (fun _ _ _ h => h) (Or.inl ⟨by rfl, by intro w hSw; (try dsimp only at hSw); go_simp⟩) hS rfl ?_
            try simp only [Act.put, List.setIfInBounds_toArray, List.set_cons_zero, List.set_cons_succ]
            refine take_ (i := 10) (N := some 28) (v := (.int .i64 ((k : Int) + 1))) #[true, true, true, true, true, true, true, true, true, true, true, false, false, false, false, false, false] rfl rfl (by kernel_rfl) (fun _ _ _ h => h) (Or.inl ⟨by rfl, by intro w hSw; (try dsimp only at hSw); go_simp⟩) hS rfl ?_
            try simp only [Act.put, List.setIfInBounds_toArray, List.set_cons_zero, List.set_cons_succ]
            refine take_ (i := 11) (N := some 29) (v := (.int .i64 (k : Int))) #[true, true, true, true, true, true, true, true, true, true, true, true, false, false, false, false, false] rfl rfl (by kernel_rfl) (fun _ _ _ h => h) (Or.inl ⟨by rfl, by intro w hSw; (try dsimp only at hSw); go_simp⟩) hS rfl ?_
            try simp only [Act.put, List.setIfInBounds_toArray, List.set_cons_zero, List.set_cons_succ]
            refine take_ (i := 12) (N := some 30) (v := (.pointer (some ⟨g, k * 2, none⟩))) #[true, true, true, true, true, true, true, true, true, true, true, true, true, false, false, false, false] rfl rfl (by kernel_rfl) (fun _ _ _ h => h) (Or.inl ⟨by rfl, by intro w hSw; (try dsimp only at hSw); go_simp⟩) hS rfl ?_
            try simp only [Act.put, List.setIfInBounds_toArray, List.set_cons_zero, List.set_cons_succ]
            refine take_ (i := 13) (N := some 31) (v := (.agg #[.string y.1, .int .i64 y.2])) #[true, true, true, true, true, true, true, true, true, true, true, true, true, true, false, false, false] rfl rfl (by kernel_rfl) (fun _ _ _ h => h) (Or.inl ⟨by rfl, by intro w hSw; (try dsimp only at hSw); go_simp⟩) hS rfl ?_
            try simp only [Act.put, List.setIfInBounds_toArray, List.set_cons_zero, List.set_cons_succ]
            refine one_ (i := 14) (N := some 32) #[true, true, true, true, true, true, true, true, true, true, true, true, true, true, true, false, false] rfl rfl (by kernel_rfl) (by decide) ?_
            intro K hK
            go_simp
            go_at_call 74; (with_reducible refine (HCm.out _).mono ?_); rintro e we ⟨rfl, hb⟩; have HX2 := Aside0.mk (below_step HX.out hb); clear HX hb; have HX := HX2; clear HX2
            refine hK.out _ _ (HK.out _ HX.out) (fun hS => ?_)
            clear hK K
            try simp only [Act.put, List.setIfInBounds_toArray, List.set_cons_zero, List.set_cons_succ]
            refine take_ (i := 15) (N := some 33) (v := (.bool false)) #[true, true, true, true, true, true, true, true, true, true, true, true, true, true, true, true, false] rfl rfl (by kernel_rfl) (fun _ _ _ h => h) (Or.inl ⟨by rfl, by intro w hSw; (try dsimp only at hSw); go_simp⟩) hS rfl ?_
            try simp only [Act.put, List.setIfInBounds_toArray, List.set_cons_zero, List.set_cons_succ]
            refine take_ (i := 16) (N := some 34) (v := (.bool false)) #[true, true, true, true, true, true, true, true, true, true, true, true, true, true, true, true, true] rfl rfl (by kernel_rfl) (fun _ _ _ h => h) (Or.inl ⟨by rfl, by intro w hSw; (try dsimp only at hSw); go_simp⟩) hS rfl ?_
            try simp only [Act.put, List.setIfInBounds_toArray, List.set_cons_zero, List.set_cons_succ]
            refine done_ (by kernel_rfl) ?_
            go_wp2_with fail
            go_roundg j1
            case measure => omega
            case rel => exact ⟨i + 1, a' ++ [y] ++ x :: m, by have := HII.out; omega, rfl, by omega, ⟨by rw [HC.out]; exact HDone.out.1.below HX.out, HDone.out.2.1, HDone.out.2.2.1, HDone.out.2.2.2.trans (Go.Proofs.YtgpjkojnmeaoiaaW.PrintWords.grown_of_below HX.out (some g))⟩⟩
    · have g0 : decide (i < n) = false := decide_eq_false ci
      have hN : Aside0 (¬ i < n) := ⟨ci⟩
      clear ci hi
      go_wp2_with fail
      go_end0
      obtain ⟨m1, m2, m3, m4⟩ := HM.out
      have h1 := hN.out
      have h2 := HL.out
      rw [List.drop_eq_nil_of_le (by omega), List.append_nil] at m1
      rw [List.take_of_length_le (by omega)] at m2
      exact ⟨⟨_, rfl⟩, p, m1, m4, m2, m3⟩
end Go.Proofs.Ytgpjkojnmeaoiaa.QV

/- slices.SortStableFunc at most twenty members, by hand. -/
namespace Go.Proofs.Ytgpjkojnmeaoiaa.QV
open Go Go.RowKit Go.Proofs.YtgpjkojnmeaoiaaW.PrintWords Go.Proofs.YtgpjkojnmeaoiaaW.PrintLast Go.Proofs.YtgpjkojnmeaoiaaW.PrintMore
set_option linter.unusedVariables false
set_option linter.unusedSimpArgs false
set_option maxRecDepth 100000
set_option maxHeartbeats 4000000
theorem insZ (v : Value) (n : Int) (hn : 0 ≤ n ∧ n ≤ 1000) (w : World) : Calls Try.prog 93 #[v, .int .i64 n, .int .i64 n, .func (.func 74) #[] #[]] w fun e w' => (∃ u, e = .returned u) ∧ w' = w := by
  go_enter Try.func93, Try.ntmps93
  go_wp2_with fail
  have g0 : decide (n + 1 < n) = false := decide_eq_false (by omega)
  go_loopg [8] 0 (fun kq v8 w' => v8 = .int .i64 (n + 1) ∧ w' = w)
  case atStart => exact ⟨rfl, rfl⟩
  case round =>
    obtain ⟨rfl, rfl⟩ := hrel
    go_wp2_with fail
    go_end0
    exact ⟨⟨_, rfl⟩, rfl⟩
theorem sort0 (w : World) : Calls Try.prog 86 #[.slice none 0 0, .int .i64 0, .func (.func 74) #[] #[]] w fun e w' => (∃ u, e = .returned u) ∧ w' = w := by
  have HZ := Aside0.mk (fun W => insZ (.slice none 0 0) 0 (by omega) W)
  go_enter Try.func86, Try.ntmps86
  go_wp2_with fail
  go_loopg [7, 8] 0 (fun kq v7 v8 w' => v7 = .int .i64 0 ∧ v8 = .int .i64 20 ∧ w' = w)
  case atStart => exact ⟨rfl, rfl, rfl⟩
  case round =>
    obtain ⟨rfl, rfl, rfl⟩ := hrel
    go_wp2_with (first | (go_at_call 93; (with_reducible refine (HZ.out _).mono ?_); rintro e we ⟨⟨u, rfl⟩, rfl⟩))
    go_loopg [6] 0 (fun kq v6 w' => v6 = .int .i64 20 ∧ w' = we)
    case atStart => exact ⟨rfl, rfl⟩
    case round =>
      obtain ⟨rfl, rfl⟩ := hrel
      go_wp2_with fail
      go_end0
      exact ⟨⟨_, rfl⟩, rfl⟩
theorem sortC (l : List Mem) (g cap : Nat) (w : World) (h : Mr w g cap l) (hn : l.length ≤ 20) (hat : l.Pairwise (fun x y => x.2 < y.2)) :
    Calls Try.prog 86 #[.slice (some ⟨g, 0, none⟩) l.length cap, .int .i64 (l.length : Int), .func (.func 74) #[] #[]] w (SortPost l g cap w) := by
  have HI := Aside0.mk (insC l g cap w h (by omega) hat)
  have HZ := Aside0.mk (fun (n : Int) (hn : 0 ≤ n ∧ n ≤ 1000) (W : World) => insZ (.slice (some ⟨g, 0, none⟩) l.length cap) n hn W)
  obtain ⟨n, hln⟩ : ∃ n, l.length = n := ⟨_, rfl⟩
  rw [hln] at hn HI HZ ⊢
  clear h hat hln
  by_cases c : n < 20
  · have g0 : decide ((20 : Int) ≤ (n : Int)) = false := decide_eq_false (by omega)
    have g0' : decide (20 ≤ n) = false := decide_eq_false (by omega)
    have g1 : decide ((20 : Int) < (n : Int)) = false := decide_eq_false (by omega)
    have g1' : decide (20 < n) = false := decide_eq_false (by omega)
    go_enter Try.func86, Try.ntmps86
    go_wp2_with fail
    go_loopg [7, 8] 0 (fun kq v7 v8 w' => v7 = .int .i64 0 ∧ v8 = .int .i64 20 ∧ w' = w)
    case atStart => exact ⟨rfl, rfl, rfl⟩
    case round =>
      obtain ⟨rfl, rfl, rfl⟩ := hrel
      go_wp2_with (first | (go_at_call 93; (with_reducible refine HI.out.mono ?_); rintro e we ⟨⟨u, rfl⟩, hl⟩; have HL := Aside0.mk hl; clear hl))
      go_loopg [6] 0 (fun kq v6 w' => v6 = .int .i64 20 ∧ w' = we)
      case atStart => exact ⟨rfl, rfl⟩
      case round =>
        obtain ⟨rfl, rfl⟩ := hrel
        go_wp2_with fail
        go_end0
        exact ⟨⟨_, rfl⟩, HL.out⟩
  · obtain rfl : n = 20 := by omega
    have HI2 : Aside0 (Calls Try.prog 93 #[.slice (some ⟨g, 0, none⟩) 20 cap, .int .i64 0, .int .i64 20, .func (.func 74) #[] #[]] w (SortPost l g cap w)) := ⟨HI.out⟩
    clear c hn HI
    have HI := HI2
    clear HI2
    go_enter Try.func86, Try.ntmps86
    go_wp2_with fail
    go_loopg [7, 8] 1 (fun kq v7 v8 w' => (kq = 1 ∧ v7 = .int .i64 0 ∧ v8 = .int .i64 20 ∧ w' = w) ∨ (kq = 0 ∧ v7 = .int .i64 20 ∧ v8 = .int .i64 40 ∧ Aside0 (∃ l' : List Mem, Mr w' g cap l' ∧ w.grownBy w' (some g) ∧ l'.Perm l ∧ l'.Pairwise lexM)))
    case atStart => exact .inl ⟨rfl, rfl, rfl, rfl⟩
    case round =>
      rcases hrel with ⟨rfl, rfl, rfl, rfl⟩ | ⟨rfl, rfl, rfl, HL⟩
      · go_wp2_with (first | (go_at_call 93; (with_reducible refine HI.out.mono ?_); rintro e we ⟨⟨u, rfl⟩, hl⟩; have HL := Aside0.mk hl; clear hl))
        go_roundg 0
        case measure => omega
        case rel => exact .inr ⟨rfl, rfl, rfl, HL⟩
      · go_wp2_with (first | (go_at_call 93; (with_reducible refine (HZ.out 20 (by omega) _).mono ?_); rintro e we ⟨⟨u, rfl⟩, rfl⟩))
        go_loopg [6] 0 (fun kq v6 w' => v6 = .int .i64 20 ∧ w' = we)
        case atStart => exact ⟨rfl, rfl⟩
        case round =>
          obtain ⟨rfl, rfl⟩ := hrel
          go_wp2_with fail
          go_end0
          exact ⟨⟨_, rfl⟩, HL.out⟩
theorem sortStable0 (w : World) : Calls Try.prog 73 #[.slice none 0 0, .func (.func 74) #[] #[]] w fun e w' => (∃ u, e = .returned u) ∧ w' = w := by
  have HZ := Aside0.mk (fun W => sort0 W)
  go_enter Try.func73, Try.ntmps73
  go_wp2_with (first | (go_at_call 86; (with_reducible refine (HZ.out _).mono ?_); rintro e we ⟨⟨u, rfl⟩, rfl⟩))
  go_end0
  exact ⟨⟨_, rfl⟩, rfl⟩
theorem sortStableC (l : List Mem) (g cap : Nat) (w : World) (h : Mr w g cap l) (hn : l.length ≤ 20) (hat : l.Pairwise (fun x y => x.2 < y.2)) :
    Calls Try.prog 73 #[.slice (some ⟨g, 0, none⟩) l.length cap, .func (.func 74) #[] #[]] w (SortPost l g cap w) := by
  have HS := Aside0.mk (sortC l g cap w h hn hat)
  clear h hn hat
  go_enter Try.func73, Try.ntmps73
  go_wp2_with (first | (go_at_call 86; (with_reducible refine HS.out.mono ?_); rintro e we ⟨⟨u, rfl⟩, hl⟩; have HL := Aside0.mk hl; clear hl))
  go_end0
  exact ⟨⟨_, rfl⟩, HL.out⟩
end Go.Proofs.Ytgpjkojnmeaoiaa.QV

/- vals.Copy and value.copies, by hand: what they make is the call's own. -/
namespace Go.Proofs.Ytgpjkojnmeaoiaa.QV
open Go Go.RowKit Go.Proofs.YtgpjkojnmeaoiaaW.PrintWords Go.Proofs.YtgpjkojnmeaoiaaW.PrintLast Go.Proofs.YtgpjkojnmeaoiaaW.PrintMore
set_option linter.unusedVariables false
set_option linter.unusedSimpArgs false
set_option maxRecDepth 100000
set_option maxHeartbeats 4000000
theorem clone_info9 : (Try.prog.info? 9).map (fun i => (i.zero, i.size, i.bytes)) = some (some (.string ⟨#[]⟩), 1, 16) := by kernel_rfl
theorem clone_eqN (w : World) (A : Option Addr) (n c : Nat) : (binOp .eql 22 (.slice A n c) (.slice none 0 0)).run Try.prog w = .ok (.bool A.isNone) w := Go.Lib.run_eql_slice_nil w 22 9 A n c 0 0 Try.underlying22
theorem clone_empty (w : World) : Kd.R Kd.string 9 (w.alloc (.cells #[] 9)) w.heap.size (fun k_ => w.heap.size ≤ k_) (.slice (some ⟨w.heap.size, 0, none⟩) 0 0) [] := by
  refine Kd.R_of_own (h1 := fun _ => rfl) ?_ (fun k hk => ?_)
  · refine ⟨by simp [encs], .inr ⟨w.heap.size, 0, #[], rfl, Nat.le_refl _, heap_alloc_new w _, by simp, by simp [maxLen], by simp, by simp [encs]⟩⟩
  · simp [Value.ownBlock] at hk
    subst hk
    exact Nat.le_refl _
theorem cloneC (A0 : Option Addr) (c0 : Nat) (l0 : List ByteArray) (w : World) (hr0 : Kd.C Kd.string w A0 l0.length l0) (hc0 : l0.length ≤ c0) (hl : l0.length ≤ 8000000000000) :
    Calls Try.prog 77 #[.slice A0 l0.length c0] w fun e w' => ∃ v_, e = .returned v_ ∧ Kd.R Kd.string 9 w' w.heap.size (fun k_ => w.heap.size ≤ k_) v_ l0 ∧ Below w.heap.size w w' := by
  have HR := Aside0.mk hr0
  have hq := fun w => clone_eqN w A0 l0.length c0
  clear hr0
  cases A0 with
  | none =>
    have hz : l0 = [] := by
      cases l0 with
      | nil => rfl
      | cons a l => obtain ⟨ad, e, _⟩ := HR.out.2.2 (by simp); cases e
    subst hz
    clear hq
    have hq := fun w => clone_eqN w none 0 c0
    show Calls Try.prog 77 #[.slice none 0 c0] w _
    go_enter Try.func77, Try.ntmps77
    go_wp2
    go_ret
    exact ⟨_, rfl, Kd.R_nil _ _ _ _ _, Below.refl _ _⟩
  | some ad =>
    go_enter Try.func77, Try.ntmps77
    go_wp2_with ((at_builtin; refine Kd.R_append_row (P := Try.prog) (w0 := w) (W := w.alloc (.cells #[] 9)) (h1 := fun _ => rfl) Value.string ByteArray.empty w.heap.size rfl (.tmp 5) (.tmp 6) 22 9 (.string ⟨#[]⟩) 16 rfl Try.underlying22 clone_info9 rfl (by decide) (.slice (some ⟨w.heap.size, 0, none⟩) 0 0) [] l0 (some ad) l0.length c0 (fun k_ => w.heap.size ≤ k_) rfl rfl (fun k hk => Nat.le_trans (Nat.le_of_lt (by simp)) hk) (clone_empty _) (Kd.C_below HR.out ((Below.refl _ _).alloc (Nat.le_refl _) _)) ((Below.refl _ _).alloc (Nat.le_refl _) _) (by simp) (by simp; omega) ?_; intro v1 w1 ho hb hg hat; rw [List.nil_append] at ho; have HO := Aside0.mk ho; have HW := Aside0.mk hb; clear ho hb hg hat))
    go_ret
    exact ⟨_, rfl, HO.out, HW.out⟩
theorem info28 : (Try.prog.info? 28).map (fun i => (i.zero, i.size, i.bytes)) = some (some (.agg #[.int .i64 0, .int .i64 0, .string ⟨#[]⟩, .slice none 0 0, .slice none 0 0]), 5, 80) := by kernel_rfl
theorem stepE {ops : Array Oper} {o : Oper} {a : Act} {Q : Exit → Act → World → Prop} {K : Act → World → Prop} {E : Prop} {w0 W : World} (hgd : o.guard = none) (base : Nat) (s x : Operand)
    (ho : o.op = .call { callee := .builtin .append, args := #[s, x], argTypes := #[23, 23] }) (v : Value) (xs : List S28) (y : S28) (cs : List Value) (ok okp : Nat → Prop) (hs : a.eval s = v)
    (hx : a.eval x = .slice (some ⟨W.heap.size, 0, none⟩) 1 1) (hp : k28.M W base okp y cs) (hokp : ∀ k, okp k → ok k ∧ some k ≠ v.ownBlock) (hfresh : ∀ k, W.heap.size ≤ k → ok k) (HO : k28.R 28 W base ok v xs) (HB : Below base w0 W) (hbase : base ≤ W.heap.size) (hl : xs.length + 1 ≤ 1000000000001)
    (h : ∀ v1 w1, k28.R 28 w1 base ok v1 (xs ++ [y]) → Below base w0 w1 → W.grownBy w1 v.ownBlock → K (a.put o.dst v1) w1) :
    if Region.wanted o (yielded ops a.tmps) = true then Oper.wp Try.prog o a (W.alloc (.cells cs.toArray 28)) K Q else E := by
  have hw : Region.wanted o (yielded ops a.tmps) = true := by simp [Region.wanted, hgd]
  rw [if_pos hw]
  have H := Kd.R_append_step (P := Try.prog) (ops := ops) (o := o) (a := a) (Q := Q) (Kc := K) k28 (w0 := w0) (W := W) base hw s x 23 28 (.agg #[.int .i64 0, .int .i64 0, .string ⟨#[]⟩, .slice none 0 0, .slice none 0 0]) 80 ho Try.underlying23 info28 rfl (by decide) (by omega) v xs y cs ok okp hs hx hp hokp hfresh HO HB hbase (by omega) (fun v1 w1 h1 h2 h3 _ => h v1 w1 h1 h2 h3)
  rw [if_pos hw] at H
  exact H
/-- Between two rounds of Copy: the value that is made, in the first block of the call; its keys' row below s3, its elements' rows from s3 on. -/
structure Cs (w W : World) (x : S28) (s3 : Nat) (v3 v4 : Value) (xs : List S28) : Prop where
  z : Below w.heap.size w W
  blk : W.heap[w.heap.size]? = some (.cells #[.int .i64 x.f0, .int .i64 x.f1, .string x.f2, v3, v4] 28 (0, 0))
  res : W.heap[w.heap.size + 1]? = some (.cells #[.int .i64 0, .int .i64 0, .string ⟨#[]⟩, .slice none 0 0, .slice none 0 0] 28 (0, 0))
  r3 : Kd.string.R 9 W (w.heap.size + 2) (fun k => k < s3) v3 x.f3
  r4 : k28.R 28 W (w.heap.size + 2) (fun k => s3 ≤ k) v4 xs
  lo : w.heap.size + 2 ≤ s3
  hi : s3 ≤ W.heap.size
theorem Cs.below {w W W' : World} {x : S28} {s3 : Nat} {v3 v4 : Value} {xs : List S28} (h : Cs w W x s3 v3 v4 xs) (hb : Below W.heap.size W W') : Cs w W' x s3 v3 v4 xs :=
  ⟨below_step h.z hb, (hb.block _ (Array.getElem?_eq_some_iff.1 h.blk).1).trans h.blk, (hb.block _ (Array.getElem?_eq_some_iff.1 h.res).1).trans h.res,
   (Kd.R_mono (Kd.R_move (Kd.R_bound h.r3) (fun k hk => hb.block k hk.2.2.1)) (fun k hk => hk.1)), (Kd.R_mono (Kd.R_move (Kd.R_bound h.r4) (fun k hk => hb.block k hk.2.2.1)) (fun k hk => hk.1)), h.lo, Nat.le_trans h.hi hb.size⟩
theorem Cs.cells {w W : World} {x : S28} {s3 : Nat} {v3 v4 : Value} {xs : List S28} (h : Cs w W x s3 v3 v4 xs) : W.cell? ⟨w.heap.size, 0, none⟩ = some (.int .i64 x.f0) ∧ W.cell? ⟨w.heap.size, 1, none⟩ = some (.int .i64 x.f1) ∧ W.cell? ⟨w.heap.size, 2, none⟩ = some (.string x.f2) ∧ W.cell? ⟨w.heap.size, 3, none⟩ = some v3 ∧ W.cell? ⟨w.heap.size, 4, none⟩ = some v4 ∧ ∀ j, W.frozen? ⟨w.heap.size, j, none⟩ = false := by
  have hb := h.blk
  refine ⟨?_, ?_, ?_, ?_, ?_, fun j => ?_⟩ <;> simp [World.cell?, World.frozen?, hb]
theorem set5 {w : World} {b : Nat} {u0 u1 u2 u3 u4 : Value} (h : w.heap[b]? = some (.cells #[u0, u1, u2, u3, u4] 28 (0, 0))) (v : Value) : (w.setCell ⟨b, 4, none⟩ v).heap[b]? = some (.cells #[u0, u1, u2, u3, v] 28 (0, 0)) ∧ w.grownBy (w.setCell ⟨b, 4, none⟩ v) (some b) :=
  ⟨heap_setCell_same _ _ _ _ _ _ h, ⟨rfl, rfl, rfl, by simp, fun k _ hk => Below.heap_setCell _ _ _ k (fun e => hk (by rw [e]))⟩⟩
theorem set3 {w : World} {b : Nat} {u0 u1 u2 u3 u4 : Value} (h : w.heap[b]? = some (.cells #[u0, u1, u2, u3, u4] 28 (0, 0))) (v : Value) : (w.setCell ⟨b, 3, none⟩ v).heap[b]? = some (.cells #[u0, u1, u2, v, u4] 28 (0, 0)) ∧ w.grownBy (w.setCell ⟨b, 3, none⟩ v) (some b) :=
  ⟨heap_setCell_same _ _ _ _ _ _ h, ⟨rfl, rfl, rfl, by simp, fun k _ hk => Below.heap_setCell _ _ _ k (fun e => hk (by rw [e]))⟩⟩
/-- The append in place, and the store of what it gave. -/
theorem Cs.round {w W w1 : World} {x y : S28} {s3 : Nat} {v3 v4 v1 : Value} {xs : List S28} (h : Cs w W x s3 v3 v4 xs) (ho : k28.R 28 w1 (w.heap.size + 2) (fun k => s3 ≤ k) v1 (xs ++ [y])) (hb : Below (w.heap.size + 2) W w1) (hg : W.grownBy w1 v4.ownBlock) :
    Cs w (w1.setCell ⟨w.heap.size, 4, none⟩ v1) x s3 v3 v1 (xs ++ [y]) := by
  have hlo := h.lo
  have hhi := h.hi
  have b0 := (hb.block w.heap.size (by omega)).trans h.blk
  have b1 := (hb.block (w.heap.size + 1) (by omega)).trans h.res
  obtain ⟨c0, cg⟩ := set5 b0 v1
  have hs1 := hb.size
  refine ⟨?_, c0, (cg.block _ (by omega) (fun e => by have := Option.some.inj e; omega)).trans b1, ?_, ?_, h.lo, ?_⟩
  · exact (h.z.trans (hb.mono (by omega))).trans ⟨cg.os, cg.tape, cg.output, cg.size, fun k hk => cg.block k (by omega) (fun e => by have := Option.some.inj e; omega)⟩
  · refine Kd.R_mono (Kd.R_move (Kd.R_bound h.r3) (fun k hk => ?_)) (fun k hk => hk.1)
    obtain ⟨k1, k2, k3, _⟩ := hk
    rw [cg.block k (by omega) (fun e => by have := Option.some.inj e; omega)]
    refine hg.block k k3 (fun e => ?_)
    have := h.r4.1 k e.symm
    omega
  · refine Kd.R_mono (Kd.R_move (Kd.R_bound ho) (fun k hk => ?_)) (fun k hk => hk.1)
    obtain ⟨k1, k2, k3, _⟩ := hk
    exact cg.block k k3 (fun e => by have := Option.some.inj e; omega)
  · have := cg.size
    omega
/-- The result, stored behind the loop. -/
theorem Cs.final {w W : World} {x : S28} {s3 : Nat} {v3 v4 : Value} (h : Cs w W x s3 v3 v4 x.f4) : ∃ W', ((((W.setCell ⟨w.heap.size + 1, 0, none⟩ (.int .i64 x.f0)).setCell ⟨w.heap.size + 1, 1, none⟩ (.int .i64 x.f1)).setCell ⟨w.heap.size + 1, 2, none⟩ (.string x.f2)).setCell ⟨w.heap.size + 1, 3, none⟩ v3).setCell ⟨w.heap.size + 1, 4, none⟩ v4 = W' ∧
    W'.heap[w.heap.size + 1]? = some (.cells #[.int .i64 x.f0, .int .i64 x.f1, .string x.f2, v3, v4] 28 (0, 0)) ∧ k28.M W' w.heap.size (fun _ => True) x [.int .i64 x.f0, .int .i64 x.f1, .string x.f2, v3, v4] ∧ Below w.heap.size w W' := by
  have gc : ∀ (W : World) (j : Nat) (v : Value), W.grownBy (W.setCell ⟨w.heap.size + 1, j, none⟩ v) (some (w.heap.size + 1)) := fun W j v => ⟨rfl, rfl, rfl, by simp, fun k _ hk => Below.heap_setCell _ _ _ k (fun e => hk (by rw [e]))⟩
  have hg := ((((gc W 0 (.int .i64 x.f0)).trans (gc _ 1 (.int .i64 x.f1))).trans (gc _ 2 (.string x.f2))).trans (gc _ 3 v3)).trans (gc _ 4 v4)
  have hlo := h.lo
  have hhi := h.hi
  refine ⟨_, rfl, ?_, ?_, ?_⟩
  · rw [heap_setCell_same _ _ _ _ _ _ (heap_setCell_same _ _ _ _ _ _ (heap_setCell_same _ _ _ _ _ _ (heap_setCell_same _ _ _ _ _ _ (heap_setCell_same _ _ _ _ _ _ h.res))))]
    rfl
  · refine k28.M_lower (base := w.heap.size + 2) (by omega) (k28_mkM _ _ _ _ ?_ ?_)
    · refine Kd.R_mono (Kd.R_move (Kd.R_bound h.r3) (fun k hk => ?_)) (fun k hk => trivial)
      obtain ⟨k1, k2, k3, _⟩ := hk
      exact hg.block k k3 (fun e => by have := Option.some.inj e; omega)
    · refine Kd.R_mono (Kd.R_move (Kd.R_bound h.r4) (fun k hk => ?_)) (fun k hk => trivial)
      obtain ⟨k1, k2, k3, _⟩ := hk
      exact hg.block k k3 (fun e => by have := Option.some.inj e; omega)
  · exact h.z.trans ⟨hg.os, hg.tape, hg.output, hg.size, fun k hk => hg.block k (by omega) (fun e => by have := Option.some.inj e; omega)⟩
theorem copyC (st : Nat) : ∀ (x : S28) (w : World) {A3 : Option Addr} {c3 : Nat} {A4 : Option Addr} {c4 : Nat}, SizeOf.sizeOf x < st → cnt x ≤ 1000000000000 → Rd w A3 c3 A4 c4 x →
    Calls Try.prog 66 #[.agg #[.int .i64 x.f0, .int .i64 x.f1, .string x.f2, .slice A3 x.f3.length c3, .slice A4 x.f4.length c4]] w fun e w' => ∃ v3 v4, e = .returned (.agg #[.int .i64 x.f0, .int .i64 x.f1, .string x.f2, v3, v4]) ∧ k28.M w' w.heap.size (fun _ => True) x [.int .i64 x.f0, .int .i64 x.f1, .string x.f2, v3, v4] ∧ Below w.heap.size w w' := by
  induction st with
  | zero => intro x w A3 c3 A4 c4 h; omega
  | succ st ih =>
  intro x w A3 c3 A4 c4 hs hc hr
  have HS := Aside0.mk hs
  have HC := Aside0.mk hc
  have HR := Aside0.mk hr
  have HIH := Aside0.mk ih
  have hB1 := Bv.new hr
  have ha1 := new_below w (.cells #[.int .i64 x.f0, .int .i64 x.f1, .string x.f2, .slice A3 x.f3.length c3, .slice A4 x.f4.length c4] 28)
  have ha2 := new_below (w.alloc (.cells #[.int .i64 x.f0, .int .i64 x.f1, .string x.f2, .slice A3 x.f3.length c3, .slice A4 x.f4.length c4] 28)) (.cells #[.int .i64 0, .int .i64 0, .string ⟨#[]⟩, .slice none 0 0, .slice none 0 0] 28)
  have HB := Aside0.mk (hB1.below ha2)
  have HW := Aside0.mk (below_step ha1 ha2)
  clear hs hc hr ih hB1 ha1 ha2
  go_enter Try.func66, Try.ntmps66
  go_upto_region 1 with fail
  have HRes : Aside0 (((w.alloc (.cells #[.int .i64 x.f0, .int .i64 x.f1, .string x.f2, .slice A3 x.f3.length c3, .slice A4 x.f4.length c4] 28)).alloc (.cells #[.int .i64 0, .int .i64 0, .string ⟨#[]⟩, .slice none 0 0, .slice none 0 0] 28)).heap[w.heap.size + 1]? = some (.cells #[.int .i64 0, .int .i64 0, .string ⟨#[]⟩, .slice none 0 0, .slice none 0 0] 28 (0, 0))) := ⟨by
    have h := heap_alloc_new (w.alloc (.cells #[.int .i64 x.f0, .int .i64 x.f1, .string x.f2, .slice A3 x.f3.length c3, .slice A4 x.f4.length c4] 28)) (.cells #[.int .i64 0, .int .i64 0, .string ⟨#[]⟩, .slice none 0 0, .slice none 0 0] 28)
    simpa using h⟩
  have HSz : Aside0 (((w.alloc (.cells #[.int .i64 x.f0, .int .i64 x.f1, .string x.f2, .slice A3 x.f3.length c3, .slice A4 x.f4.length c4] 28)).alloc (.cells #[.int .i64 0, .int .i64 0, .string ⟨#[]⟩, .slice none 0 0, .slice none 0 0] 28)).heap.size = w.heap.size + 2) := ⟨by simp⟩
  obtain ⟨W1, hW1⟩ : ∃ W1, (w.alloc (.cells #[.int .i64 x.f0, .int .i64 x.f1, .string x.f2, .slice A3 x.f3.length c3, .slice A4 x.f4.length c4] 28)).alloc (.cells #[.int .i64 0, .int .i64 0, .string ⟨#[]⟩, .slice none 0 0, .slice none 0 0] 28) = W1 := ⟨_, rfl⟩
  rw [hW1] at HRes HSz HB HW
  rw [hW1]
  clear hW1
  have HLn : Aside0 (x.f3.length ≤ 1000000000000 ∧ x.f4.length ≤ 1000000000000) := ⟨by
    have h1 := cnt_eq x
    have h2 : x.f3.length ≤ ksz x.f3 := by
      have : ∀ l : List ByteArray, l.length ≤ ksz l := fun l => by
        induction l with
        | nil => simp [ksz]
        | cons k l ih => simp only [List.length_cons, ksz]; omega
      exact this _
    have h3 : x.f4.length ≤ cntL x.f4 := by
      have : ∀ l : List S28, l.length ≤ cntL l := fun l => by
        induction l with
        | nil => simp [cntL]
        | cons k l ih => simp only [List.length_cons, cntL]; have := cnt_eq k; omega
      exact this _
    have := HC.out
    omega⟩
  have HCl := Aside0.mk (cloneC A3 c3 x.f3 W1 (HB.out.rd.r3) HB.out.rd.k3 (by have := HLn.out; omega))
  have hkl : x.f4.length ≤ 1000000000000 := HLn.out.2
  obtain ⟨q0, q1, q2, q3, q4⟩ := HB.out.cells
  go_upto_region 2 with (first | (go_at_call 77; (with_reducible refine HCl.out.mono ?_); rintro e we ⟨v3, rfl, h3, hb⟩; obtain ⟨X3, d3, e3⟩ := Kd.R_slice h3; obtain ⟨n3, hn3⟩ : ∃ n3, x.f3.length = n3 := ⟨_, rfl⟩; rw [hn3] at e3; clear hn3; subst e3; have H3 := Aside0.mk h3; have Hbe := Aside0.mk hb; have HBe := Aside0.mk (HB.out.below hb); obtain ⟨z0, z1, z2, z3, z4⟩ := HBe.out.cells; have zf : ∀ j, we.frozen? ⟨w.heap.size, j, none⟩ = false := (fun j => by have h := HBe.out.blk; simp [World.frozen?, h]); clear h3 hb))
  go_upto_region 4 with fail
  have HCs : Aside0 (Cs w ((we.setCell ⟨w.heap.size, 3, none⟩ (.slice X3 n3 d3)).setCell ⟨w.heap.size, 4, none⟩ (.slice none 0 0)) x we.heap.size (.slice X3 n3 d3) (.slice none 0 0) []) := ⟨by
    have hsz := HSz.out
    have hs2 := Hbe.out.size
    obtain ⟨k1, g1⟩ := set3 HBe.out.blk (.slice X3 n3 d3)
    obtain ⟨k2, g2⟩ := set5 k1 (.slice none 0 0)
    have g := g1.trans g2
    refine ⟨?_, k2, ?_, ?_, Kd.R_nil _ _ _ _ _, by omega, by have := g.size; omega⟩
    · exact (HW.out.trans (Hbe.out.mono (by omega))).trans ⟨g.os, g.tape, g.output, g.size, fun k hk => g.block k (by omega) (fun e => by have := Option.some.inj e; omega)⟩
    · rw [g.block _ (by omega) (fun e => by have := Option.some.inj e; omega), Hbe.out.block _ (by omega)]
      exact HRes.out
    · rw [← hsz]
      refine Kd.R_mono (Kd.R_move (Kd.R_bound H3.out) (fun k hk => ?_)) (fun k hk => hk.2.2.1)
      obtain ⟨c1, c2, c3, _⟩ := hk
      exact g.block k c3 (fun e => by have := Option.some.inj e; omega)⟩
  obtain ⟨s3, hs3⟩ : ∃ s3, we.heap.size = s3 := ⟨_, rfl⟩
  obtain ⟨W3, hW3⟩ : ∃ W3, (we.setCell ⟨w.heap.size, 3, none⟩ (.slice X3 n3 d3)).setCell ⟨w.heap.size, 4, none⟩ (.slice none 0 0) = W3 := ⟨_, rfl⟩
  rw [hW3, hs3] at HCs
  rw [hW3]
  clear hW3 hs3 H3 Hbe HBe HB HW HRes HSz HCl q0 q1 q2 q3 q4 z0 z1 z2 z3 z4 zf
  go_wp2_with fail
  go_loopg [15] x.f4.length (fun kq v15 w' => ∃ (i : Nat) (X4 : Option Addr) (n4 d4 : Nat), kq + i = x.f4.length ∧ v15 = .int .i64 (i : Int) ∧ Aside0 (Cs w w' x s3 (.slice X3 n3 d3) (.slice X4 n4 d4) (x.f4.take i)))
  case atStart => exact ⟨0, none, 0, 0, by omega, rfl, HCs⟩
  case round =>
    clear HCs
    obtain ⟨i, X4, n4, d4, hi, rfl, HC0⟩ := hrel
    by_cases ci : i < x.f4.length
    · have g0 : decide ((i : Int) < (x.f4.length : Int)) = true := decide_eq_true (by omega)
      have g2 : (0 ≤ (i : Int)) = True := eq_true (by omega)
      have g3 : ((i : Int) < (x.f4.length : Int)) = True := eq_true (by omega)
      obtain ⟨j1, rfl⟩ : ∃ j1, gk = j1 + 1 := ⟨gk - 1, by omega⟩
      have hil : x.f4[i]? = some x.f4[i] := List.getElem?_eq_getElem ci
      have hm := List.getElem_mem ci
      have hz := sz_mem hm
      have hcy : cnt x.f4[i] ≤ 1000000000000 := by
        have h1 := HC.out
        have h2 := cnt_eq x
        have h3 := cntL_take hil
        have h4 := cntL_le x.f4 (i + 1)
        omega
      obtain ⟨y, hq'⟩ : ∃ y, x.f4[i] = y := ⟨_, rfl⟩
      rw [hq'] at hil hz hcy
      obtain ⟨ad, Y3, y3, Y4, y4, e1, he0⟩ := el_at HR.out.r4 i ci hil
      have HTk : Aside0 (x.f4.take (i + 1) = x.f4.take i ++ [y]) := ⟨by rw [List.take_add_one, hil]; rfl⟩
      have HI := Aside0.mk hi
      have HY := Aside0.mk (fun W (hb : Below w.heap.size w W) => HIH.out y W (by have := HS.out; omega) hcy (he0.rd.below hb))
      have HEr := Aside0.mk (he0.rd.below HC0.out.z)
      obtain ⟨e0, e2, e3, e4, e5, _⟩ := he0.below HC0.out.z
      clear hil hq' hi hm hz hcy he0
      subst e1
      go_upto_region 7 with fail
      have HE := Aside0.mk (Bv.new HEr.out)
      have HCs := Aside0.mk (HC0.out.below (new_below wr (.cells #[.int .i64 y.f0, .int .i64 y.f1, .string y.f2, .slice Y3 y.f3.length y3, .slice Y4 y.f4.length y4] 28)))
      obtain ⟨eb, heb⟩ : ∃ eb, wr.heap.size = eb := ⟨_, rfl⟩
      obtain ⟨W4, hW4⟩ : ∃ W4, wr.alloc (.cells #[.int .i64 y.f0, .int .i64 y.f1, .string y.f2, .slice Y3 y.f3.length y3, .slice Y4 y.f4.length y4] 28) = W4 := ⟨_, rfl⟩
      have HEb : Aside0 (wr.heap.size ≤ eb) := ⟨by omega⟩
      rw [hW4, heb] at HE
      rw [hW4] at HCs
      rw [hW4, heb]
      clear hW4 heb e0 e2 e3 e4 e5 HEr
      have HK : Aside0 (∀ W, Below W4.heap.size W4 W → (fun w' => w'.cell? ⟨w.heap.size, 4, none⟩ = some (.slice X4 n4 d4) ∧ w'.frozen? ⟨w.heap.size, 4, none⟩ = false ∧ w'.cell? ⟨eb, 0, none⟩ = some (.int .i64 y.f0) ∧ w'.cell? ⟨eb, 1, none⟩ = some (.int .i64 y.f1) ∧ w'.cell? ⟨eb, 2, none⟩ = some (.string y.f2) ∧ w'.cell? ⟨eb, 3, none⟩ = some (.slice Y3 y.f3.length y3) ∧ w'.cell? ⟨eb, 4, none⟩ = some (.slice Y4 y.f4.length y4)) W) := ⟨fun W hb => by
        obtain ⟨a0, a1, a2, a3, a4, a5⟩ := (HCs.out.below hb).cells
        obtain ⟨b0, b1, b2, b3, b4⟩ := (HE.out.below hb).cells
        exact ⟨a4, a5 4, b0, b1, b2, b3, b4⟩⟩
      have HX : Aside0 (Below W4.heap.size W4 W4.drew) := ⟨(Below.refl _ _).drew⟩
      have HZd : Aside0 (Below w.heap.size w W4.drew) := ⟨below_step HCs.out.z HX.out⟩
      refine start_ (n := 8) (S := fun w' => w'.cell? ⟨w.heap.size, 4, none⟩ = some (.slice X4 n4 d4) ∧ w'.frozen? ⟨w.heap.size, 4, none⟩ = false ∧ w'.cell? ⟨eb, 0, none⟩ = some (.int .i64 y.f0) ∧ w'.cell? ⟨eb, 1, none⟩ = some (.int .i64 y.f1) ∧ w'.cell? ⟨eb, 2, none⟩ = some (.string y.f2) ∧ w'.cell? ⟨eb, 3, none⟩ = some (.slice Y3 y.f3.length y3) ∧ w'.cell? ⟨eb, 4, none⟩ = some (.slice Y4 y.f4.length y4)) (ds := [7]) #[false, false, false, false, false, false, false, false] (by kernel_rfl) rfl (by rfl) (HK.out _ HX.out) (fun hS => ?_)
      refine take_ (i := 0) (N := some 19) (v := (.pointer (some ⟨w.heap.size, 4, none⟩))) #[true, false, false, false, false, false, false, false] rfl rfl (by kernel_rfl) (fun _ _ _ h => h) (Or.inl ⟨by rfl, by intro w hSw; (try dsimp only at hSw); go_simp⟩) hS rfl ?_
      try simp only [Act.put, List.setIfInBounds_toArray, List.set_cons_zero, List.set_cons_succ]
      refine take_ (i := 1) (N := some 20) (v := (.slice X4 n4 d4)) #[true, true, false, false, false, false, false, false] rfl rfl (by kernel_rfl) (fun _ _ _ h => h) (Or.inl ⟨by rfl, by intro w hSw; (try dsimp only at hSw); go_simp⟩) hS rfl ?_
      try simp only [Act.put, List.setIfInBounds_toArray, List.set_cons_zero, List.set_cons_succ]
      refine take_ (i := 2) (N := some 21) (v := (.agg #[.int .i64 y.f0, .int .i64 y.f1, .string y.f2, .slice Y3 y.f3.length y3, .slice Y4 y.f4.length y4])) #[true, true, true, false, false, false, false, false] rfl rfl (by kernel_rfl) (fun _ _ _ h => h) (Or.inl ⟨by rfl, by intro w hSw; (try dsimp only at hSw); go_simp⟩) hS rfl ?_
      try simp only [Act.put, List.setIfInBounds_toArray, List.set_cons_zero, List.set_cons_succ]
      refine one_ (i := 3) (N := some 22) #[true, true, true, true, false, false, false, false] rfl rfl (by kernel_rfl) (by decide) ?_
      intro K hK
      go_simp
      go_at_call 66; (with_reducible refine (HY.out _ HZd.out).mono ?_); rintro e we ⟨u3, u4, rfl, hM, hb⟩; have HM := Aside0.mk hM; have HX2 := Aside0.mk (below_step HX.out hb); clear HX hM hb; have HX := HX2; clear HX2; have HCw := Aside0.mk (HCs.out.below HX.out)
      refine hK.out _ _ (HK.out _ HX.out) (fun hS => ?_)
      clear hK K
      try simp only [Act.put, List.setIfInBounds_toArray, List.set_cons_zero, List.set_cons_succ]
      refine one_ (i := 4) (N := some 23) #[true, true, true, true, true, false, false, false] rfl rfl (by kernel_rfl) (by decide) ?_
      intro K hK
      go_simp
      have HXs := Aside0.mk HX.out; have HX2 := Aside0.mk (below_step HX.out (new_below we (.cells #[.int .i64 y.f0, .int .i64 y.f1, .string y.f2, u3, u4] 28))); clear HX; have HX := HX2; clear HX2
      refine hK.out _ _ (HK.out _ HX.out) (fun hS => ?_)
      clear hK K
      try simp only [Act.put, List.setIfInBounds_toArray, List.set_cons_zero, List.set_cons_succ]
      refine one_ (i := 5) (N := some 24) #[true, true, true, true, true, true, false, false] rfl rfl (by kernel_rfl) (by decide) ?_
      intro K hK
      refine stepE (w0 := we) rfl (w.heap.size + 2) (.tmp 20) (.tmp 23) rfl (.slice X4 n4 d4) (x.f4.take i) y [.int .i64 y.f0, .int .i64 y.f1, .string y.f2, u3, u4] (fun k => s3 ≤ k) (fun k => W4.heap.size ≤ k) rfl rfl (k28.M_lower (Nat.le_trans HCs.out.lo HCs.out.hi) (k28.M_mono (fun k hk => hk.2.1) (k28.M_bound HM.out))) (fun k hk => ⟨by have h2 : W4.heap.size ≤ k := hk; have := HCs.out.hi; show s3 ≤ k; omega, fun e => by have h1 := ((Kd.R_bound HCs.out.r4).1 k e.symm).2.2.1; have h2 : W4.heap.size ≤ k := hk; omega⟩) (fun k hk => by have := HCw.out.hi; show s3 ≤ k; omega) HCw.out.r4 (Below.refl _ _) (by have := HCw.out.lo; have := HCw.out.hi; omega) (by rw [List.length_take]; have := HLn.out; omega) ?_; intro v1 w1 ho hb hg; obtain ⟨X5, d5, e5⟩ := Kd.R_slice ho; obtain ⟨n5, hn5⟩ : ∃ n5, (x.f4.take i ++ [y]).length = n5 := ⟨_, rfl⟩; rw [hn5] at e5; clear hn5; subst e5; have HR2 := Aside0.mk (HCw.out.round ho hb hg)
      have hS5 : (fun w' => w'.cell? ⟨w.heap.size, 4, none⟩ = some (.slice X4 n4 d4) ∧ w'.frozen? ⟨w.heap.size, 4, none⟩ = false ∧ w'.cell? ⟨eb, 0, none⟩ = some (.int .i64 y.f0) ∧ w'.cell? ⟨eb, 1, none⟩ = some (.int .i64 y.f1) ∧ w'.cell? ⟨eb, 2, none⟩ = some (.string y.f2) ∧ w'.cell? ⟨eb, 3, none⟩ = some (.slice Y3 y.f3.length y3) ∧ w'.cell? ⟨eb, 4, none⟩ = some (.slice Y4 y.f4.length y4)) w1 := by
        obtain ⟨a0, a1, a2, a3, a4, a5⟩ := HCw.out.cells
        have hne : (Value.slice X4 n4 d4).ownBlock ≠ some eb := fun e => by have h1 := ((Kd.R_bound HC0.out.r4).1 eb e).2.2.1; have := HEb.out; omega
        have hbw : w1.heap[w.heap.size]? = we.heap[w.heap.size]? := hb.block _ (by omega)
        have hew := (HE.out.below HXs.out)
        have hlt : eb < we.heap.size := (Array.getElem?_eq_some_iff.1 hew.blk).1
        have hb2 : w1.heap[eb]? = we.heap[eb]? := hg.block eb hlt (fun e => hne e.symm)
        obtain ⟨b0, b1, b2, b3, b4⟩ := hew.cells
        have c : ∀ (b j : Nat), w1.heap[b]? = we.heap[b]? → w1.cell? ⟨b, j, none⟩ = we.cell? ⟨b, j, none⟩ ∧ w1.frozen? ⟨b, j, none⟩ = we.frozen? ⟨b, j, none⟩ := fun b j h => by simp [World.cell?, World.frozen?, h]
        exact ⟨(c _ 4 hbw).1.trans a4, (c _ 4 hbw).2.trans (a5 4), (c _ 0 hb2).1.trans b0, (c _ 1 hb2).1.trans b1, (c _ 2 hb2).1.trans b2, (c _ 3 hb2).1.trans b3, (c _ 4 hb2).1.trans b4⟩
      clear ho hb hg
      refine hK.out _ _ hS5 (fun hS => ?_)
      clear hK K hS5
      try simp only [Act.put, List.setIfInBounds_toArray, List.set_cons_zero, List.set_cons_succ]
      refine take_ (i := 6) (N := some 25) (v := (.pointer (some ⟨w.heap.size, 4, none⟩))) #[true, true, true, true, true, true, true, false] rfl rfl (by kernel_rfl) (fun _ _ _ h => h) (Or.inl ⟨by rfl, by intro w hSw; (try dsimp only at hSw); go_simp⟩) hS rfl ?_
      try simp only [Act.put, List.setIfInBounds_toArray, List.set_cons_zero, List.set_cons_succ]
      have hfz := hS.2.1
      have hcl := hS.1
      refine last_ (i := 7) (N := none) #[true, true, true, true, true, true, true, true] rfl rfl (by kernel_rfl) (by decide) ?_
      intro K hK
      go_simp
      refine hK.out _ _ ?_
      clear hK K hfz hcl
      refine done_ (by kernel_rfl) ?_
      go_wp2_with fail
      go_roundg j1
      case measure => omega
      case rel => exact ⟨i + 1, X5, n5, d5, by have := HI.out; omega, rfl, ⟨by rw [HTk.out]; exact HR2.out⟩⟩
    · have g0 : decide (i < x.f4.length) = false := decide_eq_false ci
      have HC1 : Aside0 (Cs w wr x s3 (.slice X3 n3 d3) (.slice X4 n4 d4) x.f4) := ⟨by have h := HC0.out; rw [List.take_of_length_le (by omega)] at h; exact h⟩
      clear HC0 ci hi
      obtain ⟨a0, a1, a2, a3, a4, a5⟩ := HC1.out.cells
      obtain ⟨W', hW', hr1, hM, hb⟩ := HC1.out.final
      have HF := Aside0.mk hW'
      have HMf := Aside0.mk hM
      have HBf := Aside0.mk hb
      have HRf := Aside0.mk hr1
      have hres := HC1.out.res
      have t0 : ∀ j, wr.frozen? ⟨w.heap.size + 1, j, none⟩ = false := fun j => by simp [World.frozen?, hres]
      have t1 : wr.cell? ⟨w.heap.size + 1, 0, none⟩ = some (.int .i64 0) ∧ wr.cell? ⟨w.heap.size + 1, 1, none⟩ = some (.int .i64 0) ∧ wr.cell? ⟨w.heap.size + 1, 2, none⟩ = some (.string ⟨#[]⟩) ∧ wr.cell? ⟨w.heap.size + 1, 3, none⟩ = some (.slice none 0 0) ∧ wr.cell? ⟨w.heap.size + 1, 4, none⟩ = some (.slice none 0 0) := by simp [World.cell?, hres]
      obtain ⟨t1, t2, t3, t4, t5⟩ := t1
      clear hW' hr1 hM hb hres
      go_wp2_with fail
      rw [HF.out]
      have u : W'.cell? ⟨w.heap.size + 1, 0, none⟩ = some (.int .i64 x.f0) ∧ W'.cell? ⟨w.heap.size + 1, 1, none⟩ = some (.int .i64 x.f1) ∧ W'.cell? ⟨w.heap.size + 1, 2, none⟩ = some (.string x.f2) ∧ W'.cell? ⟨w.heap.size + 1, 3, none⟩ = some (.slice X3 n3 d3) ∧ W'.cell? ⟨w.heap.size + 1, 4, none⟩ = some (.slice X4 n4 d4) := by
        have h := HRf.out
        simp [World.cell?, h]
      obtain ⟨u0, u1, u2, u3, u4⟩ := u
      refine bodyPost_ret (v := .agg #[.int .i64 x.f0, .int .i64 x.f1, .string x.f2, .slice X3 n3 d3, .slice X4 n4 d4]) (by simp [results, Try.results66, go_sem, u0, u1, u2, u3, u4]) rfl ?_
      exact ⟨_, _, rfl, HMf.out, HBf.out⟩
end Go.Proofs.Ytgpjkojnmeaoiaa.QV

/- value.copies, by hand. -/
namespace Go.Proofs.Ytgpjkojnmeaoiaa.QV
open Go Go.RowKit Go.Proofs.YtgpjkojnmeaoiaaW.PrintWords Go.Proofs.YtgpjkojnmeaoiaaW.PrintLast Go.Proofs.YtgpjkojnmeaoiaaW.PrintMore
set_option linter.unusedVariables false
set_option linter.unusedSimpArgs false
set_option maxRecDepth 100000
set_option maxHeartbeats 4000000
theorem copiesC (l : List S28) (w : World) {A : Option Addr} {c : Nat} (hl : Kd.C k28 w A l.length l) (hw : ∀ y ∈ l, cnt y ≤ 1000000000000) (hm : l.length ≤ 1000000000000) :
    Calls Try.prog 51 #[.slice A l.length c] w fun e w' => ∃ X d, e = .returned (.slice X l.length d) ∧ k28.R 28 w' w.heap.size (fun _ => True) (.slice X l.length d) l ∧ Below w.heap.size w w' := by
  have HL := Aside0.mk hl
  have HWv := Aside0.mk hw
  have H0 : Aside0 (Below w.heap.size w w ∧ k28.R 28 w w.heap.size (fun _ => True) (.slice none 0 0) (l.take 0)) := ⟨Below.refl _ _, Kd.R_nil _ _ _ _ _⟩
  clear hl hw
  go_enter Try.func51, Try.ntmps51
  go_wp2_with fail
  go_loopg [3, 8] l.length (fun kq v3 v8 w' => ∃ (i : Nat) (X : Option Addr) (n d : Nat), kq + i = l.length ∧ v8 = .int .i64 (i : Int) ∧ v3 = .slice X n d ∧ Aside0 (Below w.heap.size w w' ∧ k28.R 28 w' w.heap.size (fun _ => True) (.slice X n d) (l.take i)))
  case atStart => exact ⟨0, none, 0, 0, by omega, rfl, rfl, H0⟩
  case round =>
    clear H0
    obtain ⟨i, X, n, d, hi, rfl, rfl, HS⟩ := hrel
    by_cases ci : i < l.length
    · have g0 : decide ((i : Int) < (l.length : Int)) = true := decide_eq_true (by omega)
      have g2 : (0 ≤ (i : Int)) = True := eq_true (by omega)
      have g3 : ((i : Int) < (l.length : Int)) = True := eq_true (by omega)
      obtain ⟨j1, rfl⟩ : ∃ j1, gk = j1 + 1 := ⟨gk - 1, by omega⟩
      have hil : l[i]? = some l[i] := List.getElem?_eq_getElem ci
      have hq := HWv.out _ (List.getElem_mem ci)
      obtain ⟨y, hq'⟩ : ∃ y, l[i] = y := ⟨_, rfl⟩
      rw [hq'] at hil hq
      obtain ⟨ad, Y3, y3, Y4, y4, e1, he0⟩ := el_at (Kd.C_below HL.out HS.out.1) i ci hil
      have HTk : Aside0 (l.take (i + 1) = l.take i ++ [y]) := ⟨by rw [List.take_add_one, hil]; rfl⟩
      have HI := Aside0.mk hi
      have HLn := Aside0.mk hm
      have HP := Aside0.mk (new_below wr (.cells #[.int .i64 y.f0, .int .i64 y.f1, .string y.f2, .slice Y3 y.f3.length y3, .slice Y4 y.f4.length y4] 28))
      have HY := Aside0.mk (copyC _ y (wr.alloc (.cells #[.int .i64 y.f0, .int .i64 y.f1, .string y.f2, .slice Y3 y.f3.length y3, .slice Y4 y.f4.length y4] 28)) (Nat.lt_succ_self _) hq (he0.rd.below HP.out))
      have hok : Aside0 (∀ k, (wr.alloc (.cells #[.int .i64 y.f0, .int .i64 y.f1, .string y.f2, .slice Y3 y.f3.length y3, .slice Y4 y.f4.length y4] 28)).heap.size ≤ k → True ∧ some k ≠ (Value.slice X n d).ownBlock) := ⟨fun k hk => ⟨trivial, fun e => by
        have h1 := ((Kd.R_bound HS.out.2).1 k e.symm).2.2.1
        simp at hk
        omega⟩⟩
      obtain ⟨e0, e2, e3, e4, e5, _⟩ := he0
      clear hil hq' hi hq
      subst e1
      go_wp2_with (first | (go_at_call 66; (with_reducible refine HY.out.mono ?_); rintro e we ⟨u3, u4, rfl, hM, hb⟩; have HM := Aside0.mk hM; have Hb := Aside0.mk hb; have HSw : Aside0 (Below w.heap.size w we ∧ k28.R 28 we w.heap.size (fun _ => True) (.slice X n d) (l.take i)) := ⟨below_step (below_step HS.out.1 HP.out) hb, Kd.R_mono (Kd.R_move (Kd.R_bound (Kd.R_mono (Kd.R_move (Kd.R_bound HS.out.2) (fun k hk => HP.out.block k hk.2.2.1)) (fun k hk => hk.1))) (fun k hk => hb.block k hk.2.2.1)) (fun k hk => trivial)⟩; clear hM hb) | (at_builtin; refine Kd.R_append (P := Try.prog) k28 (w0 := w) (W := we) w.heap.size rfl (.tmp 12) (.tmp 15) 23 28 (.agg #[.int .i64 0, .int .i64 0, .string ⟨#[]⟩, .slice none 0 0, .slice none 0 0]) 80 rfl Try.underlying23 info28 rfl (by decide) (by omega) (.slice X n d) (l.take i) y [.int .i64 y.f0, .int .i64 y.f1, .string y.f2, u3, u4] (fun _ => True) (fun k => (wr.alloc (.cells #[.int .i64 y.f0, .int .i64 y.f1, .string y.f2, .slice Y3 y.f3.length y3, .slice Y4 y.f4.length y4] 28)).heap.size ≤ k) rfl rfl (k28.M_lower (Nat.le_trans (Below.size HS.out.1) (Below.size HP.out)) (k28.M_mono (fun k hk => hk.2.1) (k28.M_bound HM.out))) hok.out (fun _ _ => trivial) HSw.out.2 HSw.out.1 (Below.size HSw.out.1) (by rw [List.length_take]; have := HLn.out; omega) ?_; intro v1 w1 ho hb hg hx; obtain ⟨X5, d5, e5⟩ := Kd.R_slice ho; obtain ⟨n5, hn5⟩ : ∃ n5, (l.take i ++ [y]).length = n5 := ⟨_, rfl⟩; rw [hn5] at e5; clear hn5; subst e5; have HS2 := Aside0.mk (And.intro hb ho); clear ho hb hg hx))
      go_roundg j1
      case measure => omega
      case rel => exact ⟨i + 1, X5, n5, d5, by have := HI.out; omega, rfl, rfl, ⟨by rw [HTk.out]; exact HS2.out⟩⟩
    · have g0 : decide (i < l.length) = false := decide_eq_false ci
      have HS1 : Aside0 (Below w.heap.size w wr ∧ k28.R 28 wr w.heap.size (fun _ => True) (.slice X n d) l) := ⟨by have h := HS.out; rw [List.take_of_length_le (by omega)] at h; exact h⟩
      obtain ⟨X', d', e'⟩ := Kd.R_slice HS1.out.2
      injection e' with a1 a2 a3
      subst a1 a3
      have HA2 := Aside0.mk a2
      clear HS ci hi a2
      go_wp2
      go_ret
      exact ⟨X, d, by rw [← HA2.out]; rfl, by rw [← HA2.out]; exact HS1.out.2, HS1.out.1⟩
end Go.Proofs.Ytgpjkojnmeaoiaa.QV

/- keep.Strings, keep.Same, keep.Values, by hand. -/
namespace Go.Proofs.Ytgpjkojnmeaoiaa.QV
open Go Go.RowKit Go.Proofs.YtgpjkojnmeaoiaaW.PrintWords Go.Proofs.YtgpjkojnmeaoiaaW.PrintLast Go.Proofs.YtgpjkojnmeaoiaaW.PrintMore
set_option linter.unusedVariables false
set_option linter.unusedSimpArgs false
set_option maxRecDepth 100000
set_option maxHeartbeats 4000000
theorem tl_inj {a b : ByteArray} : a.toList = b.toList ↔ a = b := by
  rw [ByteArray.toList_eq, ByteArray.toList_eq]
  exact ⟨Go.WideShapes.bytes_inj, fun h => by rw [h]⟩
def SamePost (p : Prop) (w : World) (e : Ending) (w' : World) : Prop := ∃ r : Bool, e = .returned (.bool r) ∧ (r = true ↔ p) ∧ Below w.heap.size w w'
theorem strings_loop (l m : List ByteArray) (hlm : l.length = m.length) (hl : l.length ≤ 4611686018427387904) : ∀ (d : Nat) (i : Nat) (k : Nat), l.length - i ≤ d → d < k → i ≤ l.length → ∃ r, ndjqkeep_Strings.l0 k l m (i : Int) = some r ∧ (r = true ↔ l.drop i = m.drop i)
  | d, i, k, hd, hk, hi => by
    obtain ⟨k, rfl⟩ : ∃ j, k = j + 1 := ⟨k - 1, by omega⟩
    simp only [ndjqkeep_Strings.l0]
    by_cases c : i < l.length
    · rw [if_pos (by omega), if_pos (by omega), if_pos (by omega)]
      have h1 := List.drop_eq_getElem_cons c
      have h2 := List.drop_eq_getElem_cons (l := m) (i := i) (by omega)
      have e1 : rdOf ByteArray.empty l (i : Int) = l[i] := by unfold rdOf; simp [c]
      have e2 : rdOf ByteArray.empty m (i : Int) = m[i]'(by omega) := by unfold rdOf; simp [show i < m.length by omega]
      rw [e1, e2]
      by_cases q : l[i].toList = (m[i]'(by omega)).toList
      · rw [if_pos q]
        have q' := tl_inj.1 q
        obtain ⟨d, rfl⟩ : ∃ j, d = j + 1 := ⟨d - 1, by omega⟩
        obtain ⟨r, hr, hq⟩ := strings_loop l m hlm hl d (i + 1) k (by omega) (by omega) (by omega)
        refine ⟨r, ?_, ?_⟩
        · rw [← hr, wrap_id ((i : Int) + 1) (by omega) (by omega)]
          rfl
        · rw [hq, h1, h2, q']
          simp only [List.cons.injEq, true_and]
      · rw [if_neg q]
        refine ⟨false, rfl, ?_⟩
        rw [h1, h2]
        simp only [Bool.false_eq_true, List.cons.injEq, false_iff]
        exact fun h => q (tl_inj.2 h.1)
    · rw [if_neg (by omega)]
      refine ⟨true, rfl, ?_⟩
      rw [List.drop_eq_nil_of_le (by omega), List.drop_eq_nil_of_le (by omega)]
      simp
theorem stringsC (l m : List ByteArray) (w : World) {A : Option Addr} {c : Nat} {B : Option Addr} {d : Nat} (hl : Kd.C Kd.string w A l.length l) (hc : l.length ≤ c) (hm : Kd.C Kd.string w B m.length m) (hd : m.length ≤ d) (hn : l.length ≤ 140737488351232) :
    Calls Try.prog 42 #[.slice A l.length c, .slice B m.length d] w (SamePost (l = m) w) := by
  obtain ⟨r, hr, hq⟩ : ∃ r, ndjqkeep_Strings.f (l.length + 1) l m = some r ∧ (r = true ↔ l = m) := by
    unfold ndjqkeep_Strings.f
    by_cases c : l.length = m.length
    · rw [if_pos (by omega)]
      exact strings_loop l m c (by omega) l.length 0 _ (by omega) (by omega) (by omega)
    · rw [if_neg (by omega)]
      exact ⟨false, rfl, by simp only [Bool.false_eq_true, false_iff]; exact fun h => c (by rw [h])⟩
  refine (ndjqkeep_Strings.calls (l.length + 1) A c l B d m r w hl hc hm hd hr).mono ?_
  rintro e w' ⟨rfl, hb⟩
  exact ⟨r, rfl, hq, drawn_below hb⟩
theorem valuesC (l m : List S28) (w : World) {A : Option Addr} {c : Nat} {B : Option Addr} {d : Nat} (hl : Kd.C k28 w A l.length l) (hm : Kd.C k28 w B m.length m) (hn : l.length ≤ 140737488351232)
    (ih : ∀ y ∈ l, ∀ (z : S28) (W : World) {A3 : Option Addr} {c3 : Nat} {A4 : Option Addr} {c4 : Nat} {B3 : Option Addr} {d3 : Nat} {B4 : Option Addr} {d4 : Nat}, Rd W A3 c3 A4 c4 y → Rd W B3 d3 B4 d4 z → Calls Try.prog 19 #[.agg #[.int .i64 y.f0, .int .i64 y.f1, .string y.f2, .slice A3 y.f3.length c3, .slice A4 y.f4.length c4], .agg #[.int .i64 z.f0, .int .i64 z.f1, .string z.f2, .slice B3 z.f3.length d3, .slice B4 z.f4.length d4]] W (SamePost (y = z) W)) :
    Calls Try.prog 56 #[.slice A l.length c, .slice B m.length d] w (SamePost (l = m) w) := by
  have HL := Aside0.mk hl
  have HM := Aside0.mk hm
  have HI := Aside0.mk @ih
  clear hl hm ih
  by_cases hlm : l.length = m.length
  rotate_left
  · have g1 : ((l.length : Int) != (m.length : Int)) = true := bne_iff_ne.mpr (by omega)
    have g2 : (l.length != m.length) = true := bne_iff_ne.mpr hlm
    have HF : Aside0 (¬ l = m) := ⟨fun h => hlm (by rw [h])⟩
    clear hlm
    go_enter Try.func56, Try.ntmps56
    go_wp2
    go_ret
    exact ⟨false, rfl, by simp only [Bool.false_eq_true, false_iff]; exact HF.out, Below.refl _ _⟩
  have g1 : ((l.length : Int) != (m.length : Int)) = false := by rw [bne_eq_false_iff_eq]; omega
  have g2 : (l.length != m.length) = false := by rw [bne_eq_false_iff_eq]; exact hlm
  have HLM := Aside0.mk hlm
  have H0 : Aside0 ((l = m) ↔ (l.drop 0 = m.drop 0)) := ⟨by simp⟩
  have HW0 : Aside0 (Below w.heap.size w w) := ⟨Below.refl _ _⟩
  clear hlm
  go_enter Try.func56, Try.ntmps56
  go_wp2
  go_loopg [5] l.length (fun kq v5 w' => ∃ (i : Nat), kq + i = l.length ∧ v5 = .int .i64 (i : Int) ∧ Aside0 ((l = m) ↔ (l.drop i = m.drop i)) ∧ Aside0 (Below w.heap.size w w'))
  case atStart => exact ⟨0, by omega, rfl, H0, HW0⟩
  case round =>
    clear H0 HW0
    obtain ⟨i, hi, rfl, HQ, HW⟩ := hrel
    by_cases ci : i < l.length
    rotate_left
    · have g0 : decide ((i : Int) < (l.length : Int)) = false := decide_eq_false (by omega)
      have g0' : decide (i < l.length) = false := decide_eq_false ci
      have HT : Aside0 (l = m) := ⟨HQ.out.2 (by have := HLM.out; rw [List.drop_eq_nil_of_le (by omega), List.drop_eq_nil_of_le (by omega)])⟩
      clear HQ ci hi
      go_wp2
      go_ret
      exact ⟨true, rfl, by simp only [true_iff]; exact HT.out, HW.out⟩
    have g0 : decide ((i : Int) < (l.length : Int)) = true := decide_eq_true (by omega)
    have g2 : (0 ≤ (i : Int)) = True := eq_true (by omega)
    have g3 : ((i : Int) < (l.length : Int)) = True := eq_true (by omega)
    have g4 : ((i : Int) < (m.length : Int)) = True := eq_true (by have := HLM.out; omega)
    obtain ⟨j1, rfl⟩ : ∃ j1, gk = j1 + 1 := ⟨gk - 1, by omega⟩
    have hil : l[i]? = some l[i] := List.getElem?_eq_getElem ci
    have him : m[i]? = some (m[i]'(by have := HLM.out; omega)) := List.getElem?_eq_getElem (by have := HLM.out; omega)
    have hd1 := List.drop_eq_getElem_cons ci
    have hd2 := List.drop_eq_getElem_cons (l := m) (i := i) (by have := HLM.out; omega)
    have hmem := List.getElem_mem ci
    obtain ⟨y, hy⟩ : ∃ y, l[i] = y := ⟨_, rfl⟩
    obtain ⟨z, hz⟩ : ∃ z, m[i]'(by have := HLM.out; omega) = z := ⟨_, rfl⟩
    rw [hy] at hil hd1 hmem
    rw [hz] at him hd2
    obtain ⟨ad, Y3, y3, Y4, y4, e1, hey⟩ := el_at (Kd.C_below HL.out HW.out) i ci hil
    obtain ⟨ad2, Z3, z3, Z4, z4, e2, hez⟩ := el_at (Kd.C_below HM.out HW.out) i (by have := HLM.out; omega) him
    have HY : Aside0 (∀ W, Below wr.heap.size wr W → Calls Try.prog 19 #[.agg #[.int .i64 y.f0, .int .i64 y.f1, .string y.f2, .slice Y3 y.f3.length y3, .slice Y4 y.f4.length y4], .agg #[.int .i64 z.f0, .int .i64 z.f1, .string z.f2, .slice Z3 z.f3.length z3, .slice Z4 z.f4.length z4]] W (SamePost (y = z) W)) := ⟨fun W hb => HI.out y hmem z W (hey.rd.below hb) (hez.rd.below hb)⟩
    have HQ2 : Aside0 ((l = m) ↔ (y = z ∧ l.drop (i + 1) = m.drop (i + 1))) := ⟨by have h := HQ.out; rw [hd1, hd2] at h; rw [h]; simp⟩
    have HII := Aside0.mk hi
    obtain ⟨a0, a1, a2, a3, a4, _⟩ := hey
    obtain ⟨b0, b1, b2, b3, b4, _⟩ := hez
    clear hil him hd1 hd2 hmem hy hz HQ hi
    subst e1 e2
    go_upto_region 6 with fail
    have HDr : Aside0 (Below wr.heap.size wr wr.drew) := ⟨drawn_below ⟨_, rfl⟩⟩
    go_region_with ((try go_at_call 19); (with_reducible refine (HY.out _ HDr.out).mono ?_); rintro e we ⟨r, rfl, hq, hb⟩; have HR := Aside0.mk hq; have HW2 := Aside0.mk (below_step HW.out (below_step HDr.out hb)); clear hq hb)
    all_goals
      cases r with
      | false =>
        have HF : Aside0 (¬ l = m) := ⟨fun h => by have h1 := (HQ2.out.1 h).1; have h2 := HR.out.2 h1; cases h2⟩
        go_wp2
        go_ret
        exact ⟨false, rfl, by simp only [Bool.false_eq_true, false_iff]; exact HF.out, HW2.out⟩
      | true =>
        go_wp2
        go_roundg j1
        case measure => omega
        case rel => exact ⟨i + 1, by have := HII.out; omega, rfl, ⟨by rw [HQ2.out]; exact ⟨fun h => h.2, fun h => ⟨by simpa using HR.out, h⟩⟩⟩, HW2⟩
/-- Two boxes. -/
theorem box2 {w : World} {x y : S28} {A3 : Option Addr} {c3 : Nat} {A4 : Option Addr} {c4 : Nat} {B3 : Option Addr} {d3 : Nat} {B4 : Option Addr} {d4 : Nat} (hr : Rd w A3 c3 A4 c4 x) (hr2 : Rd w B3 d3 B4 d4 y) :
    Bv ((w.alloc (.cells #[.int .i64 x.f0, .int .i64 x.f1, .string x.f2, .slice A3 x.f3.length c3, .slice A4 x.f4.length c4] 28)).alloc (.cells #[.int .i64 y.f0, .int .i64 y.f1, .string y.f2, .slice B3 y.f3.length d3, .slice B4 y.f4.length d4] 28)) w.heap.size A3 c3 A4 c4 x ∧ Bv ((w.alloc (.cells #[.int .i64 x.f0, .int .i64 x.f1, .string x.f2, .slice A3 x.f3.length c3, .slice A4 x.f4.length c4] 28)).alloc (.cells #[.int .i64 y.f0, .int .i64 y.f1, .string y.f2, .slice B3 y.f3.length d3, .slice B4 y.f4.length d4] 28)) (w.heap.size + 1) B3 d3 B4 d4 y ∧ Below w.heap.size w ((w.alloc (.cells #[.int .i64 x.f0, .int .i64 x.f1, .string x.f2, .slice A3 x.f3.length c3, .slice A4 x.f4.length c4] 28)).alloc (.cells #[.int .i64 y.f0, .int .i64 y.f1, .string y.f2, .slice B3 y.f3.length d3, .slice B4 y.f4.length d4] 28)) := by
  have hB2 := Bv.new (hr2.below (new_below w (.cells #[.int .i64 x.f0, .int .i64 x.f1, .string x.f2, .slice A3 x.f3.length c3, .slice A4 x.f4.length c4] 28)))
  rw [show (w.alloc (.cells #[.int .i64 x.f0, .int .i64 x.f1, .string x.f2, .slice A3 x.f3.length c3, .slice A4 x.f4.length c4] 28)).heap.size = w.heap.size + 1 from by simp] at hB2
  exact ⟨(Bv.new hr).below (new_below (w.alloc (.cells #[.int .i64 x.f0, .int .i64 x.f1, .string x.f2, .slice A3 x.f3.length c3, .slice A4 x.f4.length c4] 28)) (.cells #[.int .i64 y.f0, .int .i64 y.f1, .string y.f2, .slice B3 y.f3.length d3, .slice B4 y.f4.length d4] 28)), hB2, below_step (new_below w (.cells #[.int .i64 x.f0, .int .i64 x.f1, .string x.f2, .slice A3 x.f3.length c3, .slice A4 x.f4.length c4] 28)) (new_below (w.alloc (.cells #[.int .i64 x.f0, .int .i64 x.f1, .string x.f2, .slice A3 x.f3.length c3, .slice A4 x.f4.length c4] 28)) (.cells #[.int .i64 y.f0, .int .i64 y.f1, .string y.f2, .slice B3 y.f3.length d3, .slice B4 y.f4.length d4] 28))⟩
theorem sameC (s : Nat) : ∀ (x y : S28) (w : World) {A3 : Option Addr} {c3 : Nat} {A4 : Option Addr} {c4 : Nat} {B3 : Option Addr} {d3 : Nat} {B4 : Option Addr} {d4 : Nat}, SizeOf.sizeOf x < s → Wv x → Rd w A3 c3 A4 c4 x → Rd w B3 d3 B4 d4 y →
    Calls Try.prog 19 #[.agg #[.int .i64 x.f0, .int .i64 x.f1, .string x.f2, .slice A3 x.f3.length c3, .slice A4 x.f4.length c4], .agg #[.int .i64 y.f0, .int .i64 y.f1, .string y.f2, .slice B3 y.f3.length d3, .slice B4 y.f4.length d4]] w (SamePost (x = y) w) := by
  induction s with
  | zero => intro x y w A3 c3 A4 c4 B3 d3 B4 d4 h; omega
  | succ s ih =>
  intro x y w A3 c3 A4 c4 B3 d3 B4 d4 hs hx hr hr2
  have HV : Aside0 (∀ W, Below w.heap.size w W → Calls Try.prog 56 #[.slice A4 x.f4.length c4, .slice B4 y.f4.length d4] W (SamePost (x.f4 = y.f4) W)) := ⟨fun W hb => valuesC x.f4 y.f4 W (Kd.C_below hr.r4 hb) (Kd.C_below hr2.r4 hb) hx.el (fun q hq z W => ih q z W (by have := sz_mem hq; omega) (hx.es q hq))⟩
  have HS : Aside0 (∀ W, Below w.heap.size w W → Calls Try.prog 42 #[.slice A3 x.f3.length c3, .slice B3 y.f3.length d3] W (SamePost (x.f3 = y.f3) W)) := ⟨fun W hb => stringsC x.f3 y.f3 W (Kd.C_below hr.r3 hb) hr.k3 (Kd.C_below hr2.r3 hb) hr2.k3 hx.kl⟩
  have HE : Aside0 (x = y ↔ (x.f0 = y.f0 ∧ x.f1 = y.f1 ∧ x.f2 = y.f2 ∧ x.f3 = y.f3 ∧ x.f4 = y.f4)) := ⟨by cases x; cases y; simp⟩
  obtain ⟨hB1, hB2, hb⟩ := box2 hr hr2
  obtain ⟨p0, p1, p2, p3, p4⟩ := hB1.cells
  obtain ⟨q0, q1, q2, q3, q4⟩ := hB2.cells
  have HW := Aside0.mk hb
  clear hx hr hr2 ih hB1 hB2 hb hs
  by_cases h0 : x.f0 = y.f0
  rotate_left
  · have g0 : (x.f0 == y.f0) = false := by simpa using h0
    have HF : Aside0 (¬ x = y) := ⟨fun h => h0 (by rw [h])⟩
    clear h0 HE
    go_enter Try.func19, Try.ntmps19
    go_wp2_with fail
    go_ret
    exact ⟨false, rfl, by simp only [Bool.false_eq_true, false_iff]; exact HF.out, HW.out⟩
  have g0 : (x.f0 == y.f0) = true := by simpa using h0
  by_cases h1 : x.f1 = y.f1
  rotate_left
  · have g1 : (x.f1 == y.f1) = false := by simpa using h1
    have HF : Aside0 (¬ x = y) := ⟨fun h => h1 (by rw [h])⟩
    clear h0 h1 HE
    go_enter Try.func19, Try.ntmps19
    go_wp2_with fail
    go_ret
    exact ⟨false, rfl, by simp only [Bool.false_eq_true, false_iff]; exact HF.out, HW.out⟩
  have g1 : (x.f1 == y.f1) = true := by simpa using h1
  by_cases h2 : x.f2 = y.f2
  rotate_left
  · have g2 : (x.f2.toList == y.f2.toList) = false := by rw [beq_eq_false_iff_ne]; exact fun h => h2 (tl_inj.1 h)
    have HF : Aside0 (¬ x = y) := ⟨fun h => h2 (by rw [h])⟩
    clear h0 h1 h2 HE
    go_enter Try.func19, Try.ntmps19
    go_wp2_with fail
    go_ret
    exact ⟨false, rfl, by simp only [Bool.false_eq_true, false_iff]; exact HF.out, HW.out⟩
  have g2 : (x.f2.toList == y.f2.toList) = true := by rw [h2]; simp
  have HE2 : Aside0 (x = y ↔ (x.f3 = y.f3 ∧ x.f4 = y.f4)) := ⟨by rw [HE.out]; simp [h0, h1, h2]⟩
  clear h0 h1 h2 HE
  by_cases h3 : x.f3 = y.f3
  rotate_left
  · have HS2 : Aside0 (∀ W, Below w.heap.size w W → Calls Try.prog 42 #[.slice A3 x.f3.length c3, .slice B3 y.f3.length d3] W fun e w' => e = .returned (.bool false) ∧ Below W.heap.size W w') := ⟨fun W hb => (HS.out W hb).mono (by
      rintro e w' ⟨r, rfl, hq, hb⟩
      cases r with
      | false => exact ⟨rfl, hb⟩
      | true => exact absurd (hq.1 rfl) h3)⟩
    have HF : Aside0 (¬ x = y) := ⟨fun h => h3 (by rw [h])⟩
    clear h3 HE2 HS
    go_enter Try.func19, Try.ntmps19
    go_wp2_with (first | (go_at_call 42; (with_reducible refine (HS2.out _ HW.out).mono ?_); rintro e we ⟨rfl, hb⟩; have HW2 := Aside0.mk (below_step HW.out hb); clear hb))
    go_ret
    exact ⟨false, rfl, by simp only [Bool.false_eq_true, false_iff]; exact HF.out, HW2.out⟩
  have HS2 : Aside0 (∀ W, Below w.heap.size w W → Calls Try.prog 42 #[.slice A3 x.f3.length c3, .slice B3 y.f3.length d3] W fun e w' => e = .returned (.bool true) ∧ Below W.heap.size W w') := ⟨fun W hb => (HS.out W hb).mono (by
      rintro e w' ⟨r, rfl, hq, hb⟩
      rw [hq.2 h3]
      exact ⟨rfl, hb⟩)⟩
  have HE3 : Aside0 (x = y ↔ x.f4 = y.f4) := ⟨by rw [HE2.out]; simp [h3]⟩
  have HB : Aside0 (∀ W, Below ((w.alloc (.cells #[.int .i64 x.f0, .int .i64 x.f1, .string x.f2, .slice A3 x.f3.length c3, .slice A4 x.f4.length c4] 28)).alloc (.cells #[.int .i64 y.f0, .int .i64 y.f1, .string y.f2, .slice B3 y.f3.length d3, .slice B4 y.f4.length d4] 28)).heap.size ((w.alloc (.cells #[.int .i64 x.f0, .int .i64 x.f1, .string x.f2, .slice A3 x.f3.length c3, .slice A4 x.f4.length c4] 28)).alloc (.cells #[.int .i64 y.f0, .int .i64 y.f1, .string y.f2, .slice B3 y.f3.length d3, .slice B4 y.f4.length d4] 28)) W → W.cell? ⟨w.heap.size, 4, none⟩ = some (.slice A4 x.f4.length c4) ∧ W.cell? ⟨w.heap.size + 1, 4, none⟩ = some (.slice B4 y.f4.length d4)) :=
    ⟨fun W hb => ⟨(hb.cell (World.block_lt_of_cell? _ _ p4)).trans p4, (hb.cell (World.block_lt_of_cell? _ _ q4)).trans q4⟩⟩
  clear h3 HE2 HS
  go_enter Try.func19, Try.ntmps19
  go_wp2_with (first | (go_at_call 42; (with_reducible refine (HS2.out _ HW.out).mono ?_); rintro e we ⟨rfl, hb⟩; obtain ⟨u0, u1⟩ := HB.out _ hb; have HW2 := Aside0.mk (below_step HW.out hb); clear hb) | (go_at_call 56; (with_reducible refine (HV.out _ HW2.out).mono ?_); rintro e we2 ⟨r, rfl, hq, hb⟩; have HQ := Aside0.mk hq; have HW3 := Aside0.mk (below_step HW2.out hb); clear hb hq))
  go_ret
  exact ⟨r, by first | rfl | simp, HQ.out.trans HE3.out.symm, HW3.out⟩
end Go.Proofs.Ytgpjkojnmeaoiaa.QV

/- Comparisons of strings and rows of strings, by hand: cmp.Compare, slices.Compare, vals.order. -/
namespace Go.Proofs.Ytgpjkojnmeaoiaa.QV
open Go Go.RowKit Go.Proofs.YtgpjkojnmeaoiaaW.PrintWords Go.Proofs.YtgpjkojnmeaoiaaW.PrintLast Go.Proofs.YtgpjkojnmeaoiaaW.PrintMore
set_option linter.unusedVariables false
set_option linter.unusedSimpArgs false
set_option maxRecDepth 100000
set_option maxHeartbeats 4000000
/-- Strings, compared: -1, 0 or 1. -/
def kc (a b : ByteArray) : Int := if blt a b = true then -1 else if blt b a = true then 1 else 0
/-- Rows of strings. -/
def kcmp : List ByteArray → List ByteArray → Int
  | [], [] => 0
  | [], _ :: _ => -1
  | _ :: _, [] => 1
  | a :: l, b :: m => if kc a b = 0 then kcmp l m else kc a b
/-- Numbers. -/
def oc (a b : Int) : Int := if a < b then -1 else if b < a then 1 else 0
theorem cb_kc (a b : ByteArray) : Lib.compareBytes a.data.toList b.data.toList = kc a b := by
  have h1 := cb_neg a.data.toList b.data.toList
  have h2 := cb_neg b.data.toList a.data.toList
  have e1 : a.toList = a.data.toList := Lib.toList_data _
  have e2 : b.toList = b.data.toList := Lib.toList_data _
  have hb1 := blt_lt a b
  have hb2 := blt_lt b a
  rw [e1, e2] at hb1 hb2
  have hs : ∀ (a b : List UInt8), (Lib.compareBytes a b = -1 ∧ Lib.compareBytes b a = 1) ∨ (Lib.compareBytes a b = 0 ∧ Lib.compareBytes b a = 0) ∨ (Lib.compareBytes a b = 1 ∧ Lib.compareBytes b a = -1) := by
    intro a
    induction a with
    | nil => intro b; cases b <;> simp [Lib.compareBytes]
    | cons x a ih =>
      intro b
      cases b with
      | nil => simp [Lib.compareBytes]
      | cons y b =>
        simp only [Lib.compareBytes]
        by_cases c1 : x < y
        · have c2 : ¬ y < x := fun h => by have := UInt8.lt_trans c1 h; simp at this
          simp [c1, c2]
        · by_cases c2 : y < x
          · simp [c1, c2]
          · simp only [c1, c2, if_false]
            exact ih b
  unfold kc
  rcases hs a.data.toList b.data.toList with ⟨p, q⟩ | ⟨p, q⟩ | ⟨p, q⟩
  · rw [p] at h1 ⊢
    rw [if_pos (hb1.2 (h1.1 (by omega)))]
  · rw [p] at h1 ⊢
    rw [q] at h2
    rw [if_neg (fun h => by have := h1.2 (hb1.1 h); omega), if_neg (fun h => by have := h2.2 (hb2.1 h); omega)]
  · rw [p] at h1 ⊢
    rw [q] at h2
    rw [if_neg (fun h => by have := h1.2 (hb1.1 h); omega), if_pos (hb2.2 (h2.1 (by omega)))]
theorem nanC (s : ByteArray) (w : World) : Calls Try.prog 98 #[.string s] w fun e w' => e = .returned (.bool false) ∧ w' = w := by
  go_enter Try.func98, Try.ntmps98
  go_wp2
  go_ret
  exact ⟨by simp, rfl⟩
theorem nanC' (s : ByteArray) (w : World) : Calls Try.prog 97 #[.string s] w fun e w' => e = .returned (.bool false) ∧ w' = w := by
  go_enter Try.func97, Try.ntmps97
  go_wp2
  go_ret
  exact ⟨by simp, rfl⟩
theorem kcC (a b : ByteArray) (w : World) : Calls Try.prog 89 #[.string a, .string b] w fun e w' => e = .returned (.int .i64 (kc a b)) ∧ w' = w := by
  have HC := Aside0.mk (fun s W => nanC s W)
  have hcs := blt_cases a b
  rcases hcs with ⟨b1, b2, b3⟩ | ⟨b1, b2⟩ | ⟨b1, b2, b3⟩
  · have HK : Aside0 (kc a b = -1) := ⟨by unfold kc; rw [if_pos b1]⟩
    have g1 : Op.bytesLess a.toList b.toList = true := b1
    clear b1
    go_enter Try.func89, Try.ntmps89
    go_wp2_with (first | (go_at_call 98; (with_reducible refine (HC.out _ _).mono ?_); rintro e we ⟨rfl, rfl⟩))
    go_ret
    exact ⟨by rw [HK.out]; rfl, rfl⟩
  · have HK : Aside0 (kc a b = 1) := ⟨by unfold kc; rw [if_neg (by rw [b1]; simp), if_pos (show blt b a = true from b2)]⟩
    have g1 : Op.bytesLess a.toList b.toList = false := b1
    have g3 : (a.toList == b.toList) = false := by
      cases h : (a.toList == b.toList) with
      | false => rfl
      | true => rw [beq_iff_eq.1 h, bytesLess_eq, decide_eq_true_iff] at b2; exact absurd b2 (List.lt_irrefl _)
    clear b1
    go_enter Try.func89, Try.ntmps89
    go_wp2_with (first | (go_at_call 98; (with_reducible refine (HC.out _ _).mono ?_); rintro e we ⟨rfl, rfl⟩))
    go_ret
    exact ⟨by rw [HK.out]; rfl, rfl⟩
  · have HK : Aside0 (kc a b = 0) := ⟨by unfold kc; rw [if_neg (by rw [b1]; simp), if_neg (by show ¬ Op.bytesLess b.toList a.toList = true; rw [b2]; simp)]⟩
    have g1 : Op.bytesLess a.toList b.toList = false := b1
    have g3 : (a.toList == b.toList) = true := by rw [beq_iff_eq]; exact (beq_iff_eq.1 b3).symm
    clear b1 b3
    go_enter Try.func89, Try.ntmps89
    go_wp2_with (first | (go_at_call 98; (with_reducible refine (HC.out _ _).mono ?_); rintro e we ⟨rfl, rfl⟩))
    go_ret
    exact ⟨by rw [HK.out]; rfl, rfl⟩
theorem ocC (a b : Int) (w : World) : Calls Try.prog 78 #[.int .i64 a, .int .i64 b] w fun e w' => e = .returned (.int .i64 (oc a b)) ∧ w' = w := by
  by_cases c1 : a < b
  · have HK : Aside0 (oc a b = -1) := ⟨by unfold oc; rw [if_pos c1]⟩
    have g1 : decide (a < b) = true := decide_eq_true c1
    clear c1
    go_enter Try.func78, Try.ntmps78
    go_wp2
    go_ret
    exact ⟨by rw [HK.out]; rfl, rfl⟩
  · have g1 : decide (a < b) = false := decide_eq_false c1
    by_cases c2 : b < a
    · have HK : Aside0 (oc a b = 1) := ⟨by unfold oc; rw [if_neg c1, if_pos c2]⟩
      have g2 : decide (a > b) = true := decide_eq_true c2
      clear c1 c2
      go_enter Try.func78, Try.ntmps78
      go_wp2
      go_ret
      exact ⟨by rw [HK.out]; rfl, rfl⟩
    · have HK : Aside0 (oc a b = 0) := ⟨by unfold oc; rw [if_neg c1, if_neg c2]⟩
      have g2 : decide (a > b) = false := decide_eq_false c2
      clear c1 c2
      go_enter Try.func78, Try.ntmps78
      go_wp2
      go_ret
      exact ⟨by rw [HK.out]; rfl, rfl⟩
theorem ocC' (a b : Int) (w : World) : Calls Try.prog 79 #[.int .i64 a, .int .i64 b] w fun e w' => e = .returned (.int .i64 (oc a b)) ∧ w' = w := by
  by_cases c1 : a < b
  · have HK : Aside0 (oc a b = -1) := ⟨by unfold oc; rw [if_pos c1]⟩
    have g1 : decide (a < b) = true := decide_eq_true c1
    clear c1
    go_enter Try.func79, Try.ntmps79
    go_wp2
    go_ret
    exact ⟨by rw [HK.out]; rfl, rfl⟩
  · have g1 : decide (a < b) = false := decide_eq_false c1
    by_cases c2 : b < a
    · have HK : Aside0 (oc a b = 1) := ⟨by unfold oc; rw [if_neg c1, if_pos c2]⟩
      have g2 : decide (a > b) = true := decide_eq_true c2
      clear c1 c2
      go_enter Try.func79, Try.ntmps79
      go_wp2
      go_ret
      exact ⟨by rw [HK.out]; rfl, rfl⟩
    · have HK : Aside0 (oc a b = 0) := ⟨by unfold oc; rw [if_neg c1, if_neg c2]⟩
      have g2 : decide (a > b) = false := decide_eq_false c2
      clear c1 c2
      go_enter Try.func79, Try.ntmps79
      go_wp2
      go_ret
      exact ⟨by rw [HK.out]; rfl, rfl⟩
theorem kcmpC (l m : List ByteArray) (w : World) {A : Option Addr} {c : Nat} {B : Option Addr} {d : Nat} (hl : Kd.C Kd.string w A l.length l) (hm : Kd.C Kd.string w B m.length m) (hn : l.length ≤ 140737488351232) :
    Calls Try.prog 80 #[.slice A l.length c, .slice B m.length d] w fun e w' => e = .returned (.int .i64 (kcmp l m)) ∧ w' = w := by
  have HL := Aside0.mk hl
  have HM := Aside0.mk hm
  have HC := Aside0.mk (fun a b W => kcC a b W)
  have H0 : Aside0 (kcmp l m = kcmp (l.drop 0) (m.drop 0)) := ⟨rfl⟩
  clear hl hm
  go_enter Try.func80, Try.ntmps80
  go_wp2
  go_loopg [11] l.length (fun kq v11 w' => ∃ (i : Nat), kq + i = l.length ∧ i ≤ m.length ∧ v11 = .int .i64 (i : Int) ∧ Aside0 (kcmp l m = kcmp (l.drop i) (m.drop i)) ∧ w' = w)
  case atStart => exact ⟨0, by omega, by omega, rfl, H0, rfl⟩
  case round =>
    clear H0
    obtain ⟨i, hi, him, rfl, HQ, rfl⟩ := hrel
    by_cases ci : i < l.length
    rotate_left
    · have g0 : decide ((i : Int) < (l.length : Int)) = false := decide_eq_false (by omega)
      have g0' : decide (i < l.length) = false := decide_eq_false ci
      by_cases cm : l.length < m.length
      · have g1 : decide ((l.length : Int) < (m.length : Int)) = true := decide_eq_true (by omega)
        have g1' : decide (l.length < m.length) = true := decide_eq_true cm
        have HR : Aside0 (kcmp l m = -1) := ⟨by
          rw [HQ.out, List.drop_eq_nil_of_le (by omega), List.drop_eq_getElem_cons (l := m) (i := i) (by omega)]; rfl⟩
        clear HQ hi cm ci him
        go_wp2
        go_ret
        exact ⟨by rw [HR.out]; rfl, rfl⟩
      · have g1 : decide ((l.length : Int) < (m.length : Int)) = false := decide_eq_false (by omega)
        have g1' : decide (l.length < m.length) = false := decide_eq_false cm
        have HR : Aside0 (kcmp l m = 0) := ⟨by
          rw [HQ.out, List.drop_eq_nil_of_le (by omega), List.drop_eq_nil_of_le (by omega)]; rfl⟩
        clear HQ hi cm ci him
        go_wp2
        go_ret
        exact ⟨by rw [HR.out]; rfl, rfl⟩
    have g0 : decide ((i : Int) < (l.length : Int)) = true := decide_eq_true (by omega)
    have g2 : (0 ≤ (i : Int)) = True := eq_true (by omega)
    have g3 : ((i : Int) < (l.length : Int)) = True := eq_true (by omega)
    obtain ⟨j1, rfl⟩ : ∃ j1, gk = j1 + 1 := ⟨gk - 1, by omega⟩
    have hil : l[i]? = some l[i] := List.getElem?_eq_getElem ci
    have hd1 := List.drop_eq_getElem_cons ci
    obtain ⟨y, hy⟩ : ∃ y, l[i] = y := ⟨_, rfl⟩
    rw [hy] at hil hd1
    obtain ⟨ad, e1, he⟩ := str_at HL.out i ci hil
    by_cases cj : i < m.length
    rotate_left
    · have g5 : decide ((i : Int) ≥ (m.length : Int)) = true := decide_eq_true (by omega)
      have g5' : decide (m.length ≤ i) = true := decide_eq_true (by omega)
      have HR : Aside0 (kcmp l m = 1) := ⟨by rw [HQ.out, hd1, show List.drop i m = [] from List.drop_eq_nil_of_le (by omega)]; rfl⟩
      clear HQ hi cj him hil hy hd1
      subst e1
      go_wp2
      go_ret
      exact ⟨by rw [HR.out]; rfl, rfl⟩
    have g5 : decide ((i : Int) ≥ (m.length : Int)) = false := decide_eq_false (by omega)
    have g5' : decide (m.length ≤ i) = false := decide_eq_false (by omega)
    have g6 : ((i : Int) < (m.length : Int)) = True := eq_true (by omega)
    have hjl : m[i]? = some m[i] := List.getElem?_eq_getElem cj
    have hd2 := List.drop_eq_getElem_cons cj
    obtain ⟨z, hz⟩ : ∃ z, m[i] = z := ⟨_, rfl⟩
    rw [hz] at hjl hd2
    obtain ⟨ad2, e2, he2⟩ := str_at HM.out i cj hjl
    have HQ2 : Aside0 (kcmp l m = if kc y z = 0 then kcmp (l.drop (i + 1)) (m.drop (i + 1)) else kc y z) := ⟨by rw [HQ.out, hd1, hd2]; rfl⟩
    have HII : Aside0 (j1 + 1 + i = l.length ∧ i < m.length) := ⟨hi, cj⟩
    have HKC : Aside0 (∀ W, Calls Try.prog 89 #[.string y, .string z] W fun e w' => e = .returned (.int .i64 (kc y z)) ∧ w' = W) := ⟨fun W => HC.out y z W⟩
    obtain ⟨r, hr⟩ : ∃ r, kc y z = r := ⟨_, rfl⟩
    rw [hr] at HQ2 HKC
    clear hil hjl hd1 hd2 hy hz HQ hi cj him hr
    subst e1 e2
    by_cases cr : r = 0
    · subst cr
      go_wp2_with (first | (go_at_call 89; (with_reducible refine (HKC.out _).mono ?_); rintro e we ⟨rfl, rfl⟩))
      go_roundg j1
      case measure => omega
      case rel => exact ⟨i + 1, by have := HII.out; omega, by have := HII.out; omega, rfl, ⟨by simpa using HQ2.out⟩, rfl⟩
    · have g7 : (r != 0) = true := by simpa using cr
      have HR : Aside0 (kcmp l m = r) := ⟨by rw [HQ2.out, if_neg cr]⟩
      clear cr HQ2
      go_wp2_with (first | (go_at_call 89; (with_reducible refine (HKC.out _).mono ?_); rintro e we ⟨rfl, rfl⟩))
      go_ret
      exact ⟨by rw [HR.out]; rfl, rfl⟩
end Go.Proofs.Ytgpjkojnmeaoiaa.QV

/- vals.Compare and slices.CompareFunc over values, by hand. -/
namespace Go.Proofs.Ytgpjkojnmeaoiaa.QV
open Go Go.RowKit Go.Proofs.YtgpjkojnmeaoiaaW.PrintWords Go.Proofs.YtgpjkojnmeaoiaaW.PrintLast Go.Proofs.YtgpjkojnmeaoiaaW.PrintMore
set_option linter.unusedVariables false
set_option linter.unusedSimpArgs false
set_option maxRecDepth 100000
set_option maxHeartbeats 4000000
mutual
/-- How vals.Compare orders values. -/
def vcmp : S28 → S28 → Int
  | ⟨a, i, s, ks, es⟩, ⟨b, j, t, kt, et⟩ => if a = b then (if a = 3 then oc i j else if a = 4 then kc s t else if a = 6 then (if kcmp ks kt = 0 then lcmp es et else kcmp ks kt) else lcmp es et) else oc a b
def lcmp : List S28 → List S28 → Int
  | [], [] => 0
  | [], _ :: _ => -1
  | _ :: _, [] => 1
  | x :: l, y :: m => if vcmp x y = 0 then lcmp l m else vcmp x y
end
theorem vcmp_eq (x y : S28) : vcmp x y = if x.f0 = y.f0 then (if x.f0 = 3 then oc x.f1 y.f1 else if x.f0 = 4 then kc x.f2 y.f2 else if x.f0 = 6 then (if kcmp x.f3 y.f3 = 0 then lcmp x.f4 y.f4 else kcmp x.f3 y.f3) else lcmp x.f4 y.f4) else oc x.f0 y.f0 := by
  obtain ⟨a, i, s, ks, es⟩ := x
  obtain ⟨b, j, t, kt, et⟩ := y
  rw [vcmp]
def NumPost (n : Int) (w : World) (e : Ending) (w' : World) : Prop := e = .returned (.int .i64 n) ∧ Below w.heap.size w w'
theorem lcmpC (l m : List S28) (w : World) {A : Option Addr} {c : Nat} {B : Option Addr} {d : Nat} (hl : Kd.C k28 w A l.length l) (hm : Kd.C k28 w B m.length m) (hn : l.length ≤ 140737488351232)
    (ih : ∀ y ∈ l, ∀ (z : S28) (W : World) {A3 : Option Addr} {c3 : Nat} {A4 : Option Addr} {c4 : Nat} {B3 : Option Addr} {d3 : Nat} {B4 : Option Addr} {d4 : Nat}, Rd W A3 c3 A4 c4 y → Rd W B3 d3 B4 d4 z → Calls Try.prog 67 #[.agg #[.int .i64 y.f0, .int .i64 y.f1, .string y.f2, .slice A3 y.f3.length c3, .slice A4 y.f4.length c4], .agg #[.int .i64 z.f0, .int .i64 z.f1, .string z.f2, .slice B3 z.f3.length d3, .slice B4 z.f4.length d4]] W (NumPost (vcmp y z) W)) :
    Calls Try.prog 81 #[.slice A l.length c, .slice B m.length d, .func (.func 67) #[] #[]] w (NumPost (lcmp l m) w) := by
  have HL := Aside0.mk hl
  have HM := Aside0.mk hm
  have HI := Aside0.mk @ih
  have H0 : Aside0 (lcmp l m = lcmp (l.drop 0) (m.drop 0)) := ⟨rfl⟩
  have HW0 : Aside0 (Below w.heap.size w w) := ⟨Below.refl _ _⟩
  clear hl hm ih
  go_enter Try.func81, Try.ntmps81
  go_wp2
  go_loopg [13] l.length (fun kq v13 w' => ∃ (i : Nat), kq + i = l.length ∧ i ≤ m.length ∧ v13 = .int .i64 (i : Int) ∧ Aside0 (lcmp l m = lcmp (l.drop i) (m.drop i)) ∧ Aside0 (Below w.heap.size w w'))
  case atStart => exact ⟨0, by omega, by omega, rfl, H0, HW0⟩
  case round =>
    clear H0 HW0
    obtain ⟨i, hi, him, rfl, HQ, HW⟩ := hrel
    by_cases ci : i < l.length
    rotate_left
    · have g0 : decide ((i : Int) < (l.length : Int)) = false := decide_eq_false (by omega)
      have g0' : decide (i < l.length) = false := decide_eq_false ci
      by_cases cm : l.length < m.length
      · have g1 : decide ((l.length : Int) < (m.length : Int)) = true := decide_eq_true (by omega)
        have g1' : decide (l.length < m.length) = true := decide_eq_true cm
        have HR : Aside0 (lcmp l m = -1) := ⟨by
          rw [HQ.out, List.drop_eq_nil_of_le (by omega), List.drop_eq_getElem_cons (l := m) (i := i) (by omega), lcmp]⟩
        clear HQ hi cm ci him
        go_wp2
        go_ret
        exact ⟨by rw [HR.out]; rfl, HW.out⟩
      · have g1 : decide ((l.length : Int) < (m.length : Int)) = false := decide_eq_false (by omega)
        have g1' : decide (l.length < m.length) = false := decide_eq_false cm
        have HR : Aside0 (lcmp l m = 0) := ⟨by
          rw [HQ.out, List.drop_eq_nil_of_le (by omega), List.drop_eq_nil_of_le (by omega), lcmp]⟩
        clear HQ hi cm ci him
        go_wp2
        go_ret
        exact ⟨by rw [HR.out]; rfl, HW.out⟩
    have g0 : decide ((i : Int) < (l.length : Int)) = true := decide_eq_true (by omega)
    have g2 : (0 ≤ (i : Int)) = True := eq_true (by omega)
    have g3 : ((i : Int) < (l.length : Int)) = True := eq_true (by omega)
    obtain ⟨j1, rfl⟩ : ∃ j1, gk = j1 + 1 := ⟨gk - 1, by omega⟩
    have hil : l[i]? = some l[i] := List.getElem?_eq_getElem ci
    have hmem := List.getElem_mem ci
    have hd1 := List.drop_eq_getElem_cons ci
    obtain ⟨y, hy⟩ : ∃ y, l[i] = y := ⟨_, rfl⟩
    rw [hy] at hil hd1 hmem
    obtain ⟨ad, Y3, y3, Y4, y4, e1, hey⟩ := el_at (Kd.C_below HL.out HW.out) i ci hil
    by_cases cj : i < m.length
    rotate_left
    · have g5 : decide ((i : Int) ≥ (m.length : Int)) = true := decide_eq_true (by omega)
      have g5' : decide (m.length ≤ i) = true := decide_eq_true (by omega)
      have HR : Aside0 (lcmp l m = 1) := ⟨by rw [HQ.out, hd1, show List.drop i m = [] from List.drop_eq_nil_of_le (by omega), lcmp]⟩
      have HW2 := Aside0.mk (below_step HW.out (new_below wr (.cells #[.int .i64 y.f0, .int .i64 y.f1, .string y.f2, .slice Y3 y.f3.length y3, .slice Y4 y.f4.length y4] 28)))
      obtain ⟨a0, a1, a2, a3, a4, _⟩ := hey
      clear HQ hi cj him hil hy hd1 hmem
      subst e1
      go_wp2
      go_ret
      exact ⟨by rw [HR.out]; rfl, HW2.out⟩
    have g5 : decide ((i : Int) ≥ (m.length : Int)) = false := decide_eq_false (by omega)
    have g5' : decide (m.length ≤ i) = false := decide_eq_false (by omega)
    have g6 : ((i : Int) < (m.length : Int)) = True := eq_true (by omega)
    have hjl : m[i]? = some m[i] := List.getElem?_eq_getElem cj
    have hd2 := List.drop_eq_getElem_cons cj
    obtain ⟨z, hz⟩ : ∃ z, m[i] = z := ⟨_, rfl⟩
    rw [hz] at hjl hd2
    obtain ⟨ad2, Z3, z3, Z4, z4, e2, hez⟩ := el_at (Kd.C_below HM.out HW.out) i cj hjl
    have HQ2 : Aside0 (lcmp l m = if vcmp y z = 0 then lcmp (l.drop (i + 1)) (m.drop (i + 1)) else vcmp y z) := ⟨by rw [HQ.out, hd1, hd2, lcmp]⟩
    have HII : Aside0 (j1 + 1 + i = l.length ∧ i < m.length) := ⟨hi, cj⟩
    have hb1 := new_below wr (.cells #[.int .i64 y.f0, .int .i64 y.f1, .string y.f2, .slice Y3 y.f3.length y3, .slice Y4 y.f4.length y4] 28)
    have hb2 := new_below (wr.alloc (.cells #[.int .i64 y.f0, .int .i64 y.f1, .string y.f2, .slice Y3 y.f3.length y3, .slice Y4 y.f4.length y4] 28)) (.cells #[.int .i64 z.f0, .int .i64 z.f1, .string z.f2, .slice Z3 z.f3.length z3, .slice Z4 z.f4.length z4] 28)
    have hb := below_step hb1 hb2
    have HKC := Aside0.mk (HI.out y hmem z _ (hey.rd.below hb) (hez.rd.below hb))
    have HW2 := Aside0.mk (below_step HW.out hb)
    have hez1 := hez.below hb1
    obtain ⟨r, hr⟩ : ∃ r, vcmp y z = r := ⟨_, rfl⟩
    rw [hr] at HQ2 HKC
    obtain ⟨a0, a1, a2, a3, a4, _⟩ := hey
    obtain ⟨b0, b1, b2, b3, b4, _⟩ := hez1
    clear hil hjl hd1 hd2 hy hz HQ hi cj him hr hmem hb1 hb2 hb hez
    subst e1 e2
    by_cases cr : r = 0
    · subst cr
      go_wp2_with (first | (go_at_call 67; (with_reducible refine HKC.out.mono ?_); rintro e we ⟨rfl, hb⟩; have HW3 := Aside0.mk (below_step HW2.out hb); clear hb))
      go_roundg j1
      case measure => omega
      case rel => exact ⟨i + 1, by have := HII.out; omega, by have := HII.out; omega, rfl, ⟨by simpa using HQ2.out⟩, HW3⟩
    · have g7 : (r != 0) = true := by simpa using cr
      have HR : Aside0 (lcmp l m = r) := ⟨by rw [HQ2.out, if_neg cr]⟩
      clear cr HQ2
      go_wp2_with (first | (go_at_call 67; (with_reducible refine HKC.out.mono ?_); rintro e we ⟨rfl, hb⟩; have HW3 := Aside0.mk (below_step HW2.out hb); clear hb))
      go_ret
      exact ⟨by rw [HR.out]; rfl, HW3.out⟩
end Go.Proofs.Ytgpjkojnmeaoiaa.QV

/- vals.Compare, vals.Equal, by hand. -/
namespace Go.Proofs.Ytgpjkojnmeaoiaa.QV
open Go Go.RowKit Go.Proofs.YtgpjkojnmeaoiaaW.PrintWords Go.Proofs.YtgpjkojnmeaoiaaW.PrintLast Go.Proofs.YtgpjkojnmeaoiaaW.PrintMore
set_option linter.unusedVariables false
set_option linter.unusedSimpArgs false
set_option maxRecDepth 100000
set_option maxHeartbeats 4000000
theorem vcmpC (s : Nat) : ∀ (x y : S28) (w : World) {A3 : Option Addr} {c3 : Nat} {A4 : Option Addr} {c4 : Nat} {B3 : Option Addr} {d3 : Nat} {B4 : Option Addr} {d4 : Nat}, SizeOf.sizeOf x < s → Wv x → Rd w A3 c3 A4 c4 x → Rd w B3 d3 B4 d4 y →
    Calls Try.prog 67 #[.agg #[.int .i64 x.f0, .int .i64 x.f1, .string x.f2, .slice A3 x.f3.length c3, .slice A4 x.f4.length c4], .agg #[.int .i64 y.f0, .int .i64 y.f1, .string y.f2, .slice B3 y.f3.length d3, .slice B4 y.f4.length d4]] w (NumPost (vcmp x y) w) := by
  induction s with
  | zero => intro x y w A3 c3 A4 c4 B3 d3 B4 d4 h; omega
  | succ s ih =>
  intro x y w A3 c3 A4 c4 B3 d3 B4 d4 hs hx hr hr2
  have HV : Aside0 (∀ W, Below w.heap.size w W → Calls Try.prog 81 #[.slice A4 x.f4.length c4, .slice B4 y.f4.length d4, .func (.func 67) #[] #[]] W (NumPost (lcmp x.f4 y.f4) W)) := ⟨fun W hb => lcmpC x.f4 y.f4 W (Kd.C_below hr.r4 hb) (Kd.C_below hr2.r4 hb) hx.el (fun q hq z W => ih q z W (by have := sz_mem hq; omega) (hx.es q hq))⟩
  have HS : Aside0 (∀ W, Below w.heap.size w W → Calls Try.prog 80 #[.slice A3 x.f3.length c3, .slice B3 y.f3.length d3] W fun e w' => e = .returned (.int .i64 (kcmp x.f3 y.f3)) ∧ w' = W) := ⟨fun W hb => kcmpC x.f3 y.f3 W (Kd.C_below hr.r3 hb) (Kd.C_below hr2.r3 hb) hx.kl⟩
  have HE := Aside0.mk (vcmp_eq x y)
  have HO1 : Aside0 (∀ W, Calls Try.prog 78 #[.int .i64 x.f0, .int .i64 y.f0] W fun e w' => e = .returned (.int .i64 (oc x.f0 y.f0)) ∧ w' = W) := ⟨fun W => ocC _ _ W⟩
  have HO2 : Aside0 (∀ W, Calls Try.prog 79 #[.int .i64 x.f1, .int .i64 y.f1] W fun e w' => e = .returned (.int .i64 (oc x.f1 y.f1)) ∧ w' = W) := ⟨fun W => ocC' _ _ W⟩
  have HSt : Aside0 (∀ W, Calls Try.prog 75 #[.string x.f2, .string y.f2] W fun e w' => e = .returned (.int .i64 (kc x.f2 y.f2)) ∧ w' = W) := ⟨fun W => by have h := Try.strings_Compare x.f2 y.f2 W; rw [cb_kc] at h; exact h⟩
  obtain ⟨hB1, hB2, hb⟩ := box2 hr hr2
  obtain ⟨p0, p1, p2, p3, p4⟩ := hB1.cells
  obtain ⟨q0, q1, q2, q3, q4⟩ := hB2.cells
  have HW := Aside0.mk hb
  clear hx hr hr2 ih hB1 hB2 hb hs
  obtain ⟨K, hK⟩ : ∃ K, kcmp x.f3 y.f3 = K := ⟨_, rfl⟩
  rw [hK] at HS HE
  clear hK
  by_cases h0 : x.f0 = y.f0
  rotate_left
  · have g0 : (x.f0 != y.f0) = true := by simpa using h0
    have HR : Aside0 (vcmp x y = oc x.f0 y.f0) := ⟨by rw [HE.out, if_neg h0]⟩
    clear h0 HE
    go_enter Try.func67, Try.ntmps67
    go_wp2_with (first | (go_at_call 78; (with_reducible refine (HO1.out _).mono ?_); rintro e we ⟨rfl, rfl⟩))
    go_ret
    exact ⟨by rw [HR.out]; rfl, HW.out⟩
  have g0 : (x.f0 != y.f0) = false := by rw [h0]; simp
  have HE2 : Aside0 (vcmp x y = if x.f0 = 3 then oc x.f1 y.f1 else if x.f0 = 4 then kc x.f2 y.f2 else if x.f0 = 6 then (if K = 0 then lcmp x.f4 y.f4 else K) else lcmp x.f4 y.f4) := ⟨by rw [HE.out, if_pos h0]⟩
  clear h0 HE
  by_cases h3 : x.f0 = 3
  · have g3 : (x.f0 == 3) = true := by simpa using h3
    have HR : Aside0 (vcmp x y = oc x.f1 y.f1) := ⟨by rw [HE2.out, if_pos h3]⟩
    clear h3 HE2
    go_enter Try.func67, Try.ntmps67
    go_wp2_with (first | (go_at_call 79; (with_reducible refine (HO2.out _).mono ?_); rintro e we ⟨rfl, rfl⟩))
    go_ret
    exact ⟨by rw [HR.out]; rfl, HW.out⟩
  have g3 : (x.f0 == 3) = false := by simpa using h3
  by_cases h4 : x.f0 = 4
  · have g4 : (x.f0 == 4) = true := by simpa using h4
    have HR : Aside0 (vcmp x y = kc x.f2 y.f2) := ⟨by rw [HE2.out, if_neg h3, if_pos h4]⟩
    clear h3 h4 HE2
    go_enter Try.func67, Try.ntmps67
    go_wp2_with (first | (go_at_call 75; (with_reducible refine (HSt.out _).mono ?_); rintro e we ⟨rfl, rfl⟩))
    go_ret
    exact ⟨by rw [HR.out]; rfl, HW.out⟩
  have g4 : (x.f0 == 4) = false := by simpa using h4
  by_cases h6 : x.f0 = 6
  rotate_left
  · have g6 : (x.f0 == 6) = false := by simpa using h6
    have HR : Aside0 (vcmp x y = lcmp x.f4 y.f4) := ⟨by rw [HE2.out, if_neg h3, if_neg h4, if_neg h6]⟩
    clear h3 h4 h6 HE2
    go_enter Try.func67, Try.ntmps67
    go_wp2_with (first | (go_at_call 81; (with_reducible refine (HV.out _ HW.out).mono ?_); rintro e we ⟨rfl, hb⟩; have HW2 := Aside0.mk (below_step HW.out hb); clear hb))
    go_ret
    exact ⟨by rw [HR.out]; rfl, HW2.out⟩
  have g6 : (x.f0 == 6) = true := by simpa using h6
  by_cases hK : K = 0
  · have HR : Aside0 (vcmp x y = lcmp x.f4 y.f4) := ⟨by rw [HE2.out, if_neg h3, if_neg h4, if_pos h6, if_pos hK]⟩
    subst hK
    clear h3 h4 h6 HE2
    go_enter Try.func67, Try.ntmps67
    go_wp2_with (first | (go_at_call 80; (with_reducible refine (HS.out _ HW.out).mono ?_); rintro e we ⟨rfl, rfl⟩) | (go_at_call 81; (with_reducible refine (HV.out _ HW.out).mono ?_); rintro e we ⟨rfl, hb⟩; have HW2 := Aside0.mk (below_step HW.out hb); clear hb))
    go_ret
    exact ⟨by rw [HR.out]; rfl, HW2.out⟩
  · have HR : Aside0 (vcmp x y = K) := ⟨by rw [HE2.out, if_neg h3, if_neg h4, if_pos h6, if_neg hK]⟩
    have g7 : (K != 0) = true := by simpa using hK
    clear h3 h4 h6 hK HE2
    go_enter Try.func67, Try.ntmps67
    go_wp2_with (first | (go_at_call 80; (with_reducible refine (HS.out _ HW.out).mono ?_); rintro e we ⟨rfl, rfl⟩))
    go_ret
    exact ⟨by rw [HR.out]; rfl, HW.out⟩
theorem equalC (x y : S28) (w : World) {A3 : Option Addr} {c3 : Nat} {A4 : Option Addr} {c4 : Nat} {B3 : Option Addr} {d3 : Nat} {B4 : Option Addr} {d4 : Nat} (hx : Wv x) (hr : Rd w A3 c3 A4 c4 x) (hr2 : Rd w B3 d3 B4 d4 y) :
    Calls Try.prog 69 #[.agg #[.int .i64 x.f0, .int .i64 x.f1, .string x.f2, .slice A3 x.f3.length c3, .slice A4 x.f4.length c4], .agg #[.int .i64 y.f0, .int .i64 y.f1, .string y.f2, .slice B3 y.f3.length d3, .slice B4 y.f4.length d4]] w fun e w' => e = .returned (.bool (decide (vcmp x y = 0))) ∧ Below w.heap.size w w' := by
  obtain ⟨hB1, hB2, hb⟩ := box2 hr hr2
  have HC := Aside0.mk (vcmpC _ x y _ (Nat.lt_succ_self _) hx hB1.rd hB2.rd)
  obtain ⟨p0, p1, p2, p3, p4⟩ := hB1.cells
  obtain ⟨q0, q1, q2, q3, q4⟩ := hB2.cells
  have HW := Aside0.mk hb
  clear hx hr hr2 hB1 hB2 hb
  obtain ⟨r, hr⟩ : ∃ r, vcmp x y = r := ⟨_, rfl⟩
  rw [hr] at HC ⊢
  clear hr
  go_enter Try.func69, Try.ntmps69
  go_wp2_with (first | (go_at_call 67; (with_reducible refine HC.out.mono ?_); rintro e we ⟨rfl, hb⟩; have HW2 := Aside0.mk (below_step HW.out hb); clear hb))
  go_ret
  exact ⟨by by_cases h : r = 0 <;> simp [h], HW2.out⟩
end Go.Proofs.Ytgpjkojnmeaoiaa.QV

/- The reference's order, by hand. -/
namespace Go.Proofs.Ytgpjkojnmeaoiaa.QV
open Go Go.RowKit Go.Proofs.YtgpjkojnmeaoiaaW.PrintWords Go.Proofs.YtgpjkojnmeaoiaaW.PrintLast Go.Proofs.YtgpjkojnmeaoiaaW.PrintMore
set_option linter.unusedVariables false
set_option linter.unusedSimpArgs false
set_option maxRecDepth 100000
set_option maxHeartbeats 4000000
mutual
/-- How the reference orders values. -/
def rcmp : S28 → S28 → Int
  | ⟨a, i, s, ks, es⟩, ⟨b, j, t, kt, et⟩ => if a = b then (if i = j then (if s = t then (if kcmp ks kt = 0 then rlc es et else kcmp ks kt) else kc s t) else oc i j) else oc a b
def rlc : List S28 → List S28 → Int
  | [], [] => 0
  | [], _ :: _ => -1
  | _ :: _, [] => 1
  | x :: l, y :: m => if rcmp x y = 0 then rlc l m else rcmp x y
end
theorem rcmp_eq (x y : S28) : rcmp x y = if x.f0 = y.f0 then (if x.f1 = y.f1 then (if x.f2 = y.f2 then (if kcmp x.f3 y.f3 = 0 then rlc x.f4 y.f4 else kcmp x.f3 y.f3) else kc x.f2 y.f2) else oc x.f1 y.f1) else oc x.f0 y.f0 := by
  obtain ⟨a, i, s, ks, es⟩ := x
  obtain ⟨b, j, t, kt, et⟩ := y
  rw [rcmp]
def sg (b : Bool) : Int := if b = true then -1 else 1
theorem signC (b : Bool) (w : World) : Calls Try.prog 82 #[.bool b] w fun e w' => e = .returned (.int .i64 (sg b)) ∧ w' = w := by
  cases b with
  | true =>
    go_enter Try.func82, Try.ntmps82
    go_wp2
    go_ret
    exact ⟨rfl, rfl⟩
  | false =>
    go_enter Try.func82, Try.ntmps82
    go_wp2
    go_ret
    exact ⟨rfl, rfl⟩
theorem oc_sign {a b : Int} (h : a ≠ b) : oc a b = sg (decide (a < b)) := by
  unfold oc sg
  by_cases c : a < b
  · rw [if_pos c, if_pos (decide_eq_true c)]
  · rw [if_neg c, if_pos (by omega), if_neg (by simpa using c)]
theorem kc_sign {a b : ByteArray} (h : a ≠ b) : kc a b = sg (Op.bytesLess a.toList b.toList) := by
  unfold kc sg
  by_cases c : blt a b = true
  · rw [if_pos c, if_pos (show Op.bytesLess a.toList b.toList = true from c)]
  · rw [if_neg c, if_neg (show ¬ Op.bytesLess a.toList b.toList = true from c)]
    rcases blt_tri a b with k | k | k
    · exact absurd k c
    · exact absurd k h
    · rw [if_pos k]
theorem kc_self (a : ByteArray) : kc a a = 0 := by unfold kc; rw [blt_irrefl]; rfl
theorem kc_zero {a b : ByteArray} (h : kc a b = 0) : a = b := by
  unfold kc at h
  rcases blt_tri a b with k | k | k
  · rw [if_pos k] at h; cases h
  · exact k
  · rw [k, if_neg (by rw [blt_asymm k]; simp), if_pos rfl] at h; cases h
theorem oc_zero {a b : Int} (h : oc a b = 0) : a = b := by
  unfold oc at h
  by_cases c : a < b
  · rw [if_pos c] at h; cases h
  · rw [if_neg c] at h
    by_cases d : b < a
    · rw [if_pos d] at h; cases h
    · omega
theorem orderC (st : Nat) : ∀ (x y : S28) (w : World) {A3 : Option Addr} {c3 : Nat} {A4 : Option Addr} {c4 : Nat} {B3 : Option Addr} {d3 : Nat} {B4 : Option Addr} {d4 : Nat}, SizeOf.sizeOf x < st → Wv x → Rd w A3 c3 A4 c4 x → Rd w B3 d3 B4 d4 y →
    Calls Try.prog 68 #[.agg #[.int .i64 x.f0, .int .i64 x.f1, .string x.f2, .slice A3 x.f3.length c3, .slice A4 x.f4.length c4], .agg #[.int .i64 y.f0, .int .i64 y.f1, .string y.f2, .slice B3 y.f3.length d3, .slice B4 y.f4.length d4]] w (NumPost (rcmp x y) w) := by
  induction st with
  | zero => intro x y w A3 c3 A4 c4 B3 d3 B4 d4 h; omega
  | succ st ih =>
  intro x y w A3 c3 A4 c4 B3 d3 B4 d4 hs hx hr hr2
  have HI : Aside0 (∀ q ∈ x.f4, ∀ (z : S28) (W : World) {A3 : Option Addr} {c3 : Nat} {A4 : Option Addr} {c4 : Nat} {B3 : Option Addr} {d3 : Nat} {B4 : Option Addr} {d4 : Nat}, Rd W A3 c3 A4 c4 q → Rd W B3 d3 B4 d4 z → Calls Try.prog 68 #[.agg #[.int .i64 q.f0, .int .i64 q.f1, .string q.f2, .slice A3 q.f3.length c3, .slice A4 q.f4.length c4], .agg #[.int .i64 z.f0, .int .i64 z.f1, .string z.f2, .slice B3 z.f3.length d3, .slice B4 z.f4.length d4]] W (NumPost (rcmp q z) W)) := ⟨fun q hq z W => ih q z W (by have := sz_mem hq; omega) (hx.es q hq)⟩
  have HE := Aside0.mk (rcmp_eq x y)
  have HSg : Aside0 (∀ b W, Calls Try.prog 82 #[.bool b] W fun e w' => e = .returned (.int .i64 (sg b)) ∧ w' = W) := ⟨fun b W => signC b W⟩
  obtain ⟨hB1, hB2, hb⟩ := box2 hr hr2
  obtain ⟨p0, p1, p2, p3, p4⟩ := hB1.cells
  obtain ⟨q0, q1, q2, q3, q4⟩ := hB2.cells
  have HW := Aside0.mk hb
  have HV := Aside0.mk (And.intro hB1 hB2)
  have HKl : Aside0 (x.f3.length ≤ 140737488351232 ∧ x.f4.length ≤ 140737488351232) := ⟨hx.kl, hx.el⟩
  clear hx hr hr2 ih hB1 hB2 hb hs
  by_cases h0 : x.f0 = y.f0
  rotate_left
  · have g0 : (x.f0 != y.f0) = true := by simpa using h0
    have HR : Aside0 (rcmp x y = sg (decide (x.f0 < y.f0))) := ⟨by rw [HE.out, if_neg h0, oc_sign h0]⟩
    clear h0 HE
    go_enter Try.func68, Try.ntmps68
    go_wp2_with (first | (go_at_call 82; (with_reducible refine (HSg.out _ _).mono ?_); rintro e we ⟨rfl, rfl⟩))
    go_ret
    exact ⟨by rw [HR.out]; rfl, HW.out⟩
  have g0 : (x.f0 != y.f0) = false := by rw [h0]; simp
  by_cases h1 : x.f1 = y.f1
  rotate_left
  · have g1 : (x.f1 != y.f1) = true := by simpa using h1
    have HR : Aside0 (rcmp x y = sg (decide (x.f1 < y.f1))) := ⟨by rw [HE.out, if_pos h0, if_neg h1, oc_sign h1]⟩
    clear h0 h1 HE
    go_enter Try.func68, Try.ntmps68
    go_wp2_with (first | (go_at_call 82; (with_reducible refine (HSg.out _ _).mono ?_); rintro e we ⟨rfl, rfl⟩))
    go_ret
    exact ⟨by rw [HR.out]; rfl, HW.out⟩
  have g1 : (x.f1 != y.f1) = false := by rw [h1]; simp
  by_cases h2 : x.f2 = y.f2
  rotate_left
  · have g2 : (x.f2.toList == y.f2.toList) = false := by rw [beq_eq_false_iff_ne]; exact fun h => h2 (tl_inj.1 h)
    have HR : Aside0 (rcmp x y = sg (Op.bytesLess x.f2.toList y.f2.toList)) := ⟨by rw [HE.out, if_pos h0, if_pos h1, if_neg h2, kc_sign h2]⟩
    clear h0 h1 h2 HE
    go_enter Try.func68, Try.ntmps68
    go_wp2_with (first | (go_at_call 82; (with_reducible refine (HSg.out _ _).mono ?_); rintro e we ⟨rfl, rfl⟩))
    go_ret
    exact ⟨by rw [HR.out]; rfl, HW.out⟩
  have g2 : (x.f2.toList == y.f2.toList) = true := by rw [h2]; simp
  have HE2 : Aside0 (rcmp x y = if kcmp x.f3 y.f3 = 0 then rlc x.f4 y.f4 else kcmp x.f3 y.f3) := ⟨by rw [HE.out, if_pos h0, if_pos h1, if_pos h2]⟩
  have H0 : Aside0 (kcmp x.f3 y.f3 = kcmp (x.f3.drop 0) (y.f3.drop 0)) := ⟨rfl⟩
  clear h0 h1 h2 HE
  obtain ⟨W, hW⟩ : ∃ W, (w.alloc (.cells #[.int .i64 x.f0, .int .i64 x.f1, .string x.f2, .slice A3 x.f3.length c3, .slice A4 x.f4.length c4] 28)).alloc (.cells #[.int .i64 y.f0, .int .i64 y.f1, .string y.f2, .slice B3 y.f3.length d3, .slice B4 y.f4.length d4] 28) = W := ⟨_, rfl⟩
  have HWe := Aside0.mk hW
  clear hW
  go_enter Try.func68, Try.ntmps68
  go_upto_region 7 with fail
  rw [HWe.out] at p0 p1 p2 p3 p4 q0 q1 q2 q3 q4 HW HV ⊢
  go_wp2_with fail
  have HS0 : Aside0 (Below w.heap.size w W ∧ Bv W w.heap.size A3 c3 A4 c4 x ∧ Bv W (w.heap.size + 1) B3 d3 B4 d4 y) := ⟨HW.out, HV.out.1, HV.out.2⟩
  clear HW HV HWe p0 p1 p2 p3 p4 q0 q1 q2 q3 q4
  go_loopg [5] x.f3.length (fun kq v5 w' => ∃ (i : Nat), kq + i = x.f3.length ∧ i ≤ y.f3.length ∧ v5 = .int .i64 (i : Int) ∧ Aside0 (kcmp x.f3 y.f3 = kcmp (x.f3.drop i) (y.f3.drop i)) ∧ Aside0 (Below w.heap.size w w' ∧ Bv w' w.heap.size A3 c3 A4 c4 x ∧ Bv w' (w.heap.size + 1) B3 d3 B4 d4 y))
  case atStart => exact ⟨0, by omega, by omega, rfl, H0, HS0⟩
  case round =>
    clear H0 HS0
    obtain ⟨i, hi, him, rfl, HQ, HS⟩ := hrel
    obtain ⟨p0, p1, p2, p3, p4⟩ := HS.out.2.1.cells
    obtain ⟨q0, q1, q2, q3, q4⟩ := HS.out.2.2.cells
    have f2 : (0 ≤ (i : Int)) = True := eq_true (by omega)
    have hkl := HKl.out.1
    by_cases cb : i < x.f3.length ∧ i < y.f3.length
    · obtain ⟨ci, cj⟩ := cb
      have f0 : decide ((i : Int) < (x.f3.length : Int)) = true := decide_eq_true (by omega)
      have f0' : decide (i < x.f3.length) = true := decide_eq_true (by omega)
      have f1 : decide ((i : Int) < (y.f3.length : Int)) = true := decide_eq_true (by omega)
      have f1' : decide (i < y.f3.length) = true := decide_eq_true (by omega)
      have f3 : ((i : Int) < (x.f3.length : Int)) = True := eq_true (by omega)
      have f4 : ((i : Int) < (y.f3.length : Int)) = True := eq_true (by omega)
      obtain ⟨j1, rfl⟩ : ∃ j1, gk = j1 + 1 := ⟨gk - 1, by omega⟩
      have hil : x.f3[i]? = some x.f3[i] := List.getElem?_eq_getElem ci
      have hd1 := List.drop_eq_getElem_cons ci
      obtain ⟨a, ha⟩ : ∃ a, x.f3[i] = a := ⟨_, rfl⟩
      rw [ha] at hil hd1
      have hjl : y.f3[i]? = some y.f3[i] := List.getElem?_eq_getElem cj
      have hd2 := List.drop_eq_getElem_cons cj
      obtain ⟨b, hb⟩ : ∃ b, y.f3[i] = b := ⟨_, rfl⟩
      rw [hb] at hjl hd2
      obtain ⟨ad, e1, he⟩ := str_at HS.out.2.1.rd.r3 i ci hil
      obtain ⟨ad2, e2, he2⟩ := str_at HS.out.2.2.rd.r3 i cj hjl
      have HQ2 : Aside0 (kcmp x.f3 y.f3 = if kc a b = 0 then kcmp (x.f3.drop (i + 1)) (y.f3.drop (i + 1)) else kc a b) := ⟨by rw [HQ.out, hd1, hd2]; rfl⟩
      have HII : Aside0 (j1 + 1 + i = x.f3.length ∧ i < y.f3.length) := ⟨hi, cj⟩
      have hib : i < 140737488351232 := by omega
      have HDr : Aside0 (∀ n, Below wr.heap.size wr (wr.drewN n)) := ⟨fun n => drawn_below ⟨_, rfl⟩⟩
      clear hil hjl hd1 hd2 ha hb HQ hi ci cj him
      subst e1 e2
      by_cases cab : a = b
      · have g5 : (a.toList == b.toList) = true := by rw [cab]; simp
        have HQ3 : Aside0 (kcmp x.f3 y.f3 = kcmp (x.f3.drop (i + 1)) (y.f3.drop (i + 1))) := ⟨by rw [HQ2.out, cab, kc_self]; rfl⟩
        clear cab HQ2
        go_wp2
        go_quiet (fail)
        go_wp2
        go_roundg j1
        case measure => omega
        case rel => exact ⟨i + 1, by have := HII.out; omega, by have := HII.out; omega, rfl, HQ3, ⟨below_step HS.out.1 (HDr.out _), HS.out.2.1.below (HDr.out _), HS.out.2.2.below (HDr.out _)⟩⟩
      · have g5 : (a.toList == b.toList) = false := by rw [beq_eq_false_iff_ne]; exact fun h => cab (tl_inj.1 h)
        have HR : Aside0 (rcmp x y = sg (Op.bytesLess a.toList b.toList)) := ⟨by
          have hk : kc a b ≠ 0 := fun h => cab (kc_zero h)
          rw [HE2.out, HQ2.out, if_neg hk, if_neg hk, kc_sign cab]⟩
        clear cab HQ2
        go_wp2
        go_quiet (fail)
        go_wp2
        have HL : Aside0 (∀ n w1, AB (wr.drewN n).drew w1 → w1.cell? ⟨w.heap.size, 3, none⟩ = some (.slice (some ad) x.f3.length c3) ∧ w1.cell? ⟨w.heap.size + 1, 3, none⟩ = some (.slice (some ad2) y.f3.length d3) ∧ w1.cell? (ad.add i) = some (.string a) ∧ w1.cell? (ad2.add i) = some (.string b)) := ⟨fun n w1 h1 => by
          have hb := below_step (below_step (HDr.out n) (drawn_below ⟨1, rfl⟩)) h1
          exact ⟨(hb.cell (World.block_lt_of_cell? _ _ p3)).trans p3, (hb.cell (World.block_lt_of_cell? _ _ q3)).trans q3, (hb.cell (World.block_lt_of_cell? _ _ he)).trans he, (hb.cell (World.block_lt_of_cell? _ _ he2)).trans he2⟩⟩
        have HSgA : Aside0 (∀ b w1, Calls Try.prog 82 #[.bool b] w1 fun e w2 => e = .returned (.int .i64 (sg b)) ∧ AB w1 w2) := ⟨fun b w1 => (signC b w1).mono (by rintro e w2 ⟨rfl, rfl⟩; exact ⟨rfl, Below.refl _ _⟩)⟩
        refine Go.Up.start_ preB (n := 13) (R := AB) (ds := []) #[false, false, false, false, false, false, false, false, false, false, false, false, false] (by kernel_rfl) rfl (by rfl) ?_
        refine Go.Up.take_ preB (i := 0) (N := some 69) (v := (.pointer (some ⟨w.heap.size, 3, none⟩))) #[true, false, false, false, false, false, false, false, false, false, false, false, false] rfl rfl (by kernel_rfl) (fun _ _ _ h => h) (Go.Up.value_ preB rfl (fun w1 h1 => by (skip); go_simp)) rfl ?_
        try simp only [Act.put, List.setIfInBounds_toArray, List.set_cons_zero, List.set_cons_succ]
        refine Go.Up.take_ preB (i := 1) (N := some 70) (v := (.slice (some ad) x.f3.length c3)) #[true, true, false, false, false, false, false, false, false, false, false, false, false] rfl rfl (by kernel_rfl) (fun _ _ _ h => h) (Go.Up.value_ preB rfl (fun w1 h1 => by (have hB := HL.out _ w1 h1; obtain ⟨u0, u1, u2, u3⟩ := hB); go_simp)) rfl ?_
        try simp only [Act.put, List.setIfInBounds_toArray, List.set_cons_zero, List.set_cons_succ]
        refine Go.Up.take_ preB (i := 2) (N := some 71) (v := (.int .i64 (i : Int))) #[true, true, true, false, false, false, false, false, false, false, false, false, false] rfl rfl (by kernel_rfl) (fun _ _ _ h => h) (Go.Up.value_ preB rfl (fun w1 h1 => by (skip); go_simp)) rfl ?_
        try simp only [Act.put, List.setIfInBounds_toArray, List.set_cons_zero, List.set_cons_succ]
        refine Go.Up.take_ preB (i := 3) (N := some 72) (v := (.pointer (some (ad.add i)))) #[true, true, true, true, false, false, false, false, false, false, false, false, false] rfl rfl (by kernel_rfl) (fun _ _ _ h => h) (Go.Up.value_ preB rfl (fun w1 h1 => by (skip); go_simp)) rfl ?_
        try simp only [Act.put, List.setIfInBounds_toArray, List.set_cons_zero, List.set_cons_succ]
        refine Go.Up.take_ preB (i := 4) (N := some 73) (v := (.string a)) #[true, true, true, true, true, false, false, false, false, false, false, false, false] rfl rfl (by kernel_rfl) (fun _ _ _ h => h) (Go.Up.value_ preB rfl (fun w1 h1 => by (have hB := HL.out _ w1 h1; obtain ⟨u0, u1, u2, u3⟩ := hB); go_simp)) rfl ?_
        try simp only [Act.put, List.setIfInBounds_toArray, List.set_cons_zero, List.set_cons_succ]
        refine Go.Up.take_ preB (i := 5) (N := some 74) (v := (.pointer (some ⟨w.heap.size + 1, 3, none⟩))) #[true, true, true, true, true, true, false, false, false, false, false, false, false] rfl rfl (by kernel_rfl) (fun _ _ _ h => h) (Go.Up.value_ preB rfl (fun w1 h1 => by (skip); go_simp)) rfl ?_
        try simp only [Act.put, List.setIfInBounds_toArray, List.set_cons_zero, List.set_cons_succ]
        refine Go.Up.take_ preB (i := 6) (N := some 75) (v := (.slice (some ad2) y.f3.length d3)) #[true, true, true, true, true, true, true, false, false, false, false, false, false] rfl rfl (by kernel_rfl) (fun _ _ _ h => h) (Go.Up.value_ preB rfl (fun w1 h1 => by (have hB := HL.out _ w1 h1; obtain ⟨u0, u1, u2, u3⟩ := hB); go_simp)) rfl ?_
        try simp only [Act.put, List.setIfInBounds_toArray, List.set_cons_zero, List.set_cons_succ]
        refine Go.Up.take_ preB (i := 7) (N := some 76) (v := (.int .i64 (i : Int))) #[true, true, true, true, true, true, true, true, false, false, false, false, false] rfl rfl (by kernel_rfl) (fun _ _ _ h => h) (Go.Up.value_ preB rfl (fun w1 h1 => by (skip); go_simp)) rfl ?_
        try simp only [Act.put, List.setIfInBounds_toArray, List.set_cons_zero, List.set_cons_succ]
        refine Go.Up.take_ preB (i := 8) (N := some 77) (v := (.pointer (some (ad2.add i)))) #[true, true, true, true, true, true, true, true, true, false, false, false, false] rfl rfl (by kernel_rfl) (fun _ _ _ h => h) (Go.Up.value_ preB rfl (fun w1 h1 => by (skip); go_simp)) rfl ?_
        try simp only [Act.put, List.setIfInBounds_toArray, List.set_cons_zero, List.set_cons_succ]
        refine Go.Up.take_ preB (i := 9) (N := some 78) (v := (.string b)) #[true, true, true, true, true, true, true, true, true, true, false, false, false] rfl rfl (by kernel_rfl) (fun _ _ _ h => h) (Go.Up.value_ preB rfl (fun w1 h1 => by (have hB := HL.out _ w1 h1; obtain ⟨u0, u1, u2, u3⟩ := hB); go_simp)) rfl ?_
        try simp only [Act.put, List.setIfInBounds_toArray, List.set_cons_zero, List.set_cons_succ]
        refine Go.Up.take_ preB (i := 10) (N := some 79) (v := (.bool (Op.bytesLess a.toList b.toList))) #[true, true, true, true, true, true, true, true, true, true, true, false, false] rfl rfl (by kernel_rfl) (fun _ _ _ h => h) (Go.Up.value_ preB rfl (fun w1 h1 => by (skip); go_simp)) rfl ?_
        try simp only [Act.put, List.setIfInBounds_toArray, List.set_cons_zero, List.set_cons_succ]
        refine Go.Up.take_ preB (i := 11) (N := some 80) (v := (.int .i64 (sg (Op.bytesLess a.toList b.toList)))) #[true, true, true, true, true, true, true, true, true, true, true, true, false] rfl rfl (by kernel_rfl) (fun _ _ _ h => h) (Go.Up.call_ (f := 82) Try.func82 rfl rfl #[.bool (Op.bytesLess a.toList b.toList)] rfl rfl (by simp [Act.eval]) (fun w1 h1 => HSgA.out _ w1)) rfl ?_
        try simp only [Act.put, List.setIfInBounds_toArray, List.set_cons_zero, List.set_cons_succ]
        refine Go.Up.take_ preB (i := 12) (N := some 4) (v := (.int .i64 (sg (Op.bytesLess a.toList b.toList)))) #[true, true, true, true, true, true, true, true, true, true, true, true, true] rfl rfl (by kernel_rfl) (fun _ _ _ h => h) (Go.Up.value_ preB rfl (fun w1 h1 => by (skip); go_simp)) rfl ?_
        try simp only [Act.put, List.setIfInBounds_toArray, List.set_cons_zero, List.set_cons_succ]
        refine Go.Up.done_ preB (by kernel_rfl) ?_
        intro w1 h1
        have HW2 : Aside0 (Below w.heap.size w w1) := ⟨below_step HS.out.1 (below_step (below_step (HDr.out _) (drawn_below ⟨1, rfl⟩)) h1)⟩
        go_wp2
        go_ret
        exact ⟨by rw [HR.out]; rfl, HW2.out⟩
    by_cases cl : x.f3.length = y.f3.length
    rotate_left
    · have f6 : ((x.f3.length : Int) != (y.f3.length : Int)) = true := bne_iff_ne.mpr (by omega)
      have f6' : (x.f3.length != y.f3.length) = true := bne_iff_ne.mpr cl
      have HR : Aside0 (rcmp x y = sg (decide ((x.f3.length : Int) < (y.f3.length : Int)))) := ⟨by
        have hk : kcmp x.f3 y.f3 = sg (decide ((x.f3.length : Int) < (y.f3.length : Int))) := by
          unfold sg
          by_cases c : i < x.f3.length
          · rw [HQ.out, List.drop_eq_getElem_cons c, show y.f3.drop i = [] from List.drop_eq_nil_of_le (by omega), if_neg (by simp; omega)]
            rfl
          · rw [HQ.out, show x.f3.drop i = [] from List.drop_eq_nil_of_le (by omega), List.drop_eq_getElem_cons (l := y.f3) (i := i) (by omega), if_pos (by simp; omega)]
            rfl
        rw [HE2.out, hk, if_neg]
        unfold sg
        split <;> omega⟩
      have g : (decide ((i : Int) < (x.f3.length : Int)) = true ∧ decide (i < x.f3.length) = true ∧ decide ((i : Int) < (y.f3.length : Int)) = false ∧ decide (i < y.f3.length) = false) ∨ (decide ((i : Int) < (x.f3.length : Int)) = false ∧ decide (i < x.f3.length) = false) := by
        by_cases c : i < x.f3.length
        · exact .inl ⟨decide_eq_true (by omega), decide_eq_true c, decide_eq_false (by omega), decide_eq_false (by omega)⟩
        · exact .inr ⟨decide_eq_false (by omega), decide_eq_false c⟩
      have g' : decide ((x.f3.length : Int) < (y.f3.length : Int)) = decide (x.f3.length < y.f3.length) := decide_eq_decide.2 (by omega)
      have HG := Aside0.mk g'
      clear g' cl cb HQ hi him
      rcases g with ⟨f0, f0', f1, f1'⟩ | ⟨f0, f0'⟩
      all_goals
        go_wp2_with (first | (go_at_call 82; (with_reducible refine (HSg.out _ _).mono ?_); rintro e we ⟨rfl, rfl⟩))
        go_ret
        exact ⟨by rw [HR.out]; first | rfl | (rw [HG.out]; rfl), HS.out.1⟩
    have f6 : ((x.f3.length : Int) != (y.f3.length : Int)) = false := by rw [bne_eq_false_iff_eq]; omega
    have f6' : (x.f3.length != y.f3.length) = false := by rw [bne_eq_false_iff_eq]; exact cl
    have f0 : decide ((i : Int) < (x.f3.length : Int)) = false := decide_eq_false (by omega)
    have f0' : decide (i < x.f3.length) = false := decide_eq_false (by omega)
    have HE3 : Aside0 (rcmp x y = rlc x.f4 y.f4) := ⟨by
      rw [HE2.out, HQ.out, show x.f3.drop i = [] from List.drop_eq_nil_of_le (by omega), show y.f3.drop i = [] from List.drop_eq_nil_of_le (by omega)]
      rfl⟩
    have H1 : Aside0 (rlc x.f4 y.f4 = rlc (x.f4.drop 0) (y.f4.drop 0)) := ⟨rfl⟩
    clear cl cb HQ hi him HE2 hkl
    go_wp2_with fail
    clear p0 p1 p2 p3 p4 q0 q1 q2 q3 q4 f0 f0' f6 f6' f2
    go_loopg [6] x.f4.length (fun kq v6 w' => ∃ (i : Nat), kq + i = x.f4.length ∧ i ≤ y.f4.length ∧ v6 = .int .i64 (i : Int) ∧ Aside0 (rlc x.f4 y.f4 = rlc (x.f4.drop i) (y.f4.drop i)) ∧ Aside0 (Below w.heap.size w w' ∧ Bv w' w.heap.size A3 c3 A4 c4 x ∧ Bv w' (w.heap.size + 1) B3 d3 B4 d4 y))
    case atStart => exact ⟨0, by omega, by omega, rfl, H1, HS⟩
    case round =>
      clear H1 HS
      obtain ⟨i, hi, him, rfl, HQ, HS⟩ := hrel
      obtain ⟨p0, p1, p2, p3, p4⟩ := HS.out.2.1.cells
      obtain ⟨q0, q1, q2, q3, q4⟩ := HS.out.2.2.cells
      have f2 : (0 ≤ (i : Int)) = True := eq_true (by omega)
      have hkl := HKl.out.2
      by_cases cb : i < x.f4.length ∧ i < y.f4.length
      · obtain ⟨ci, cj⟩ := cb
        have f0 : decide ((i : Int) < (x.f4.length : Int)) = true := decide_eq_true (by omega)
        have f0' : decide (i < x.f4.length) = true := decide_eq_true (by omega)
        have f1 : decide ((i : Int) < (y.f4.length : Int)) = true := decide_eq_true (by omega)
        have f1' : decide (i < y.f4.length) = true := decide_eq_true (by omega)
        have f3 : ((i : Int) < (x.f4.length : Int)) = True := eq_true (by omega)
        have f4 : ((i : Int) < (y.f4.length : Int)) = True := eq_true (by omega)
        obtain ⟨j1, rfl⟩ : ∃ j1, gk = j1 + 1 := ⟨gk - 1, by omega⟩
        have hil : x.f4[i]? = some x.f4[i] := List.getElem?_eq_getElem ci
        have hmem := List.getElem_mem ci
        have hd1 := List.drop_eq_getElem_cons ci
        obtain ⟨a, ha⟩ : ∃ a, x.f4[i] = a := ⟨_, rfl⟩
        rw [ha] at hil hd1 hmem
        have hjl : y.f4[i]? = some y.f4[i] := List.getElem?_eq_getElem cj
        have hd2 := List.drop_eq_getElem_cons cj
        obtain ⟨b, hb⟩ : ∃ b, y.f4[i] = b := ⟨_, rfl⟩
        rw [hb] at hjl hd2
        obtain ⟨ad, Y3, y3, Y4, y4, e1, he⟩ := el_at HS.out.2.1.rd.r4 i ci hil
        obtain ⟨ad2, Z3, z3, Z4, z4, e2, he2⟩ := el_at HS.out.2.2.rd.r4 i cj hjl
        have HQ2 : Aside0 (rlc x.f4 y.f4 = if rcmp a b = 0 then rlc (x.f4.drop (i + 1)) (y.f4.drop (i + 1)) else rcmp a b) := ⟨by rw [HQ.out, hd1, hd2, rlc]⟩
        have HII : Aside0 (j1 + 1 + i = x.f4.length ∧ i < y.f4.length) := ⟨hi, cj⟩
        have hib : i < 140737488351232 := by omega
        have HDr : Aside0 (∀ w1, AB wr.drew w1 → Below wr.heap.size wr w1) := ⟨fun w1 h1 => below_step (drawn_below ⟨1, rfl⟩) h1⟩
        have HL : Aside0 (∀ w1, AB wr.drew w1 → w1.cell? ⟨w.heap.size, 4, none⟩ = some (.slice (some ad) x.f4.length c4) ∧ w1.cell? ⟨w.heap.size + 1, 4, none⟩ = some (.slice (some ad2) y.f4.length d4) ∧
            (w1.cell? (ad.add (i * 5)) = some (.int .i64 a.f0) ∧ w1.cell? ⟨(ad.add (i * 5)).block, (ad.add (i * 5)).off + 1, none⟩ = some (.int .i64 a.f1) ∧ w1.cell? ⟨(ad.add (i * 5)).block, (ad.add (i * 5)).off + 2, none⟩ = some (.string a.f2) ∧ w1.cell? ⟨(ad.add (i * 5)).block, (ad.add (i * 5)).off + 3, none⟩ = some (.slice Y3 a.f3.length y3) ∧ w1.cell? ⟨(ad.add (i * 5)).block, (ad.add (i * 5)).off + 4, none⟩ = some (.slice Y4 a.f4.length y4)) ∧
            (w1.cell? (ad2.add (i * 5)) = some (.int .i64 b.f0) ∧ w1.cell? ⟨(ad2.add (i * 5)).block, (ad2.add (i * 5)).off + 1, none⟩ = some (.int .i64 b.f1) ∧ w1.cell? ⟨(ad2.add (i * 5)).block, (ad2.add (i * 5)).off + 2, none⟩ = some (.string b.f2) ∧ w1.cell? ⟨(ad2.add (i * 5)).block, (ad2.add (i * 5)).off + 3, none⟩ = some (.slice Z3 b.f3.length z3) ∧ w1.cell? ⟨(ad2.add (i * 5)).block, (ad2.add (i * 5)).off + 4, none⟩ = some (.slice Z4 b.f4.length z4))) := ⟨fun w1 h1 => by
          have hb := HDr.out w1 h1
          obtain ⟨a0, a1, a2, a3, a4, _⟩ := he.below hb
          obtain ⟨b0, b1, b2, b3, b4, _⟩ := he2.below hb
          subst e1 e2
          exact ⟨(hb.cell (World.block_lt_of_cell? _ _ p4)).trans p4, (hb.cell (World.block_lt_of_cell? _ _ q4)).trans q4, ⟨a0, a1, a2, a3, a4⟩, ⟨b0, b1, b2, b3, b4⟩⟩⟩
        obtain ⟨r, hr⟩ : ∃ r, rcmp a b = r := ⟨_, rfl⟩
        have HY : Aside0 (∀ w1, AB wr.drew w1 → Calls Try.prog 68 #[.agg #[.int .i64 a.f0, .int .i64 a.f1, .string a.f2, .slice Y3 a.f3.length y3, .slice Y4 a.f4.length y4], .agg #[.int .i64 b.f0, .int .i64 b.f1, .string b.f2, .slice Z3 b.f3.length z3, .slice Z4 b.f4.length z4]] w1 fun e w2 => e = .returned (.int .i64 r) ∧ AB w1 w2) := ⟨fun w1 h1 => by rw [← hr]; exact HI.out a hmem b w1 (he.rd.below (HDr.out w1 h1)) (he2.rd.below (HDr.out w1 h1))⟩
        rw [hr] at HQ2
        clear hil hjl hd1 hd2 ha hb HQ hi ci cj him hmem he he2 hr
        subst e1 e2
        have HF : Aside0 (∀ w1, AB wr.drew w1 → Below w.heap.size w w1 ∧ Bv w1 w.heap.size A3 c3 (some ad) c4 x ∧ Bv w1 (w.heap.size + 1) B3 d3 (some ad2) d4 y) := ⟨fun w1 h1 => ⟨below_step HS.out.1 (HDr.out w1 h1), HS.out.2.1.below (HDr.out w1 h1), HS.out.2.2.below (HDr.out w1 h1)⟩⟩
        go_upto_region 17 with fail
        · refine Go.Up.start_ preB (n := 12) (R := AB) (ds := []) #[false, false, false, false, false, false, false, false, false, false, false, false] (by kernel_rfl) rfl (by rfl) ?_
          refine Go.Up.take_ preB (i := 0) (N := some 110) (v := (.pointer (some ⟨w.heap.size, 4, none⟩))) #[true, false, false, false, false, false, false, false, false, false, false, false] rfl rfl (by kernel_rfl) (fun _ _ _ h => h) (Go.Up.value_ preB rfl (fun w1 h1 => by (skip); go_simp)) rfl ?_
          try simp only [Act.put, List.setIfInBounds_toArray, List.set_cons_zero, List.set_cons_succ]
          refine Go.Up.take_ preB (i := 1) (N := some 111) (v := (.slice (some ad) x.f4.length c4)) #[true, true, false, false, false, false, false, false, false, false, false, false] rfl rfl (by kernel_rfl) (fun _ _ _ h => h) (Go.Up.value_ preB rfl (fun w1 h1 => by (have hB := HL.out w1 h1; obtain ⟨u0, u1, u2, u3⟩ := hB); go_simp)) rfl ?_
          try simp only [Act.put, List.setIfInBounds_toArray, List.set_cons_zero, List.set_cons_succ]
          refine Go.Up.take_ preB (i := 2) (N := some 112) (v := (.int .i64 (i : Int))) #[true, true, true, false, false, false, false, false, false, false, false, false] rfl rfl (by kernel_rfl) (fun _ _ _ h => h) (Go.Up.value_ preB rfl (fun w1 h1 => by (skip); go_simp)) rfl ?_
          try simp only [Act.put, List.setIfInBounds_toArray, List.set_cons_zero, List.set_cons_succ]
          refine Go.Up.take_ preB (i := 3) (N := some 113) (v := (.pointer (some (ad.add (i * 5))))) #[true, true, true, true, false, false, false, false, false, false, false, false] rfl rfl (by kernel_rfl) (fun _ _ _ h => h) (Go.Up.value_ preB rfl (fun w1 h1 => by (skip); go_simp)) rfl ?_
          try simp only [Act.put, List.setIfInBounds_toArray, List.set_cons_zero, List.set_cons_succ]
          refine Go.Up.take_ preB (i := 4) (N := some 114) (v := (.agg #[.int .i64 a.f0, .int .i64 a.f1, .string a.f2, .slice Y3 a.f3.length y3, .slice Y4 a.f4.length y4])) #[true, true, true, true, true, false, false, false, false, false, false, false] rfl rfl (by kernel_rfl) (fun _ _ _ h => h) (Go.Up.value_ preB rfl (fun w1 h1 => by (have hB := HL.out w1 h1; obtain ⟨u0, u1, ⟨e0, e1, e2, e3, e4⟩, u3⟩ := hB); go_simp)) rfl ?_
          try simp only [Act.put, List.setIfInBounds_toArray, List.set_cons_zero, List.set_cons_succ]
          refine Go.Up.take_ preB (i := 5) (N := some 115) (v := (.pointer (some ⟨w.heap.size + 1, 4, none⟩))) #[true, true, true, true, true, true, false, false, false, false, false, false] rfl rfl (by kernel_rfl) (fun _ _ _ h => h) (Go.Up.value_ preB rfl (fun w1 h1 => by (skip); go_simp)) rfl ?_
          try simp only [Act.put, List.setIfInBounds_toArray, List.set_cons_zero, List.set_cons_succ]
          refine Go.Up.take_ preB (i := 6) (N := some 116) (v := (.slice (some ad2) y.f4.length d4)) #[true, true, true, true, true, true, true, false, false, false, false, false] rfl rfl (by kernel_rfl) (fun _ _ _ h => h) (Go.Up.value_ preB rfl (fun w1 h1 => by (have hB := HL.out w1 h1; obtain ⟨u0, u1, u2, u3⟩ := hB); go_simp)) rfl ?_
          try simp only [Act.put, List.setIfInBounds_toArray, List.set_cons_zero, List.set_cons_succ]
          refine Go.Up.take_ preB (i := 7) (N := some 117) (v := (.int .i64 (i : Int))) #[true, true, true, true, true, true, true, true, false, false, false, false] rfl rfl (by kernel_rfl) (fun _ _ _ h => h) (Go.Up.value_ preB rfl (fun w1 h1 => by (skip); go_simp)) rfl ?_
          try simp only [Act.put, List.setIfInBounds_toArray, List.set_cons_zero, List.set_cons_succ]
          refine Go.Up.take_ preB (i := 8) (N := some 118) (v := (.pointer (some (ad2.add (i * 5))))) #[true, true, true, true, true, true, true, true, true, false, false, false] rfl rfl (by kernel_rfl) (fun _ _ _ h => h) (Go.Up.value_ preB rfl (fun w1 h1 => by (skip); go_simp)) rfl ?_
          try simp only [Act.put, List.setIfInBounds_toArray, List.set_cons_zero, List.set_cons_succ]
          refine Go.Up.take_ preB (i := 9) (N := some 119) (v := (.agg #[.int .i64 b.f0, .int .i64 b.f1, .string b.f2, .slice Z3 b.f3.length z3, .slice Z4 b.f4.length z4])) #[true, true, true, true, true, true, true, true, true, true, false, false] rfl rfl (by kernel_rfl) (fun _ _ _ h => h) (Go.Up.value_ preB rfl (fun w1 h1 => by (have hB := HL.out w1 h1; obtain ⟨u0, u1, u2, ⟨e0, e1, e2, e3, e4⟩⟩ := hB); go_simp)) rfl ?_
          try simp only [Act.put, List.setIfInBounds_toArray, List.set_cons_zero, List.set_cons_succ]
          refine Go.Up.take_ preB (i := 10) (N := some 120) (v := (.int .i64 r)) #[true, true, true, true, true, true, true, true, true, true, true, false] rfl rfl (by kernel_rfl) (fun _ _ _ h => h) (Go.Up.call_ (f := 68) Try.func68 rfl rfl #[.agg #[.int .i64 a.f0, .int .i64 a.f1, .string a.f2, .slice Y3 a.f3.length y3, .slice Y4 a.f4.length y4], .agg #[.int .i64 b.f0, .int .i64 b.f1, .string b.f2, .slice Z3 b.f3.length z3, .slice Z4 b.f4.length z4]] rfl rfl (by simp [Act.eval]) (fun w1 h1 => HY.out w1 h1)) rfl ?_
          try simp only [Act.put, List.setIfInBounds_toArray, List.set_cons_zero, List.set_cons_succ]
          refine Go.Up.take_ preB (i := 11) (N := some 7) (v := (.int .i64 r)) #[true, true, true, true, true, true, true, true, true, true, true, true] rfl rfl (by kernel_rfl) (fun _ _ _ h => h) (Go.Up.value_ preB rfl (fun w1 h1 => by (skip); go_simp)) rfl ?_
          try simp only [Act.put, List.setIfInBounds_toArray, List.set_cons_zero, List.set_cons_succ]
          refine Go.Up.done_ preB (by kernel_rfl) ?_
          intro w1 h1
          have HF1 := Aside0.mk (HF.out w1 h1)
          clear HF h1 HS HL HY HDr
          by_cases cr : r = 0
          · subst cr
            go_wp2_with fail
            go_roundg j1
            case measure => omega
            case rel => exact ⟨i + 1, by have := HII.out; omega, by have := HII.out; omega, rfl, ⟨by simpa using HQ2.out⟩, HF1⟩
          · have g7 : (r != 0) = true := by simpa using cr
            have HR : Aside0 (rcmp x y = r) := ⟨by rw [HE3.out, HQ2.out, if_neg cr]⟩
            clear cr HQ2
            go_wp2_with fail
            go_ret
            exact ⟨by rw [HR.out]; rfl, HF1.out.1⟩
      by_cases cl : x.f4.length = y.f4.length
      rotate_left
      · have f6 : ((x.f4.length : Int) != (y.f4.length : Int)) = true := bne_iff_ne.mpr (by omega)
        have f6' : (x.f4.length != y.f4.length) = true := bne_iff_ne.mpr cl
        have HR : Aside0 (rcmp x y = sg (decide ((x.f4.length : Int) < (y.f4.length : Int)))) := ⟨by
          rw [HE3.out]
          unfold sg
          by_cases c : i < x.f4.length
          · rw [HQ.out, List.drop_eq_getElem_cons c, show y.f4.drop i = [] from List.drop_eq_nil_of_le (by omega), if_neg (by simp; omega), rlc]
          · rw [HQ.out, show x.f4.drop i = [] from List.drop_eq_nil_of_le (by omega), List.drop_eq_getElem_cons (l := y.f4) (i := i) (by omega), if_pos (by simp; omega), rlc]⟩
        have g : (decide ((i : Int) < (x.f4.length : Int)) = true ∧ decide (i < x.f4.length) = true ∧ decide ((i : Int) < (y.f4.length : Int)) = false ∧ decide (i < y.f4.length) = false) ∨ (decide ((i : Int) < (x.f4.length : Int)) = false ∧ decide (i < x.f4.length) = false) := by
          by_cases c : i < x.f4.length
          · exact .inl ⟨decide_eq_true (by omega), decide_eq_true c, decide_eq_false (by omega), decide_eq_false (by omega)⟩
          · exact .inr ⟨decide_eq_false (by omega), decide_eq_false c⟩
        have g' : decide ((x.f4.length : Int) < (y.f4.length : Int)) = decide (x.f4.length < y.f4.length) := decide_eq_decide.2 (by omega)
        have HG := Aside0.mk g'
        clear g' cl cb HQ hi him
        rcases g with ⟨f0, f0', f1, f1'⟩ | ⟨f0, f0'⟩
        all_goals
          go_wp2_with (first | (go_at_call 82; (with_reducible refine (HSg.out _ _).mono ?_); rintro e we ⟨rfl, rfl⟩))
          go_ret
          exact ⟨by rw [HR.out]; first | rfl | (rw [HG.out]; rfl), HS.out.1⟩
      have f6 : ((x.f4.length : Int) != (y.f4.length : Int)) = false := by rw [bne_eq_false_iff_eq]; omega
      have f6' : (x.f4.length != y.f4.length) = false := by rw [bne_eq_false_iff_eq]; exact cl
      have f0 : decide ((i : Int) < (x.f4.length : Int)) = false := decide_eq_false (by omega)
      have f0' : decide (i < x.f4.length) = false := decide_eq_false (by omega)
      have HR : Aside0 (rcmp x y = 0) := ⟨by
        rw [HE3.out, HQ.out, show x.f4.drop i = [] from List.drop_eq_nil_of_le (by omega), show y.f4.drop i = [] from List.drop_eq_nil_of_le (by omega), rlc]⟩
      clear cl cb HQ hi him HE3 hkl
      go_wp2_with fail
      go_ret
      exact ⟨by rw [HR.out]; rfl, HS.out.1⟩
end Go.Proofs.Ytgpjkojnmeaoiaa.QV

/- slices.BinarySearch over strings, vals.Find, by hand. -/
namespace Go.Proofs.Ytgpjkojnmeaoiaa.QV
open Go Go.RowKit Go.Proofs.YtgpjkojnmeaoiaaW.PrintWords Go.Proofs.YtgpjkojnmeaoiaaW.PrintLast Go.Proofs.YtgpjkojnmeaoiaaW.PrintMore
set_option linter.unusedVariables false
set_option linter.unusedSimpArgs false
set_option maxRecDepth 100000
set_option maxHeartbeats 4000000
theorem lessC (a b : ByteArray) (w : World) : Calls Try.prog 96 #[.string a, .string b] w fun e w' => e = .returned (.bool (blt a b)) ∧ w' = w := by
  have HC := Aside0.mk (fun s W => nanC s W)
  have HB : Aside0 (blt a b = Op.bytesLess a.toList b.toList) := ⟨rfl⟩
  go_enter Try.func96, Try.ntmps96
  go_wp2_with (first | (go_at_call 98; (with_reducible refine (HC.out _ _).mono ?_); rintro e we ⟨rfl, rfl⟩))
  go_ret
  exact ⟨by rw [HB.out]; simp, rfl⟩
def Sk (ks : List ByteArray) : Prop := ks.Pairwise (fun a b => blt a b = true)
theorem Sk.at {ks : List ByteArray} (h : Sk ks) {i j : Nat} {a b : ByteArray} (hij : i < j) (hi : ks[i]? = some a) (hj : ks[j]? = some b) : blt a b = true := by
  obtain ⟨h1, rfl⟩ := List.getElem?_eq_some_iff.1 hi
  obtain ⟨h2, rfl⟩ := List.getElem?_eq_some_iff.1 hj
  exact List.pairwise_iff_getElem.1 h i j h1 h2 hij
def BsPost (ks : List ByteArray) (s : ByteArray) (w : World) (e : Ending) (w' : World) : Prop := ∃ (i : Nat) (f : Bool), i ≤ ks.length ∧ (f = true ↔ s ∈ ks) ∧ (f = true → ks[i]? = some s) ∧ e = .returned (.tuple #[.int .i64 (i : Int), .bool f]) ∧ Below w.heap.size w w'
theorem bsC (ks : List ByteArray) (s : ByteArray) (w : World) {A : Option Addr} {c : Nat} (hk : Kd.C Kd.string w A ks.length ks) (hn : ks.length ≤ 1000000000) (hs : Sk ks) :
    Calls Try.prog 88 #[.slice A ks.length c, .string s] w (BsPost ks s w) := by
  have HK := Aside0.mk hk
  have HS := Aside0.mk hs
  have HL := Aside0.mk (fun a b W => lessC a b W)
  have HN := Aside0.mk (fun s W => nanC' s W)
  have H0 : Aside0 ((∀ p k, p < 0 → ks[p]? = some k → blt k s = true) ∧ (∀ p k, ks.length ≤ p → ks[p]? = some k → blt k s = false)) := ⟨fun p k h => by omega, fun p k h1 h2 => by have := (List.getElem?_eq_some_iff.1 h2).1; omega⟩
  clear hk hs
  go_enter Try.func88, Try.ntmps88
  go_wp2
  go_loopg [7, 8] ks.length (fun kq v7 v8 w' => ∃ (i j : Nat), i + kq ≥ j ∧ i ≤ j ∧ j ≤ ks.length ∧ v7 = .int .i64 (i : Int) ∧ v8 = .int .i64 (j : Int) ∧ Aside0 ((∀ p k, p < i → ks[p]? = some k → blt k s = true) ∧ (∀ p k, j ≤ p → ks[p]? = some k → blt k s = false)) ∧ w' = w)
  case atStart => exact ⟨0, ks.length, by omega, by omega, by omega, rfl, rfl, H0, rfl⟩
  case round =>
    clear H0
    obtain ⟨i, j, hm, hij, hj, rfl, rfl, HQ, rfl⟩ := hrel
    by_cases c : i < j
    · have g0 : decide ((i : Int) < (j : Int)) = true := decide_eq_true (by omega)
      obtain ⟨h, hh⟩ : ∃ h : Nat, (i + j) / 2 = h := ⟨_, rfl⟩
      have hih : i ≤ h ∧ h < j := by omega
      have hhn : h < ks.length := by omega
      obtain ⟨j1, rfl⟩ : ∃ j1, gk = j1 + 1 := ⟨gk - 1, by omega⟩
      have hsum : wrap64 ((i : Int) + (j : Int)) = (i : Int) + (j : Int) := wrap_id _ (by omega) (by omega)
      have hil : ks[h]? = some ks[h] := List.getElem?_eq_getElem hhn
      obtain ⟨y, hy⟩ : ∃ y, ks[h] = y := ⟨_, rfl⟩
      rw [hy] at hil
      obtain ⟨ad, e1, he⟩ := str_at HK.out h hhn hil
      have HIL := Aside0.mk hil
      have HII : Aside0 (i + (j1 + 1) ≥ j ∧ i ≤ h ∧ h < j ∧ j ≤ ks.length) := ⟨hm, by omega⟩
      subst e1
      clear hy hil
      have hHc : ((((i + j) / 2 : Nat) : Int)) = ((i : Int) + (j : Int)) / 2 := by omega
      have HQ1 : Aside0 ((blt y s = true → ∀ p k, p < h + 1 → ks[p]? = some k → blt k s = true) ∧ (blt y s = false → ∀ p k, h ≤ p → ks[p]? = some k → blt k s = false)) := ⟨by
        refine ⟨fun hb p k hp hk => ?_, fun hb p k hp hk => ?_⟩
        · rcases Nat.lt_or_ge p h with q | q
          · exact blt_trans (HS.out.at q hk HIL.out) hb
          · obtain rfl : p = h := by omega
            rw [HIL.out] at hk
            obtain rfl := Option.some.inj hk
            exact hb
        · rcases Nat.lt_or_ge h p with q | q
          · cases hkb : blt k s with
            | false => rfl
            | true => have := blt_trans (HS.out.at q HIL.out hk) hkb; rw [hb] at this; cases this
          · obtain rfl : p = h := by omega
            rw [HIL.out] at hk
            obtain rfl := Option.some.inj hk
            exact hb⟩
      have HHh : Aside0 (((i : Int) + (j : Int)) / 2 = (h : Int)) := ⟨by omega⟩
      obtain ⟨b, hb⟩ : ∃ b, blt y s = b := ⟨_, rfl⟩
      have HL2 : Aside0 (∀ W, Calls Try.prog 96 #[.string y, .string s] W fun e w' => e = .returned (.bool b) ∧ w' = W) := ⟨fun W => by rw [← hb]; exact lessC y s W⟩
      rw [hb] at HQ1
      have HQb := Aside0.mk HQ.out
      clear HQ hb hHc
      cases b with
      | true =>
        have HQ2 : Aside0 ((∀ p k, p < h + 1 → ks[p]? = some k → blt k s = true) ∧ (∀ p k, j ≤ p → ks[p]? = some k → blt k s = false)) := ⟨HQ1.out.1 rfl, HQb.out.2⟩
        clear HQ1 HQb
        go_wp2_with (first | (go_at_call 96; (with_reducible refine (HL2.out _).mono ?_); rintro e we ⟨rfl, rfl⟩))
        go_roundg j1
        case measure => omega
        case rel => exact ⟨h + 1, j, by have := HII.out; omega, by have := HII.out; omega, by have := HII.out; omega, by rw [HHh.out]; rfl, rfl, HQ2, rfl⟩
      | false =>
        have HQ2 : Aside0 ((∀ p k, p < i → ks[p]? = some k → blt k s = true) ∧ (∀ p k, h ≤ p → ks[p]? = some k → blt k s = false)) := ⟨HQb.out.1, HQ1.out.2 rfl⟩
        clear HQ1 HQb
        go_wp2_with (first | (go_at_call 96; (with_reducible refine (HL2.out _).mono ?_); rintro e we ⟨rfl, rfl⟩))
        go_roundg j1
        case measure => omega
        case rel => exact ⟨i, h, by have := HII.out; omega, by have := HII.out; omega, by have := HII.out; omega, rfl, by rw [HHh.out], HQ2, rfl⟩
    · have g0 : decide ((i : Int) < (j : Int)) = false := decide_eq_false (by omega)
      obtain rfl : i = j := by omega
      have HM : Aside0 (∀ p, ks[p]? = some s → p = i) := ⟨fun p hp => by
        rcases Nat.lt_trichotomy p i with h | h | h
        · have := HQ.out.1 p s h hp; rw [blt_irrefl] at this; cases this
        · exact h
        · obtain ⟨h1, _⟩ := List.getElem?_eq_some_iff.1 hp
          have h2 : ks[i]? = some (ks[i]'(by omega)) := List.getElem?_eq_getElem (by omega)
          have h3 := HS.out.at h h2 hp
          rw [HQ.out.2 i _ (Nat.le_refl _) h2] at h3
          cases h3⟩
      clear HQ hm hij
      by_cases ci : i < ks.length
      rotate_left
      · have g1 : decide ((i : Int) < (ks.length : Int)) = false := decide_eq_false (by omega)
        have g1' : decide (i < ks.length) = false := decide_eq_false ci
        have HF : Aside0 (¬ s ∈ ks) := ⟨fun h => by
          obtain ⟨p, hp⟩ := List.mem_iff_getElem?.1 h
          have := HM.out p hp
          have := (List.getElem?_eq_some_iff.1 hp).1
          omega⟩
        clear ci HM
        go_wp2_with fail
        go_ret2
        exact ⟨i, false, hj, by simp only [Bool.false_eq_true, false_iff]; exact HF.out, by simp, rfl, Below.refl _ _⟩
      have g1 : decide ((i : Int) < (ks.length : Int)) = true := decide_eq_true (by omega)
      have hil : ks[i]? = some ks[i] := List.getElem?_eq_getElem ci
      obtain ⟨y, hy⟩ : ∃ y, ks[i] = y := ⟨_, rfl⟩
      rw [hy] at hil
      obtain ⟨ad, e1, he⟩ := str_at HK.out i ci hil
      have g2 : (0 ≤ (i : Int)) = True := eq_true (by omega)
      have g3 : ((i : Int) < (ks.length : Int)) = True := eq_true (by omega)
      have HY := Aside0.mk hil
      subst e1
      by_cases cy : y = s
      · have g4 : (y.toList == s.toList) = true := by rw [cy]; simp
        have HT : Aside0 (s ∈ ks ∧ ks[i]? = some s) := ⟨by rw [← cy]; exact ⟨List.mem_of_getElem? hil, hil⟩⟩
        clear cy hil hy ci HM
        go_wp2_with fail
        go_ret2
        exact ⟨i, true, hj, by simp only [true_iff]; exact HT.out.1, fun _ => HT.out.2, rfl, Below.refl _ _⟩
      · have g4 : (y.toList == s.toList) = false := by rw [beq_eq_false_iff_ne]; exact fun h => cy (tl_inj.1 h)
        have HF : Aside0 (¬ s ∈ ks) := ⟨fun h => by
          obtain ⟨p, hp⟩ := List.mem_iff_getElem?.1 h
          obtain rfl := HM.out p hp
          rw [hil] at hp
          exact cy (Option.some.inj hp)⟩
        clear cy hil hy ci HM
        go_wp2_with (first | (go_at_call 97; (with_reducible refine (HN.out _ _).mono ?_); rintro e we ⟨rfl, rfl⟩))
        go_ret2
        exact ⟨i, false, hj, by simp only [Bool.false_eq_true, false_iff]; exact HF.out, by simp, rfl, Below.refl _ _⟩
theorem findC (x : S28) (s : ByteArray) (w : World) {A3 : Option Addr} {c3 : Nat} {A4 : Option Addr} {c4 : Nat} (hr : Rd w A3 c3 A4 c4 x) (hn : x.f3.length ≤ 1000000000) (hs : Sk x.f3) :
    Calls Try.prog 76 #[.agg #[.int .i64 x.f0, .int .i64 x.f1, .string x.f2, .slice A3 x.f3.length c3, .slice A4 x.f4.length c4], .string s] w (BsPost x.f3 s w) := by
  have hB := Bv.new hr
  obtain ⟨p0, p1, p2, p3, p4⟩ := hB.cells
  have HC := Aside0.mk (bsC (c := c3) x.f3 s _ hB.rd.r3 hn hs)
  have HW := Aside0.mk (new_below w (.cells #[.int .i64 x.f0, .int .i64 x.f1, .string x.f2, .slice A3 x.f3.length c3, .slice A4 x.f4.length c4] 28))
  clear hB hr hs
  go_enter Try.func76, Try.ntmps76
  go_wp2_with (first | (go_at_call 88; (with_reducible refine HC.out.mono ?_); rintro e we ⟨i, f, h1, h2, h3, rfl, hb⟩; have H := Aside0.mk (And.intro h1 (And.intro h2 h3)); have HW2 := Aside0.mk (below_step HW.out hb); clear h1 h2 h3 hb))
  go_ret2
  exact ⟨i, f, H.out.1, H.out.2.1, H.out.2.2, rfl, HW2.out⟩
end Go.Proofs.Ytgpjkojnmeaoiaa.QV
