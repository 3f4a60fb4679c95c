/- vals.Valid, Fit, All, Depth, Nodes, Truthy, Name; the value package over them, by hand. -/
import Derived.Test.YtgpjkojnmeaoiaaV4
namespace Go.Proofs.Ytgpjkojnmeaoiaa.QV
open Go Go.RowKit Go.Proofs.YtgpjkojnmeaoiaaW.PrintWords Go.Proofs.YtgpjkojnmeaoiaaW.PrintLast Go.Proofs.YtgpjkojnmeaoiaaW.PrintMore
set_option linter.unusedVariables false
set_option linter.unusedSimpArgs false
set_option maxRecDepth 100000
set_option maxHeartbeats 4000000
def vd (x : S28) : Bool := fitR true 0 x 0 0
theorem meter_new (w : World) : (w.alloc (.cells #[.int .i64 0, .int .i64 0] 72)).heap[w.heap.size]? = some (.cells #[.int .i64 0, .int .i64 0] 72 (0, 0)) := heap_alloc_new w _
theorem fit0 (form : Bool) (x : S28) (w0 w : World) {A3 : Option Addr} {c3 : Nat} {A4 : Option Addr} {c4 : Nat} (hx : Wv x) (hc : cnt x ≤ 1000000000000000) (hr : Rd w0 A3 c3 A4 c4 x) (m : Nat) (hm : w0.heap.size ≤ m) (hb : Below w0.heap.size w0 w) (hM : w.heap[m]? = some (.cells #[.int .i64 0, .int .i64 0] 72 (0, 0))) :
    Calls Try.prog 72 #[.pointer (some ⟨m, 0, none⟩), .agg #[.int .i64 x.f0, .int .i64 x.f1, .string x.f2, .slice A3 x.f3.length c3, .slice A4 x.f4.length c4], .int .i64 0, .bool form] w fun e w' => e = .returned (.bool (fitR form 0 x 0 0)) ∧ w.grownBy w' (some m) :=
  (fitC form _ x 0 0 0 m w0 w (Nat.lt_succ_self _) hx hc (by omega) (by omega) (by omega) (by omega) (by omega) hr hm hb hM).mono fun e w' h => by
    obtain ⟨n', b', h1, h2, h3, h4⟩ := h
    exact ⟨h1, h2⟩
theorem validC (x : S28) (w : World) {A3 : Option Addr} {c3 : Nat} {A4 : Option Addr} {c4 : Nat} (hx : Wv x) (hc : cnt x ≤ 1000000000000000) (hr : Rd w A3 c3 A4 c4 x) :
    Calls Try.prog 59 #[.agg #[.int .i64 x.f0, .int .i64 x.f1, .string x.f2, .slice A3 x.f3.length c3, .slice A4 x.f4.length c4]] w fun e w' => e = .returned (.bool (vd x)) ∧ Below w.heap.size w w' := by
  have ha := new_below w (.cells #[.int .i64 x.f0, .int .i64 x.f1, .string x.f2, .slice A3 x.f3.length c3, .slice A4 x.f4.length c4] 28)
  obtain ⟨W, hW⟩ : ∃ W, w.alloc (.cells #[.int .i64 x.f0, .int .i64 x.f1, .string x.f2, .slice A3 x.f3.length c3, .slice A4 x.f4.length c4] 28) = W := ⟨_, rfl⟩
  have hW1 : Bv W w.heap.size A3 c3 A4 c4 x := by rw [← hW]; exact Bv.new hr
  have hWs : W.heap.size = w.heap.size + 1 := by rw [← hW]; simp
  rw [hW] at ha
  have hb2 := new_below W (.cells #[.int .i64 0, .int .i64 0] 72)
  have HF := Aside0.mk (fit0 true x w (W.alloc (.cells #[.int .i64 0, .int .i64 0] 72)) hx hc hr W.heap.size (by omega) (below_step ha hb2) (meter_new W))
  have HA := Aside0.mk ha
  have HB := Aside0.mk (hW1.below hb2)
  have HS := Aside0.mk hWs
  obtain ⟨r, hvr⟩ : ∃ r, vd x = r := ⟨_, rfl⟩
  rw [hvr]
  unfold vd at hvr
  rw [hvr] at HF
  have HA2 := Aside0.mk (below_step ha hb2)
  have HWe := Aside0.mk hW
  clear ha hW1 hb2 hWs hx hc hr hvr hW
  go_enter Try.func59, Try.ntmps59
  go_upto_region 1 with fail
  rw [HWe.out]
  clear HWe
  obtain ⟨q0, q1, q2, q3, q4⟩ := HB.out.cells
  go_wp2_with (first | (go_at_call 72; (with_reducible refine HF.out.mono ?_); rintro e we ⟨rfl, hg⟩; have HG := Aside0.mk hg; clear hg))
  go_ret
  exact ⟨rfl, below_of_grown HA2.out (by have := HS.out; omega) (by have := HS.out; simp; omega) HG.out⟩
theorem valueValidC (x : S28) (w : World) {A3 : Option Addr} {c3 : Nat} {A4 : Option Addr} {c4 : Nat} (hx : Wv x) (hc : cnt x ≤ 1000000000000000) (hr : Rd w A3 c3 A4 c4 x) :
    Calls Try.prog 24 #[.agg #[.int .i64 x.f0, .int .i64 x.f1, .string x.f2, .slice A3 x.f3.length c3, .slice A4 x.f4.length c4]] w fun e w' => e = .returned (.bool (vd x)) ∧ Below w.heap.size w w' := by
  have HR := Aside0.mk hr
  have HV := Aside0.mk (fun W (hb : Below w.heap.size w W) => validC x W hx hc (hr.below hb))
  have HA := Aside0.mk (new_below w (.cells #[.int .i64 x.f0, .int .i64 x.f1, .string x.f2, .slice A3 x.f3.length c3, .slice A4 x.f4.length c4] 28))
  clear hx hc hr
  go_enter Try.func24, Try.ntmps24
  go_wp2_with (first | (go_at_call 59; (with_reducible refine (HV.out _ HA.out).mono ?_); rintro e we ⟨rfl, hb⟩; have HB := Aside0.mk (below_step HA.out hb); clear hb))
  go_ret
  exact ⟨rfl, HB.out⟩
theorem truthyC (x : S28) (w : World) {A3 : Option Addr} {c3 : Nat} {A4 : Option Addr} {c4 : Nat} : Calls Try.prog 63 #[.agg #[.int .i64 x.f0, .int .i64 x.f1, .string x.f2, .slice A3 x.f3.length c3, .slice A4 x.f4.length c4]] w fun e w' => e = .returned (.bool (decide (x.f0 > 1))) ∧ Below w.heap.size w w' := by
  go_enter Try.func63, Try.ntmps63
  go_wp2_with fail
  go_ret
  exact ⟨rfl, new_below _ _⟩
theorem valueTruthyC (x : S28) (w : World) {A3 : Option Addr} {c3 : Nat} {A4 : Option Addr} {c4 : Nat} (hx : Wv x) (hc : cnt x ≤ 1000000000000000) (hr : Rd w A3 c3 A4 c4 x) :
    Calls Try.prog 30 #[.agg #[.int .i64 x.f0, .int .i64 x.f1, .string x.f2, .slice A3 x.f3.length c3, .slice A4 x.f4.length c4]] w fun e w' => e = .returned (.bool (vd x && decide (x.f0 > 1))) ∧ Below w.heap.size w w' := by
  have HR := Aside0.mk hr
  have HV := Aside0.mk (fun W (hb : Below w.heap.size w W) => validC x W hx hc (hr.below hb))
  have HA := Aside0.mk (new_below w (.cells #[.int .i64 x.f0, .int .i64 x.f1, .string x.f2, .slice A3 x.f3.length c3, .slice A4 x.f4.length c4] 28))
  have HB := Aside0.mk (Bv.new hr)
  obtain ⟨r, hvr⟩ : ∃ r, vd x = r := ⟨_, rfl⟩
  rw [hvr] at HV ⊢
  clear hx hc hr hvr
  go_enter Try.func30, Try.ntmps30
  cases r with
  | false =>
    go_wp2_with (first | (go_at_call 59; (with_reducible refine (HV.out _ HA.out).mono ?_); rintro e we ⟨rfl, hb⟩; have HB2 := Aside0.mk (below_step HA.out hb); clear hb))
    go_ret
    exact ⟨rfl, HB2.out⟩
  | true =>
    go_wp2_with (first | (go_at_call 59; (with_reducible refine (HV.out _ HA.out).mono ?_); rintro e we ⟨rfl, hb⟩; have HB2 := Aside0.mk (below_step HA.out hb); have HB3 := Aside0.mk (HB.out.below hb); obtain ⟨q0, q1, q2, q3, q4⟩ := HB3.out.cells; clear hb) | (go_at_call 63; (with_reducible refine (truthyC x _).mono ?_); rintro e we2 ⟨rfl, hb⟩; have HB4 := Aside0.mk (below_step HB2.out hb); clear hb))
    go_ret
    exact ⟨rfl, HB4.out⟩
/-! ### Depth, Nodes -/
mutual
def dpt : S28 → Nat
  | ⟨a, _, _, _, es⟩ => if a < 5 then 0 else dptL es + 1
def dptL : List S28 → Nat
  | [] => 0
  | e :: l => max (dpt e) (dptL l)
end
mutual
def nda : S28 → Nat
  | ⟨_, _, _, _, es⟩ => 1 + ndaL es
def ndaL : List S28 → Nat
  | [] => 0
  | e :: l => nda e + ndaL l
end
theorem dpt_eq (x : S28) : dpt x = if x.f0 < 5 then 0 else dptL x.f4 + 1 := by obtain ⟨a, b, c, d, e⟩ := x; rw [dpt]
theorem nda_eq (x : S28) : nda x = 1 + ndaL x.f4 := by obtain ⟨a, b, c, d, e⟩ := x; rw [nda]
theorem dptL_app (l m : List S28) : dptL (l ++ m) = max (dptL l) (dptL m) := by
  induction l with
  | nil => simp [dptL]
  | cons k l ih => simp only [List.cons_append, dptL, ih]; omega
theorem ndaL_app (l m : List S28) : ndaL (l ++ m) = ndaL l + ndaL m := by
  induction l with
  | nil => simp [ndaL]
  | cons k l ih => simp only [List.cons_append, ndaL, ih]; omega
theorem dptL_take {l : List S28} {i : Nat} {k : S28} (h : l[i]? = some k) : dptL (l.take (i + 1)) = max (dptL (l.take i)) (dpt k) := by
  rw [List.take_add_one, h, dptL_app]
  simp [dptL]
theorem ndaL_take {l : List S28} {i : Nat} {k : S28} (h : l[i]? = some k) : ndaL (l.take (i + 1)) = ndaL (l.take i) + nda k := by
  rw [List.take_add_one, h, ndaL_app]
  simp [ndaL]
theorem nda_cnt (s : Nat) : ∀ x : S28, SizeOf.sizeOf x < s → nda x ≤ cnt x ∧ dpt x ≤ cnt x := by
  induction s with
  | zero => intro x h; omega
  | succ s ih =>
    intro x h
    have hl : ∀ l : List S28, (∀ y ∈ l, SizeOf.sizeOf y < s) → ndaL l ≤ cntL l ∧ dptL l ≤ cntL l := fun l => by
      induction l with
      | nil => intro _; simp [ndaL, dptL, cntL]
      | cons y l ihl =>
        intro hy
        have h1 := ih y (hy y List.mem_cons_self)
        have h2 := ihl (fun z hz => hy z (List.mem_cons_of_mem _ hz))
        simp only [ndaL, dptL, cntL]
        omega
    have h1 := hl x.f4 (fun y hy => by have := sz_mem hy; omega)
    have h3 := cnt_eq x
    rw [nda_eq, dpt_eq]
    split <;> omega
theorem cnt_mem {x y : S28} (h : y ∈ x.f4) : cnt y ≤ cnt x := by
  have h1 : ∀ l : List S28, y ∈ l → cnt y ≤ cntL l := fun l => by
    induction l with
    | nil => intro h; cases h
    | cons z l ih =>
      intro h
      simp only [cntL]
      rcases List.mem_cons.1 h with rfl | h
      · omega
      · have := ih h; omega
  have h2 := h1 x.f4 h
  rw [cnt_eq x]
  omega
theorem dptL_le (l : List S28) (i : Nat) : dptL (l.take i) ≤ dptL l := by
  have h := dptL_app (l.take i) (l.drop i)
  rw [List.take_append_drop] at h
  omega
theorem ndaL_le (l : List S28) (i : Nat) : ndaL (l.take i) ≤ ndaL l := by
  have h := ndaL_app (l.take i) (l.drop i)
  rw [List.take_append_drop] at h
  omega
theorem nodesC (st : Nat) : ∀ (x : S28) (w : World) {A3 : Option Addr} {c3 : Nat} {A4 : Option Addr} {c4 : Nat}, SizeOf.sizeOf x < st → Wv x → cnt x ≤ 1000000000000000 → Rd w A3 c3 A4 c4 x →
    Calls Try.prog 62 #[.agg #[.int .i64 x.f0, .int .i64 x.f1, .string x.f2, .slice A3 x.f3.length c3, .slice A4 x.f4.length c4]] w fun e w' => e = .returned (.int .i64 (nda x : Int)) ∧ Below w.heap.size w w' := by
  induction st with
  | zero => intro x w A3 c3 A4 c4 h; omega
  | succ st ih =>
  intro x w A3 c3 A4 c4 hs hx hc hr
  have HS := Aside0.mk hs
  have HX := Aside0.mk hx
  have HC := Aside0.mk hc
  have HR := Aside0.mk hr
  have HIH := Aside0.mk ih
  have h3 := hx.el
  have HE := Aside0.mk (nda_eq x)
  have HBd := Aside0.mk (nda_cnt _ x (Nat.lt_succ_self _))
  obtain ⟨r, hfr⟩ : ∃ r : Int, (nda x : Int) = r := ⟨_, rfl⟩
  rw [hfr]
  have HF := Aside0.mk hfr
  have HB := Aside0.mk (Bv.new hr)
  have HW := Aside0.mk (new_below w (.cells #[.int .i64 x.f0, .int .i64 x.f1, .string x.f2, .slice A3 x.f3.length c3, .slice A4 x.f4.length c4] 28))
  clear hx hr hs hc ih hfr
  go_enter Try.func62, Try.ntmps62
  go_upto_region 1 with fail
  obtain ⟨bb, hb⟩ : ∃ b, w.heap.size = b := ⟨_, rfl⟩
  obtain ⟨W, hW⟩ : ∃ W, w.alloc (.cells #[.int .i64 x.f0, .int .i64 x.f1, .string x.f2, .slice A3 x.f3.length c3, .slice A4 x.f4.length c4] 28) = W := ⟨_, rfl⟩
  rw [hW, hb] at HB
  rw [hW] at HW
  rw [hW, hb]
  clear hW hb HR
  obtain ⟨q0, q1, q2, q3, q4⟩ := HB.out.cells

  go_wp2_with fail
  clear q0 q1 q2 q3 q4
  go_loopg [3, 9] x.f4.length (fun kq v3 vi w' => ∃ (i : Nat) (c : Int), kq + i = x.f4.length ∧ vi = .int .i64 (i : Int) ∧ v3 = .int .i64 c ∧ Aside0 (c = (1 + ndaL (x.f4.take i) : Nat)) ∧ (0 ≤ c ∧ c ≤ 3000000000000000) ∧ Aside0 (Bv w' bb A3 c3 A4 c4 x) ∧ Aside0 (Below w.heap.size w w'))
  case atStart => exact ⟨0, _, by omega, rfl, rfl, ⟨by simp [ndaL]⟩, by omega, HB, HW⟩
  case round =>
    clear HB HW
    obtain ⟨i, c, hi, rfl, rfl, HN, hcb, HB, HW⟩ := hrel
    obtain ⟨q0, q1, q2, q3, q4⟩ := HB.out.cells
    by_cases ci : i < x.f4.length
    · have g0 : decide ((i : Int) < (x.f4.length : Int)) = true := decide_eq_true (by omega)
      have g2 : (0 ≤ (i : Int)) = True := eq_true (by omega)
      have g3 : ((i : Int) < (x.f4.length : Int)) = True := eq_true (by omega)
      obtain ⟨j1, rfl⟩ : ∃ j1, gk = j1 + 1 := ⟨gk - 1, by omega⟩
      have hil : x.f4[i]? = some x.f4[i] := List.getElem?_eq_getElem ci
      have hm := List.getElem_mem ci
      have hq := HX.out.es _ hm
      have hz := sz_mem hm
      have hcy := cnt_mem hm
      obtain ⟨y, hq'⟩ : ∃ y, x.f4[i] = y := ⟨_, rfl⟩
      rw [hq'] at hil hq hz hcy
      obtain ⟨ad, Y3, y3, Y4, y4, e1, he0⟩ := el_at HB.out.rd.r4 i ci hil
      have HT := Aside0.mk (ndaL_take hil)
      have hL := ndaL_take hil
      have HI := Aside0.mk hi
      have HP := Aside0.mk (new_below wr (.cells #[.int .i64 y.f0, .int .i64 y.f1, .string y.f2, .slice Y3 y.f3.length y3, .slice Y4 y.f4.length y4] 28))
      have HY := Aside0.mk (HIH.out y (wr.alloc (.cells #[.int .i64 y.f0, .int .i64 y.f1, .string y.f2, .slice Y3 y.f3.length y3, .slice Y4 y.f4.length y4] 28)) (by have := HS.out; omega) hq (by have := HC.out; omega) (he0.rd.below HP.out))
      have hyb : (nda y : Int) ≤ 1000000000000000 := by
        have h1 := nda_cnt _ y (Nat.lt_succ_self _)
        have := HC.out
        omega
      have hcn : c + (nda y : Int) ≤ 3000000000000000 ∧ 0 ≤ c + (nda y : Int) := by
        have h1 := HN.out
        have h2 := HBd.out
        have h3 := HE.out
        have h4 := HC.out
        have h5 := ndaL_le x.f4 (i + 1)

        omega
      have hy0 : 0 ≤ (nda y : Int) := by omega
      obtain ⟨d, hd⟩ : ∃ d : Int, (nda y : Int) = d := ⟨_, rfl⟩
      rw [hd] at HY hyb hcn hy0
      have HD := Aside0.mk hd
      obtain ⟨e0, e2, e3, e4, e5, _⟩ := he0

      clear hil hq' hi hm hq hz hcy hL hd
      subst e1
      go_wp2_with (first | (go_at_call 62; (with_reducible refine HY.out.mono ?_); rintro e we ⟨rfl, hb⟩; have HW2 := Aside0.mk (below_step (below_step HW.out HP.out) hb); have HB2 := Aside0.mk ((HB.out.below HP.out).below hb); clear HW HB; have HW := HW2; have HB := HB2; clear HW2 HB2 hb))
      go_roundg j1
      case measure => omega
      case rel => exact ⟨i + 1, c + d, by have := HI.out; omega, rfl, rfl, ⟨by have h1 := HT.out; have h2 := HN.out; have h3 := HD.out; omega⟩, by omega, HB, HW⟩
    · have g0 : decide (i < x.f4.length) = false := decide_eq_false ci
      have hff : r = c := by
        have h1 := HN.out
        rw [List.take_of_length_le (by omega)] at h1
        rw [← HF.out, HE.out]
        omega
      subst hff
      clear HF ci hi HN
      go_wp2
      go_ret
      exact ⟨rfl, HW.out⟩
theorem depthC (st : Nat) : ∀ (x : S28) (w : World) {A3 : Option Addr} {c3 : Nat} {A4 : Option Addr} {c4 : Nat}, SizeOf.sizeOf x < st → Wv x → cnt x ≤ 1000000000000000 → Rd w A3 c3 A4 c4 x →
    Calls Try.prog 61 #[.agg #[.int .i64 x.f0, .int .i64 x.f1, .string x.f2, .slice A3 x.f3.length c3, .slice A4 x.f4.length c4]] w fun e w' => e = .returned (.int .i64 (dpt x : Int)) ∧ Below w.heap.size w w' := by
  induction st with
  | zero => intro x w A3 c3 A4 c4 h; omega
  | succ st ih =>
  intro x w A3 c3 A4 c4 hs hx hc hr
  have HS := Aside0.mk hs
  have HX := Aside0.mk hx
  have HC := Aside0.mk hc
  have HR := Aside0.mk hr
  have HIH := Aside0.mk ih
  have h3 := hx.el
  have HE := Aside0.mk (dpt_eq x)
  have HBd := Aside0.mk (nda_cnt _ x (Nat.lt_succ_self _))
  obtain ⟨r, hfr⟩ : ∃ r : Int, (dpt x : Int) = r := ⟨_, rfl⟩
  rw [hfr]
  have HF := Aside0.mk hfr
  have HB := Aside0.mk (Bv.new hr)
  have HW := Aside0.mk (new_below w (.cells #[.int .i64 x.f0, .int .i64 x.f1, .string x.f2, .slice A3 x.f3.length c3, .slice A4 x.f4.length c4] 28))
  clear hx hr hs hc ih hfr
  go_enter Try.func61, Try.ntmps61
  go_upto_region 1 with fail
  obtain ⟨bb, hb⟩ : ∃ b, w.heap.size = b := ⟨_, rfl⟩
  obtain ⟨W, hW⟩ : ∃ W, w.alloc (.cells #[.int .i64 x.f0, .int .i64 x.f1, .string x.f2, .slice A3 x.f3.length c3, .slice A4 x.f4.length c4] 28) = W := ⟨_, rfl⟩
  rw [hW, hb] at HB
  rw [hW] at HW
  rw [hW, hb]
  clear hW hb HR
  obtain ⟨q0, q1, q2, q3, q4⟩ := HB.out.cells
  by_cases t5 : x.f0 < 5
  · have g5 : decide (x.f0 < 5) = true := decide_eq_true t5
    have hff : r = 0 := by rw [← HF.out, HE.out, if_pos t5]; rfl
    subst hff
    clear HF
    go_wp2_with fail
    go_ret
    exact ⟨rfl, HW.out⟩
  have g5 : decide (x.f0 < 5) = false := decide_eq_false t5
  have HT5 := Aside0.mk t5
  clear t5
  go_wp2_with fail
  clear q0 q1 q2 q3 q4
  go_loopg [3, 12] x.f4.length (fun kq v3 vi w' => ∃ (i : Nat) (c : Int), kq + i = x.f4.length ∧ vi = .int .i64 (i : Int) ∧ v3 = .int .i64 c ∧ Aside0 (c = (dptL (x.f4.take i) : Nat)) ∧ (0 ≤ c ∧ c ≤ 3000000000000000) ∧ Aside0 (Bv w' bb A3 c3 A4 c4 x) ∧ Aside0 (Below w.heap.size w w'))
  case atStart => exact ⟨0, _, by omega, rfl, rfl, ⟨by simp [dptL]⟩, by omega, HB, HW⟩
  case round =>
    clear HB HW
    obtain ⟨i, c, hi, rfl, rfl, HN, hcb, HB, HW⟩ := hrel
    obtain ⟨q0, q1, q2, q3, q4⟩ := HB.out.cells
    by_cases ci : i < x.f4.length
    · have g0 : decide ((i : Int) < (x.f4.length : Int)) = true := decide_eq_true (by omega)
      have g2 : (0 ≤ (i : Int)) = True := eq_true (by omega)
      have g3 : ((i : Int) < (x.f4.length : Int)) = True := eq_true (by omega)
      obtain ⟨j1, rfl⟩ : ∃ j1, gk = j1 + 1 := ⟨gk - 1, by omega⟩
      have hil : x.f4[i]? = some x.f4[i] := List.getElem?_eq_getElem ci
      have hm := List.getElem_mem ci
      have hq := HX.out.es _ hm
      have hz := sz_mem hm
      have hcy := cnt_mem hm
      obtain ⟨y, hq'⟩ : ∃ y, x.f4[i] = y := ⟨_, rfl⟩
      rw [hq'] at hil hq hz hcy
      obtain ⟨ad, Y3, y3, Y4, y4, e1, he0⟩ := el_at HB.out.rd.r4 i ci hil
      have HT := Aside0.mk (dptL_take hil)
      have hL := dptL_take hil
      have HI := Aside0.mk hi
      have HP := Aside0.mk (new_below wr (.cells #[.int .i64 y.f0, .int .i64 y.f1, .string y.f2, .slice Y3 y.f3.length y3, .slice Y4 y.f4.length y4] 28))
      have HY := Aside0.mk (HIH.out y (wr.alloc (.cells #[.int .i64 y.f0, .int .i64 y.f1, .string y.f2, .slice Y3 y.f3.length y3, .slice Y4 y.f4.length y4] 28)) (by have := HS.out; omega) hq (by have := HC.out; omega) (he0.rd.below HP.out))
      have hyb : (dpt y : Int) ≤ 1000000000000000 := by
        have h1 := nda_cnt _ y (Nat.lt_succ_self _)
        have := HC.out
        omega
      have hcn : max c (dpt y : Int) ≤ 3000000000000000 ∧ 0 ≤ max c (dpt y : Int) := by
        have h1 := HN.out
        have h2 := HBd.out
        have h3 := HE.out
        have h4 := HC.out
        have h5 := dptL_le x.f4 (i + 1)
        rw [if_neg (by have := HT5.out; omega)] at h3
        omega
      have hy0 : 0 ≤ (dpt y : Int) := by omega
      obtain ⟨d, hd⟩ : ∃ d : Int, (dpt y : Int) = d := ⟨_, rfl⟩
      rw [hd] at HY hyb hcn hy0
      have HD := Aside0.mk hd
      obtain ⟨e0, e2, e3, e4, e5, _⟩ := he0

      clear hil hq' hi hm hq hz hcy hL hd
      subst e1
      go_wp2_with (first | (go_at_call 61; (with_reducible refine HY.out.mono ?_); rintro e we ⟨rfl, hb⟩; have HW2 := Aside0.mk (below_step (below_step HW.out HP.out) hb); have HB2 := Aside0.mk ((HB.out.below HP.out).below hb); clear HW HB; have HW := HW2; have HB := HB2; clear HW2 HB2 hb))
      go_roundg j1
      case measure => omega
      case rel => exact ⟨i + 1, max c d, by have := HI.out; omega, rfl, rfl, ⟨by have h1 := HT.out; have h2 := HN.out; have h3 := HD.out; omega⟩, by omega, HB, HW⟩
    · have g0 : decide (i < x.f4.length) = false := decide_eq_false ci
      have hff : r = c + 1 := by
        have h1 := HN.out
        rw [List.take_of_length_le (by omega)] at h1
        rw [← HF.out, HE.out]
        rw [if_neg (by have := HT5.out; omega)]
        omega
      subst hff
      clear HF ci hi HN
      go_wp2
      go_ret
      exact ⟨rfl, HW.out⟩
theorem valueDepthC (x : S28) (w : World) {A3 : Option Addr} {c3 : Nat} {A4 : Option Addr} {c4 : Nat} (hx : Wv x) (hc : cnt x ≤ 1000000000000000) (hr : Rd w A3 c3 A4 c4 x) :
    Calls Try.prog 26 #[.agg #[.int .i64 x.f0, .int .i64 x.f1, .string x.f2, .slice A3 x.f3.length c3, .slice A4 x.f4.length c4]] w fun e w' => e = .returned (.int .i64 (if vd x = true then (dpt x : Int) else 0)) ∧ Below w.heap.size w w' := by
  have HV := Aside0.mk (fun W (hb : Below w.heap.size w W) => validC x W hx hc (hr.below hb))
  have HQ := Aside0.mk (fun W (hb : Below w.heap.size w W) => depthC _ x W (Nat.lt_succ_self _) hx hc (hr.below hb))
  have HA := Aside0.mk (new_below w (.cells #[.int .i64 x.f0, .int .i64 x.f1, .string x.f2, .slice A3 x.f3.length c3, .slice A4 x.f4.length c4] 28))
  have HB := Aside0.mk (Bv.new hr)
  obtain ⟨r, hvr⟩ : ∃ r, vd x = r := ⟨_, rfl⟩
  rw [hvr] at HV ⊢
  clear hx hc hr hvr
  go_enter Try.func26, Try.ntmps26
  cases r with
  | false =>
    go_wp2_with (first | (go_at_call 59; (with_reducible refine (HV.out _ HA.out).mono ?_); rintro e we ⟨rfl, hb⟩; have HB2 := Aside0.mk (below_step HA.out hb); clear hb))
    go_ret
    exact ⟨rfl, HB2.out⟩
  | true =>
    go_wp2_with (first | (go_at_call 59; (with_reducible refine (HV.out _ HA.out).mono ?_); rintro e we ⟨rfl, hb⟩; have HB2 := Aside0.mk (below_step HA.out hb); have HB3 := Aside0.mk (HB.out.below hb); obtain ⟨q0, q1, q2, q3, q4⟩ := HB3.out.cells; clear hb) | (go_at_call 61; (with_reducible refine (HQ.out _ HB2.out).mono ?_); rintro e we2 ⟨rfl, hb⟩; have HB4 := Aside0.mk (below_step HB2.out hb); clear hb))
    go_ret
    exact ⟨rfl, HB4.out⟩
theorem valueNodesC (x : S28) (w : World) {A3 : Option Addr} {c3 : Nat} {A4 : Option Addr} {c4 : Nat} (hx : Wv x) (hc : cnt x ≤ 1000000000000000) (hr : Rd w A3 c3 A4 c4 x) :
    Calls Try.prog 28 #[.agg #[.int .i64 x.f0, .int .i64 x.f1, .string x.f2, .slice A3 x.f3.length c3, .slice A4 x.f4.length c4]] w fun e w' => e = .returned (.int .i64 (if vd x = true then (nda x : Int) else 0)) ∧ Below w.heap.size w w' := by
  have HV := Aside0.mk (fun W (hb : Below w.heap.size w W) => validC x W hx hc (hr.below hb))
  have HQ := Aside0.mk (fun W (hb : Below w.heap.size w W) => nodesC _ x W (Nat.lt_succ_self _) hx hc (hr.below hb))
  have HA := Aside0.mk (new_below w (.cells #[.int .i64 x.f0, .int .i64 x.f1, .string x.f2, .slice A3 x.f3.length c3, .slice A4 x.f4.length c4] 28))
  have HB := Aside0.mk (Bv.new hr)
  obtain ⟨r, hvr⟩ : ∃ r, vd x = r := ⟨_, rfl⟩
  rw [hvr] at HV ⊢
  clear hx hc hr hvr
  go_enter Try.func28, Try.ntmps28
  cases r with
  | false =>
    go_wp2_with (first | (go_at_call 59; (with_reducible refine (HV.out _ HA.out).mono ?_); rintro e we ⟨rfl, hb⟩; have HB2 := Aside0.mk (below_step HA.out hb); clear hb))
    go_ret
    exact ⟨rfl, HB2.out⟩
  | true =>
    go_wp2_with (first | (go_at_call 59; (with_reducible refine (HV.out _ HA.out).mono ?_); rintro e we ⟨rfl, hb⟩; have HB2 := Aside0.mk (below_step HA.out hb); have HB3 := Aside0.mk (HB.out.below hb); obtain ⟨q0, q1, q2, q3, q4⟩ := HB3.out.cells; clear hb) | (go_at_call 62; (with_reducible refine (HQ.out _ HB2.out).mono ?_); rintro e we2 ⟨rfl, hb⟩; have HB4 := Aside0.mk (below_step HB2.out hb); clear hb))
    go_ret
    exact ⟨rfl, HB4.out⟩
end Go.Proofs.Ytgpjkojnmeaoiaa.QV
