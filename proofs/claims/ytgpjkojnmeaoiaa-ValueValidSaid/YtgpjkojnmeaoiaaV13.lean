/- The reference's Depth and TypeName, by hand. -/
import Derived.Test.YtgpjkojnmeaoiaaV12
namespace Go.Proofs.Ytgpjkojnmeaoiaa.QV
open Go Go.RowKit Go.Proofs.YtgpjkojnmeaoiaaW.PrintWords Go.Proofs.YtgpjkojnmeaoiaaW.PrintLast Go.Proofs.YtgpjkojnmeaoiaaW.PrintMore
set_option linter.unusedVariables false
set_option linter.unusedSimpArgs false
set_option maxRecDepth 100000
set_option maxHeartbeats 4000000
theorem okv_mono (st : Nat) : ∀ (x : S28) (form : Bool) (a b : Nat), SizeOf.sizeOf x < st → a ≤ b → okv form b x = true → okv form a x = true := by
  induction st with
  | zero => intro x f a b h; omega
  | succ st ih =>
  intro x f a b hs hab h
  have hl : ∀ l : List S28, (∀ y ∈ l, SizeOf.sizeOf y < st) → okL f (b + 1) l = true → okL f (a + 1) l = true := fun l => by
    induction l with
    | nil => intro _ _; simp [okL]
    | cons y l ihl =>
      intro hy h
      simp only [okL, Bool.and_eq_true] at h ⊢
      exact ⟨ih y f (a + 1) (b + 1) (hy y List.mem_cons_self) (by omega) h.1, ihl (fun z hz => hy z (List.mem_cons_of_mem _ hz)) h.2⟩
  have h1 := hl x.f4 (fun y hy => by have := sz_mem hy; omega)
  rw [okv_eq] at h ⊢
  simp only [Bool.and_eq_true, Bool.or_eq_true, decide_eq_true_eq] at h ⊢
  refine ⟨h.1, ?_⟩
  rcases h.2 with h2 | h2
  · exact Or.inl h2
  · exact Or.inr ⟨⟨by omega, h2.1.2⟩, h1 h2.2⟩
theorem okL_mem {form : Bool} {ar : Nat} {y : S28} : ∀ {l : List S28}, okL form ar l = true → y ∈ l → okv form ar y = true := fun {l} => by
  induction l with
  | nil => intro _ h; cases h
  | cons z l ih =>
    intro h hm
    simp only [okL, Bool.and_eq_true] at h
    rcases List.mem_cons.1 hm with rfl | hm
    · exact h.1
    · exact ih h.2 hm
theorem ndsL_mem {y : S28} : ∀ {l : List S28}, y ∈ l → nds y ≤ ndsL l ∧ bts y ≤ btsL l := fun {l} => by
  induction l with
  | nil => intro h; cases h
  | cons z l ih =>
    intro hm
    simp only [ndsL, btsL]
    rcases List.mem_cons.1 hm with rfl | hm
    · omega
    · have := ih hm; omega
theorem vd_mem {x y : S28} (h : vd x = true) (h5 : ¬ x.f0 < 5) (hm : y ∈ x.f4) : vd y = true := by
  rw [vd_eq] at h ⊢
  have e1 := nds_eq x
  have e2 := bts_eq x
  rw [if_neg h5] at e1 e2
  have e3 := ndsL_mem hm
  simp only [Bool.and_eq_true, decide_eq_true_eq] at h ⊢
  obtain ⟨⟨a, b⟩, c⟩ := h
  rw [okv_eq] at a
  simp only [Bool.and_eq_true, Bool.or_eq_true, decide_eq_true_eq] at a
  rcases a.2 with h2 | h2
  · exact absurd h2 h5
  · exact ⟨⟨okv_mono _ y true 0 1 (Nat.lt_succ_self _) (by omega) (okL_mem h2.2 hm), by omega⟩, by omega⟩
theorem refDepthC (st : Nat) : ∀ (x : S28) (w : World) {A3 : Option Addr} {c3 : Nat} {A4 : Option Addr} {c4 : Nat}, SizeOf.sizeOf x < st → Wv x → cnt x ≤ 1000000000000000 → Rd w A3 c3 A4 c4 x →
    Calls Try.prog 27 #[.agg #[.int .i64 x.f0, .int .i64 x.f1, .string x.f2, .slice A3 x.f3.length c3, .slice A4 x.f4.length c4]] w fun e w' => e = .returned (.int .i64 (if vd x = true then (dpt x : Int) else 0)) ∧ Below w.heap.size w w' := by
  induction st with
  | zero => intro x w A3 c3 A4 c4 h; omega
  | succ st ih =>
  intro x w A3 c3 A4 c4 hs hx hc hr
  have HS := Aside0.mk hs
  have HV := Aside0.mk (fun W (hb : Below w.heap.size w W) => refValidC x W hx hc (hr.below hb))
  have HX := Aside0.mk hx
  have HC := Aside0.mk hc
  have HR := Aside0.mk hr
  have HIH := Aside0.mk ih
  have h3 := hx.el
  have HE := Aside0.mk (dpt_eq x)
  have HBd := Aside0.mk (nda_cnt _ x (Nat.lt_succ_self _))
  have HVM := Aside0.mk (fun y => vd_mem (x := x) (y := y))
  obtain ⟨vv, hvv⟩ : ∃ v, vd x = v := ⟨_, rfl⟩
  rw [hvv] at HV HVM ⊢
  obtain ⟨r, hfr⟩ : ∃ r : Int, (dpt x : Int) = r := ⟨_, rfl⟩
  rw [hfr]
  have HF := Aside0.mk hfr
  obtain ⟨R, hR⟩ : ∃ R : Int, (if vv = true then r else 0) = R := ⟨_, rfl⟩
  rw [hR]
  have HRR := Aside0.mk hR
  clear hR
  have HB := Aside0.mk (Bv.new hr)
  have HW := Aside0.mk (new_below w (.cells #[.int .i64 x.f0, .int .i64 x.f1, .string x.f2, .slice A3 x.f3.length c3, .slice A4 x.f4.length c4] 28))
  clear hx hr hs hc ih hfr hvv
  go_enter Try.func27, Try.ntmps27
  go_upto_region 1 with fail
  obtain ⟨bb, hb⟩ : ∃ b, w.heap.size = b := ⟨_, rfl⟩
  obtain ⟨W, hW⟩ : ∃ W, w.alloc (.cells #[.int .i64 x.f0, .int .i64 x.f1, .string x.f2, .slice A3 x.f3.length c3, .slice A4 x.f4.length c4] 28) = W := ⟨_, rfl⟩
  rw [hW, hb] at HB
  rw [hW] at HW
  rw [hW, hb]
  clear hW hb HR
  obtain ⟨q0, q1, q2, q3, q4⟩ := HB.out.cells
  cases vv with
  | false =>
    have e0 : 0 = R := by simpa using HRR.out
    subst e0
    clear HF HVM HRR
    go_wp2_with (first | (go_at_call 25; (with_reducible refine (HV.out _ HW.out).mono ?_); rintro e we ⟨rfl, hb⟩; have HW2 := Aside0.mk (below_step HW.out hb); have HB2 := Aside0.mk (HB.out.below hb); clear HW HB; have HW := HW2; have HB := HB2; clear HW2 HB2 hb; obtain ⟨q0, q1, q2, q3, q4⟩ := HB.out.cells))
    go_ret
    exact ⟨rfl, HW.out⟩
  | true =>
  have e0 : r = R := by simpa using HRR.out
  subst e0
  clear HRR
  by_cases t5 : x.f0 < 5
  · have g5 : decide (x.f0 < 5) = true := decide_eq_true t5
    have hff : r = 0 := by rw [← HF.out, HE.out, if_pos t5]; rfl
    subst hff
    clear HF
    go_wp2_with (first | (go_at_call 25; (with_reducible refine (HV.out _ HW.out).mono ?_); rintro e we ⟨rfl, hb⟩; have HW2 := Aside0.mk (below_step HW.out hb); have HB2 := Aside0.mk (HB.out.below hb); clear HW HB; have HW := HW2; have HB := HB2; clear HW2 HB2 hb; obtain ⟨q0, q1, q2, q3, q4⟩ := HB.out.cells))
    go_ret
    exact ⟨rfl, HW.out⟩
  have g5 : decide (x.f0 < 5) = false := decide_eq_false t5
  have HT5 := Aside0.mk t5
  clear t5
  go_wp2_with (first | (go_at_call 25; (with_reducible refine (HV.out _ HW.out).mono ?_); rintro e we ⟨rfl, hb⟩; have HW2 := Aside0.mk (below_step HW.out hb); have HB2 := Aside0.mk (HB.out.below hb); clear HW HB; have HW := HW2; have HB := HB2; clear HW2 HB2 hb; obtain ⟨q0, q1, q2, q3, q4⟩ := HB.out.cells))
  clear q0 q1 q2 q3 q4
  go_loopg [3, 4] x.f4.length (fun kq v3 vi w' => ∃ (i : Nat) (c : Int), kq + i = x.f4.length ∧ vi = .int .i64 (i : Int) ∧ v3 = .int .i64 c ∧ Aside0 (c = (dptL (x.f4.take i) : Nat)) ∧ (0 ≤ c ∧ c ≤ 3000000000000000) ∧ Aside0 (Bv w' bb A3 c3 A4 c4 x) ∧ Aside0 (Below w.heap.size w w'))
  case atStart => exact ⟨0, _, by omega, rfl, rfl, ⟨by simp [dptL]⟩, by omega, HB, HW⟩
  case round =>
    clear HB HW
    obtain ⟨i, c, hi, rfl, rfl, HN, hcb, HB, HW⟩ := hrel
    obtain ⟨q0, q1, q2, q3, q4⟩ := HB.out.cells
    by_cases ci : i < x.f4.length
    · have g0 : decide ((i : Int) < (x.f4.length : Int)) = true := decide_eq_true (by omega)
      have g2 : (0 ≤ (i : Int)) = True := eq_true (by omega)
      have g3 : ((i : Int) < (x.f4.length : Int)) = True := eq_true (by omega)
      obtain ⟨j1, rfl⟩ : ∃ j1, gk = j1 + 1 := ⟨gk - 1, by omega⟩
      have hil : x.f4[i]? = some x.f4[i] := List.getElem?_eq_getElem ci
      have hm := List.getElem_mem ci
      have hq := HX.out.es _ hm
      have hz := sz_mem hm
      have hcy := cnt_mem hm
      obtain ⟨y, hq'⟩ : ∃ y, x.f4[i] = y := ⟨_, rfl⟩
      rw [hq'] at hil hq hz hcy
      obtain ⟨ad, Y3, y3, Y4, y4, e1, he0⟩ := el_at HB.out.rd.r4 i ci hil
      have HT := Aside0.mk (dptL_take hil)
      have hL := dptL_take hil
      have HI := Aside0.mk hi
      have HY := Aside0.mk (HIH.out y wr (by have := HS.out; omega) hq (by have := HC.out; omega) he0.rd)
      rw [if_pos (HVM.out y trivial HT5.out (hq' ▸ hm))] at HY
      have hyb : (dpt y : Int) ≤ 1000000000000000 := by
        have h1 := nda_cnt _ y (Nat.lt_succ_self _)
        have := HC.out
        omega
      have hcn : max c (dpt y : Int) ≤ 3000000000000000 ∧ 0 ≤ max c (dpt y : Int) := by
        have h1 := HN.out
        have h2 := HBd.out
        have h3 := HE.out
        have h4 := HC.out
        have h5 := dptL_le x.f4 (i + 1)
        rw [if_neg (by have := HT5.out; omega)] at h3
        omega
      have hy0 : 0 ≤ (dpt y : Int) := by omega
      obtain ⟨d, hd⟩ : ∃ d : Int, (dpt y : Int) = d := ⟨_, rfl⟩
      rw [hd] at HY hyb hcn hy0
      have HD := Aside0.mk hd
      obtain ⟨e0, e2, e3, e4, e5, _⟩ := he0

      clear hil hq' hi hm hq hz hcy hL hd
      subst e1
      go_wp2_with (first | (go_at_call 27; (with_reducible refine HY.out.mono ?_); rintro e we ⟨rfl, hb⟩; have HW2 := Aside0.mk (below_step HW.out hb); have HB2 := Aside0.mk (HB.out.below hb); clear HW HB; have HW := HW2; have HB := HB2; clear HW2 HB2 hb))
      go_roundg j1
      case measure => omega
      case rel => exact ⟨i + 1, max c d, by have := HI.out; omega, rfl, rfl, ⟨by have h1 := HT.out; have h2 := HN.out; have h3 := HD.out; omega⟩, by omega, HB, HW⟩
    · have g0 : decide (i < x.f4.length) = false := decide_eq_false ci
      have hff : r = c + 1 := by
        have h1 := HN.out
        rw [List.take_of_length_le (by omega)] at h1
        rw [← HF.out, HE.out]
        rw [if_neg (by have := HT5.out; omega)]
        omega
      subst hff
      clear HF ci hi HN
      go_wp2
      go_ret
      exact ⟨rfl, HW.out⟩
theorem refTypeNameC (x : S28) (w : World) {A3 : Option Addr} {c3 : Nat} {A4 : Option Addr} {c4 : Nat} (hx : Wv x) (hc : cnt x ≤ 1000000000000000) (hr : Rd w A3 c3 A4 c4 x) :
    Calls Try.prog 33 #[.agg #[.int .i64 x.f0, .int .i64 x.f1, .string x.f2, .slice A3 x.f3.length c3, .slice A4 x.f4.length c4]] w fun e w' => e = .returned (.string (if vd x = true then tn x.f0 else (⟨#[]⟩ : ByteArray))) ∧ Below w.heap.size w w' := by
  have HV := Aside0.mk (fun W (hb : Below w.heap.size w W) => refValidC x W hx hc (hr.below hb))
  have HA := Aside0.mk (new_below w (.cells #[.int .i64 x.f0, .int .i64 x.f1, .string x.f2, .slice A3 x.f3.length c3, .slice A4 x.f4.length c4] 28))
  have HB := Aside0.mk (Bv.new hr)
  have hk := vd_kind (x := x)
  obtain ⟨r, hvr⟩ : ∃ r, vd x = r := ⟨_, rfl⟩
  rw [hvr] at HV hk ⊢
  cases r with
  | false =>
    clear hx hc hr hvr hk
    go_enter Try.func33, Try.ntmps33
    go_wp2_with (first | (go_at_call 25; (with_reducible refine (HV.out _ HA.out).mono ?_); rintro e we ⟨rfl, hb⟩; have HB2 := Aside0.mk (below_step HA.out hb); clear hb))
    go_ret
    exact ⟨rfl, HB2.out⟩
  | true =>
    have hk := hk rfl
    have cls : x.f0 = 0 ∨ x.f0 = 1 ∨ x.f0 = 2 ∨ x.f0 = 3 ∨ x.f0 = 4 ∨ x.f0 = 5 ∨ x.f0 = 6 := by omega
    clear hx hc hr hvr hk
    rw [if_pos rfl]
    obtain ⟨a, b, s, ks, es⟩ := x
    dsimp only at *
    rcases cls with rfl | rfl | rfl | rfl | rfl | rfl | rfl
    all_goals
      go_enter Try.func33, Try.ntmps33
      go_wp2_with (first | (go_at_call 25; (with_reducible refine (HV.out _ HA.out).mono ?_); rintro e we ⟨rfl, hb⟩; have HB2 := Aside0.mk (below_step HA.out hb); have HB3 := Aside0.mk (HB.out.below hb); obtain ⟨q0, q1, q2, q3, q4⟩ := HB3.out.cells; obtain ⟨p0, p1, p2, p3, p4⟩ := (HB3.out.below (new_below we (.cells #[.string ⟨#[110, 117, 108, 108]⟩, .string ⟨#[98, 111, 111, 108, 101, 97, 110]⟩, .string ⟨#[98, 111, 111, 108, 101, 97, 110]⟩, .string ⟨#[110, 117, 109, 98, 101, 114]⟩, .string ⟨#[115, 116, 114, 105, 110, 103]⟩, .string ⟨#[97, 114, 114, 97, 121]⟩, .string ⟨#[111, 98, 106, 101, 99, 116]⟩] 9))).cells; clear hb))
      go_ret
      exact ⟨rfl, below_step HB2.out (new_below _ _)⟩
end Go.Proofs.Ytgpjkojnmeaoiaa.QV
