-- PRINTED BY print.sh 35421559b90ae4d0a3588c463048766b98c2df88dd9212a6774a882060cdf62d: not written by this session
import Derived.Test.YtldfeljehjbjeaaPUtfSlicex0
import Derived.Test.YtldfeljehjbjeaaPUtfSlicex1
import Derived.Test.YtldfeljehjbjeaaPUtfSlicex2
import Derived.Test.YtldfeljehjbjeaaPUtfSlicex3
namespace Go.Proofs.Ytldfeljehjbjeaa.PUtfSlice
open Go.RowKit Go.Proofs.YtldfeljehjbjeaaW.PrintWords Go.Proofs.YtldfeljehjbjeaaW.PrintLast Go.Proofs.YtldfeljehjbjeaaW.PrintMore
attribute [local go_sem] max2_int min2_int max_two min_two max_three min_three max_four min_four   -- for this text's walks alone
set_option linter.unusedVariables false
set_option linter.unusedSimpArgs false

/-! ### ndjqref01_FromRunes: function 22 -/
def ndjqref01_FromRunes.l0 : Nat → List Int → List Int → Int → Option (ByteArray × Bool)
  | 0, _, _, _ => none
  | k + 1, x0, x4, x5 => if x5 < (x0.length : Int) then (if 0 ≤ x5 then ((ndjqref01_Encode.f k (rd x0 x5)).bind fun bt139 => (if bt139.2 = true then (if x4.length + bt139.1.length < 140737488355328 then (ndjqref01_FromRunes.l0 k x0 (x4 ++ bt139.1) (wrap64 (x5 + 1))) else (none)) else (some ((⟨#[]⟩ : ByteArray), false)))) else (none)) else (some (strOfNums x4, true))
def ndjqref01_FromRunes.f (k : Nat) (l0 : List Int) : Option (ByteArray × Bool) := ndjqref01_FromRunes.l0 k l0 ([] : List Int) 0
theorem ndjqref01_FromRunes.mono_l : ∀ k, (∀ y0 y1 y2, LeO (ndjqref01_FromRunes.l0 k y0 y1 y2) (ndjqref01_FromRunes.l0 (k + 1) y0 y1 y2))
  | 0 => fun _ _ _ r h => by simp [ndjqref01_FromRunes.l0] at h
  | k + 1 => by
    have ih0 := ndjqref01_FromRunes.mono_l k
    · intro y0 y1 y2
      unfold ndjqref01_FromRunes.l0
      repeat' first
      | (with_reducible exact ih0 _ _ _)
      | (with_reducible exact ndjqref01_Encode.mono _ _)
      | (with_reducible exact LeO.refl _)
      | (with_reducible exact LeO.none _)
      | (with_reducible refine LeO.ite ?_ ?_)
      | (with_reducible refine LeO.bind ?_ (fun _ => ?_))
      | exact ih0 _ _ _
      | exact ndjqref01_Encode.mono _ _
      | exact LeO.none _
      | refine LeO.ite ?_ ?_
      | refine LeO.bind ?_ (fun _ => ?_)
theorem ndjqref01_FromRunes.mono : ∀ a0 k, LeO (ndjqref01_FromRunes.f k a0) (ndjqref01_FromRunes.f (k + 1) a0) := by
  intro a0 k
  have ih0 := ndjqref01_FromRunes.mono_l k
  unfold ndjqref01_FromRunes.f
  repeat' first
      | (with_reducible exact ih0 _ _ _)
      | (with_reducible exact ndjqref01_Encode.mono _ _)
      | (with_reducible exact LeO.refl _)
      | (with_reducible exact LeO.none _)
      | (with_reducible refine LeO.ite ?_ ?_)
      | (with_reducible refine LeO.bind ?_ (fun _ => ?_))
      | exact ih0 _ _ _
      | exact ndjqref01_Encode.mono _ _
      | exact LeO.none _
      | refine LeO.ite ?_ ?_
      | refine LeO.bind ?_ (fun _ => ?_)
set_option maxHeartbeats 8000000 in
set_option maxRecDepth 100000 in
theorem ndjqref01_FromRunes.calls (k : Nat) (A0 : Option Addr) (c0 : Nat) (l0 : List Int) (r1 : ByteArray) (r2 : Bool) (w : World) (hr0 : Kd.C (Kd.int .i64) w A0 l0.length l0) (hc0 : l0.length ≤ c0) (h : ndjqref01_FromRunes.f k l0 = some (r1, r2)) :
    Calls Try.prog 22 #[.slice A0 l0.length c0] w fun e w' => e = .returned (.tuple #[.string r1, .bool r2]) ∧ Below w.heap.size w w' := by
  have HR0 := Aside0.mk hr0
  have HC0 := Aside0.mk hc0
  clear hr0 hc0
  have HB := Aside0.mk (Below.refl w.heap.size w)
  have H : (ndjqref01_FromRunes.l0 k l0 ([] : List Int) 0) = some (r1, r2) := h
  clear h
  have H' := Aside0.mk H
  clear H
  go_enter Try.func22, Try.ntmps22
  go_wp2
  go_loopg [4, 5] k (fun kq v4 v5 w' => ∃ (x4_1 : List Int) (x5_1 : Int), v5 = .int .i64 x5_1 ∧ Aside0 (ndjqref01_FromRunes.l0 kq l0 x4_1 x5_1 = some (r1, r2)) ∧ Aside0 (kq ≤ k) ∧ Aside0 (Kd.R (Kd.int .u8) 5 w' w.heap.size (fun _ => True) v4 x4_1) ∧ Aside0 (Below w.heap.size w w'))
  case atStart => exact ⟨(([] : List Int)), (0), (by first | rfl | (simp; done) | (simp [*]; done)), H', ⟨Nat.le_refl _⟩, ⟨by first | exact Kd.R_nil _ _ _ _ _ | exact Kd.N_nil _ _ _ _ _ | exact Kd.V_nil _ _ _ _ _ | exact Kd.Q_nil _ _ _ _ _ | exact Kd.S_nil _ _ _ _ _⟩, ⟨by repeat (first | (with_reducible first | exact HB.out | apply below_alloc | apply pw_below_drewN | apply below_drew1) | exact HB.out)⟩⟩
  case round =>
    clear H'
    obtain ⟨x4_1, x5_1, rfl, HA, HK1, HO_4, HB⟩ := hrel
    cases gk with
    | zero => exact absurd HA.out (by simp [ndjqref01_FromRunes.l0])
    | succ k1 =>
      have H := HA.out
      clear HA
      simp only [ndjqref01_FromRunes.l0] at H
      by_cases c2 : x5_1 < (l0.length : Int)
      · rw [if_pos c2] at H
        have c2b0 : decide (x5_1 < (l0.length : Int)) = true := decide_eq_true c2
        clear c2
        by_cases c3 : 0 ≤ x5_1
        · rw [if_pos c3] at H
          have c3b0 : decide (0 ≤ x5_1) = true := decide_eq_true c3
          clear c3
          replace H := Option.bind_eq_some_iff.mp H
          obtain ⟨⟨t139, t140⟩, A40, H⟩ := H
          replace H : (if t140 = true then (if x4_1.length + t139.length < 140737488355328 then (ndjqref01_FromRunes.l0 k1 l0 (x4_1 ++ t139) (wrap64 (x5_1 + 1))) else (none)) else (some ((⟨#[]⟩ : ByteArray), false))) = some (r1, r2) := H
          have A4 := Aside0.mk A40
          clear A40
          by_cases c5 : t140 = true
          · subst c5
            have H1 : (if x4_1.length + t139.length < 140737488355328 then (ndjqref01_FromRunes.l0 k1 l0 (x4_1 ++ t139) (wrap64 (x5_1 + 1))) else (none)) = some (r1, r2) := by rw [if_pos rfl] at H; exact H
            clear H
            have H := H1
            clear H1
            by_cases c6 : x4_1.length + t139.length < 140737488355328
            · rw [if_pos c6] at H
              have LMc6 := Aside0.mk c6
              clear c6
              obtain ⟨y143, hy143⟩ : ∃ y_ : List Int, y_ = (x4_1 ++ t139) := ⟨_, rfl⟩
              replace H : (ndjqref01_FromRunes.l0 k1 l0 y143 (wrap64 (x5_1 + 1))) = some (r1, r2) := by first | (rw [hy143]; with_reducible exact H) | (have H2_ := (Option.bind_some _ _).symm.trans H; rw [hy143]; with_reducible exact H2_) | (have H2_ := (Option.bind_some _ _).symm.trans H; with_reducible exact H2_) | with_reducible exact H | (rw [hy143]; exact H) | exact H
              have Ny143 := Aside0.mk hy143
              clear hy143
              have H' := Aside0.mk H
              clear H
              have p138 : 0 ≤ (x5_1 : Int) := of_decide_eq_true (by first | (with_reducible assumption) | assumption)
              have q138 : x5_1 < (l0.length : Int) := of_decide_eq_true (by first | (with_reducible assumption) | assumption)
              obtain ⟨ad138, e138, hx138_0⟩ := Kd.at_int HR0.out x5_1 p138 q138
              cases e138
              replace hx138_0 := (HB.out.cell (World.block_lt_of_cell? w _ hx138_0)).trans hx138_0
              replace p138 := eq_true p138
              replace q138 := eq_true q138
              go_wp2_with (first | ((with_reducible refine gate_callee (f := 30) rfl ?_); refine goesL_ (some 19) rfl rfl Try.func30 (by kernel_rfl) rfl #[.int .i64 (rd l0 x5_1)] rfl (by (try simp only [List.map_toArray, List.map_cons, List.map_nil]); first | done | rfl | (simp only [List.length_drop, List.length_take]; rfl)) ?_; (with_reducible refine (ndjqref01_Encode.calls k1 (rd l0 x5_1) t139 true _ A4.out).mono ?_); rintro e w7 ⟨v141, rfl, ho0, hb⟩; refine ⟨_, rfl, ?_⟩; have n0_ := Aside0.mk (Kd.R_elder' (by (with_reducible repeat (first | apply Kd.R_alloc | apply Kd.R_drewN | apply Kd.R_drew)); exact HO_4.out) (Kd.R_base ho0) hb); have n1_ := Aside0.mk (Kd.R_lower (Kd.R_new' ho0 (Kd.R_lt (by (with_reducible repeat (first | apply Kd.R_alloc | apply Kd.R_drewN | apply Kd.R_drew)); exact HO_4.out))) (below_size (by repeat (first | (with_reducible first | exact HB.out | apply below_alloc | apply pw_below_drewN | apply below_drew1) | exact HB.out)))); have n2_ := Aside0.mk (below_step (by repeat (first | (with_reducible first | exact HB.out | apply below_alloc | apply pw_below_drewN | apply below_drew1) | exact HB.out)) hb); clear HO_4; clear HB; have HO_4 := n0_; have HO142 := n1_; have HB := n2_; clear n0_ n1_ n2_; (try clear hb); (try clear hb2); (try clear hk); (try clear hi); (try clear ho0); obtain ⟨Ao9, co9, eo9⟩ := Kd.R_slice HO142.out; subst eo9) | ((with_reducible refine gate_builtin (b := .append) (xs := #[.tmp 24, .tmp 25]) rfl ?_); at_builtin; refine Kd.R_append_rows (Kd.int .u8) (w0 := w) w.heap.size rfl (.tmp 24) (.tmp 25) 33 5 (.int .u8 0) 1 rfl Try.underlying33 info5 rfl (by decide) (by omega) u4 x4_1 t139 _ _ _ (fun k_ => some k_ ≠ (.slice Ao9 t139.length co9 : Value).ownBlock) (fun _ => False) rfl rfl ?aO ?aR (fun _ _ h => h) (fun _ h => h.elim) ?aF ?aB ?aS ?aL ?_; (case aR => repeat (first | exact (Kd.R_reads' HO142.out).2.2 | (with_reducible refine Kd.C_alloc ?_ _) | (with_reducible refine Kd.C_drewN ?_ _) | (with_reducible refine Kd.C_drew ?_))); (case aB => exact (by repeat (first | (with_reducible first | exact HB.out | apply below_alloc | apply pw_below_drewN | apply below_drew1) | exact HB.out))); (case aF => exact (fun k_ hk => Kd.fresh' (Kd.R_lt (by (with_reducible repeat (first | apply Kd.R_alloc | apply Kd.R_drewN | apply Kd.R_drew)); exact HO142.out)) k_ hk)); (case aO => exact (by (with_reducible repeat (first | apply Kd.R_alloc | apply Kd.R_drewN | apply Kd.R_drew)); exact Kd.R_mono HO_4.out (fun _ hk => hk.2))); (case aS => exact (below_size (by repeat (first | (with_reducible first | exact HB.out | apply below_alloc | apply pw_below_drewN | apply below_drew1) | exact HB.out)))); (case aL => have := LMc6.out; omega); intro v144 w8 ho hb hg hat; rw [← Ny143.out] at ho; have n0_ := Aside0.mk (Kd.R_after (ok := (fun _ => True)) (by (with_reducible repeat (first | apply Kd.R_alloc | apply Kd.R_drewN | apply Kd.R_drew)); exact HO142.out) hg hat); have n1_ := Aside0.mk (hb); have n2_ := Aside0.mk (ho); clear HO142; clear HB; clear HO_4; have HO142 := n0_; have HB := n1_; have HO145 := n2_; clear n0_ n1_ n2_; clear ho hb hg hat))
              go_roundg k1
              case measure => have := HK1.out; omega
              case rel => exact ⟨(y143), (wrap64 (x5_1 + 1)), (by first | rfl | (simp; done) | (simp [*]; done)), H', ⟨by have := HK1.out; omega⟩, ⟨by (with_reducible repeat (first | apply Kd.R_alloc | apply Kd.R_drewN | apply Kd.R_drew)); exact Kd.R_mono HO145.out (fun _ hk => trivial)⟩, ⟨by repeat (first | (with_reducible first | exact HB.out | apply below_alloc | apply pw_below_drewN | apply below_drew1) | exact HB.out)⟩⟩
            · rw [if_neg c6] at H
              exact absurd H (by simp)
          · replace c5 := Bool.eq_false_iff.mpr c5
            subst c5
            have H1 : (some ((⟨#[]⟩ : ByteArray), false)) = some (r1, r2) := by rw [if_neg (show ¬ (false = true) by decide)] at H; exact H
            clear H
            have H := H1
            clear H1
            simp only [Option.some.injEq, Prod.mk.injEq] at H
            obtain ⟨rfl, rfl⟩ := H
            have p138 : 0 ≤ (x5_1 : Int) := of_decide_eq_true (by first | (with_reducible assumption) | assumption)
            have q138 : x5_1 < (l0.length : Int) := of_decide_eq_true (by first | (with_reducible assumption) | assumption)
            obtain ⟨ad138, e138, hx138_0⟩ := Kd.at_int HR0.out x5_1 p138 q138
            cases e138
            replace hx138_0 := (HB.out.cell (World.block_lt_of_cell? w _ hx138_0)).trans hx138_0
            replace p138 := eq_true p138
            replace q138 := eq_true q138
            go_wp2_with (first | ((with_reducible refine gate_callee (f := 30) rfl ?_); refine goesL_ (some 19) rfl rfl Try.func30 (by kernel_rfl) rfl #[.int .i64 (rd l0 x5_1)] rfl (by (try simp only [List.map_toArray, List.map_cons, List.map_nil]); first | done | rfl | (simp only [List.length_drop, List.length_take]; rfl)) ?_; (with_reducible refine (ndjqref01_Encode.calls k1 (rd l0 x5_1) t139 false _ A4.out).mono ?_); rintro e w10 ⟨v141, rfl, ho0, hb⟩; refine ⟨_, rfl, ?_⟩; have n0_ := Aside0.mk (Kd.R_elder' (by (with_reducible repeat (first | apply Kd.R_alloc | apply Kd.R_drewN | apply Kd.R_drew)); exact HO_4.out) (Kd.R_base ho0) hb); have n1_ := Aside0.mk (Kd.R_lower (Kd.R_new' ho0 (Kd.R_lt (by (with_reducible repeat (first | apply Kd.R_alloc | apply Kd.R_drewN | apply Kd.R_drew)); exact HO_4.out))) (below_size (by repeat (first | (with_reducible first | exact HB.out | apply below_alloc | apply pw_below_drewN | apply below_drew1) | exact HB.out)))); have n2_ := Aside0.mk (below_step (by repeat (first | (with_reducible first | exact HB.out | apply below_alloc | apply pw_below_drewN | apply below_drew1) | exact HB.out)) hb); clear HO_4; clear HB; have HO_4 := n0_; have HO142 := n1_; have HB := n2_; clear n0_ n1_ n2_; (try clear hb); (try clear hb2); (try clear hk); (try clear hi); (try clear ho0)))
            go_ret2
            exact ⟨by first | rfl | (simp [errW_none, errW_some] <;> rfl) | (simp [*, errW_none, errW_some] <;> rfl), by repeat (first | (with_reducible first | exact HB.out | apply below_alloc | apply pw_below_drewN | apply below_drew1) | exact HB.out)⟩
        · rw [if_neg c3] at H
          exact absurd H (by simp)
      · rw [if_neg c2] at H
        have c2b0 : decide (x5_1 < (l0.length : Int)) = false := decide_eq_false c2
        clear c2
        simp only [Option.some.injEq, Prod.mk.injEq] at H
        obtain ⟨rfl, rfl⟩ := H
        have hcv11 := own_string (P := Try.prog) Try.underlying33 Try.underlying5 Try.underlying9 (Kd.own_of_R HO_4.out)
        go_wp2
        go_ret2
        exact ⟨by first | rfl | (simp [errW_none, errW_some] <;> rfl) | (simp [*, errW_none, errW_some] <;> rfl), by repeat (first | (with_reducible first | exact HB.out | apply below_alloc | apply pw_below_drewN | apply below_drew1) | exact HB.out)⟩

/-! ### ndjqref01_Slice: function 24 -/
def ndjqref01_Slice.f (k : Nat) (a0 : ByteArray) (a1 : Int) (a2 : Int) : Option (ByteArray × Bool) := (ndjqref01_Runes.f k a0).bind fun bt146 => (if bt146.2 = true then (if (mx a1 0) ≥ (mn a2 (bt146.1.length : Int)) then (some ((⟨#[]⟩ : ByteArray), true)) else (if 0 ≤ (mx a1 0) then (if (mx a1 0) ≤ (mn a2 (bt146.1.length : Int)) then (if (mn a2 (bt146.1.length : Int)) ≤ (bt146.1.length : Int) then ((ndjqref01_FromRunes.f k ((bt146.1.take ((mn a2 (bt146.1.length : Int)) : Int).toNat).drop ((mx a1 0) : Int).toNat)).bind fun bt154 => (some (bt154.1, bt154.2))) else (none)) else (none)) else (none))) else (some ((⟨#[]⟩ : ByteArray), false)))
theorem ndjqref01_Slice.mono : ∀ a0 a1 a2 k, LeO (ndjqref01_Slice.f k a0 a1 a2) (ndjqref01_Slice.f (k + 1) a0 a1 a2) := by
  intro a0 a1 a2 k
  unfold ndjqref01_Slice.f
  repeat' first
      | (with_reducible exact ndjqref01_FromRunes.mono _ _)
      | (with_reducible exact ndjqref01_Runes.mono _ _)
      | (with_reducible exact LeO.refl _)
      | (with_reducible exact LeO.none _)
      | (with_reducible refine LeO.ite ?_ ?_)
      | (with_reducible refine LeO.bind ?_ (fun _ => ?_))
      | exact ndjqref01_FromRunes.mono _ _
      | exact ndjqref01_Runes.mono _ _
      | exact LeO.none _
      | refine LeO.ite ?_ ?_
      | refine LeO.bind ?_ (fun _ => ?_)
set_option maxHeartbeats 8000000 in
set_option maxRecDepth 100000 in
theorem ndjqref01_Slice.calls (k : Nat) (a0 : ByteArray) (a1 : Int) (a2 : Int) (r1 : ByteArray) (r2 : Bool) (w : World) (h : ndjqref01_Slice.f k a0 a1 a2 = some (r1, r2)) :
    Calls Try.prog 24 #[.string a0, .int .i64 a1, .int .i64 a2] w fun e w' => e = .returned (.tuple #[.string r1, .bool r2]) ∧ Below w.heap.size w w' := by
  have HB := Aside0.mk (Below.refl w.heap.size w)
  have H : ((ndjqref01_Runes.f k a0).bind fun bt146 => (if bt146.2 = true then (if (mx a1 0) ≥ (mn a2 (bt146.1.length : Int)) then (some ((⟨#[]⟩ : ByteArray), true)) else (if 0 ≤ (mx a1 0) then (if (mx a1 0) ≤ (mn a2 (bt146.1.length : Int)) then (if (mn a2 (bt146.1.length : Int)) ≤ (bt146.1.length : Int) then ((ndjqref01_FromRunes.f k ((bt146.1.take ((mn a2 (bt146.1.length : Int)) : Int).toNat).drop ((mx a1 0) : Int).toNat)).bind fun bt154 => (some (bt154.1, bt154.2))) else (none)) else (none)) else (none))) else (some ((⟨#[]⟩ : ByteArray), false)))) = some (r1, r2) := h
  clear h
  replace H := Option.bind_eq_some_iff.mp H
  obtain ⟨⟨t146, t147⟩, A40, H⟩ := H
  replace H : (if t147 = true then (if (mx a1 0) ≥ (mn a2 (t146.length : Int)) then (some ((⟨#[]⟩ : ByteArray), true)) else (if 0 ≤ (mx a1 0) then (if (mx a1 0) ≤ (mn a2 (t146.length : Int)) then (if (mn a2 (t146.length : Int)) ≤ (t146.length : Int) then ((ndjqref01_FromRunes.f k ((t146.take ((mn a2 (t146.length : Int)) : Int).toNat).drop ((mx a1 0) : Int).toNat)).bind fun bt154 => (some (bt154.1, bt154.2))) else (none)) else (none)) else (none))) else (some ((⟨#[]⟩ : ByteArray), false))) = some (r1, r2) := H
  have A4 := Aside0.mk A40
  clear A40
  by_cases c5 : t147 = true
  · subst c5
    have H1 : (if (mx a1 0) ≥ (mn a2 (t146.length : Int)) then (some ((⟨#[]⟩ : ByteArray), true)) else (if 0 ≤ (mx a1 0) then (if (mx a1 0) ≤ (mn a2 (t146.length : Int)) then (if (mn a2 (t146.length : Int)) ≤ (t146.length : Int) then ((ndjqref01_FromRunes.f k ((t146.take ((mn a2 (t146.length : Int)) : Int).toNat).drop ((mx a1 0) : Int).toNat)).bind fun bt154 => (some (bt154.1, bt154.2))) else (none)) else (none)) else (none))) = some (r1, r2) := by rw [if_pos rfl] at H; exact H
    clear H
    have H := H1
    clear H1
    obtain ⟨ji6, hji6⟩ : ∃ j_ : Int, (mx a1 0) = j_ := ⟨_, rfl⟩
    replace H : (if (ji6) ≥ (mn a2 (t146.length : Int)) then (some ((⟨#[]⟩ : ByteArray), true)) else (if 0 ≤ (ji6) then (if (ji6) ≤ (mn a2 (t146.length : Int)) then (if (mn a2 (t146.length : Int)) ≤ (t146.length : Int) then ((ndjqref01_FromRunes.f k ((t146.take ((mn a2 (t146.length : Int)) : Int).toNat).drop ((ji6) : Int).toNat)).bind fun bt154 => (some (bt154.1, bt154.2))) else (none)) else (none)) else (none))) = some (r1, r2) := by first | (rw [hji6] at H; exact H) | (simp only [hji6] at H ⊢; exact H)
    (try rw [hji6] at A4)
    (try (have hji6l : 0 ≤ ji6 := by (rw [← hji6]; unfold mx; (repeat' split) <;> omega)))
    (try (have hji6m : 0 ≤ ji6 := by omega))
    have hji6_ : (if a1 < 0 then 0 else a1) = ji6 := hji6
    obtain ⟨ji7, hji7⟩ : ∃ j_ : Int, (mn a2 (t146.length : Int)) = j_ := ⟨_, rfl⟩
    replace H : (if (ji6) ≥ (ji7) then (some ((⟨#[]⟩ : ByteArray), true)) else (if 0 ≤ (ji6) then (if (ji6) ≤ (ji7) then (if (ji7) ≤ (t146.length : Int) then ((ndjqref01_FromRunes.f k ((t146.take ((ji7) : Int).toNat).drop ((ji6) : Int).toNat)).bind fun bt154 => (some (bt154.1, bt154.2))) else (none)) else (none)) else (none))) = some (r1, r2) := by first | (rw [hji7] at H; exact H) | (simp only [hji7] at H ⊢; exact H)
    (try rw [hji7] at A4)
    have hji7_ : (if (t146.length : Int) < a2 then (t146.length : Int) else a2) = ji7 := hji7
    by_cases c8 : (ji6) ≥ (ji7)
    · rw [if_pos c8] at H
      have c8b0 : decide ((ji7) ≤ (ji6)) = true := decide_eq_true c8
      clear c8
      simp only [Option.some.injEq, Prod.mk.injEq] at H
      obtain ⟨rfl, rfl⟩ := H
      go_enter Try.func24, Try.ntmps24
      go_wp2_with (first | ((with_reducible refine gate_callee (f := 15) rfl ?_); refine goesL_ (some 12) rfl rfl Try.func15 (by kernel_rfl) rfl #[.string a0] rfl (by (try simp only [List.map_toArray, List.map_cons, List.map_nil]); first | done | rfl | (simp only [List.length_drop, List.length_take]; rfl)) ?_; (with_reducible refine (ndjqref01_Runes.calls k a0 t146 true _ A4.out).mono ?_); rintro e w9 ⟨v148, rfl, ho0, hb⟩; refine ⟨_, rfl, ?_⟩; have n0_ := Aside0.mk (Kd.R_lower ho0 (below_size (by repeat (first | (with_reducible first | exact HB.out | apply below_alloc | apply pw_below_drewN | apply below_drew1) | exact HB.out)))); have n1_ := Aside0.mk (below_step (by repeat (first | (with_reducible first | exact HB.out | apply below_alloc | apply pw_below_drewN | apply below_drew1) | exact HB.out)) hb); clear HB; have HO149 := n0_; have HB := n1_; clear n0_ n1_; (try clear hb); (try clear hb2); (try clear hk); (try clear hi); (try clear ho0); obtain ⟨Ao10, co10, eo10⟩ := Kd.R_slice HO149.out; subst eo10))
      go_ret2
      exact ⟨by first | rfl | (simp [errW_none, errW_some] <;> rfl) | (simp only [← hji6, ← hji7]; first | rfl | (simp [errW_none, errW_some] <;> rfl)) | (simp [*, errW_none, errW_some] <;> rfl), by repeat (first | (with_reducible first | exact HB.out | apply below_alloc | apply pw_below_drewN | apply below_drew1) | exact HB.out)⟩
    · rw [if_neg c8] at H
      have c8b0 : decide ((ji7) ≤ (ji6)) = false := decide_eq_false c8
      clear c8
      by_cases c11 : 0 ≤ (ji6)
      · rw [if_pos c11] at H
        have c11b0 := eq_true c11
        have c11b1 : decide (0 ≤ (ji6)) = true := decide_eq_true c11
        clear c11
        by_cases c12 : (ji6) ≤ (ji7)
        · rw [if_pos c12] at H
          have c12b0 := eq_true c12
          have c12b1 : decide ((ji6) ≤ (ji7)) = true := decide_eq_true c12
          clear c12
          by_cases c13 : (ji7) ≤ (t146.length : Int)
          · rw [if_pos c13] at H
            have c13b0 := eq_true c13
            have c13b1 : decide ((ji7) ≤ (t146.length : Int)) = true := decide_eq_true c13
            clear c13
            obtain ⟨y150, hy150⟩ : ∃ y_ : List Int, y_ = ((t146.take ((ji7) : Int).toNat).drop ((ji6) : Int).toNat) := ⟨_, rfl⟩
            replace H : ((ndjqref01_FromRunes.f k y150).bind fun bt154 => (some (bt154.1, bt154.2))) = some (r1, r2) := by first | (rw [hy150]; with_reducible exact H) | (have H2_ := (Option.bind_some _ _).symm.trans H; rw [hy150]; with_reducible exact H2_) | (have H2_ := (Option.bind_some _ _).symm.trans H; with_reducible exact H2_) | with_reducible exact H | (rw [hy150]; exact H) | exact H
            have Ny150 := Aside0.mk hy150
            clear hy150
            replace H := Option.bind_eq_some_iff.mp H
            obtain ⟨⟨t154, t155⟩, A140, H⟩ := H
            replace H : (some (t154, t155)) = some (r1, r2) := H
            have A14 := Aside0.mk A140
            clear A140
            simp only [Option.some.injEq, Prod.mk.injEq] at H
            obtain ⟨rfl, rfl⟩ := H
            go_enter Try.func24, Try.ntmps24
            go_wp2_with (first | ((with_reducible refine gate_callee (f := 15) rfl ?_); refine goesL_ (some 12) rfl rfl Try.func15 (by kernel_rfl) rfl #[.string a0] rfl (by (try simp only [List.map_toArray, List.map_cons, List.map_nil]); first | done | rfl | (simp only [List.length_drop, List.length_take]; rfl)) ?_; (with_reducible refine (ndjqref01_Runes.calls k a0 t146 true _ A4.out).mono ?_); rintro e w15 ⟨v148, rfl, ho0, hb⟩; refine ⟨_, rfl, ?_⟩; have n0_ := Aside0.mk (Kd.R_lower ho0 (below_size (by repeat (first | (with_reducible first | exact HB.out | apply below_alloc | apply pw_below_drewN | apply below_drew1) | exact HB.out)))); have n1_ := Aside0.mk (below_step (by repeat (first | (with_reducible first | exact HB.out | apply below_alloc | apply pw_below_drewN | apply below_drew1) | exact HB.out)) hb); clear HB; have HO149 := n0_; have HB := n1_; clear n0_ n1_; (try clear hb); (try clear hb2); (try clear hk); (try clear hi); (try clear ho0); obtain ⟨Ao16, co16, eo16⟩ := Kd.R_slice HO149.out; subst eo16; have q17 : ((ji7) : Int) ≤ ((t146.length : Int) : Int) := of_decide_eq_true (by first | (with_reducible assumption) | assumption); obtain ⟨i017, hi017, _, hsz17, _⟩ := info_parts info3; have hroom17 : t146.length ≤ co16 := (Kd.R_reads' HO149.out).2.1; have hC17 : Kd.C (Kd.int .i64) _ Ao16 t146.length t146 := (Kd.R_reads' HO149.out).2.2; have ql17 : ((ji6) : Int) ≤ ((ji7) : Int) := of_decide_eq_true (by first | (with_reducible assumption) | assumption); have q017 : (0 : Int) ≤ ((ji6) : Int) := of_decide_eq_true (by first | (with_reducible assumption) | assumption); have hcut17 := cut_mid (P := Try.prog) 27 3 .i64 .i64 Try.underlying27 hi017 1 hsz17 Ao16 t146.length co16 (ji6) (ji7) q017 ql17 q17 hroom17; have hr17 := Kd.C_mid (lo := ((ji6) : Int).toNat) (hi := ((ji7) : Int).toNat) (c := co16) hC17 (by omega) (by omega) hroom17; obtain ⟨A17, hA17⟩ : ∃ A1, A1 = (if co16 = ((ji6) : Int).toNat then Ao16 else (Ao16 : Option Addr).map (·.add (((ji6) : Int).toNat * 1))) := ⟨_, rfl⟩; obtain ⟨c17, hc17⟩ : ∃ c1, c1 = co16 - ((ji6) : Int).toNat := ⟨_, rfl⟩; have hy17 : y150.length = ((ji7) : Int).toNat - ((ji6) : Int).toNat := (by rw [Ny150.out, List.length_drop, List.length_take] <;> omega); rw [show ((t146).take ((ji7) : Int).toNat).drop ((ji6) : Int).toNat = y150 from Ny150.out.symm] at hr17; replace hr17 : Kd.C (Kd.int .i64) _ A17 y150.length y150 := (by rw [hA17]; exact hr17); rw [← hy17, ← hA17, ← hc17] at hcut17; have HR153 := Aside0.mk hr17; have HC153 := Aside0.mk (show y150.length ≤ c17 from by rw [hy17, hc17]; exact Nat.sub_le_sub_right (Nat.le_trans (by omega) hroom17) _); clear hr17 hC17 hroom17 hi017 hsz17 hc17; have KY17 := Aside0.mk hy17; have KA17 := Aside0.mk hA17; clear hy17 hA17; have KL17 := Aside0.mk (show ((ji7) : Int).toNat ≤ t146.length from by omega); have KM17 := Aside0.mk (show ((ji6) : Int).toNat ≤ ((ji7) : Int).toNat from by omega); replace q17 := eq_true q17) | ((with_reducible refine gate_callee (f := 22) rfl ?_); refine goesL_ (some 30) rfl rfl Try.func22 (by kernel_rfl) rfl #[.slice A17 y150.length c17] rfl (by (try simp only [List.map_toArray, List.map_cons, List.map_nil]); first | done | rfl | (simp only [List.length_drop, List.length_take]; rfl)) ?_; (with_reducible refine (ndjqref01_FromRunes.calls k _ _ y150 t154 t155 _ ?side1 ?side2 A14.out).mono ?_); (case side1 => repeat (first | exact (by repeat (first | (with_reducible exact HR153.out) | (with_reducible refine Kd.C_alloc ?_ _) | (with_reducible refine Kd.C_drewN ?_ _) | (with_reducible refine Kd.C_drew ?_) | exact HR153.out)) | (with_reducible refine Kd.C_alloc ?_ _) | (with_reducible refine Kd.C_drewN ?_ _) | (with_reducible refine Kd.C_drew ?_))); (case side2 => exact HC153.out); rintro e w18 ⟨rfl, hb⟩; refine ⟨_, rfl, ?_⟩; have n0_ := Aside0.mk (Kd.R_below (by (with_reducible repeat (first | apply Kd.R_alloc | apply Kd.R_drewN | apply Kd.R_drew)); exact HO149.out) hb); have n1_ := Aside0.mk (Kd.C_below (by repeat (first | (with_reducible exact HR153.out) | (with_reducible refine Kd.C_alloc ?_ _) | (with_reducible refine Kd.C_drewN ?_ _) | (with_reducible refine Kd.C_drew ?_) | exact HR153.out)) hb); have n2_ := Aside0.mk (below_step (by repeat (first | (with_reducible first | exact HB.out | apply below_alloc | apply pw_below_drewN | apply below_drew1) | exact HB.out)) hb); clear HO149; clear HR153; clear HB; have HO149 := n0_; have HR153 := n1_; have HB := n2_; clear n0_ n1_ n2_; (try clear hb); (try clear hb2); (try clear hk); (try clear hi)))
            go_ret2
            exact ⟨by first | rfl | (simp [errW_none, errW_some] <;> rfl) | (simp only [← hji6, ← hji7]; first | rfl | (simp [errW_none, errW_some] <;> rfl)) | (simp [*, errW_none, errW_some] <;> rfl), by repeat (first | (with_reducible first | exact HB.out | apply below_alloc | apply pw_below_drewN | apply below_drew1) | exact HB.out)⟩
          · rw [if_neg c13] at H
            exact absurd H (by simp)
        · rw [if_neg c12] at H
          exact absurd H (by simp)
      · rw [if_neg c11] at H
        exact absurd H (by simp)
  · replace c5 := Bool.eq_false_iff.mpr c5
    subst c5
    have H1 : (some ((⟨#[]⟩ : ByteArray), false)) = some (r1, r2) := by rw [if_neg (show ¬ (false = true) by decide)] at H; exact H
    clear H
    have H := H1
    clear H1
    simp only [Option.some.injEq, Prod.mk.injEq] at H
    obtain ⟨rfl, rfl⟩ := H
    go_enter Try.func24, Try.ntmps24
    go_wp2_with (first | ((with_reducible refine gate_callee (f := 15) rfl ?_); refine goesL_ (some 12) rfl rfl Try.func15 (by kernel_rfl) rfl #[.string a0] rfl (by (try simp only [List.map_toArray, List.map_cons, List.map_nil]); first | done | rfl | (simp only [List.length_drop, List.length_take]; rfl)) ?_; (with_reducible refine (ndjqref01_Runes.calls k a0 t146 false _ A4.out).mono ?_); rintro e w19 ⟨v148, rfl, ho0, hb⟩; refine ⟨_, rfl, ?_⟩; have n0_ := Aside0.mk (Kd.R_lower ho0 (below_size (by repeat (first | (with_reducible first | exact HB.out | apply below_alloc | apply pw_below_drewN | apply below_drew1) | exact HB.out)))); have n1_ := Aside0.mk (below_step (by repeat (first | (with_reducible first | exact HB.out | apply below_alloc | apply pw_below_drewN | apply below_drew1) | exact HB.out)) hb); clear HB; have HO149 := n0_; have HB := n1_; clear n0_ n1_; (try clear hb); (try clear hb2); (try clear hk); (try clear hi); (try clear ho0)))
    go_ret2
    exact ⟨by first | rfl | (simp [errW_none, errW_some] <;> rfl) | (simp [*, errW_none, errW_some] <;> rfl), by repeat (first | (with_reducible first | exact HB.out | apply below_alloc | apply pw_below_drewN | apply below_drew1) | exact HB.out)⟩

/-! ### ndjqlaw01_UtfSlice: function 5 -/
def ndjqlaw01_UtfSlice.f (k : Nat) (a0 : ByteArray) (a1 : Int) (a2 : Int) : Option (Bool) := if (a0.size : Int) > 200 then ((ndjqlaw01_awake.f k).bind fun t156 => (some t156)) else ((utf_Slice.f k a0 a1 a2).bind fun bt157 => ((ndjqref01_Slice.f k a0 a1 a2).bind fun bt159 => (if bt157.1.toList = bt159.1.toList then (if (bt157.2 == bt159.2) = true then ((ndjqlaw01_awake.f k).bind fun t161 => (some t161)) else (some false)) else (some false))))
theorem ndjqlaw01_UtfSlice.mono : ∀ a0 a1 a2 k, LeO (ndjqlaw01_UtfSlice.f k a0 a1 a2) (ndjqlaw01_UtfSlice.f (k + 1) a0 a1 a2) := by
  intro a0 a1 a2 k
  unfold ndjqlaw01_UtfSlice.f
  repeat' first
      | (with_reducible exact ndjqlaw01_awake.mono _)
      | (with_reducible exact ndjqref01_Slice.mono _ _ _ _)
      | (with_reducible exact utf_Slice.mono _ _ _ _)
      | (with_reducible exact LeO.refl _)
      | (with_reducible exact LeO.none _)
      | (with_reducible refine LeO.ite ?_ ?_)
      | (with_reducible refine LeO.bind ?_ (fun _ => ?_))
      | exact ndjqlaw01_awake.mono _
      | exact ndjqref01_Slice.mono _ _ _ _
      | exact utf_Slice.mono _ _ _ _
      | exact LeO.none _
      | refine LeO.ite ?_ ?_
      | refine LeO.bind ?_ (fun _ => ?_)
set_option maxHeartbeats 8000000 in
set_option maxRecDepth 100000 in
theorem ndjqlaw01_UtfSlice.calls (k : Nat) (a0 : ByteArray) (a1 : Int) (a2 : Int) (r : Bool) (w : World) (h : ndjqlaw01_UtfSlice.f k a0 a1 a2 = some r) :
    Calls Try.prog 5 #[.string a0, .int .i64 a1, .int .i64 a2] w fun e w' => e = .returned (.bool r) ∧ Below w.heap.size w w' := by
  have HB := Aside0.mk (Below.refl w.heap.size w)
  have H : (if (a0.size : Int) > 200 then ((ndjqlaw01_awake.f k).bind fun t156 => (some t156)) else ((utf_Slice.f k a0 a1 a2).bind fun bt157 => ((ndjqref01_Slice.f k a0 a1 a2).bind fun bt159 => (if bt157.1.toList = bt159.1.toList then (if (bt157.2 == bt159.2) = true then ((ndjqlaw01_awake.f k).bind fun t161 => (some t161)) else (some false)) else (some false))))) = some r := h
  clear h
  by_cases c4 : (a0.size : Int) > 200
  · rw [if_pos c4] at H
    have c4b0 : decide (200 < (a0.size : Int)) = true := decide_eq_true c4
    have c4b1 : decide (200 < a0.size) = true := decide_eq_true (by omega)
    clear c4
    replace H := Option.bind_eq_some_iff.mp H
    obtain ⟨t156, A50, H⟩ := H
    replace H : (some t156) = some r := H
    have A5 := Aside0.mk A50
    clear A50
    obtain rfl := Option.some.inj H
    go_enter Try.func5, Try.ntmps5
    go_wp2_with (first | ((with_reducible refine gate_callee (f := 9) rfl ?_); refine goesL_ (some 14) rfl rfl Try.func9 (by kernel_rfl) rfl #[] rfl (by (try simp only [List.map_toArray, List.map_cons, List.map_nil]); first | done | rfl | (simp only [List.length_drop, List.length_take]; rfl)) ?_; (with_reducible refine (ndjqlaw01_awake.calls k  t156 _ A5.out).mono ?_); rintro e w' ⟨rfl, ⟨nd, rfl⟩⟩; refine ⟨_, rfl, ?_⟩))
    go_ret
    exact ⟨by first | rfl | (simp [errW_none, errW_some] <;> rfl) | (simp [*, errW_none, errW_some] <;> rfl), by repeat (first | (with_reducible first | exact HB.out | apply below_alloc | apply pw_below_drewN | apply below_drew1) | exact HB.out)⟩
  · rw [if_neg c4] at H
    have c4b0 : decide (200 < (a0.size : Int)) = false := decide_eq_false c4
    have c4b1 : decide (200 < a0.size) = false := decide_eq_false (by omega)
    clear c4
    replace H := Option.bind_eq_some_iff.mp H
    obtain ⟨⟨t157, t158⟩, A60, H⟩ := H
    replace H : ((ndjqref01_Slice.f k a0 a1 a2).bind fun bt159 => (if t157.toList = bt159.1.toList then (if (t158 == bt159.2) = true then ((ndjqlaw01_awake.f k).bind fun t161 => (some t161)) else (some false)) else (some false))) = some r := H
    have A6 := Aside0.mk A60
    clear A60
    replace H := Option.bind_eq_some_iff.mp H
    obtain ⟨⟨t159, t160⟩, A70, H⟩ := H
    replace H : (if t157.toList = t159.toList then (if (t158 == t160) = true then ((ndjqlaw01_awake.f k).bind fun t161 => (some t161)) else (some false)) else (some false)) = some r := H
    have A7 := Aside0.mk A70
    clear A70
    by_cases c8 : t157.toList = t159.toList
    · rw [if_pos c8] at H
      have c8b0 : (t157.toList == t159.toList) = true := beq_iff_eq.mpr c8
      have c8b1 : (t157.toList != t159.toList) = false := bne_eq_false_iff_eq.mpr c8
      clear c8
      by_cases c9 : (t158 == t160) = true
      · rw [if_pos c9] at H
        have c9b0 : (t158 == t160) = true := c9
        (try (have c9b1 : decide (t158 = t160) = true := by simpa using c9))
        (try (have c9b2 : (t158 == t160) = true := by simpa using c9))
        clear c9
        replace H := Option.bind_eq_some_iff.mp H
        obtain ⟨t161, A100, H⟩ := H
        replace H : (some t161) = some r := H
        have A10 := Aside0.mk A100
        clear A100
        obtain rfl := Option.some.inj H
        go_enter Try.func5, Try.ntmps5
        go_wp2_with (first | ((with_reducible refine gate_callee (f := 23) rfl ?_); refine goesL_ (some 19) rfl rfl Try.func23 (by kernel_rfl) rfl #[.string a0, .int .i64 a1, .int .i64 a2] rfl (by (try simp only [List.map_toArray, List.map_cons, List.map_nil]); first | done | rfl | (simp only [List.length_drop, List.length_take]; rfl)) ?_; (with_reducible refine (utf_Slice.calls k a0 a1 a2 t157 t158 _ A6.out).mono ?_); rintro e w11 ⟨rfl, hb⟩; refine ⟨_, rfl, ?_⟩; have n0_ := Aside0.mk (below_step (by repeat (first | (with_reducible first | exact HB.out | apply below_alloc | apply pw_below_drewN | apply below_drew1) | exact HB.out)) hb); clear HB; have HB := n0_; clear n0_; (try clear hb); (try clear hb2); (try clear hk); (try clear hi)) | ((with_reducible refine gate_callee (f := 24) rfl ?_); refine goesL_ (some 26) rfl rfl Try.func24 (by kernel_rfl) rfl #[.string a0, .int .i64 a1, .int .i64 a2] rfl (by (try simp only [List.map_toArray, List.map_cons, List.map_nil]); first | done | rfl | (simp only [List.length_drop, List.length_take]; rfl)) ?_; (with_reducible refine (ndjqref01_Slice.calls k a0 a1 a2 t159 t160 _ A7.out).mono ?_); rintro e w12 ⟨rfl, hb⟩; refine ⟨_, rfl, ?_⟩; have n0_ := Aside0.mk (below_step (by repeat (first | (with_reducible first | exact HB.out | apply below_alloc | apply pw_below_drewN | apply below_drew1) | exact HB.out)) hb); clear HB; have HB := n0_; clear n0_; (try clear hb); (try clear hb2); (try clear hk); (try clear hi)) | (go_at_call 9; (with_reducible refine (ndjqlaw01_awake.calls k  t161 _ A10.out).mono ?_); rintro e w' ⟨rfl, ⟨nd, rfl⟩⟩))
        go_ret
        exact ⟨by first | rfl | (simp [errW_none, errW_some] <;> rfl) | (simp [*, errW_none, errW_some] <;> rfl), by repeat (first | (with_reducible first | exact HB.out | apply below_alloc | apply pw_below_drewN | apply below_drew1) | exact HB.out)⟩
      · rw [if_neg c9] at H
        have c9b0 : (t158 == t160) = false := by simpa using c9
        (try (have c9b1 : decide (t158 = t160) = false := by simpa using c9))
        (try (have c9b2 : (t158 == t160) = false := by simpa using c9))
        (try (have c9b3 : ¬ (t158 = t160) := by simpa using c9))
        clear c9
        obtain rfl := Option.some.inj H
        go_enter Try.func5, Try.ntmps5
        go_wp2_with (first | ((with_reducible refine gate_callee (f := 23) rfl ?_); refine goesL_ (some 19) rfl rfl Try.func23 (by kernel_rfl) rfl #[.string a0, .int .i64 a1, .int .i64 a2] rfl (by (try simp only [List.map_toArray, List.map_cons, List.map_nil]); first | done | rfl | (simp only [List.length_drop, List.length_take]; rfl)) ?_; (with_reducible refine (utf_Slice.calls k a0 a1 a2 t157 t158 _ A6.out).mono ?_); rintro e w13 ⟨rfl, hb⟩; refine ⟨_, rfl, ?_⟩; have n0_ := Aside0.mk (below_step (by repeat (first | (with_reducible first | exact HB.out | apply below_alloc | apply pw_below_drewN | apply below_drew1) | exact HB.out)) hb); clear HB; have HB := n0_; clear n0_; (try clear hb); (try clear hb2); (try clear hk); (try clear hi)) | ((with_reducible refine gate_callee (f := 24) rfl ?_); refine goesL_ (some 26) rfl rfl Try.func24 (by kernel_rfl) rfl #[.string a0, .int .i64 a1, .int .i64 a2] rfl (by (try simp only [List.map_toArray, List.map_cons, List.map_nil]); first | done | rfl | (simp only [List.length_drop, List.length_take]; rfl)) ?_; (with_reducible refine (ndjqref01_Slice.calls k a0 a1 a2 t159 t160 _ A7.out).mono ?_); rintro e w14 ⟨rfl, hb⟩; refine ⟨_, rfl, ?_⟩; have n0_ := Aside0.mk (below_step (by repeat (first | (with_reducible first | exact HB.out | apply below_alloc | apply pw_below_drewN | apply below_drew1) | exact HB.out)) hb); clear HB; have HB := n0_; clear n0_; (try clear hb); (try clear hb2); (try clear hk); (try clear hi)))
        go_ret
        exact ⟨by first | rfl | (simp [errW_none, errW_some] <;> rfl) | (simp [*, errW_none, errW_some] <;> rfl), by repeat (first | (with_reducible first | exact HB.out | apply below_alloc | apply pw_below_drewN | apply below_drew1) | exact HB.out)⟩
    · rw [if_neg c8] at H
      have c8b0 : (t157.toList == t159.toList) = false := beq_eq_false_iff_ne.mpr c8
      have c8b1 : (t157.toList != t159.toList) = true := bne_iff_ne.mpr c8
      obtain rfl := Option.some.inj H
      go_enter Try.func5, Try.ntmps5
      go_wp2_with (first | ((with_reducible refine gate_callee (f := 23) rfl ?_); refine goesL_ (some 19) rfl rfl Try.func23 (by kernel_rfl) rfl #[.string a0, .int .i64 a1, .int .i64 a2] rfl (by (try simp only [List.map_toArray, List.map_cons, List.map_nil]); first | done | rfl | (simp only [List.length_drop, List.length_take]; rfl)) ?_; (with_reducible refine (utf_Slice.calls k a0 a1 a2 t157 t158 _ A6.out).mono ?_); rintro e w15 ⟨rfl, hb⟩; refine ⟨_, rfl, ?_⟩; have n0_ := Aside0.mk (below_step (by repeat (first | (with_reducible first | exact HB.out | apply below_alloc | apply pw_below_drewN | apply below_drew1) | exact HB.out)) hb); clear HB; have HB := n0_; clear n0_; (try clear hb); (try clear hb2); (try clear hk); (try clear hi)) | ((with_reducible refine gate_callee (f := 24) rfl ?_); refine goesL_ (some 26) rfl rfl Try.func24 (by kernel_rfl) rfl #[.string a0, .int .i64 a1, .int .i64 a2] rfl (by (try simp only [List.map_toArray, List.map_cons, List.map_nil]); first | done | rfl | (simp only [List.length_drop, List.length_take]; rfl)) ?_; (with_reducible refine (ndjqref01_Slice.calls k a0 a1 a2 t159 t160 _ A7.out).mono ?_); rintro e w16 ⟨rfl, hb⟩; refine ⟨_, rfl, ?_⟩; have n0_ := Aside0.mk (below_step (by repeat (first | (with_reducible first | exact HB.out | apply below_alloc | apply pw_below_drewN | apply below_drew1) | exact HB.out)) hb); clear HB; have HB := n0_; clear n0_; (try clear hb); (try clear hb2); (try clear hk); (try clear hi)))
      go_ret
      exact ⟨by first | rfl | (simp [errW_none, errW_some] <;> rfl) | (simp [*, errW_none, errW_some] <;> rfl), by repeat (first | (with_reducible first | exact HB.out | apply below_alloc | apply pw_below_drewN | apply below_drew1) | exact HB.out)⟩

/-- THE ONE PURE STATEMENT of ndjqlaw01_UtfSlice: yours. -/
def ndjqlaw01_UtfSlice.Pure : Prop := ∀ (a0 : ByteArray) (a1 : Int) (a2 : Int), a0.size ≤ 140737488351232 → (Lit.int .i64 a1).wf = true → (Lit.int .i64 a2).wf = true → ∃ k, ndjqlaw01_UtfSlice.f k a0 a1 a2 = some true
theorem ndjqlaw01_UtfSlice.walk (P : ndjqlaw01_UtfSlice.Pure) (a0 : ByteArray) (a1 : Int) (a2 : Int) (w : World) (w0 : a0.size ≤ 140737488351232) (w1 : (Lit.int .i64 a1).wf = true) (w2 : (Lit.int .i64 a2).wf = true) :
    Calls Try.prog 5 #[.string a0, .int .i64 a1, .int .i64 a2] w fun e w' => e = .returned (.bool true) ∧ Below w.heap.size w w' := by
  obtain ⟨k, h⟩ := P a0 a1 a2 w0 w1 w2
  refine (ndjqlaw01_UtfSlice.calls k a0 a1 a2 true w h).mono ?_
  rintro e w' ⟨rfl, hd⟩
  exact ⟨rfl, hd⟩

end Go.Proofs.Ytldfeljehjbjeaa.PUtfSlice
