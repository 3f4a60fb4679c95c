/- The walk of the law ScanSpeculation, by hand. -/
import Derived.Test.YtkhnifehcnlpjaaDoorS7
import Derived.BigQuiet
namespace Go.Proofs.YtkhnifehcnlpjaaDoor.QC
open Go Go.RowKit Go.Proofs.YtkhnifehcnlpjaaDoorW.PrintWords Go.Proofs.YtkhnifehcnlpjaaDoorW.PrintLast Go.Proofs.YtkhnifehcnlpjaaDoorW.PrintMore
set_option linter.unusedVariables false
set_option linter.unusedSimpArgs false
set_option maxRecDepth 100000
set_option maxHeartbeats 4000000
open Go.Proofs.YtkhnifehcnlpjaaDoor.Ps
theorem brackC (kf : Nat) (l : List S26) (ps : List Int) (w : World) {A : Option Addr} {c0 : Nat} {P : Option Addr} {pc : Nat} (hl : Kd.C k26 w A l.length l) (hc : l.length ≤ c0) (hp : Kd.C (Kd.int .i64) w P ps.length ps) (hpc : ps.length ≤ pc) (h8 : l.length ≤ 1000) (hps : ps.length ≤ 1000) (hex : scan_examine.f kf l = some 0) (hok : Gd l) :
    Calls Tryd.prog 25 #[.slice A l.length c0, .slice P ps.length pc] w (BrPost (allC l) 0 w) := by
  cases l with
  | nil => exact brack_nil kf w hl hex
  | cons x l => exact brack_ok kf (x :: l) ps w hl hc hp hpc h8 hps (by simp) hex hok
/-- The summaries of a string's pieces. -/
def spl (s : ByteArray) (c : Nat) : List S26 := (pcsOf s (chL (s.size : Int) (c : Int) s.size 0)).map smL
theorem spl_facts (s : ByteArray) (c : Nat) (hc : 1 ≤ c) (hs : s.size ≤ 1048576) : Gd (spl s c) ∧ allC (spl s c) = smL (nm s) ∧ (spl s c).length = (s.size + c - 1) / c ∧ ∀ i, i < (spl s c).length → (entL 0 (spl s c))[i]? = some (scanL 0 0 ((nm s).take (i * c))).1 := by
  obtain ⟨h1, h2, h3⟩ := chP s c hc s.size 0 (by omega)
  rw [show ((0 : Nat) : Int) = 0 from rfl, List.drop_zero] at h1 h2
  rw [show ((0 : Nat) : Int) = 0 from rfl] at h3
  have h4 := h3 (Nat.zero_le _)
  unfold spl
  refine ⟨gd_smL _ (by rw [h1, nm_len]; exact hs), by rw [all_smL, h1], by rw [List.length_map]; unfold pcsOf; rw [List.length_map, h4]; congr 1, fun i hi => ?_⟩
  rw [entL_at _ 0 i (by omega) (by simpa using hi), h2 i]
theorem sumsS (s : ByteArray) (c : Nat) (hc : 1 ≤ c ∧ c ≤ 65536) (hs : s.size ≤ 1048576) (w : World) (hG : GlbLaid w) : Calls Tryd.prog 15 #[.string s, .int .i64 (c : Int)] w fun e w' => ∃ A cp, e = .returned (.tuple #[.slice A (spl s c).length cp, .int .i64 0]) ∧ Kd.C k26 w' A (spl s c).length (spl s c) ∧ (spl s c).length ≤ cp ∧ Below w.heap.size w w' := by
  have h := summaries_at s hs (c : Int) (by omega) (4 * s.size + 50) (by omega)
  rw [sums_pcs s c hc.1] at h
  refine (scan_Summaries.calls (4 * s.size + 50) s (c : Int) _ _ w hG h).mono ?_
  rintro e w' ⟨v, rfl, hS, hb⟩
  obtain ⟨A, cp, rfl, hl, hC⟩ := Kd.R_reads (Kd.S_R hS)
  exact ⟨A, cp, rfl, hC, hl, hb⟩
abbrev smS (s : ByteArray) : S26 := smL (nm s)
theorem sumS (s : ByteArray) (hs : s.size ≤ 1048576) (w : World) (hG : GlbLaid w) : Calls Tryd.prog 24 #[.string s] w fun e w' => ∃ E0 f0 E1 f1 E2 f2, e = .returned (.tuple #[.agg #[.int .i64 (sm (smS s)).n, .int .i64 (sm (smS s)).e0, .int .i64 (sm (smS s)).e1, .int .i64 (sm (smS s)).e2, .slice E0 (sm (smS s)).l0.length f0, .slice E1 (sm (smS s)).l1.length f1, .slice E2 (sm (smS s)).l2.length f2], .int .i64 0]) ∧ RdS w' E0 f0 E1 f1 E2 f2 (sm (smL (nm s))) ∧ Below w.heap.size w w' := by
  have h := summarize_at s hs (3 * s.size + 10) (Nat.le_refl _)
  refine (automaton_Summarize.calls (3 * s.size + 10) s _ _ _ _ _ _ _ _ w hG h).mono ?_
  rintro e w' ⟨v4, v5, v6, rfl, h4, h5, h6, hb⟩
  obtain ⟨E0, f0, rfl⟩ := Kd.R_slice h4
  obtain ⟨E1, f1, rfl⟩ := Kd.R_slice h5
  obtain ⟨E2, f2, rfl⟩ := Kd.R_slice h6
  refine ⟨E0, f0, E1, f1, E2, f2, ?_, ⟨(Kd.R_reads' h4).2.1, (Kd.R_reads' h5).2.1, (Kd.R_reads' h6).2.1, (Kd.R_reads' h4).2.2, (Kd.R_reads' h5).2.2, (Kd.R_reads' h6).2.2⟩, hb⟩
  rw [show (sm (smL (nm s))).n = (s.size : Int) from congrArg Int.ofNat (nm_len s)]
  rfl
theorem entS (l : List S26) (hl : l.length ≤ 1048576) (hg : Gd l) (w : World) {A : Option Addr} {c : Nat} (hr : Kd.C k26 w A l.length l) (hc : l.length ≤ c) : Calls Tryd.prog 18 #[.slice A l.length c] w fun e w' => ∃ P pc, e = .returned (.tuple #[.slice P l.length pc, .int .i64 0]) ∧ Kd.C (Kd.int .i64) w' P l.length (entL 0 l) ∧ Below w.heap.size w w' := by
  have h := entries_ok l hl hg.1 hg.2 (4000000 + 2 * l.length + 30) (by omega)
  refine (scan_Entries.calls _ A c l _ _ w hr hc h).mono ?_
  rintro e w' ⟨v, rfl, hR, hb⟩
  obtain ⟨P, pc, rfl⟩ := Kd.R_slice hR
  have hq := (Kd.R_reads' hR).2.2
  rw [entL_len] at hq ⊢
  exact ⟨P, pc, rfl, hq, hb⟩
theorem linesS (s : ByteArray) (hs : s.size ≤ 1048576) (w : World) (hG : GlbLaid w) : Calls Tryd.prog 27 #[.string s] w fun e w' => ∃ v, e = .returned (.tuple #[v, .int .i64 (scanL 0 0 (nm s)).1, .int .i64 0]) ∧ Below w.heap.size w w' := by
  refine (split_Lines.calls (s.size + 1) s _ _ _ w hG (lines_at s hs (s.size + 1) (by omega))).mono ?_
  rintro e w' ⟨v, rfl, _, hb⟩
  exact ⟨v, rfl, hb⟩
theorem sameSum (x : S26) (hx : x.f2.f0.length ≤ 1048576 ∧ x.f2.f1.length ≤ 1048576 ∧ x.f2.f2.length ≤ 1048576) (w : World) {A0 c0 A1 c1 A2 c2 B0 d0 B1 d1 B2 d2} (h1 : RdS w A0 c0 A1 c1 A2 c2 (sm x)) (h2 : RdS w B0 d0 B1 d1 B2 d2 (sm x)) :
    Calls Tryd.prog 17 #[.agg #[.int .i64 (sm x).n, .int .i64 (sm x).e0, .int .i64 (sm x).e1, .int .i64 (sm x).e2, .slice A0 (sm x).l0.length c0, .slice A1 (sm x).l1.length c1, .slice A2 (sm x).l2.length c2], .agg #[.int .i64 (sm x).n, .int .i64 (sm x).e0, .int .i64 (sm x).e1, .int .i64 (sm x).e2, .slice B0 (sm x).l0.length d0, .slice B1 (sm x).l1.length d1, .slice B2 (sm x).l2.length d2]] w fun e w' => e = .returned (.bool true) ∧ Below w.heap.size w w' :=
  sumC 2000000 (sm x) (sm x) true w h1 h2 (summaries_same x.f0 x.f1.f0 x.f1.f1 x.f1.f2 x.f2.f0 x.f2.f1 x.f2.f2 (by omega) (by omega) (by omega) 2000000 (by omega) (by omega) (by omega))
theorem awakeS (w : World) (hG : GlbLaid w) : Calls Tryd.prog 9 #[] w fun e w' => e = .returned (.bool true) ∧ Below w.heap.size w w' := ndjqlaw20_awake.calls 60 true w hG awake_60
theorem law_spec (s : ByteArray) (a : Int) (ps : List Int) (w : World) {P : Option Addr} {pc : Nat} (hss : s.size ≤ 140737488351232) (hp : Kd.C (Kd.int .i64) w P ps.length ps) (hpc : ps.length ≤ pc) (hpl : ps.length ≤ 140737488351232) (hG : GlbLaid w) :
    Calls Tryd.prog 8 #[.string s, .int .i64 a, .slice P ps.length pc] w fun e w' => e = .returned (.bool true) ∧ Below w.heap.size w w' := by
  have HGl := Aside0.mk hG
  have HB0 := Aside0.mk (Below.refl w.heap.size w)
  have HPp := Aside0.mk (And.intro hp hpc)
  clear hp hpc hG
  go_enter Tryd.func8, Tryd.ntmps8
  by_cases h8 : s.size ≤ 150
  rotate_left
  · have g1 : decide ((s.size : Int) > 150) = true := decide_eq_true (by omega)
    have g2 : decide (150 < s.size) = true := decide_eq_true (by omega)
    go_wp2_with (first | (go_at_call 9; (with_reducible refine (awakeS _ HGl.out).mono ?_); rintro e v3 ⟨rfl, hb⟩; have HB2 := Aside0.mk hb; clear hb))
    go_ret
    exact ⟨rfl, HB2.out⟩
  have g1 : decide ((s.size : Int) > 150) = false := decide_eq_false (by omega)
  have g2 : decide (150 < s.size) = false := decide_eq_false (by omega)
  by_cases hp8 : ps.length ≤ 100
  rotate_left
  · have g3 : decide ((ps.length : Int) > 100) = true := decide_eq_true (by omega)
    have g4 : decide (100 < ps.length) = true := decide_eq_true (by omega)
    go_wp2_with (first | (go_at_call 9; (with_reducible refine (awakeS _ HGl.out).mono ?_); rintro e v3 ⟨rfl, hb⟩; have HB2 := Aside0.mk hb; clear hb))
    go_ret
    exact ⟨rfl, HB2.out⟩
  have g3 : decide ((ps.length : Int) > 100) = false := decide_eq_false (by omega)
  have g4 : decide (100 < ps.length) = false := decide_eq_false (by omega)
  obtain ⟨m, hm, hm0, hm1, hme⟩ := mod_at a 20 (by decide) (by decide)
  clear hme
  obtain ⟨c, hc⟩ : ∃ c : Nat, m + 1 = (c : Int) := ⟨(m + 1).toNat, by omega⟩
  have hcb : 1 ≤ c ∧ c ≤ 20 := by omega
  have hwm : IntKind.i64.wrap (m + 1) = (c : Int) := by rw [i64_w, hc]; unfold Go.RowKit.wrap64; omega
  obtain ⟨f1, f2, f3, f4⟩ := spl_facts s c hcb.1 (by omega)
  have HMd := Aside0.mk (fun W => ndjqkeep_Mod.calls a 20 m W hm)
  have hn150 : (spl s c).length ≤ 150 := by
    rw [f3]
    have h1 : (s.size + c - 1) / c ≤ s.size := by
      rw [Nat.div_le_iff_le_mul_add_pred (by omega)]
      have : s.size ≤ c * s.size := Nat.le_mul_of_pos_left _ (by omega)
      omega
    omega
  have HSm : Aside0 (∀ W, Below w.heap.size w W → Calls Tryd.prog 15 #[.string s, .int .i64 (c : Int)] W fun e w' => ∃ A cp, e = .returned (.tuple #[.slice A (spl s c).length cp, .int .i64 0]) ∧ Kd.C k26 w' A (spl s c).length (spl s c) ∧ (spl s c).length ≤ cp ∧ Below W.heap.size W w') := ⟨fun W hb => sumsS s c (by omega) (by omega) W (HGl.out.below hb)⟩
  have HEx := examine_ok (spl s c) (by omega) f1.1 f1.2 4001000 (by omega)
  have HBr : Aside0 (∀ W A cp, Below w.heap.size w W → Kd.C k26 W A (spl s c).length (spl s c) → (spl s c).length ≤ cp → Calls Tryd.prog 25 #[.slice A (spl s c).length cp, .slice P ps.length pc] W (BrPost (smS s) 0 W)) := ⟨fun W A cp hb hC hcp => by
    rw [show smS s = allC (spl s c) from f2.symm]
    exact brackC 4001000 (spl s c) ps W hC hcp (Kd.C_below HPp.out.1 hb) HPp.out.2 (by omega) (by omega) HEx f1⟩
  have HSu : Aside0 (∀ W, Below w.heap.size w W → Calls Tryd.prog 24 #[.string s] W fun e w' => ∃ E0 f0 E1 f1 E2 f2, e = .returned (.tuple #[.agg #[.int .i64 (sm (smS s)).n, .int .i64 (sm (smS s)).e0, .int .i64 (sm (smS s)).e1, .int .i64 (sm (smS s)).e2, .slice E0 (sm (smS s)).l0.length f0, .slice E1 (sm (smS s)).l1.length f1, .slice E2 (sm (smS s)).l2.length f2], .int .i64 0]) ∧ RdS w' E0 f0 E1 f1 E2 f2 (sm (smS s)) ∧ Below W.heap.size W w') := ⟨fun W hb => sumS s (by omega) W (HGl.out.below hb)⟩
  have HEn : Aside0 (∀ W A cp, Kd.C k26 W A (spl s c).length (spl s c) → (spl s c).length ≤ cp → Calls Tryd.prog 18 #[.slice A (spl s c).length cp] W fun e w' => ∃ P pc, e = .returned (.tuple #[.slice P (spl s c).length pc, .int .i64 0]) ∧ Kd.C (Kd.int .i64) w' P (spl s c).length (entL 0 (spl s c)) ∧ Below W.heap.size W w') := ⟨fun W A cp hC hcp => entS (spl s c) (by omega) f1 W hC hcp⟩
  have HLn : Aside0 ((smS s).f2.f0.length ≤ 1048576 ∧ (smS s).f2.f1.length ≤ 1048576 ∧ (smS s).f2.f2.length ≤ 1048576) := ⟨vldS_len (smL_vld (nm s) (by rw [nm_len]; omega))⟩
  obtain ⟨n, hn⟩ : ∃ n, (spl s c).length = n := ⟨_, rfl⟩
  obtain ⟨es, hes⟩ : ∃ es, entL 0 (spl s c) = es := ⟨_, rfl⟩
  have HF3 : Aside0 (n = (s.size + c - 1) / c) := ⟨by rw [← hn]; exact f3⟩
  have HF4 : Aside0 (∀ i, i < n → es[i]? = some (scanL 0 0 ((nm s).take (i * c))).1) := ⟨fun i hi => by rw [← hes]; exact f4 i (by rw [hn]; exact hi)⟩
  have HEl : Aside0 (es.length = n) := ⟨by rw [← hes, entL_len, hn]⟩
  rw [hn] at HSm HBr HEn hn150
  rw [hes] at HEn
  obtain ⟨V, hV⟩ : ∃ V, smS s = V := ⟨_, rfl⟩
  rw [hV] at HBr HSu HLn
  clear hm f1 f2 f3 f4 HEx hn hes hV
  have hq : ((s.size : Int) + (c : Int) - 1).tdiv (c : Int) = (n : Int) := by
    rw [show (s.size : Int) + (c : Int) - 1 = ((s.size + c - 1 : Nat) : Int) by omega, HF3.out]
    exact (Int.ofNat_tdiv _ _)
  have hw1 : IntKind.i64.wrap ((s.size : Int) + (c : Int)) = (s.size : Int) + (c : Int) := by rw [i64_w]; unfold Go.RowKit.wrap64; omega
  have hw2 : IntKind.i64.wrap ((s.size : Int) + (c : Int) - 1) = (s.size : Int) + (c : Int) - 1 := by rw [i64_w]; unfold Go.RowKit.wrap64; omega
  have hc0 : ((c : Int) = 0) = False := eq_false (by omega)
  have HCb := Aside0.mk hcb
  go_upto_region 5 with (first | (go_at_call 23; (with_reducible refine (HMd.out _).mono ?_); rintro e v1 ⟨rfl, hd⟩; have HB1 := Aside0.mk (below_step HB0.out (Drawn0.below hd)); clear hd) | (go_at_call 15; (with_reducible refine (HSm.out _ HB1.out).mono ?_); rintro e v2 ⟨A, cp, rfl, hC, hcp, hb⟩; have HB2 := Aside0.mk (below_step HB1.out hb); have HC := Aside0.mk (And.intro hC hcp); clear hb hC hcp))
  go_upto_region 6 with (first | (go_at_call 25; (with_reducible refine (HBr.out _ _ _ HB2.out HC.out.1 HC.out.2).mono ?_); rintro e u1 ⟨E0, f0, E1, f1, E2, f2, rfl, hr, hb⟩; have HB3 := Aside0.mk (below_step HB2.out hb); have HC3 := Aside0.mk (Kd.C_below HC.out.1 hb); have HV1 := Aside0.mk (Bo.new hr); clear hr hb))
  obtain ⟨b6, hb6⟩ : ∃ b, u1.heap.size = b := ⟨_, rfl⟩
  obtain ⟨W1, hW1⟩ : ∃ W, u1.alloc (.cells #[.int .i64 (sm V).n, .int .i64 (sm V).e0, .int .i64 (sm V).e1, .int .i64 (sm V).e2, .slice E0 (sm V).l0.length f0, .slice E1 (sm V).l1.length f1, .slice E2 (sm V).l2.length f2] 26) = W := ⟨_, rfl⟩
  have hn1 := (Below.refl u1.heap.size u1).alloc (Nat.le_refl _) (.cells #[.int .i64 (sm V).n, .int .i64 (sm V).e0, .int .i64 (sm V).e1, .int .i64 (sm V).e2, .slice E0 (sm V).l0.length f0, .slice E1 (sm V).l1.length f1, .slice E2 (sm V).l2.length f2] 26)
  rw [hW1] at HV1 hn1
  rw [hb6] at HV1
  have HB4 := Aside0.mk (below_step HB3.out hn1)
  have HC4 := Aside0.mk (Kd.C_below HC3.out hn1)
  rw [hW1, hb6]
  clear hW1 hb6 hn1 HB1 HB2 HB3 HC3
  go_upto_region 7 with (first | (go_at_call 24; (with_reducible refine (HSu.out _ HB4.out).mono ?_); rintro e u2 ⟨G0, k0, G1, k1, G2, k2, rfl, hr, hb⟩; have HB5 := Aside0.mk (below_step HB4.out hb); have HC5 := Aside0.mk (Kd.C_below HC4.out hb); have HV2 := Aside0.mk (HV1.out.below hb); have HR2 := Aside0.mk (Bo.new hr); clear hr hb))
  obtain ⟨b8, hb8⟩ : ∃ b, u2.heap.size = b := ⟨_, rfl⟩
  obtain ⟨W2, hW2⟩ : ∃ W, u2.alloc (.cells #[.int .i64 (sm V).n, .int .i64 (sm V).e0, .int .i64 (sm V).e1, .int .i64 (sm V).e2, .slice G0 (sm V).l0.length k0, .slice G1 (sm V).l1.length k1, .slice G2 (sm V).l2.length k2] 26) = W := ⟨_, rfl⟩
  have hn2 := (Below.refl u2.heap.size u2).alloc (Nat.le_refl _) (.cells #[.int .i64 (sm V).n, .int .i64 (sm V).e0, .int .i64 (sm V).e1, .int .i64 (sm V).e2, .slice G0 (sm V).l0.length k0, .slice G1 (sm V).l1.length k1, .slice G2 (sm V).l2.length k2] 26)
  have HV3 := Aside0.mk (HV2.out.below hn2)
  rw [hW2] at HV3 HR2 hn2
  rw [hb8] at HR2
  have HB6 := Aside0.mk (below_step HB5.out hn2)
  have HC6 := Aside0.mk (Kd.C_below HC5.out hn2)
  rw [hW2, hb8]
  clear hW2 hb8 hn2 HB4 HB5 HV1 HV2 HBr HSu HC4 HC5
  go_upto_region 8 with (first | (go_at_call 18; (with_reducible refine (HEn.out _ _ _ HC6.out HC.out.2).mono ?_); rintro e u3 ⟨PE, pe, rfl, hE, hb⟩; have HB7 := Aside0.mk (below_step HB6.out hb); have HE := Aside0.mk hE; have HV4 := Aside0.mk (HV3.out.below hb); have HR4 := Aside0.mk (HR2.out.below hb); clear hE hb))
  obtain ⟨p0, p1, p2, p3, p4, p5, p6⟩ := HV4.out.cells
  obtain ⟨q0, q1, q2, q3, q4, q5, q6⟩ := HR4.out.cells
  go_upto_region 10 with (first | (go_at_call 17; (with_reducible refine (sameSum V HLn.out _ HV4.out.rd HR4.out.rd).mono ?_); rintro e v3 ⟨rfl, hb⟩; have HB8 := Aside0.mk (below_step HB7.out hb); have HE8 := Aside0.mk (Kd.C_below HE.out hb); clear hb))
  clear p0 p1 p2 p3 p4 p5 p6 q0 q1 q2 q3 q4 q5 q6 HV4 HR4 HV3 HR2 HB6 HB7 HE HC6 HC HSm HMd HEn HLn hq hw1 hw2 hc0 HPp
  have H0 := Aside0.mk (Below.refl v3.heap.size v3)
  go_wp2_with fail
  go_loopg [15] n (fun kq v15 w' => ∃ i : Nat, kq + i = n ∧ v15 = .int .i64 (i : Int) ∧ Aside0 (Below v3.heap.size v3 w'))
  case atStart => exact ⟨0, by omega, rfl, H0⟩
  case round =>
    clear H0
    obtain ⟨i, hi, rfl, HW⟩ := hrel
    by_cases ci : i < n
    · have g0 : decide ((i : Int) < (n : Int)) = true := decide_eq_true (by omega)
      have g0' : decide (i < n) = true := decide_eq_true ci
      obtain ⟨j1, rfl⟩ : ∃ j1, gk = j1 + 1 := ⟨gk - 1, by omega⟩
      have hic : i * c < s.size := by
        have h1 := HF3.out
        have h2 : i + 1 ≤ (s.size + c - 1) / c := by omega
        rw [Nat.le_div_iff_mul_le (by have := HCb.out; omega), Nat.add_mul] at h2
        have := HCb.out
        omega
      obtain ⟨t, ht⟩ : ∃ t, i * c = t := ⟨_, rfl⟩
      have hmul : (i : Int) * (c : Int) = (t : Int) := by rw [← ht]; exact (Int.natCast_mul i c).symm
      have hmw : IntKind.i64.wrap (t : Int) = (t : Int) := by rw [i64_w]; unfold Go.RowKit.wrap64; omega
      have hst := HF4.out i ci
      rw [ht] at hst hic
      obtain ⟨st, hst2⟩ : ∃ st, (scanL 0 0 ((nm s).take t)).1 = st := ⟨_, rfl⟩
      rw [hst2] at hst
      have hnx : nm (s.extract 0 t) = (nm s).take t := by rw [nm_extract, List.drop_zero]
      have hsx : (s.extract 0 t).size ≤ 1048576 := by rw [← nm_len, hnx, List.length_take, nm_len]; omega
      have HLi : Aside0 (∀ W, Below w.heap.size w W → Calls Tryd.prog 27 #[.string (s.extract 0 t)] W fun e w' => ∃ v, e = .returned (.tuple #[v, .int .i64 st, .int .i64 0]) ∧ Below W.heap.size W w') := ⟨fun W hb => by
        have h := linesS (s.extract 0 t) hsx W (HGl.out.below hb)
        rw [hnx, hst2] at h
        exact h⟩
      have HSr : Aside0 (∀ W, Below v3.heap.size v3 W → ∃ ad, PE = some ad ∧ W.cell? (ad.add i) = some (.int .i64 st)) := ⟨fun W hb => by
        obtain ⟨ad, e1, hx⟩ := Kd.at_int (Kd.C_below HE8.out hb) (i : Int) (by omega) (by omega)
        refine ⟨ad, e1, ?_⟩
        have e2 : rd es (i : Int) = st := by unfold rd; simp [hst]
        rw [e2] at hx
        simpa using hx⟩
      have g2 : (0 ≤ (t : Int)) = True := eq_true (by omega)
      have g3 : ((t : Int) ≤ (s.size : Int)) = True := eq_true (by omega)
      have g4 : (0 ≤ (i : Int)) = True := eq_true (by omega)
      have g5 : ((i : Int) < (n : Int)) = True := eq_true (by omega)
      have hib : i < 150 := by omega
      obtain ⟨ad, e1, _⟩ := HSr.out _ (Below.refl _ _)
      subst e1
      have HI := Aside0.mk hi
      clear hic ht hst hst2 hnx hsx ci hi
      go_wp2_with (first | (go_at_call 27; (with_reducible refine (HLi.out _ (below_step HB8.out HW.out)).mono ?_); rintro e v4 ⟨vl, rfl, hb⟩; have HW2 := Aside0.mk (below_step HW.out hb); clear hb; obtain ⟨ad2, e2, hcl⟩ := HSr.out _ HW2.out; cases e2))
      go_roundg j1
      case measure => omega
      case rel => exact ⟨i + 1, by have := HI.out; omega, rfl, HW2⟩
    · have g0 : decide ((i : Int) < (n : Int)) = false := decide_eq_false (by omega)
      have g0' : decide (i < n) = false := decide_eq_false ci
      clear hi ci
      go_wp2_with (first | (go_at_call 9; (with_reducible refine (awakeS _ (HGl.out.below (below_step HB8.out HW.out))).mono ?_); rintro e v4 ⟨rfl, hb⟩; have HB9 := Aside0.mk (below_step (below_step HB8.out HW.out) hb); clear hb))
      go_ret
      exact ⟨rfl, HB9.out⟩
theorem row_C {W : World} {a : Option Addr} {len cap : Nat} {zs : List Int} (h : (a = none ∧ len = 0 ∧ cap = 0 ∧ zs = []) ∨ ∃ x, a = some x ∧ len ≤ cap ∧ cap ≤ maxLen ∧ zs.length = cap ∧ (∀ i, i < zs.length → W.cell? (x.add i) = some (.int .i64 (zs.getD i 0))) ∧ ∀ n ∈ zs, (Lit.int .i64 n).wf = true) :
    ∃ l : List Int, l.length = len ∧ Kd.C (Kd.int .i64) W a l.length l ∧ l.length ≤ cap := by
  rcases h with ⟨rfl, rfl, rfl, rfl⟩ | ⟨x, rfl, h1, h2, h3, h4, _⟩
  · exact ⟨[], rfl, Kd.C_nil _ _, Nat.le_refl _⟩
  · have hl : (zs.take len).length = len := by rw [List.length_take]; omega
    refine ⟨zs.take len, hl, ⟨rfl, by rw [hl]; simp only [maxLen] at h2; omega, fun hp => ⟨x, rfl, fun j p hj => ⟨[.int .i64 p], rfl, rfl, fun i u hu => ?_⟩⟩⟩, by omega⟩
    have hi : i = 0 := by have := (List.getElem?_eq_some_iff.1 hu).1; simp at this; omega
    subst hi
    obtain rfl : Value.int .i64 p = u := by simpa using hu
    have hjl := (List.getElem?_eq_some_iff.1 hj).1
    rw [List.getElem?_take] at hj
    split at hj
    · have h5 := h4 j (by omega)
      rw [List.getD_eq_getElem?_getD, hj] at h5
      show W.cell? (x.add (j * 1 + 0)) = _
      rw [Nat.mul_one, Nat.add_zero]
      exact h5
    · cases hj
theorem law_spec2 (s : ByteArray) (a : Int) (w : World) {P : Option Addr} {len cap : Nat} (hss : s.size ≤ 140737488351232) (hr : ∃ l : List Int, l.length = len ∧ Kd.C (Kd.int .i64) w P l.length l ∧ l.length ≤ cap) (hpl : len * 8 ≤ 140737488351232) (hG : GlbLaid w) :
    Calls Tryd.prog 8 #[.string s, .int .i64 a, .slice P len cap] w fun e w' => e = .returned (.bool true) ∧ Below w.heap.size w w' := by
  obtain ⟨l, rfl, hC, hc⟩ := hr
  exact law_spec s a l w hss hC hc (by omega) hG
end Go.Proofs.YtkhnifehcnlpjaaDoor.QC
