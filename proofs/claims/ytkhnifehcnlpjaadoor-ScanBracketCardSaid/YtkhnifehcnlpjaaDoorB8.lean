/- Bracket and the reference's, alike; the walk of the law ScanBracket. -/
import Derived.Test.YtkhnifehcnlpjaaDoorB7
import Derived.BigQuiet
namespace Go.Proofs.YtkhnifehcnlpjaaDoor.QB
open Go Go.RowKit Go.Proofs.YtkhnifehcnlpjaaDoorW.PrintWords Go.Proofs.YtkhnifehcnlpjaaDoorW.PrintLast Go.Proofs.YtkhnifehcnlpjaaDoorW.PrintMore
set_option linter.unusedVariables false
set_option linter.unusedSimpArgs false
set_option maxRecDepth 100000
set_option maxHeartbeats 4000000
open Go.Proofs.YtkhnifehcnlpjaaDoor.Pl
theorem brackC (kf : Nat) (r : Int) (l : List S26) (ps : List Int) (w : World) {A : Option Addr} {c0 : Nat} {P : Option Addr} {pc : Nat} (hl : Kd.C k26 w A l.length l) (hc : l.length ≤ c0) (hp : Kd.C (Kd.int .i64) w P ps.length ps) (hpc : ps.length ≤ pc) (h8 : l.length ≤ 1000) (hps : ps.length ≤ 1000) (hex : scan_examine.f kf l = some r) (hok : r = 0 → Gd l) :
    Calls Tryd.prog 25 #[.slice A l.length c0, .slice P ps.length pc] w (BrPost (brV r l) r w) := by
  unfold brV
  by_cases hr : r = 0
  · rw [if_pos hr]
    subst hr
    cases l with
    | nil => exact brack_nil kf w hl hex
    | cons x l => exact brack_ok kf (x :: l) ps w hl hc hp hpc h8 hps (by simp) hex (hok rfl)
  · rw [if_neg hr]
    exact brack_bad kf r l w hl hc hex hr
theorem rbrackC (kf : Nat) (r : Int) (l : List S26) (w : World) {A : Option Addr} {c0 : Nat} (hl : Kd.C k26 w A l.length l) (hc : l.length ≤ c0) (h8 : l.length ≤ 8) (hex : ndjqref20_sound.f kf l = some r) (hok : r = 0 → Gd l) :
    Calls Tryd.prog 26 #[.slice A l.length c0] w (BrPost (brV r l) r w) := by
  have HN : Aside0 ((w.alloc (.cells #[.int .i64 0, .int .i64 0, .int .i64 0, .int .i64 0, .slice none 0 0, .slice none 0 0, .slice none 0 0] 26)).heap[w.heap.size]? = some (.cells Z7 26 (0, 0))) := ⟨heap_alloc_new w _⟩
  have HB : Aside0 (Below w.heap.size w (w.alloc (.cells #[.int .i64 0, .int .i64 0, .int .i64 0, .int .i64 0, .slice none 0 0, .slice none 0 0, .slice none 0 0] 26))) := ⟨(Below.refl w.heap.size w).alloc (Nat.le_refl _) _⟩
  have HE := Aside0.mk (fun W (hb : Below w.heap.size w W) => ndjqref20_sound.calls kf A c0 l r W (Kd.C_below hl hb) hc hex)
  unfold brV
  by_cases hr : r = 0
  · rw [if_pos hr]
    subst hr
    have HAl := Aside0.mk (fun W (hb : Below w.heap.size w W) => allRC 13000000 l (sm (allC l)) 0 W (Kd.C_below hl hb) hc h8 (allR_ok l (hok rfl)))
    clear hl hc hex hok h8
    go_enter Tryd.func26, Tryd.ntmps26
    go_wp2_with (first | (go_at_call 34; (with_reducible refine (HE.out _ HB.out).mono ?_); rintro e we ⟨rfl, hb⟩; have HN2 := Aside0.mk ((hb.block _ (Array.getElem?_eq_some_iff.1 HN.out).1).trans HN.out); have HB2 := Aside0.mk (below_step HB.out hb); clear hb) | (go_at_call 40; (with_reducible refine (HAl.out _ HB2.out).mono ?_); rintro e we3 ⟨E0, f0, E1, f1, E2, f2, rfl, hr, ht, hb⟩; have HR := Aside0.mk (And.intro hr ht); have HN3 := Aside0.mk ((hb.block _ (Array.getElem?_eq_some_iff.1 HN2.out).1).trans HN2.out); have HB3 := Aside0.mk (below_step HB2.out hb); clear hr ht hb; obtain ⟨y0, y1, y2, y3, y4, y5, y6, yf⟩ := zero7 HN3.out))
    obtain ⟨W', hW', ⟨u0, u1, u2, u3, u4, u5, u6⟩, hg, hz⟩ := fill7 HN3.out HB3.out (Nat.le_refl _) (.int .i64 (sm (allC l)).n) (.int .i64 (sm (allC l)).e0) (.int .i64 (sm (allC l)).e1) (.int .i64 (sm (allC l)).e2) (.slice E0 (sm (allC l)).l0.length f0) (.slice E1 (sm (allC l)).l1.length f1) (.slice E2 (sm (allC l)).l2.length f2)
    rw [hW']
    exact bodyPost_ret (v := .tuple #[.agg #[.int .i64 (sm (allC l)).n, .int .i64 (sm (allC l)).e0, .int .i64 (sm (allC l)).e1, .int .i64 (sm (allC l)).e2, .slice E0 (sm (allC l)).l0.length f0, .slice E1 (sm (allC l)).l1.length f1, .slice E2 (sm (allC l)).l2.length f2], .int .i64 0]) (by simp [results, Tryd.results26, go_sem, u0, u1, u2, u3, u4, u5, u6]) rfl ⟨E0, f0, E1, f1, E2, f2, rfl, HR.out.1.grown HR.out.2 HN3.out hg, hz⟩
  · rw [if_neg hr]
    have g1 : decide (r = 0) = false := decide_eq_false hr
    have g2 : (r == 0) = false := by rw [beq_eq_false_iff_ne]; exact hr
    have g3 : (r != 0) = true := by simp [hr]
    clear hl hc hex hr hok h8
    go_enter Tryd.func26, Tryd.ntmps26
    go_wp2_with (first | (go_at_call 34; (with_reducible refine (HE.out _ HB.out).mono ?_); rintro e we ⟨rfl, hb⟩; have HN2 := Aside0.mk ((hb.block _ (Array.getElem?_eq_some_iff.1 HN.out).1).trans HN.out); have HB2 := Aside0.mk (below_step HB.out hb); clear hb; obtain ⟨y0, y1, y2, y3, y4, y5, y6, yf⟩ := zero7 HN2.out))
    obtain ⟨W', hW', ⟨u0, u1, u2, u3, u4, u5, u6⟩, hg, hz⟩ := fill7 HN2.out HB2.out (Nat.le_refl _) (.int .i64 0) (.int .i64 0) (.int .i64 0) (.int .i64 0) (.slice none 0 0) (.slice none 0 0) (.slice none 0 0)
    rw [hW']
    exact bodyPost_ret (v := .tuple #[.agg #[.int .i64 0, .int .i64 0, .int .i64 0, .int .i64 0, .slice none 0 0, .slice none 0 0, .slice none 0 0], .int .i64 r]) (by simp [results, Tryd.results26, go_sem, u0, u1, u2, u3, u4, u5, u6]) rfl ⟨none, 0, none, 0, none, 0, rfl, noS_rd _, hz⟩
theorem brV_len (r : Int) (l : List S26) (hok : r = 0 → Gd l) : (brV r l).f2.f0.length ≤ 1048576 ∧ (brV r l).f2.f1.length ≤ 1048576 ∧ (brV r l).f2.f2.length ≤ 1048576 := by
  unfold brV
  split
  · rename_i h
    exact vldS_len (fold_vld l emptyS empty_vld (hok h).1 (by show 0 + totS l ≤ _; have := (hok h).2; omega)).1
  · exact ⟨by decide, by decide, by decide⟩
theorem sameSum (x : S26) (hx : x.f2.f0.length ≤ 1048576 ∧ x.f2.f1.length ≤ 1048576 ∧ x.f2.f2.length ≤ 1048576) (w : World) {A0 c0 A1 c1 A2 c2 B0 d0 B1 d1 B2 d2} (h1 : RdS w A0 c0 A1 c1 A2 c2 (sm x)) (h2 : RdS w B0 d0 B1 d1 B2 d2 (sm x)) :
    Calls Tryd.prog 17 #[.agg #[.int .i64 (sm x).n, .int .i64 (sm x).e0, .int .i64 (sm x).e1, .int .i64 (sm x).e2, .slice A0 (sm x).l0.length c0, .slice A1 (sm x).l1.length c1, .slice A2 (sm x).l2.length c2], .agg #[.int .i64 (sm x).n, .int .i64 (sm x).e0, .int .i64 (sm x).e1, .int .i64 (sm x).e2, .slice B0 (sm x).l0.length d0, .slice B1 (sm x).l1.length d1, .slice B2 (sm x).l2.length d2]] w fun e w' => e = .returned (.bool true) ∧ Below w.heap.size w w' :=
  sumC 2000000 (sm x) (sm x) true w h1 h2 (summaries_same x.f0 x.f1.f0 x.f1.f1 x.f1.f2 x.f2.f0 x.f2.f1 x.f2.f2 (by omega) (by omega) (by omega) 2000000 (by omega) (by omega) (by omega))
theorem awakeS (w : World) (hG : GlbLaid w) : Calls Tryd.prog 9 #[] w fun e w' => e = .returned (.bool true) ∧ Below w.heap.size w w' := ndjqlaw20_awake.calls 60 true w hG awake_60
theorem law_bracket (l : List S26) (ps : List Int) (w : World) {A : Option Addr} {c0 : Nat} {P : Option Addr} {pc : Nat} (hl : Kd.C k26 w A l.length l) (hc : l.length ≤ c0) (hp : Kd.C (Kd.int .i64) w P ps.length ps) (hpc : ps.length ≤ pc) (hw : ∀ x ∈ l, x.f2.f0.length ≤ 17592186044416 ∧ x.f2.f1.length ≤ 17592186044416 ∧ x.f2.f2.length ≤ 17592186044416) (hll : l.length ≤ 140737488351232) (hpl : ps.length ≤ 140737488351232) (hG : GlbLaid w) :
    Calls Tryd.prog 7 #[.slice A l.length c0, .slice P ps.length pc] w fun e w' => e = .returned (.bool true) ∧ Below w.heap.size w w' := by
  have HGl := Aside0.mk hG
  have HB0 := Aside0.mk (Below.refl w.heap.size w)
  have HL := Aside0.mk hl
  have HPp := Aside0.mk (And.intro hp (And.intro hc hpc))
  have HWv := Aside0.mk hw
  clear hl hc hp hpc hw hG
  go_enter Tryd.func7, Tryd.ntmps7
  by_cases h8 : l.length ≤ 8
  rotate_left
  · have g1 : decide ((l.length : Int) > 8) = true := decide_eq_true (by omega)
    have g2 : decide (8 < l.length) = true := decide_eq_true (by omega)
    go_wp2_with (first | (go_at_call 9; (with_reducible refine (awakeS _ HGl.out).mono ?_); rintro e v3 ⟨rfl, hb⟩; have HB2 := Aside0.mk hb; clear hb))
    go_ret
    exact ⟨rfl, HB2.out⟩
  have g1 : decide ((l.length : Int) > 8) = false := decide_eq_false (by omega)
  have g2 : decide (8 < l.length) = false := decide_eq_false (by omega)
  by_cases hp8 : ps.length ≤ 12
  rotate_left
  · have g3 : decide ((ps.length : Int) > 12) = true := decide_eq_true (by omega)
    have g4 : decide (12 < ps.length) = true := decide_eq_true (by omega)
    go_wp2_with (first | (go_at_call 9; (with_reducible refine (awakeS _ HGl.out).mono ?_); rintro e v3 ⟨rfl, hb⟩; have HB2 := Aside0.mk hb; clear hb))
    go_ret
    exact ⟨rfl, HB2.out⟩
  have g3 : decide ((ps.length : Int) > 12) = false := decide_eq_false (by omega)
  have g4 : decide (12 < ps.length) = false := decide_eq_false (by omega)
  have H0 : Aside0 (∀ x ∈ l.take 0, lensS x ≤ 60) := ⟨fun x hx => by simp at hx⟩
  go_upto_region 3 with fail
  clear g1 g2 g3 g4
  go_wp2_with fail
  go_loopg [5] l.length (fun kq v5 w' => ∃ (i : Nat), kq + i = l.length ∧ v5 = .int .i64 (i : Int) ∧ Aside0 (∀ x ∈ l.take i, lensS x ≤ 60) ∧ Aside0 (Below w.heap.size w w'))
  case atStart => exact ⟨0, by omega, rfl, H0, HB0⟩
  case round =>
    clear H0 HB0
    obtain ⟨i, hi, rfl, HX, HB0⟩ := hrel
    by_cases ci : i < l.length
    · have g0 : decide ((i : Int) < (l.length : Int)) = true := decide_eq_true (by omega)
      have g0' : decide (i < l.length) = true := decide_eq_true ci
      have q1 : (0 ≤ (i : Int)) = True := eq_true (by omega)
      have q2 : ((i : Int) < (l.length : Int)) = True := eq_true (by omega)
      obtain ⟨j1, rfl⟩ : ∃ j1, gk = j1 + 1 := ⟨gk - 1, by omega⟩
      have hil : l[i]? = some l[i] := List.getElem?_eq_getElem ci
      have hwx := HWv.out _ (List.getElem_mem ci)
      obtain ⟨x, hx'⟩ : ∃ x, l[i] = x := ⟨_, rfl⟩
      rw [hx'] at hil hwx
      obtain ⟨ad, A0, d0, A1, d1, A2, d2, e1, hE⟩ := el_at (Kd.C_below HL.out HB0.out) i ci hil
      have h4 := hE.h4
      have h5 := hE.h5
      have h6 := hE.h6
      have HTk : Aside0 (l.take (i + 1) = l.take i ++ [x]) := ⟨by rw [List.take_add_one, hil]; rfl⟩
      obtain ⟨a, ha⟩ : ∃ a, (sm x).l0.length = a := ⟨_, rfl⟩
      obtain ⟨b, hb⟩ : ∃ b, (sm x).l1.length = b := ⟨_, rfl⟩
      obtain ⟨c, hc⟩ : ∃ c, (sm x).l2.length = c := ⟨_, rfl⟩
      have HLs : Aside0 (lensS x = a + b + c) := ⟨by rw [← ha, ← hb, ← hc]; rfl⟩
      have hwb : a ≤ 17592186044416 ∧ b ≤ 17592186044416 ∧ c ≤ 17592186044416 := by rw [← ha, ← hb, ← hc]; exact hwx
      rw [ha] at h4
      rw [hb] at h5
      rw [hc] at h6
      have hw1 : IntKind.i64.wrap ((a : Int) + (b : Int)) = (a : Int) + (b : Int) := by rw [i64_w]; unfold Go.RowKit.wrap64; omega
      have hw2 : IntKind.i64.wrap ((a : Int) + (b : Int) + (c : Int)) = (a : Int) + (b : Int) + (c : Int) := by rw [i64_w]; unfold Go.RowKit.wrap64; omega
      have HI := Aside0.mk hi
      have hib : i < 8 := by omega
      clear hil hwx hx' hE ha hb hc hwb hi ci
      subst e1
      by_cases cs : a + b + c ≤ 60
      · have s1 : decide ((a : Int) + (b : Int) + (c : Int) > 60) = false := decide_eq_false (by omega)
        have s2 : decide (60 < (a : Int) + (b : Int) + (c : Int)) = false := decide_eq_false (by omega)
        have s3 : decide (60 < a + b + c) = false := decide_eq_false (by omega)
        have HXn : Aside0 (∀ x ∈ l.take (i + 1), lensS x ≤ 60) := ⟨fun y hy => by
          rw [HTk.out] at hy
          rcases List.mem_append.1 hy with hy | hy
          · exact HX.out y hy
          · obtain rfl := List.mem_singleton.1 hy
            rw [HLs.out]; exact cs⟩
        clear cs
        go_upto_region 6 with fail
        go_quiet (fail)
        have HB1 : Aside0 (Below w.heap.size w (wr.drewN nq)) := ⟨below_step HB0.out (Drawn0.below ⟨_, rfl⟩)⟩
        go_wp2_with fail
        go_roundg j1
        case measure => omega
        case rel => exact ⟨i + 1, by have := HI.out; omega, rfl, HXn, HB1⟩
      · have s1 : decide ((a : Int) + (b : Int) + (c : Int) > 60) = true := decide_eq_true (by omega)
        have s2 : decide (60 < (a : Int) + (b : Int) + (c : Int)) = true := decide_eq_true (by omega)
        have s3 : decide (60 < a + b + c) = true := decide_eq_true (by omega)
        clear cs
        go_upto_region 6 with fail
        go_quiet (fail)
        have HB1 : Aside0 (Below w.heap.size w (wr.drewN nq)) := ⟨below_step HB0.out (Drawn0.below ⟨_, rfl⟩)⟩
        go_wp2_with (first | (go_at_call 9; (with_reducible refine (awakeS _ (HGl.out.below HB1.out)).mono ?_); rintro e v3 ⟨rfl, hb⟩; have HB2 := Aside0.mk (below_step HB1.out hb); clear hb))
        go_ret
        exact ⟨rfl, HB2.out⟩
    · have g0 : decide ((i : Int) < (l.length : Int)) = false := decide_eq_false (by omega)
      have g0' : decide (i < l.length) = false := decide_eq_false ci
      have hx : ∀ x ∈ l, lensS x ≤ 60 := by have := HX.out; rwa [List.take_of_length_le (by omega)] at this
      obtain ⟨r, he, hs, hok⟩ := examine_both l (by omega) 60 (fun x hx' => ⟨hx x hx', by have := hx x hx'; omega⟩) 1000 (by omega)
      have HBr := Aside0.mk (fun W (hb : Below w.heap.size w W) => brackC 1000 r l ps W (Kd.C_below HL.out hb) HPp.out.2.1 (Kd.C_below HPp.out.1 hb) HPp.out.2.2 (by omega) (by omega) he hok)
      have HRb := Aside0.mk (fun W (hb : Below w.heap.size w W) => rbrackC 1000 r l W (Kd.C_below HL.out hb) HPp.out.2.1 h8 hs hok)
      have HLn := Aside0.mk (brV_len r l hok)
      obtain ⟨V, hV⟩ : ∃ V, brV r l = V := ⟨_, rfl⟩
      rw [hV] at HBr HRb HLn
      clear hx he hs hok hV ci hi HX
      go_upto_region 9 with (first | (go_at_call 25; (with_reducible refine (HBr.out _ HB0.out).mono ?_); rintro e u1 ⟨E0, f0, E1, f1, E2, f2, rfl, hr, hb⟩; have HB1 := Aside0.mk (below_step HB0.out hb); have HV1 := Aside0.mk (Bo.new hr); clear hr hb))
      obtain ⟨b6, hb6⟩ : ∃ b, u1.heap.size = b := ⟨_, rfl⟩
      obtain ⟨W1, hW1⟩ : ∃ W, u1.alloc (.cells #[.int .i64 (sm V).n, .int .i64 (sm V).e0, .int .i64 (sm V).e1, .int .i64 (sm V).e2, .slice E0 (sm V).l0.length f0, .slice E1 (sm V).l1.length f1, .slice E2 (sm V).l2.length f2] 26) = W := ⟨_, rfl⟩
      have hn1 := (Below.refl u1.heap.size u1).alloc (Nat.le_refl _) (.cells #[.int .i64 (sm V).n, .int .i64 (sm V).e0, .int .i64 (sm V).e1, .int .i64 (sm V).e2, .slice E0 (sm V).l0.length f0, .slice E1 (sm V).l1.length f1, .slice E2 (sm V).l2.length f2] 26)
      rw [hW1] at HV1 hn1
      rw [hb6] at HV1
      have HB2 := Aside0.mk (below_step HB1.out hn1)
      rw [hW1, hb6]
      clear hW1 hb6 hn1 HB0 HB1
      go_upto_region 10 with (first | (go_at_call 26; (with_reducible refine (HRb.out _ HB2.out).mono ?_); rintro e u2 ⟨G0, k0, G1, k1, G2, k2, rfl, hr, hb⟩; have HB3 := Aside0.mk (below_step HB2.out hb); have HV2 := Aside0.mk (HV1.out.below hb); have HR2 := Aside0.mk (Bo.new hr); clear hr hb))
      obtain ⟨b8, hb8⟩ : ∃ b, u2.heap.size = b := ⟨_, rfl⟩
      obtain ⟨W2, hW2⟩ : ∃ W, u2.alloc (.cells #[.int .i64 (sm V).n, .int .i64 (sm V).e0, .int .i64 (sm V).e1, .int .i64 (sm V).e2, .slice G0 (sm V).l0.length k0, .slice G1 (sm V).l1.length k1, .slice G2 (sm V).l2.length k2] 26) = W := ⟨_, rfl⟩
      have hn2 := (Below.refl u2.heap.size u2).alloc (Nat.le_refl _) (.cells #[.int .i64 (sm V).n, .int .i64 (sm V).e0, .int .i64 (sm V).e1, .int .i64 (sm V).e2, .slice G0 (sm V).l0.length k0, .slice G1 (sm V).l1.length k1, .slice G2 (sm V).l2.length k2] 26)
      have HV3 := Aside0.mk (HV2.out.below hn2)
      rw [hW2] at HV3 HR2 hn2
      rw [hb8] at HR2
      have HB4 := Aside0.mk (below_step HB3.out hn2)
      rw [hW2, hb8]
      clear hW2 hb8 hn2 HB2 HB3 HV1 HV2 HBr HRb
      obtain ⟨p0, p1, p2, p3, p4, p5, p6⟩ := HV3.out.cells
      obtain ⟨q0, q1, q2, q3, q4, q5, q6⟩ := HR2.out.cells
      go_wp2_with (first | (go_at_call 17; (with_reducible refine (sameSum V HLn.out _ HV3.out.rd HR2.out.rd).mono ?_); rintro e v3 ⟨rfl, hb⟩; have HB5 := Aside0.mk (below_step HB4.out hb); clear hb) | (go_at_call 9; (with_reducible refine (awakeS _ (HGl.out.below HB5.out)).mono ?_); rintro e v4 ⟨rfl, hb⟩; have HB6 := Aside0.mk (below_step HB5.out hb); clear hb))
      go_ret
      exact ⟨rfl, HB6.out⟩
end Go.Proofs.YtkhnifehcnlpjaaDoor.QB
