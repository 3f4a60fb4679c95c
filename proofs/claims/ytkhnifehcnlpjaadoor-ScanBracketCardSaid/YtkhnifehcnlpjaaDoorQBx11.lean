-- by a program of this session (print2.py): the machine's side of one law; Lean checks it.
import Derived.Test.YtkhnifehcnlpjaaDoorQBx0
namespace Go.Proofs.YtkhnifehcnlpjaaDoor.QB
open Go.RowKit Go.Proofs.YtkhnifehcnlpjaaDoorW.PrintWords Go.Proofs.YtkhnifehcnlpjaaDoorW.PrintLast Go.Proofs.YtkhnifehcnlpjaaDoorW.PrintMore
attribute [local go_sem] max2_int min2_int max_two min_two max_three min_three max_four min_four   -- for this text's walks alone
set_option linter.unusedVariables false
set_option linter.unusedSimpArgs false

/-! ### ndjqref18_Valid: function 29 -/
mutual
def ndjqref18_Valid.j0 : Nat → Bool → Int → Int → Int → Int → List Int → List Int → List Int → Option (Bool)
 | 0, _, _, _, _, _, _, _, _ => none
 | k + 1, x13, x248000, x248001, x248002, x248003, x248004, x248005, x248006 => if x13 = true then (some false) else (ndjqref18_Valid.l0 k 0 x248000 x248001 x248002 x248003 x248004 x248005 x248006)
def ndjqref18_Valid.l0 : Nat → Int → Int → Int → Int → Int → List Int → List Int → List Int → Option (Bool)
 | 0, _, _, _, _, _, _, _, _ => none
 | k + 1, x3, x248000, x248001, x248002, x248003, x248004, x248005, x248006 => if x3 < 3 then (if x3 = 0 then (if x248001 < 0 then (ndjqref18_Valid.j2 k 0 true x248000 x248001 x248002 x248003 x248004 x248005 x248006) else (ndjqref18_Valid.j2 k 0 (decide (x248001 > 2)) x248000 x248001 x248002 x248003 x248004 x248005 x248006)) else (if x3 = 1 then (if x248002 < 0 then (ndjqref18_Valid.j2 k 1 true x248000 x248001 x248002 x248003 x248004 x248005 x248006) else (ndjqref18_Valid.j2 k 1 (decide (x248002 > 2)) x248000 x248001 x248002 x248003 x248004 x248005 x248006)) else (if x3 = 2 then (if x248003 < 0 then (ndjqref18_Valid.j2 k 2 true x248000 x248001 x248002 x248003 x248004 x248005 x248006) else (ndjqref18_Valid.j2 k 2 (decide (x248003 > 2)) x248000 x248001 x248002 x248003 x248004 x248005 x248006)) else (none)))) else (some true)
def ndjqref18_Valid.j2 : Nat → Int → Bool → Int → Int → Int → Int → List Int → List Int → List Int → Option (Bool)
 | 0, _, _, _, _, _, _, _, _, _ => none
 | k + 1, x3, x29, x248000, x248001, x248002, x248003, x248004, x248005, x248006 => if x29 = true then (some false) else (if x3 = 0 then (ndjqref18_Valid.l1 k x248004 0 x248000 x248001 x248002 x248003 x248004 x248005 x248006) else (if x3 = 1 then (ndjqref18_Valid.l101 k x248005 0 x248000 x248001 x248002 x248003 x248004 x248005 x248006) else (if x3 = 2 then (ndjqref18_Valid.l201 k x248006 0 x248000 x248001 x248002 x248003 x248004 x248005 x248006) else (none))))
def ndjqref18_Valid.l1 : Nat → List Int → Int → Int → Int → Int → Int → List Int → List Int → List Int → Option (Bool)
 | 0, _, _, _, _, _, _, _, _, _ => none
 | k + 1, x4, x5, x248000, x248001, x248002, x248003, x248004, x248005, x248006 => if x5 < (x4.length : Int) then (if 0 ≤ x5 then (if (rd x4 x5) < 0 then (some false) else (if (rd x4 x5) ≥ x248000 then (some false) else (if x5 > 0 then (if 0 ≤ (wrap64 (x5 - 1)) then (if (wrap64 (x5 - 1)) < (x4.length : Int) then (if (rd x4 (wrap64 (x5 - 1))) ≥ (rd x4 x5) then (some false) else (ndjqref18_Valid.l1 k x4 (wrap64 (x5 + 1)) x248000 x248001 x248002 x248003 x248004 x248005 x248006)) else (none)) else (none)) else (ndjqref18_Valid.l1 k x4 (wrap64 (x5 + 1)) x248000 x248001 x248002 x248003 x248004 x248005 x248006)))) else (none)) else (ndjqref18_Valid.l0 k 1 x248000 x248001 x248002 x248003 x248004 x248005 x248006)
def ndjqref18_Valid.l101 : Nat → List Int → Int → Int → Int → Int → Int → List Int → List Int → List Int → Option (Bool)
 | 0, _, _, _, _, _, _, _, _, _ => none
 | k + 1, x4, x5, x248000, x248001, x248002, x248003, x248004, x248005, x248006 => if x5 < (x4.length : Int) then (if 0 ≤ x5 then (if (rd x4 x5) < 0 then (some false) else (if (rd x4 x5) ≥ x248000 then (some false) else (if x5 > 0 then (if 0 ≤ (wrap64 (x5 - 1)) then (if (wrap64 (x5 - 1)) < (x4.length : Int) then (if (rd x4 (wrap64 (x5 - 1))) ≥ (rd x4 x5) then (some false) else (ndjqref18_Valid.l101 k x4 (wrap64 (x5 + 1)) x248000 x248001 x248002 x248003 x248004 x248005 x248006)) else (none)) else (none)) else (ndjqref18_Valid.l101 k x4 (wrap64 (x5 + 1)) x248000 x248001 x248002 x248003 x248004 x248005 x248006)))) else (none)) else (ndjqref18_Valid.l0 k 2 x248000 x248001 x248002 x248003 x248004 x248005 x248006)
def ndjqref18_Valid.l201 : Nat → List Int → Int → Int → Int → Int → Int → List Int → List Int → List Int → Option (Bool)
 | 0, _, _, _, _, _, _, _, _, _ => none
 | k + 1, x4, x5, x248000, x248001, x248002, x248003, x248004, x248005, x248006 => if x5 < (x4.length : Int) then (if 0 ≤ x5 then (if (rd x4 x5) < 0 then (some false) else (if (rd x4 x5) ≥ x248000 then (some false) else (if x5 > 0 then (if 0 ≤ (wrap64 (x5 - 1)) then (if (wrap64 (x5 - 1)) < (x4.length : Int) then (if (rd x4 (wrap64 (x5 - 1))) ≥ (rd x4 x5) then (some false) else (ndjqref18_Valid.l201 k x4 (wrap64 (x5 + 1)) x248000 x248001 x248002 x248003 x248004 x248005 x248006)) else (none)) else (none)) else (ndjqref18_Valid.l201 k x4 (wrap64 (x5 + 1)) x248000 x248001 x248002 x248003 x248004 x248005 x248006)))) else (none)) else (ndjqref18_Valid.l0 k 3 x248000 x248001 x248002 x248003 x248004 x248005 x248006)
end
def ndjqref18_Valid.f (k : Nat) (a0_0 : Int) (a0_1 : Int) (a0_2 : Int) (a0_3 : Int) (l0_4 : List Int) (l0_5 : List Int) (l0_6 : List Int) : Option (Bool) := if a0_0 < 0 then (ndjqref18_Valid.j0 k true a0_0 a0_1 a0_2 a0_3 l0_4 l0_5 l0_6) else (ndjqref18_Valid.j0 k (decide (a0_0 > 1048576)) a0_0 a0_1 a0_2 a0_3 l0_4 l0_5 l0_6)
theorem ndjqref18_Valid.mono_l : ∀ k, (∀ y0 y1 y2 y3 y4 y5 y6 y7, LeO (ndjqref18_Valid.j0 k y0 y1 y2 y3 y4 y5 y6 y7) (ndjqref18_Valid.j0 (k + 1) y0 y1 y2 y3 y4 y5 y6 y7)) ∧ (∀ y0 y1 y2 y3 y4 y5 y6 y7, LeO (ndjqref18_Valid.l0 k y0 y1 y2 y3 y4 y5 y6 y7) (ndjqref18_Valid.l0 (k + 1) y0 y1 y2 y3 y4 y5 y6 y7)) ∧ (∀ y0 y1 y2 y3 y4 y5 y6 y7 y8, LeO (ndjqref18_Valid.j2 k y0 y1 y2 y3 y4 y5 y6 y7 y8) (ndjqref18_Valid.j2 (k + 1) y0 y1 y2 y3 y4 y5 y6 y7 y8)) ∧ (∀ y0 y1 y2 y3 y4 y5 y6 y7 y8, LeO (ndjqref18_Valid.l1 k y0 y1 y2 y3 y4 y5 y6 y7 y8) (ndjqref18_Valid.l1 (k + 1) y0 y1 y2 y3 y4 y5 y6 y7 y8)) ∧ (∀ y0 y1 y2 y3 y4 y5 y6 y7 y8, LeO (ndjqref18_Valid.l101 k y0 y1 y2 y3 y4 y5 y6 y7 y8) (ndjqref18_Valid.l101 (k + 1) y0 y1 y2 y3 y4 y5 y6 y7 y8)) ∧ (∀ y0 y1 y2 y3 y4 y5 y6 y7 y8, LeO (ndjqref18_Valid.l201 k y0 y1 y2 y3 y4 y5 y6 y7 y8) (ndjqref18_Valid.l201 (k + 1) y0 y1 y2 y3 y4 y5 y6 y7 y8))
 | 0 => ⟨fun _ _ _ _ _ _ _ _ r h => by simp [ndjqref18_Valid.j0] at h, fun _ _ _ _ _ _ _ _ r h => by simp [ndjqref18_Valid.l0] at h, fun _ _ _ _ _ _ _ _ _ r h => by simp [ndjqref18_Valid.j2] at h, fun _ _ _ _ _ _ _ _ _ r h => by simp [ndjqref18_Valid.l1] at h, fun _ _ _ _ _ _ _ _ _ r h => by simp [ndjqref18_Valid.l101] at h, fun _ _ _ _ _ _ _ _ _ r h => by simp [ndjqref18_Valid.l201] at h⟩
 | k + 1 => by
  obtain ⟨ih0, ih1, ih2, ih3, ih4, ih5⟩ := ndjqref18_Valid.mono_l k
  refine ⟨?_, ?_, ?_, ?_, ?_, ?_⟩
  ·intro y0 y1 y2 y3 y4 y5 y6 y7
   unfold ndjqref18_Valid.j0
   repeat' first
   | (with_reducible exact ih0 _ _ _ _ _ _ _ _)
   | (with_reducible exact ih1 _ _ _ _ _ _ _ _)
   | (with_reducible exact ih2 _ _ _ _ _ _ _ _ _)
   | (with_reducible exact ih3 _ _ _ _ _ _ _ _ _)
   | (with_reducible exact ih4 _ _ _ _ _ _ _ _ _)
   | (with_reducible exact ih5 _ _ _ _ _ _ _ _ _)
   | (with_reducible exact LeO.refl _)
   | (with_reducible exact LeO.none _)
   | (with_reducible refine LeO.ite ?_ ?_)
   | (with_reducible refine LeO.bind ?_ (fun _ => ?_))
   | exact ih0 _ _ _ _ _ _ _ _
   | exact ih1 _ _ _ _ _ _ _ _
   | exact ih2 _ _ _ _ _ _ _ _ _
   | exact ih3 _ _ _ _ _ _ _ _ _
   | exact ih4 _ _ _ _ _ _ _ _ _
   | exact ih5 _ _ _ _ _ _ _ _ _
   | exact LeO.none _
   | refine LeO.ite ?_ ?_
   | refine LeO.bind ?_ (fun _ => ?_)
  ·intro y0 y1 y2 y3 y4 y5 y6 y7
   unfold ndjqref18_Valid.l0
   repeat' first
   | (with_reducible exact ih0 _ _ _ _ _ _ _ _)
   | (with_reducible exact ih1 _ _ _ _ _ _ _ _)
   | (with_reducible exact ih2 _ _ _ _ _ _ _ _ _)
   | (with_reducible exact ih3 _ _ _ _ _ _ _ _ _)
   | (with_reducible exact ih4 _ _ _ _ _ _ _ _ _)
   | (with_reducible exact ih5 _ _ _ _ _ _ _ _ _)
   | (with_reducible exact LeO.refl _)
   | (with_reducible exact LeO.none _)
   | (with_reducible refine LeO.ite ?_ ?_)
   | (with_reducible refine LeO.bind ?_ (fun _ => ?_))
   | exact ih0 _ _ _ _ _ _ _ _
   | exact ih1 _ _ _ _ _ _ _ _
   | exact ih2 _ _ _ _ _ _ _ _ _
   | exact ih3 _ _ _ _ _ _ _ _ _
   | exact ih4 _ _ _ _ _ _ _ _ _
   | exact ih5 _ _ _ _ _ _ _ _ _
   | exact LeO.none _
   | refine LeO.ite ?_ ?_
   | refine LeO.bind ?_ (fun _ => ?_)
  ·intro y0 y1 y2 y3 y4 y5 y6 y7 y8
   unfold ndjqref18_Valid.j2
   repeat' first
   | (with_reducible exact ih0 _ _ _ _ _ _ _ _)
   | (with_reducible exact ih1 _ _ _ _ _ _ _ _)
   | (with_reducible exact ih2 _ _ _ _ _ _ _ _ _)
   | (with_reducible exact ih3 _ _ _ _ _ _ _ _ _)
   | (with_reducible exact ih4 _ _ _ _ _ _ _ _ _)
   | (with_reducible exact ih5 _ _ _ _ _ _ _ _ _)
   | (with_reducible exact LeO.refl _)
   | (with_reducible exact LeO.none _)
   | (with_reducible refine LeO.ite ?_ ?_)
   | (with_reducible refine LeO.bind ?_ (fun _ => ?_))
   | exact ih0 _ _ _ _ _ _ _ _
   | exact ih1 _ _ _ _ _ _ _ _
   | exact ih2 _ _ _ _ _ _ _ _ _
   | exact ih3 _ _ _ _ _ _ _ _ _
   | exact ih4 _ _ _ _ _ _ _ _ _
   | exact ih5 _ _ _ _ _ _ _ _ _
   | exact LeO.none _
   | refine LeO.ite ?_ ?_
   | refine LeO.bind ?_ (fun _ => ?_)
  ·intro y0 y1 y2 y3 y4 y5 y6 y7 y8
   unfold ndjqref18_Valid.l1
   repeat' first
   | (with_reducible exact ih0 _ _ _ _ _ _ _ _)
   | (with_reducible exact ih1 _ _ _ _ _ _ _ _)
   | (with_reducible exact ih2 _ _ _ _ _ _ _ _ _)
   | (with_reducible exact ih3 _ _ _ _ _ _ _ _ _)
   | (with_reducible exact ih4 _ _ _ _ _ _ _ _ _)
   | (with_reducible exact ih5 _ _ _ _ _ _ _ _ _)
   | (with_reducible exact LeO.refl _)
   | (with_reducible exact LeO.none _)
   | (with_reducible refine LeO.ite ?_ ?_)
   | (with_reducible refine LeO.bind ?_ (fun _ => ?_))
   | exact ih0 _ _ _ _ _ _ _ _
   | exact ih1 _ _ _ _ _ _ _ _
   | exact ih2 _ _ _ _ _ _ _ _ _
   | exact ih3 _ _ _ _ _ _ _ _ _
   | exact ih4 _ _ _ _ _ _ _ _ _
   | exact ih5 _ _ _ _ _ _ _ _ _
   | exact LeO.none _
   | refine LeO.ite ?_ ?_
   | refine LeO.bind ?_ (fun _ => ?_)
  ·intro y0 y1 y2 y3 y4 y5 y6 y7 y8
   unfold ndjqref18_Valid.l101
   repeat' first
   | (with_reducible exact ih0 _ _ _ _ _ _ _ _)
   | (with_reducible exact ih1 _ _ _ _ _ _ _ _)
   | (with_reducible exact ih2 _ _ _ _ _ _ _ _ _)
   | (with_reducible exact ih3 _ _ _ _ _ _ _ _ _)
   | (with_reducible exact ih4 _ _ _ _ _ _ _ _ _)
   | (with_reducible exact ih5 _ _ _ _ _ _ _ _ _)
   | (with_reducible exact LeO.refl _)
   | (with_reducible exact LeO.none _)
   | (with_reducible refine LeO.ite ?_ ?_)
   | (with_reducible refine LeO.bind ?_ (fun _ => ?_))
   | exact ih0 _ _ _ _ _ _ _ _
   | exact ih1 _ _ _ _ _ _ _ _
   | exact ih2 _ _ _ _ _ _ _ _ _
   | exact ih3 _ _ _ _ _ _ _ _ _
   | exact ih4 _ _ _ _ _ _ _ _ _
   | exact ih5 _ _ _ _ _ _ _ _ _
   | exact LeO.none _
   | refine LeO.ite ?_ ?_
   | refine LeO.bind ?_ (fun _ => ?_)
  ·intro y0 y1 y2 y3 y4 y5 y6 y7 y8
   unfold ndjqref18_Valid.l201
   repeat' first
   | (with_reducible exact ih0 _ _ _ _ _ _ _ _)
   | (with_reducible exact ih1 _ _ _ _ _ _ _ _)
   | (with_reducible exact ih2 _ _ _ _ _ _ _ _ _)
   | (with_reducible exact ih3 _ _ _ _ _ _ _ _ _)
   | (with_reducible exact ih4 _ _ _ _ _ _ _ _ _)
   | (with_reducible exact ih5 _ _ _ _ _ _ _ _ _)
   | (with_reducible exact LeO.refl _)
   | (with_reducible exact LeO.none _)
   | (with_reducible refine LeO.ite ?_ ?_)
   | (with_reducible refine LeO.bind ?_ (fun _ => ?_))
   | exact ih0 _ _ _ _ _ _ _ _
   | exact ih1 _ _ _ _ _ _ _ _
   | exact ih2 _ _ _ _ _ _ _ _ _
   | exact ih3 _ _ _ _ _ _ _ _ _
   | exact ih4 _ _ _ _ _ _ _ _ _
   | exact ih5 _ _ _ _ _ _ _ _ _
   | exact LeO.none _
   | refine LeO.ite ?_ ?_
   | refine LeO.bind ?_ (fun _ => ?_)
theorem ndjqref18_Valid.mono : ∀ a0 a1 a2 a3 a4 a5 a6 k, LeO (ndjqref18_Valid.f k a0 a1 a2 a3 a4 a5 a6) (ndjqref18_Valid.f (k + 1) a0 a1 a2 a3 a4 a5 a6) := by
 intro a0 a1 a2 a3 a4 a5 a6 k
 obtain ⟨ih0, ih1, ih2, ih3, ih4, ih5⟩ := ndjqref18_Valid.mono_l k
 unfold ndjqref18_Valid.f
 repeat' first
   | (with_reducible exact ih0 _ _ _ _ _ _ _ _)
   | (with_reducible exact ih1 _ _ _ _ _ _ _ _)
   | (with_reducible exact ih2 _ _ _ _ _ _ _ _ _)
   | (with_reducible exact ih3 _ _ _ _ _ _ _ _ _)
   | (with_reducible exact ih4 _ _ _ _ _ _ _ _ _)
   | (with_reducible exact ih5 _ _ _ _ _ _ _ _ _)
   | (with_reducible exact LeO.refl _)
   | (with_reducible exact LeO.none _)
   | (with_reducible refine LeO.ite ?_ ?_)
   | (with_reducible refine LeO.bind ?_ (fun _ => ?_))
   | exact ih0 _ _ _ _ _ _ _ _
   | exact ih1 _ _ _ _ _ _ _ _
   | exact ih2 _ _ _ _ _ _ _ _ _
   | exact ih3 _ _ _ _ _ _ _ _ _
   | exact ih4 _ _ _ _ _ _ _ _ _
   | exact ih5 _ _ _ _ _ _ _ _ _
   | exact LeO.none _
   | refine LeO.ite ?_ ?_
   | refine LeO.bind ?_ (fun _ => ?_)
set_option maxHeartbeats 8000000 in
set_option maxRecDepth 100000 in
theorem ndjqref18_Valid.calls (k : Nat) (a0_0 : Int) (a0_1 : Int) (a0_2 : Int) (a0_3 : Int) (A0_4 : Option Addr) (c0_4 : Nat) (l0_4 : List Int) (A0_5 : Option Addr) (c0_5 : Nat) (l0_5 : List Int) (A0_6 : Option Addr) (c0_6 : Nat) (l0_6 : List Int) (r : Bool) (w : World) (hr0_4 : Kd.C (Kd.int .i64) w A0_4 l0_4.length l0_4) (hc0_4 : l0_4.length ≤ c0_4) (hr0_5 : Kd.C (Kd.int .i64) w A0_5 l0_5.length l0_5) (hc0_5 : l0_5.length ≤ c0_5) (hr0_6 : Kd.C (Kd.int .i64) w A0_6 l0_6.length l0_6) (hc0_6 : l0_6.length ≤ c0_6) (h : ndjqref18_Valid.f k a0_0 a0_1 a0_2 a0_3 l0_4 l0_5 l0_6 = some r) :
  Calls Tryd.prog 29 #[.agg #[.int .i64 a0_0, .int .i64 a0_1, .int .i64 a0_2, .int .i64 a0_3, .slice A0_4 l0_4.length c0_4, .slice A0_5 l0_5.length c0_5, .slice A0_6 l0_6.length c0_6]] w fun e w' => e = .returned (.bool r) ∧ Below w.heap.size w w' := by
 have hu26 := Tryd.underlying26
 have HR0_4 := Aside0.mk hr0_4
 have HC0_4 := Aside0.mk hc0_4
 clear hr0_4 hc0_4
 have HR0_5 := Aside0.mk hr0_5
 have HC0_5 := Aside0.mk hc0_5
 clear hr0_5 hc0_5
 have HR0_6 := Aside0.mk hr0_6
 have HC0_6 := Aside0.mk hc0_6
 clear hr0_6 hc0_6
 have HB := Aside0.mk (Below.refl w.heap.size w)
 have H : (if a0_0 < 0 then (ndjqref18_Valid.j0 k true a0_0 a0_1 a0_2 a0_3 l0_4 l0_5 l0_6) else (ndjqref18_Valid.j0 k (decide (a0_0 > 1048576)) a0_0 a0_1 a0_2 a0_3 l0_4 l0_5 l0_6)) = some r := h
 clear h
 have HC2 := Aside0.mk H
 clear H
 go_enter Tryd.func29, Tryd.ntmps29
 go_upto_region 1 with (first | ((with_reducible refine gate_dst (N := 1) rfl ?_); refine box_event ?hg (N := 1) ?hd (cs := #[.int .i64 a0_0, .int .i64 a0_1, .int .i64 a0_2, .int .i64 a0_3, .slice A0_4 l0_4.length c0_4, .slice A0_5 l0_5.length c0_5, .slice A0_6 l0_6.length c0_6]) (t := 26) ?hr ?_; (case hd => rfl); (case hg => rfl); (case hr => first | (go_simp; done) | (go_simp; rfl)); intro gb247 hg w3 hbox hb; have n0_ := Aside0.mk (below_step (by repeat (first | (with_reducible first | exact HB.out | apply wA | apply wN | apply wD) | exact HB.out)) hb); have n1_ := Aside0.mk (hbox); have n2_ := Aside0.mk ((by rw [hg]; exact (below_size (by repeat (first | (with_reducible first | exact HB.out | apply wA | apply wN | apply wD) | exact HB.out))) : w.heap.size ≤ gb247)); have n3_ := n2_; clear HB; have HB := n0_; have BK247 := n1_; have GW247 := n2_; have GE247 := n3_; clear n0_ n1_ n2_ n3_; clear hb hbox hg))
 repeat (go_quiet (first | ((with_reducible refine gate_dst (N := 1) rfl ?_); refine box_event ?hg (N := 1) ?hd (cs := #[.int .i64 a0_0, .int .i64 a0_1, .int .i64 a0_2, .int .i64 a0_3, .slice A0_4 l0_4.length c0_4, .slice A0_5 l0_5.length c0_5, .slice A0_6 l0_6.length c0_6]) (t := 26) ?hr ?_; (case hd => rfl); (case hg => rfl); (case hr => first | (go_simp; done) | (go_simp; rfl)); intro gb247 hg w3 hbox hb; have n0_ := Aside0.mk (below_step (by repeat (first | (with_reducible first | exact HB.out | apply wA | apply wN | apply wD) | exact HB.out)) hb); have n1_ := Aside0.mk (hbox); have n2_ := Aside0.mk ((by rw [hg]; exact (below_size (by repeat (first | (with_reducible first | exact HB.out | apply wA | apply wN | apply wD) | exact HB.out))) : w.heap.size ≤ gb247)); have n3_ := n2_; clear HB; have HB := n0_; have BK247 := n1_; have GW247 := n2_; have GE247 := n3_; clear n0_ n1_ n2_ n3_; clear hb hbox hg)); go_upto_region 1 with (first | ((with_reducible refine gate_dst (N := 1) rfl ?_); refine box_event ?hg (N := 1) ?hd (cs := #[.int .i64 a0_0, .int .i64 a0_1, .int .i64 a0_2, .int .i64 a0_3, .slice A0_4 l0_4.length c0_4, .slice A0_5 l0_5.length c0_5, .slice A0_6 l0_6.length c0_6]) (t := 26) ?hr ?_; (case hd => rfl); (case hg => rfl); (case hr => first | (go_simp; done) | (go_simp; rfl)); intro gb247 hg w3 hbox hb; have n0_ := Aside0.mk (below_step (by repeat (first | (with_reducible first | exact HB.out | apply wA | apply wN | apply wD) | exact HB.out)) hb); have n1_ := Aside0.mk (hbox); have n2_ := Aside0.mk ((by rw [hg]; exact (below_size (by repeat (first | (with_reducible first | exact HB.out | apply wA | apply wN | apply wD) | exact HB.out))) : w.heap.size ≤ gb247)); have n3_ := n2_; clear HB; have HB := n0_; have BK247 := n1_; have GW247 := n2_; have GE247 := n3_; clear n0_ n1_ n2_ n3_; clear hb hbox hg)))
 (try simp only [Act.put, List.setIfInBounds_toArray, List.set_cons_zero, List.set_cons_succ])
 go_cut [13] (fun v13 wc => ∃ (kq : Nat) (x13_1 : Bool), v13 = .bool x13_1 ∧ Aside0 (ndjqref18_Valid.j0 kq x13_1 a0_0 a0_1 a0_2 a0_3 l0_4 l0_5 l0_6 = some r) ∧ Aside0 (kq ≤ k) ∧ Aside0 (wc.heap[gb247]? = some (.cells #[.int .i64 a0_0, .int .i64 a0_1, .int .i64 a0_2, .int .i64 a0_3, (.slice A0_4 l0_4.length c0_4), (.slice A0_5 l0_5.length c0_5), (.slice A0_6 l0_6.length c0_6)] 26 (0, 0))) ∧ Aside0 (Below w.heap.size w wc))
 case first =>
  have H := HC2.out
  clear HC2
  by_cases c4 : a0_0 < 0
  ·rw [if_pos c4] at H
   have c4b0 : decide (a0_0 < 0) = true := decide_eq_true c4
   clear c4
   (first | rw [c4b0] | (simp only [i64_w, i32_w]; rw [c4b0]) | skip)
   have H' := Aside0.mk H
   clear H; have hcz5_0 : w3.cell? ⟨gb247, 0, none⟩ = some (.int .i64 a0_0) := (blk_cell BK247.out 0).trans rfl; have hcz5_1 : w3.cell? ⟨gb247, 1, none⟩ = some (.int .i64 a0_1) := (blk_cell BK247.out 1).trans rfl; have hcz5_2 : w3.cell? ⟨gb247, 2, none⟩ = some (.int .i64 a0_2) := (blk_cell BK247.out 2).trans rfl; have hcz5_3 : w3.cell? ⟨gb247, 3, none⟩ = some (.int .i64 a0_3) := (blk_cell BK247.out 3).trans rfl; have hcz5_4 : w3.cell? ⟨gb247, 4, none⟩ = some (.slice A0_4 l0_4.length c0_4) := (blk_cell BK247.out 4).trans rfl; have hcz5_5 : w3.cell? ⟨gb247, 5, none⟩ = some (.slice A0_5 l0_5.length c0_5) := (blk_cell BK247.out 5).trans rfl; have hcz5_6 : w3.cell? ⟨gb247, 6, none⟩ = some (.slice A0_6 l0_6.length c0_6) := (blk_cell BK247.out 6).trans rfl; have hfz5_0 := blk_frozen BK247.out 0; have hfz5_1 := blk_frozen BK247.out 1; have hfz5_2 := blk_frozen BK247.out 2; have hfz5_3 := blk_frozen BK247.out 3; have hfz5_4 := blk_frozen BK247.out 4; have hfz5_5 := blk_frozen BK247.out 5; have hfz5_6 := blk_frozen BK247.out 6
   go_wp2
   repeat (go_quiet (fail); try go_wp2)
   go_meet
   case rel => exact ⟨_, (true), (by first | rfl | (simp; done) | (simp [*]; done)), H', ⟨by first | omega | exact Nat.le_refl _⟩, ⟨by (with_reducible repeat (first | refine bN ?_ _ | refine bD ?_ | refine bA ?_ _)); exact BK247.out⟩, ⟨by repeat (first | (with_reducible first | exact HB.out | apply wA | apply wN | apply wD | refine wS ?_ GE247.out) | exact HB.out)⟩⟩
  ·rw [if_neg c4] at H
   have c4b0 : decide (a0_0 < 0) = false := decide_eq_false c4
   clear c4
   (first | rw [c4b0] | (simp only [i64_w, i32_w]; rw [c4b0]) | skip)
   have H' := Aside0.mk H
   clear H; have hcz6_0 : w3.cell? ⟨gb247, 0, none⟩ = some (.int .i64 a0_0) := (blk_cell BK247.out 0).trans rfl; have hcz6_1 : w3.cell? ⟨gb247, 1, none⟩ = some (.int .i64 a0_1) := (blk_cell BK247.out 1).trans rfl; have hcz6_2 : w3.cell? ⟨gb247, 2, none⟩ = some (.int .i64 a0_2) := (blk_cell BK247.out 2).trans rfl; have hcz6_3 : w3.cell? ⟨gb247, 3, none⟩ = some (.int .i64 a0_3) := (blk_cell BK247.out 3).trans rfl; have hcz6_4 : w3.cell? ⟨gb247, 4, none⟩ = some (.slice A0_4 l0_4.length c0_4) := (blk_cell BK247.out 4).trans rfl; have hcz6_5 : w3.cell? ⟨gb247, 5, none⟩ = some (.slice A0_5 l0_5.length c0_5) := (blk_cell BK247.out 5).trans rfl; have hcz6_6 : w3.cell? ⟨gb247, 6, none⟩ = some (.slice A0_6 l0_6.length c0_6) := (blk_cell BK247.out 6).trans rfl; have hfz6_0 := blk_frozen BK247.out 0; have hfz6_1 := blk_frozen BK247.out 1; have hfz6_2 := blk_frozen BK247.out 2; have hfz6_3 := blk_frozen BK247.out 3; have hfz6_4 := blk_frozen BK247.out 4; have hfz6_5 := blk_frozen BK247.out 5; have hfz6_6 := blk_frozen BK247.out 6
   go_wp2
   repeat (go_quiet (fail); try go_wp2)
   go_meet
   case rel => exact ⟨_, (decide (a0_0 > 1048576)), (by first | rfl | (simp; done) | (simp [*]; done)), H', ⟨by first | omega | exact Nat.le_refl _⟩, ⟨by (with_reducible repeat (first | refine bN ?_ _ | refine bD ?_ | refine bA ?_ _)); exact BK247.out⟩, ⟨by repeat (first | (with_reducible first | exact HB.out | apply wA | apply wN | apply wD | refine wS ?_ GE247.out) | exact HB.out)⟩⟩
 case rest =>
  clear HC2
  (try clear c2); (try clear p2); (try clear c4); (try clear c4b0); (try clear hcz5_0); (try clear hcz5_1); (try clear hcz5_2); (try clear hcz5_3); (try clear hcz5_4); (try clear hcz5_5); (try clear hcz5_6); (try clear hcz6_0); (try clear hcz6_1); (try clear hcz6_2); (try clear hcz6_3); (try clear hcz6_4); (try clear hcz6_5); (try clear hcz6_6); (try clear hfz5_0); (try clear hfz5_1); (try clear hfz5_2); (try clear hfz5_3); (try clear hfz5_4); (try clear hfz5_5); (try clear hfz5_6); (try clear hfz6_0); (try clear hfz6_1); (try clear hfz6_2); (try clear hfz6_3); (try clear hfz6_4); (try clear hfz6_5); (try clear hfz6_6)
  obtain ⟨kq, x13_1, rfl, HA, HJ1, BK247, HB⟩ := hcut
  cases kq with
  | zero => exact absurd HA.out (by simp [ndjqref18_Valid.j0])
  | succ kj1 =>
   have H := HA.out
   clear HA
   simp only [ndjqref18_Valid.j0] at H
   by_cases c7 : x13_1 = true
   ·subst c7
    have H1 : (some false) = some r := by rw [if_pos rfl] at H; exact H
    clear H; have H := H1; clear H1
    obtain rfl := Option.some.inj H
    go_wp2
    repeat (go_quiet (fail); try go_wp2)
    go_ret
    exact ⟨by first | rfl | (simp [errW_none, errW_some] <;> rfl) | (simp [*, errW_none, errW_some] <;> rfl), by repeat (first | (with_reducible first | exact HB.out | apply wA | apply wN | apply wD | refine wS ?_ GE247.out) | exact HB.out)⟩
   ·replace c7 := Bool.eq_false_iff.mpr c7
    subst c7
    have H1 : (ndjqref18_Valid.l0 kj1 0 a0_0 a0_1 a0_2 a0_3 l0_4 l0_5 l0_6) = some r := by rw [if_neg (show ¬ (false = true) by decide)] at H; exact H
    clear H; have H := H1; clear H1
    have H' := Aside0.mk H
    clear H
    go_wp2
    repeat (go_quiet (fail); try go_wp2)
    go_loopg [3] kj1 (fun kq v3 w' => ∃ (x3_2 : Int), v3 = .int .i64 x3_2 ∧ Aside0 (ndjqref18_Valid.l0 kq x3_2 a0_0 a0_1 a0_2 a0_3 l0_4 l0_5 l0_6 = some r) ∧ Aside0 (kq ≤ kj1) ∧ Aside0 (w'.heap[gb247]? = some (.cells #[.int .i64 a0_0, .int .i64 a0_1, .int .i64 a0_2, .int .i64 a0_3, (.slice A0_4 l0_4.length c0_4), (.slice A0_5 l0_5.length c0_5), (.slice A0_6 l0_6.length c0_6)] 26 (0, 0))) ∧ Aside0 (Below w.heap.size w w'))
    case atStart => exact ⟨(0), (by first | rfl | (simp; done) | (simp [*]; done)), H', ⟨Nat.le_refl _⟩, ⟨by (with_reducible repeat (first | refine bN ?_ _ | refine bD ?_ | refine bA ?_ _)); exact BK247.out⟩, ⟨by repeat (first | (with_reducible first | exact HB.out | apply wA | apply wN | apply wD | refine wS ?_ GE247.out) | exact HB.out)⟩⟩
    case round =>
     clear H'
     (try clear c7)
     obtain ⟨x3_2, rfl, HA, HK2, BK247, HB⟩ := hrel
     cases gk with
     | zero => exact absurd HA.out (by simp [ndjqref18_Valid.l0])
     | succ k2 =>
      have H := HA.out
      clear HA
      simp only [ndjqref18_Valid.l0] at H
      by_cases c8 : x3_2 < 3
      ·rw [if_pos c8] at H
       have c8b0 : decide (x3_2 < 3) = true := decide_eq_true c8
       clear c8
       have HC9 := Aside0.mk H
       clear H
       go_upto_region 6 with (fail)
       repeat (go_quiet (fail); go_upto_region 6 with (fail))
       go_cut [29] (fun v29 wc => ∃ (kq : Nat) (x29_8 : Bool), v29 = .bool x29_8 ∧ Aside0 (ndjqref18_Valid.j2 kq x3_2 x29_8 a0_0 a0_1 a0_2 a0_3 l0_4 l0_5 l0_6 = some r) ∧ Aside0 (kq ≤ k2) ∧ Aside0 (wc.heap[gb247]? = some (.cells #[.int .i64 a0_0, .int .i64 a0_1, .int .i64 a0_2, .int .i64 a0_3, (.slice A0_4 l0_4.length c0_4), (.slice A0_5 l0_5.length c0_5), (.slice A0_6 l0_6.length c0_6)] 26 (0, 0))) ∧ Aside0 (Below w.heap.size w wc))
       case first =>
        have H := HC9.out
        clear HC9
        by_cases c10 : x3_2 = 0
        ·subst c10
         have H1 : (if a0_1 < 0 then (ndjqref18_Valid.j2 k2 0 true a0_0 a0_1 a0_2 a0_3 l0_4 l0_5 l0_6) else (ndjqref18_Valid.j2 k2 0 (decide (a0_1 > 2)) a0_0 a0_1 a0_2 a0_3 l0_4 l0_5 l0_6)) = some r := by rw [if_pos rfl] at H; exact H
         clear H; have H := H1; clear H1
         by_cases c11 : a0_1 < 0
         ·rw [if_pos c11] at H
          have c11b0 : decide (a0_1 < 0) = true := decide_eq_true c11
          clear c11
          (first | rw [c11b0] | (simp only [i64_w, i32_w]; rw [c11b0]) | skip)
          have H' := Aside0.mk H
          clear H; have hcz12_0 : wr.cell? ⟨gb247, 0, none⟩ = some (.int .i64 a0_0) := (blk_cell BK247.out 0).trans rfl; have hcz12_1 : wr.cell? ⟨gb247, 1, none⟩ = some (.int .i64 a0_1) := (blk_cell BK247.out 1).trans rfl; have hcz12_2 : wr.cell? ⟨gb247, 2, none⟩ = some (.int .i64 a0_2) := (blk_cell BK247.out 2).trans rfl; have hcz12_3 : wr.cell? ⟨gb247, 3, none⟩ = some (.int .i64 a0_3) := (blk_cell BK247.out 3).trans rfl; have hcz12_4 : wr.cell? ⟨gb247, 4, none⟩ = some (.slice A0_4 l0_4.length c0_4) := (blk_cell BK247.out 4).trans rfl; have hcz12_5 : wr.cell? ⟨gb247, 5, none⟩ = some (.slice A0_5 l0_5.length c0_5) := (blk_cell BK247.out 5).trans rfl; have hcz12_6 : wr.cell? ⟨gb247, 6, none⟩ = some (.slice A0_6 l0_6.length c0_6) := (blk_cell BK247.out 6).trans rfl; have hfz12_0 := blk_frozen BK247.out 0; have hfz12_1 := blk_frozen BK247.out 1; have hfz12_2 := blk_frozen BK247.out 2; have hfz12_3 := blk_frozen BK247.out 3; have hfz12_4 := blk_frozen BK247.out 4; have hfz12_5 := blk_frozen BK247.out 5; have hfz12_6 := blk_frozen BK247.out 6
          go_wp2
          repeat (go_quiet (fail); try go_wp2)
          go_meet
          case rel => exact ⟨_, (true), (by first | rfl | (simp; done) | (simp [*]; done)), H', ⟨by have := HJ1.out; have := HK2.out; first | omega | exact Nat.le_refl _⟩, ⟨by (with_reducible repeat (first | refine bN ?_ _ | refine bD ?_ | refine bA ?_ _)); exact BK247.out⟩, ⟨by repeat (first | (with_reducible first | exact HB.out | apply wA | apply wN | apply wD | refine wS ?_ GE247.out) | exact HB.out)⟩⟩
         ·rw [if_neg c11] at H
          have c11b0 : decide (a0_1 < 0) = false := decide_eq_false c11
          clear c11
          (first | rw [c11b0] | (simp only [i64_w, i32_w]; rw [c11b0]) | skip)
          have H' := Aside0.mk H
          clear H; have hcz13_0 : wr.cell? ⟨gb247, 0, none⟩ = some (.int .i64 a0_0) := (blk_cell BK247.out 0).trans rfl; have hcz13_1 : wr.cell? ⟨gb247, 1, none⟩ = some (.int .i64 a0_1) := (blk_cell BK247.out 1).trans rfl; have hcz13_2 : wr.cell? ⟨gb247, 2, none⟩ = some (.int .i64 a0_2) := (blk_cell BK247.out 2).trans rfl; have hcz13_3 : wr.cell? ⟨gb247, 3, none⟩ = some (.int .i64 a0_3) := (blk_cell BK247.out 3).trans rfl; have hcz13_4 : wr.cell? ⟨gb247, 4, none⟩ = some (.slice A0_4 l0_4.length c0_4) := (blk_cell BK247.out 4).trans rfl; have hcz13_5 : wr.cell? ⟨gb247, 5, none⟩ = some (.slice A0_5 l0_5.length c0_5) := (blk_cell BK247.out 5).trans rfl; have hcz13_6 : wr.cell? ⟨gb247, 6, none⟩ = some (.slice A0_6 l0_6.length c0_6) := (blk_cell BK247.out 6).trans rfl; have hfz13_0 := blk_frozen BK247.out 0; have hfz13_1 := blk_frozen BK247.out 1; have hfz13_2 := blk_frozen BK247.out 2; have hfz13_3 := blk_frozen BK247.out 3; have hfz13_4 := blk_frozen BK247.out 4; have hfz13_5 := blk_frozen BK247.out 5; have hfz13_6 := blk_frozen BK247.out 6
          go_wp2
          repeat (go_quiet (fail); try go_wp2)
          go_meet
          case rel => exact ⟨_, (decide (a0_1 > 2)), (by first | rfl | (simp; done) | (simp [*]; done)), H', ⟨by have := HJ1.out; have := HK2.out; first | omega | exact Nat.le_refl _⟩, ⟨by (with_reducible repeat (first | refine bN ?_ _ | refine bD ?_ | refine bA ?_ _)); exact BK247.out⟩, ⟨by repeat (first | (with_reducible first | exact HB.out | apply wA | apply wN | apply wD | refine wS ?_ GE247.out) | exact HB.out)⟩⟩
        ·rw [if_neg c10] at H
         by_cases c14 : x3_2 = 1
         ·subst c14
          have H1 : (if a0_2 < 0 then (ndjqref18_Valid.j2 k2 1 true a0_0 a0_1 a0_2 a0_3 l0_4 l0_5 l0_6) else (ndjqref18_Valid.j2 k2 1 (decide (a0_2 > 2)) a0_0 a0_1 a0_2 a0_3 l0_4 l0_5 l0_6)) = some r := by rw [if_pos rfl] at H; exact H
          clear H; have H := H1; clear H1
          by_cases c15 : a0_2 < 0
          ·rw [if_pos c15] at H
           have c15b0 : decide (a0_2 < 0) = true := decide_eq_true c15
           clear c15
           have H' := Aside0.mk H
           clear H; have hcz16_0 : wr.cell? ⟨gb247, 0, none⟩ = some (.int .i64 a0_0) := (blk_cell BK247.out 0).trans rfl; have hcz16_1 : wr.cell? ⟨gb247, 1, none⟩ = some (.int .i64 a0_1) := (blk_cell BK247.out 1).trans rfl; have hcz16_2 : wr.cell? ⟨gb247, 2, none⟩ = some (.int .i64 a0_2) := (blk_cell BK247.out 2).trans rfl; have hcz16_3 : wr.cell? ⟨gb247, 3, none⟩ = some (.int .i64 a0_3) := (blk_cell BK247.out 3).trans rfl; have hcz16_4 : wr.cell? ⟨gb247, 4, none⟩ = some (.slice A0_4 l0_4.length c0_4) := (blk_cell BK247.out 4).trans rfl; have hcz16_5 : wr.cell? ⟨gb247, 5, none⟩ = some (.slice A0_5 l0_5.length c0_5) := (blk_cell BK247.out 5).trans rfl; have hcz16_6 : wr.cell? ⟨gb247, 6, none⟩ = some (.slice A0_6 l0_6.length c0_6) := (blk_cell BK247.out 6).trans rfl; have hfz16_0 := blk_frozen BK247.out 0; have hfz16_1 := blk_frozen BK247.out 1; have hfz16_2 := blk_frozen BK247.out 2; have hfz16_3 := blk_frozen BK247.out 3; have hfz16_4 := blk_frozen BK247.out 4; have hfz16_5 := blk_frozen BK247.out 5; have hfz16_6 := blk_frozen BK247.out 6
           go_wp2
           repeat (go_quiet (fail); try go_wp2)
           go_meet
           case rel => exact ⟨_, (true), (by first | rfl | (simp; done) | (simp [*]; done)), H', ⟨by have := HJ1.out; have := HK2.out; first | omega | exact Nat.le_refl _⟩, ⟨by (with_reducible repeat (first | refine bN ?_ _ | refine bD ?_ | refine bA ?_ _)); exact BK247.out⟩, ⟨by repeat (first | (with_reducible first | exact HB.out | apply wA | apply wN | apply wD | refine wS ?_ GE247.out) | exact HB.out)⟩⟩
          ·rw [if_neg c15] at H
           have c15b0 : decide (a0_2 < 0) = false := decide_eq_false c15
           clear c15
           have H' := Aside0.mk H
           clear H; have hcz17_0 : wr.cell? ⟨gb247, 0, none⟩ = some (.int .i64 a0_0) := (blk_cell BK247.out 0).trans rfl; have hcz17_1 : wr.cell? ⟨gb247, 1, none⟩ = some (.int .i64 a0_1) := (blk_cell BK247.out 1).trans rfl; have hcz17_2 : wr.cell? ⟨gb247, 2, none⟩ = some (.int .i64 a0_2) := (blk_cell BK247.out 2).trans rfl; have hcz17_3 : wr.cell? ⟨gb247, 3, none⟩ = some (.int .i64 a0_3) := (blk_cell BK247.out 3).trans rfl; have hcz17_4 : wr.cell? ⟨gb247, 4, none⟩ = some (.slice A0_4 l0_4.length c0_4) := (blk_cell BK247.out 4).trans rfl; have hcz17_5 : wr.cell? ⟨gb247, 5, none⟩ = some (.slice A0_5 l0_5.length c0_5) := (blk_cell BK247.out 5).trans rfl; have hcz17_6 : wr.cell? ⟨gb247, 6, none⟩ = some (.slice A0_6 l0_6.length c0_6) := (blk_cell BK247.out 6).trans rfl; have hfz17_0 := blk_frozen BK247.out 0; have hfz17_1 := blk_frozen BK247.out 1; have hfz17_2 := blk_frozen BK247.out 2; have hfz17_3 := blk_frozen BK247.out 3; have hfz17_4 := blk_frozen BK247.out 4; have hfz17_5 := blk_frozen BK247.out 5; have hfz17_6 := blk_frozen BK247.out 6
           go_wp2
           repeat (go_quiet (fail); try go_wp2)
           go_meet
           case rel => exact ⟨_, (decide (a0_2 > 2)), (by first | rfl | (simp; done) | (simp [*]; done)), H', ⟨by have := HJ1.out; have := HK2.out; first | omega | exact Nat.le_refl _⟩, ⟨by (with_reducible repeat (first | refine bN ?_ _ | refine bD ?_ | refine bA ?_ _)); exact BK247.out⟩, ⟨by repeat (first | (with_reducible first | exact HB.out | apply wA | apply wN | apply wD | refine wS ?_ GE247.out) | exact HB.out)⟩⟩
         ·rw [if_neg c14] at H
          by_cases c18 : x3_2 = 2
          ·subst c18
           have H1 : (if a0_3 < 0 then (ndjqref18_Valid.j2 k2 2 true a0_0 a0_1 a0_2 a0_3 l0_4 l0_5 l0_6) else (ndjqref18_Valid.j2 k2 2 (decide (a0_3 > 2)) a0_0 a0_1 a0_2 a0_3 l0_4 l0_5 l0_6)) = some r := by rw [if_pos rfl] at H; exact H
           clear H; have H := H1; clear H1
           by_cases c19 : a0_3 < 0
           ·rw [if_pos c19] at H
            have c19b0 : decide (a0_3 < 0) = true := decide_eq_true c19
            clear c19
            have H' := Aside0.mk H
            clear H; have hcz20_0 : wr.cell? ⟨gb247, 0, none⟩ = some (.int .i64 a0_0) := (blk_cell BK247.out 0).trans rfl; have hcz20_1 : wr.cell? ⟨gb247, 1, none⟩ = some (.int .i64 a0_1) := (blk_cell BK247.out 1).trans rfl; have hcz20_2 : wr.cell? ⟨gb247, 2, none⟩ = some (.int .i64 a0_2) := (blk_cell BK247.out 2).trans rfl; have hcz20_3 : wr.cell? ⟨gb247, 3, none⟩ = some (.int .i64 a0_3) := (blk_cell BK247.out 3).trans rfl; have hcz20_4 : wr.cell? ⟨gb247, 4, none⟩ = some (.slice A0_4 l0_4.length c0_4) := (blk_cell BK247.out 4).trans rfl; have hcz20_5 : wr.cell? ⟨gb247, 5, none⟩ = some (.slice A0_5 l0_5.length c0_5) := (blk_cell BK247.out 5).trans rfl; have hcz20_6 : wr.cell? ⟨gb247, 6, none⟩ = some (.slice A0_6 l0_6.length c0_6) := (blk_cell BK247.out 6).trans rfl; have hfz20_0 := blk_frozen BK247.out 0; have hfz20_1 := blk_frozen BK247.out 1; have hfz20_2 := blk_frozen BK247.out 2; have hfz20_3 := blk_frozen BK247.out 3; have hfz20_4 := blk_frozen BK247.out 4; have hfz20_5 := blk_frozen BK247.out 5; have hfz20_6 := blk_frozen BK247.out 6
            go_wp2
            repeat (go_quiet (fail); try go_wp2)
            go_meet
            case rel => exact ⟨_, (true), (by first | rfl | (simp; done) | (simp [*]; done)), H', ⟨by have := HJ1.out; have := HK2.out; first | omega | exact Nat.le_refl _⟩, ⟨by (with_reducible repeat (first | refine bN ?_ _ | refine bD ?_ | refine bA ?_ _)); exact BK247.out⟩, ⟨by repeat (first | (with_reducible first | exact HB.out | apply wA | apply wN | apply wD | refine wS ?_ GE247.out) | exact HB.out)⟩⟩
           ·rw [if_neg c19] at H
            have c19b0 : decide (a0_3 < 0) = false := decide_eq_false c19
            clear c19
            have H' := Aside0.mk H
            clear H; have hcz21_0 : wr.cell? ⟨gb247, 0, none⟩ = some (.int .i64 a0_0) := (blk_cell BK247.out 0).trans rfl; have hcz21_1 : wr.cell? ⟨gb247, 1, none⟩ = some (.int .i64 a0_1) := (blk_cell BK247.out 1).trans rfl; have hcz21_2 : wr.cell? ⟨gb247, 2, none⟩ = some (.int .i64 a0_2) := (blk_cell BK247.out 2).trans rfl; have hcz21_3 : wr.cell? ⟨gb247, 3, none⟩ = some (.int .i64 a0_3) := (blk_cell BK247.out 3).trans rfl; have hcz21_4 : wr.cell? ⟨gb247, 4, none⟩ = some (.slice A0_4 l0_4.length c0_4) := (blk_cell BK247.out 4).trans rfl; have hcz21_5 : wr.cell? ⟨gb247, 5, none⟩ = some (.slice A0_5 l0_5.length c0_5) := (blk_cell BK247.out 5).trans rfl; have hcz21_6 : wr.cell? ⟨gb247, 6, none⟩ = some (.slice A0_6 l0_6.length c0_6) := (blk_cell BK247.out 6).trans rfl; have hfz21_0 := blk_frozen BK247.out 0; have hfz21_1 := blk_frozen BK247.out 1; have hfz21_2 := blk_frozen BK247.out 2; have hfz21_3 := blk_frozen BK247.out 3; have hfz21_4 := blk_frozen BK247.out 4; have hfz21_5 := blk_frozen BK247.out 5; have hfz21_6 := blk_frozen BK247.out 6
            go_wp2
            repeat (go_quiet (fail); try go_wp2)
            go_meet
            case rel => exact ⟨_, (decide (a0_3 > 2)), (by first | rfl | (simp; done) | (simp [*]; done)), H', ⟨by have := HJ1.out; have := HK2.out; first | omega | exact Nat.le_refl _⟩, ⟨by (with_reducible repeat (first | refine bN ?_ _ | refine bD ?_ | refine bA ?_ _)); exact BK247.out⟩, ⟨by repeat (first | (with_reducible first | exact HB.out | apply wA | apply wN | apply wD | refine wS ?_ GE247.out) | exact HB.out)⟩⟩
          ·rw [if_neg c18] at H
           exact absurd H (by simp)
       case rest =>
        clear HC9
        (try clear c1); (try clear c8); (try clear c8b0); (try clear c10); (try clear c11); (try clear c11b0); (try clear c14); (try clear c15); (try clear c15b0); (try clear c18); (try clear c19); (try clear c19b0); (try clear hcz12_0); (try clear hcz12_1); (try clear hcz12_2); (try clear hcz12_3); (try clear hcz12_4); (try clear hcz12_5); (try clear hcz12_6); (try clear hcz13_0); (try clear hcz13_1); (try clear hcz13_2); (try clear hcz13_3); (try clear hcz13_4); (try clear hcz13_5); (try clear hcz13_6); (try clear hcz16_0); (try clear hcz16_1); (try clear hcz16_2); (try clear hcz16_3); (try clear hcz16_4); (try clear hcz16_5); (try clear hcz16_6); (try clear hcz17_0); (try clear hcz17_1); (try clear hcz17_2); (try clear hcz17_3); (try clear hcz17_4); (try clear hcz17_5); (try clear hcz17_6); (try clear hcz20_0); (try clear hcz20_1); (try clear hcz20_2); (try clear hcz20_3); (try clear hcz20_4); (try clear hcz20_5); (try clear hcz20_6); (try clear hcz21_0); (try clear hcz21_1); (try clear hcz21_2); (try clear hcz21_3); (try clear hcz21_4); (try clear hcz21_5); (try clear hcz21_6); (try clear hfz12_0); (try clear hfz12_1); (try clear hfz12_2); (try clear hfz12_3); (try clear hfz12_4); (try clear hfz12_5); (try clear hfz12_6); (try clear hfz13_0); (try clear hfz13_1); (try clear hfz13_2); (try clear hfz13_3); (try clear hfz13_4); (try clear hfz13_5); (try clear hfz13_6); (try clear hfz16_0); (try clear hfz16_1); (try clear hfz16_2); (try clear hfz16_3); (try clear hfz16_4); (try clear hfz16_5); (try clear hfz16_6); (try clear hfz17_0); (try clear hfz17_1); (try clear hfz17_2); (try clear hfz17_3); (try clear hfz17_4); (try clear hfz17_5); (try clear hfz17_6); (try clear hfz20_0); (try clear hfz20_1); (try clear hfz20_2); (try clear hfz20_3); (try clear hfz20_4); (try clear hfz20_5); (try clear hfz20_6); (try clear hfz21_0); (try clear hfz21_1); (try clear hfz21_2); (try clear hfz21_3); (try clear hfz21_4); (try clear hfz21_5); (try clear hfz21_6)
        obtain ⟨kq, x29_8, rfl, HA, HJ8, BK247, HB⟩ := hcut
        cases kq with
        | zero => exact absurd HA.out (by simp [ndjqref18_Valid.j2])
        | succ kj8 =>
         have H := HA.out
         clear HA
         simp only [ndjqref18_Valid.j2] at H
         by_cases c22 : x29_8 = true
         ·subst c22
          have H1 : (some false) = some r := by rw [if_pos rfl] at H; exact H
          clear H; have H := H1; clear H1
          obtain rfl := Option.some.inj H
          go_wp2
          repeat (go_quiet (fail); try go_wp2)
          go_ret
          exact ⟨by first | rfl | (simp [errW_none, errW_some] <;> rfl) | (simp [*, errW_none, errW_some] <;> rfl), by repeat (first | (with_reducible first | exact HB.out | apply wA | apply wN | apply wD | refine wS ?_ GE247.out) | exact HB.out)⟩
         ·replace c22 := Bool.eq_false_iff.mpr c22
          subst c22
          have H1 : (if x3_2 = 0 then (ndjqref18_Valid.l1 kj8 l0_4 0 a0_0 a0_1 a0_2 a0_3 l0_4 l0_5 l0_6) else (if x3_2 = 1 then (ndjqref18_Valid.l101 kj8 l0_5 0 a0_0 a0_1 a0_2 a0_3 l0_4 l0_5 l0_6) else (if x3_2 = 2 then (ndjqref18_Valid.l201 kj8 l0_6 0 a0_0 a0_1 a0_2 a0_3 l0_4 l0_5 l0_6) else (none)))) = some r := by rw [if_neg (show ¬ (false = true) by decide)] at H; exact H
          clear H; have H := H1; clear H1
          by_cases c23 : x3_2 = 0
          ·subst c23
           have H1 : (ndjqref18_Valid.l1 kj8 l0_4 0 a0_0 a0_1 a0_2 a0_3 l0_4 l0_5 l0_6) = some r := by rw [if_pos rfl] at H; exact H
           clear H; have H := H1; clear H1
           have H' := Aside0.mk H
           clear H; have hcz24_0 : wc.cell? ⟨gb247, 0, none⟩ = some (.int .i64 a0_0) := (blk_cell BK247.out 0).trans rfl; have hcz24_1 : wc.cell? ⟨gb247, 1, none⟩ = some (.int .i64 a0_1) := (blk_cell BK247.out 1).trans rfl; have hcz24_2 : wc.cell? ⟨gb247, 2, none⟩ = some (.int .i64 a0_2) := (blk_cell BK247.out 2).trans rfl; have hcz24_3 : wc.cell? ⟨gb247, 3, none⟩ = some (.int .i64 a0_3) := (blk_cell BK247.out 3).trans rfl; have hcz24_4 : wc.cell? ⟨gb247, 4, none⟩ = some (.slice A0_4 l0_4.length c0_4) := (blk_cell BK247.out 4).trans rfl; have hcz24_5 : wc.cell? ⟨gb247, 5, none⟩ = some (.slice A0_5 l0_5.length c0_5) := (blk_cell BK247.out 5).trans rfl; have hcz24_6 : wc.cell? ⟨gb247, 6, none⟩ = some (.slice A0_6 l0_6.length c0_6) := (blk_cell BK247.out 6).trans rfl; have hfz24_0 := blk_frozen BK247.out 0; have hfz24_1 := blk_frozen BK247.out 1; have hfz24_2 := blk_frozen BK247.out 2; have hfz24_3 := blk_frozen BK247.out 3; have hfz24_4 := blk_frozen BK247.out 4; have hfz24_5 := blk_frozen BK247.out 5; have hfz24_6 := blk_frozen BK247.out 6
           go_wp2
           repeat (go_quiet (fail); try go_wp2)
           go_loopg [5] kj8 (fun kq v5 w' => ∃ (x5_4 : Int), v5 = .int .i64 x5_4 ∧ Aside0 (ndjqref18_Valid.l1 kq l0_4 x5_4 a0_0 a0_1 a0_2 a0_3 l0_4 l0_5 l0_6 = some r) ∧ Aside0 (kq ≤ kj8) ∧ Aside0 (w'.heap[gb247]? = some (.cells #[.int .i64 a0_0, .int .i64 a0_1, .int .i64 a0_2, .int .i64 a0_3, (.slice A0_4 l0_4.length c0_4), (.slice A0_5 l0_5.length c0_5), (.slice A0_6 l0_6.length c0_6)] 26 (0, 0))) ∧ Aside0 (Below w.heap.size w w'))
           case atStart => exact ⟨(0), (by first | rfl | (simp; done) | (simp [*]; done)), H', ⟨Nat.le_refl _⟩, ⟨by (with_reducible repeat (first | refine bN ?_ _ | refine bD ?_ | refine bA ?_ _)); exact BK247.out⟩, ⟨by repeat (first | (with_reducible first | exact HB.out | apply wA | apply wN | apply wD | refine wS ?_ GE247.out) | exact HB.out)⟩⟩
           case round =>
            clear H'
            (try clear c22); (try clear c23); (try clear hcz24_0); (try clear hcz24_1); (try clear hcz24_2); (try clear hcz24_3); (try clear hcz24_4); (try clear hcz24_5); (try clear hcz24_6); (try clear hfz24_0); (try clear hfz24_1); (try clear hfz24_2); (try clear hfz24_3); (try clear hfz24_4); (try clear hfz24_5); (try clear hfz24_6)
            obtain ⟨x5_4, rfl, HA, HK4, BK247, HB⟩ := hrel
            cases gk with
            | zero => exact absurd HA.out (by simp [ndjqref18_Valid.l1])
            | succ k4 =>
             have H := HA.out
             clear HA
             simp only [ndjqref18_Valid.l1] at H
             by_cases c25 : x5_4 < (l0_4.length : Int)
             ·rw [if_pos c25] at H
              have c25b0 : decide (x5_4 < (l0_4.length : Int)) = true := decide_eq_true c25
              clear c25
              by_cases c26 : 0 ≤ x5_4
              ·rw [if_pos c26] at H
               have c26b0 : decide (0 ≤ x5_4) = true := decide_eq_true c26
               clear c26
               by_cases c27 : (rd l0_4 x5_4) < 0
               ·rw [if_pos c27] at H
                have c27b0 : decide ((rd l0_4 x5_4) < 0) = true := decide_eq_true c27
                clear c27
                obtain rfl := Option.some.inj H
                have p248 : 0 ≤ (x5_4 : Int) := of_decide_eq_true (by first | (with_reducible assumption) | assumption)
                have q248 : x5_4 < (l0_4.length : Int) := of_decide_eq_true (by first | (with_reducible assumption) | assumption)
                obtain ⟨ad248, e248, hx248_0⟩ := Kd.at_int HR0_4.out x5_4 p248 q248
                cases e248
                replace hx248_0 := (HB.out.cell (World.block_lt_of_cell? w _ hx248_0)).trans hx248_0
                replace p248 := eq_true p248; replace q248 := eq_true q248
                go_wp2
                repeat (go_quiet (fail); try go_wp2)
                go_ret
                exact ⟨by first | rfl | (simp [errW_none, errW_some] <;> rfl) | (simp [*, errW_none, errW_some] <;> rfl), by repeat (first | (with_reducible first | exact HB.out | apply wA | apply wN | apply wD | refine wS ?_ GE247.out) | exact HB.out)⟩
               ·rw [if_neg c27] at H
                have c27b0 : decide ((rd l0_4 x5_4) < 0) = false := decide_eq_false c27
                clear c27
                by_cases c28 : (rd l0_4 x5_4) ≥ a0_0
                ·rw [if_pos c28] at H
                 have c28b0 : decide (a0_0 ≤ (rd l0_4 x5_4)) = true := decide_eq_true c28
                 clear c28
                 obtain rfl := Option.some.inj H
                 have p248 : 0 ≤ (x5_4 : Int) := of_decide_eq_true (by first | (with_reducible assumption) | assumption)
                 have q248 : x5_4 < (l0_4.length : Int) := of_decide_eq_true (by first | (with_reducible assumption) | assumption)
                 obtain ⟨ad248, e248, hx248_0⟩ := Kd.at_int HR0_4.out x5_4 p248 q248
                 cases e248
                 replace hx248_0 := (HB.out.cell (World.block_lt_of_cell? w _ hx248_0)).trans hx248_0
                 replace p248 := eq_true p248; replace q248 := eq_true q248
                 have p249 : 0 ≤ (x5_4 : Int) := of_decide_eq_true (by first | (with_reducible assumption) | assumption)
                 have q249 : x5_4 < (l0_4.length : Int) := of_decide_eq_true (by first | (with_reducible assumption) | assumption)
                 obtain ⟨ad249, e249, hx249_0⟩ := Kd.at_int HR0_4.out x5_4 p249 q249
                 obtain rfl : ad248 = ad249 := (by injection e249)
                 replace hx249_0 := (HB.out.cell (World.block_lt_of_cell? w _ hx249_0)).trans hx249_0
                 replace p249 := eq_true p249; replace q249 := eq_true q249; have hcz29_0 : wr.cell? ⟨gb247, 0, none⟩ = some (.int .i64 a0_0) := (blk_cell BK247.out 0).trans rfl; have hcz29_1 : wr.cell? ⟨gb247, 1, none⟩ = some (.int .i64 a0_1) := (blk_cell BK247.out 1).trans rfl; have hcz29_2 : wr.cell? ⟨gb247, 2, none⟩ = some (.int .i64 a0_2) := (blk_cell BK247.out 2).trans rfl; have hcz29_3 : wr.cell? ⟨gb247, 3, none⟩ = some (.int .i64 a0_3) := (blk_cell BK247.out 3).trans rfl; have hcz29_4 : wr.cell? ⟨gb247, 4, none⟩ = some (.slice (some ad248) l0_4.length c0_4) := (blk_cell BK247.out 4).trans rfl; have hcz29_5 : wr.cell? ⟨gb247, 5, none⟩ = some (.slice A0_5 l0_5.length c0_5) := (blk_cell BK247.out 5).trans rfl; have hcz29_6 : wr.cell? ⟨gb247, 6, none⟩ = some (.slice A0_6 l0_6.length c0_6) := (blk_cell BK247.out 6).trans rfl; have hfz29_0 := blk_frozen BK247.out 0; have hfz29_1 := blk_frozen BK247.out 1; have hfz29_2 := blk_frozen BK247.out 2; have hfz29_3 := blk_frozen BK247.out 3; have hfz29_4 := blk_frozen BK247.out 4; have hfz29_5 := blk_frozen BK247.out 5; have hfz29_6 := blk_frozen BK247.out 6
                 go_wp2
                 repeat (go_quiet (fail); try go_wp2)
                 go_ret
                 exact ⟨by first | rfl | (simp [errW_none, errW_some] <;> rfl) | (simp [*, errW_none, errW_some] <;> rfl), by repeat (first | (with_reducible first | exact HB.out | apply wA | apply wN | apply wD | refine wS ?_ GE247.out) | exact HB.out)⟩
                ·rw [if_neg c28] at H
                 have c28b0 : decide (a0_0 ≤ (rd l0_4 x5_4)) = false := decide_eq_false c28
                 clear c28
                 by_cases c30 : x5_4 > 0
                 ·rw [if_pos c30] at H
                  have c30b0 : decide (0 < x5_4) = true := decide_eq_true c30
                  clear c30
                  obtain ⟨ji31, hji31⟩ : ∃ j_ : Int, (wrap64 (x5_4 - 1)) = j_ := ⟨_, rfl⟩
                  replace H : (if 0 ≤ (ji31) then (if (ji31) < (l0_4.length : Int) then (if (rd l0_4 (ji31)) ≥ (rd l0_4 x5_4) then (some false) else (ndjqref18_Valid.l1 k4 l0_4 (wrap64 (x5_4 + 1)) a0_0 a0_1 a0_2 a0_3 l0_4 l0_5 l0_6)) else (none)) else (none)) = some r := by first | (rw [hji31] at H; exact H) | (simp only [hji31] at H ⊢; exact H)
                  have hji31w : (IntKind.i64.wrap (x5_4 - 1)) = ji31 := (i64_w _).trans hji31
                  by_cases c32 : 0 ≤ (ji31)
                  ·rw [if_pos c32] at H
                   have c32b0 : decide (0 ≤ (ji31)) = true := decide_eq_true c32
                   clear c32
                   by_cases c33 : (ji31) < (l0_4.length : Int)
                   ·rw [if_pos c33] at H
                    have c33b0 : decide ((ji31) < (l0_4.length : Int)) = true := decide_eq_true c33
                    clear c33
                    by_cases c34 : (rd l0_4 (ji31)) ≥ (rd l0_4 x5_4)
                    ·rw [if_pos c34] at H
                     have c34b0 : decide ((rd l0_4 x5_4) ≤ (rd l0_4 (ji31))) = true := decide_eq_true c34
                     clear c34
                     obtain rfl := Option.some.inj H
                     have p248 : 0 ≤ (x5_4 : Int) := of_decide_eq_true (by first | (with_reducible assumption) | assumption)
                     have q248 : x5_4 < (l0_4.length : Int) := of_decide_eq_true (by first | (with_reducible assumption) | assumption)
                     obtain ⟨ad248, e248, hx248_0⟩ := Kd.at_int HR0_4.out x5_4 p248 q248
                     cases e248
                     replace hx248_0 := (HB.out.cell (World.block_lt_of_cell? w _ hx248_0)).trans hx248_0
                     replace p248 := eq_true p248; replace q248 := eq_true q248
                     have p249 : 0 ≤ (x5_4 : Int) := of_decide_eq_true (by first | (with_reducible assumption) | assumption)
                     have q249 : x5_4 < (l0_4.length : Int) := of_decide_eq_true (by first | (with_reducible assumption) | assumption)
                     obtain ⟨ad249, e249, hx249_0⟩ := Kd.at_int HR0_4.out x5_4 p249 q249
                     obtain rfl : ad248 = ad249 := (by injection e249)
                     replace hx249_0 := (HB.out.cell (World.block_lt_of_cell? w _ hx249_0)).trans hx249_0
                     replace p249 := eq_true p249; replace q249 := eq_true q249; have hcz35_0 : wr.cell? ⟨gb247, 0, none⟩ = some (.int .i64 a0_0) := (blk_cell BK247.out 0).trans rfl; have hcz35_1 : wr.cell? ⟨gb247, 1, none⟩ = some (.int .i64 a0_1) := (blk_cell BK247.out 1).trans rfl; have hcz35_2 : wr.cell? ⟨gb247, 2, none⟩ = some (.int .i64 a0_2) := (blk_cell BK247.out 2).trans rfl; have hcz35_3 : wr.cell? ⟨gb247, 3, none⟩ = some (.int .i64 a0_3) := (blk_cell BK247.out 3).trans rfl; have hcz35_4 : wr.cell? ⟨gb247, 4, none⟩ = some (.slice (some ad248) l0_4.length c0_4) := (blk_cell BK247.out 4).trans rfl; have hcz35_5 : wr.cell? ⟨gb247, 5, none⟩ = some (.slice A0_5 l0_5.length c0_5) := (blk_cell BK247.out 5).trans rfl; have hcz35_6 : wr.cell? ⟨gb247, 6, none⟩ = some (.slice A0_6 l0_6.length c0_6) := (blk_cell BK247.out 6).trans rfl; have hfz35_0 := blk_frozen BK247.out 0; have hfz35_1 := blk_frozen BK247.out 1; have hfz35_2 := blk_frozen BK247.out 2; have hfz35_3 := blk_frozen BK247.out 3; have hfz35_4 := blk_frozen BK247.out 4; have hfz35_5 := blk_frozen BK247.out 5; have hfz35_6 := blk_frozen BK247.out 6
                     have p250 : 0 ≤ ((ji31) : Int) := of_decide_eq_true (by first | (with_reducible assumption) | assumption)
                     have q250 : (ji31) < (l0_4.length : Int) := of_decide_eq_true (by first | (with_reducible assumption) | assumption)
                     obtain ⟨ad250, e250, hx250_0⟩ := Kd.at_int HR0_4.out (ji31) p250 q250
                     obtain rfl : ad248 = ad250 := (by injection e250)
                     replace hx250_0 := (HB.out.cell (World.block_lt_of_cell? w _ hx250_0)).trans hx250_0
                     replace p250 := eq_true p250; replace q250 := eq_true q250
                     have p251 : 0 ≤ (x5_4 : Int) := of_decide_eq_true (by first | (with_reducible assumption) | assumption)
                     have q251 : x5_4 < (l0_4.length : Int) := of_decide_eq_true (by first | (with_reducible assumption) | assumption)
                     obtain ⟨ad251, e251, hx251_0⟩ := Kd.at_int HR0_4.out x5_4 p251 q251
                     obtain rfl : ad248 = ad251 := (by injection e251)
                     replace hx251_0 := (HB.out.cell (World.block_lt_of_cell? w _ hx251_0)).trans hx251_0
                     replace p251 := eq_true p251; replace q251 := eq_true q251
                     go_wp2
                     repeat (go_quiet (fail); try go_wp2)
                     go_ret
                     exact ⟨by first | rfl | (simp [errW_none, errW_some] <;> rfl) | (simp only [← hji31]; first | rfl | (simp [errW_none, errW_some] <;> rfl)) | (simp [*, errW_none, errW_some] <;> rfl), by repeat (first | (with_reducible first | exact HB.out | apply wA | apply wN | apply wD | refine wS ?_ GE247.out) | exact HB.out)⟩
                    ·rw [if_neg c34] at H
                     have c34b0 : decide ((rd l0_4 x5_4) ≤ (rd l0_4 (ji31))) = false := decide_eq_false c34
                     clear c34
                     have H' := Aside0.mk H
                     clear H
                     have p248 : 0 ≤ (x5_4 : Int) := of_decide_eq_true (by first | (with_reducible assumption) | assumption)
                     have q248 : x5_4 < (l0_4.length : Int) := of_decide_eq_true (by first | (with_reducible assumption) | assumption)
                     obtain ⟨ad248, e248, hx248_0⟩ := Kd.at_int HR0_4.out x5_4 p248 q248
                     cases e248
                     replace hx248_0 := (HB.out.cell (World.block_lt_of_cell? w _ hx248_0)).trans hx248_0
                     replace p248 := eq_true p248; replace q248 := eq_true q248
                     have p249 : 0 ≤ (x5_4 : Int) := of_decide_eq_true (by first | (with_reducible assumption) | assumption)
                     have q249 : x5_4 < (l0_4.length : Int) := of_decide_eq_true (by first | (with_reducible assumption) | assumption)
                     obtain ⟨ad249, e249, hx249_0⟩ := Kd.at_int HR0_4.out x5_4 p249 q249
                     obtain rfl : ad248 = ad249 := (by injection e249)
                     replace hx249_0 := (HB.out.cell (World.block_lt_of_cell? w _ hx249_0)).trans hx249_0
                     replace p249 := eq_true p249; replace q249 := eq_true q249; have hcz36_0 : wr.cell? ⟨gb247, 0, none⟩ = some (.int .i64 a0_0) := (blk_cell BK247.out 0).trans rfl; have hcz36_1 : wr.cell? ⟨gb247, 1, none⟩ = some (.int .i64 a0_1) := (blk_cell BK247.out 1).trans rfl; have hcz36_2 : wr.cell? ⟨gb247, 2, none⟩ = some (.int .i64 a0_2) := (blk_cell BK247.out 2).trans rfl; have hcz36_3 : wr.cell? ⟨gb247, 3, none⟩ = some (.int .i64 a0_3) := (blk_cell BK247.out 3).trans rfl; have hcz36_4 : wr.cell? ⟨gb247, 4, none⟩ = some (.slice (some ad248) l0_4.length c0_4) := (blk_cell BK247.out 4).trans rfl; have hcz36_5 : wr.cell? ⟨gb247, 5, none⟩ = some (.slice A0_5 l0_5.length c0_5) := (blk_cell BK247.out 5).trans rfl; have hcz36_6 : wr.cell? ⟨gb247, 6, none⟩ = some (.slice A0_6 l0_6.length c0_6) := (blk_cell BK247.out 6).trans rfl; have hfz36_0 := blk_frozen BK247.out 0; have hfz36_1 := blk_frozen BK247.out 1; have hfz36_2 := blk_frozen BK247.out 2; have hfz36_3 := blk_frozen BK247.out 3; have hfz36_4 := blk_frozen BK247.out 4; have hfz36_5 := blk_frozen BK247.out 5; have hfz36_6 := blk_frozen BK247.out 6
                     have p250 : 0 ≤ ((ji31) : Int) := of_decide_eq_true (by first | (with_reducible assumption) | assumption)
                     have q250 : (ji31) < (l0_4.length : Int) := of_decide_eq_true (by first | (with_reducible assumption) | assumption)
                     obtain ⟨ad250, e250, hx250_0⟩ := Kd.at_int HR0_4.out (ji31) p250 q250
                     obtain rfl : ad248 = ad250 := (by injection e250)
                     replace hx250_0 := (HB.out.cell (World.block_lt_of_cell? w _ hx250_0)).trans hx250_0
                     replace p250 := eq_true p250; replace q250 := eq_true q250
                     have p251 : 0 ≤ (x5_4 : Int) := of_decide_eq_true (by first | (with_reducible assumption) | assumption)
                     have q251 : x5_4 < (l0_4.length : Int) := of_decide_eq_true (by first | (with_reducible assumption) | assumption)
                     obtain ⟨ad251, e251, hx251_0⟩ := Kd.at_int HR0_4.out x5_4 p251 q251
                     obtain rfl : ad248 = ad251 := (by injection e251)
                     replace hx251_0 := (HB.out.cell (World.block_lt_of_cell? w _ hx251_0)).trans hx251_0
                     replace p251 := eq_true p251; replace q251 := eq_true q251
                     go_wp2
                     repeat (go_quiet (fail); try go_wp2)
                     go_roundg k4
                     case measure => have := HJ1.out; have := HK2.out; have := HJ8.out; have := HK4.out; omega
                     case rel => exact ⟨(wrap64 (x5_4 + 1)), (by first | rfl | (simp; done) | (simp [*]; done)), H', ⟨by have := HJ1.out; have := HK2.out; have := HJ8.out; have := HK4.out; omega⟩, ⟨by (with_reducible repeat (first | refine bN ?_ _ | refine bD ?_ | refine bA ?_ _)); exact BK247.out⟩, ⟨by repeat (first | (with_reducible first | exact HB.out | apply wA | apply wN | apply wD | refine wS ?_ GE247.out) | exact HB.out)⟩⟩
                   ·rw [if_neg c33] at H
                    exact absurd H (by simp)
                  ·rw [if_neg c32] at H
                   exact absurd H (by simp)
                 ·rw [if_neg c30] at H
                  have c30b0 : decide (0 < x5_4) = false := decide_eq_false c30
                  clear c30
                  have H' := Aside0.mk H
                  clear H
                  have p248 : 0 ≤ (x5_4 : Int) := of_decide_eq_true (by first | (with_reducible assumption) | assumption)
                  have q248 : x5_4 < (l0_4.length : Int) := of_decide_eq_true (by first | (with_reducible assumption) | assumption)
                  obtain ⟨ad248, e248, hx248_0⟩ := Kd.at_int HR0_4.out x5_4 p248 q248
                  cases e248
                  replace hx248_0 := (HB.out.cell (World.block_lt_of_cell? w _ hx248_0)).trans hx248_0
                  replace p248 := eq_true p248; replace q248 := eq_true q248
                  have p249 : 0 ≤ (x5_4 : Int) := of_decide_eq_true (by first | (with_reducible assumption) | assumption)
                  have q249 : x5_4 < (l0_4.length : Int) := of_decide_eq_true (by first | (with_reducible assumption) | assumption)
                  obtain ⟨ad249, e249, hx249_0⟩ := Kd.at_int HR0_4.out x5_4 p249 q249
                  obtain rfl : ad248 = ad249 := (by injection e249)
                  replace hx249_0 := (HB.out.cell (World.block_lt_of_cell? w _ hx249_0)).trans hx249_0
                  replace p249 := eq_true p249; replace q249 := eq_true q249; have hcz37_0 : wr.cell? ⟨gb247, 0, none⟩ = some (.int .i64 a0_0) := (blk_cell BK247.out 0).trans rfl; have hcz37_1 : wr.cell? ⟨gb247, 1, none⟩ = some (.int .i64 a0_1) := (blk_cell BK247.out 1).trans rfl; have hcz37_2 : wr.cell? ⟨gb247, 2, none⟩ = some (.int .i64 a0_2) := (blk_cell BK247.out 2).trans rfl; have hcz37_3 : wr.cell? ⟨gb247, 3, none⟩ = some (.int .i64 a0_3) := (blk_cell BK247.out 3).trans rfl; have hcz37_4 : wr.cell? ⟨gb247, 4, none⟩ = some (.slice (some ad248) l0_4.length c0_4) := (blk_cell BK247.out 4).trans rfl; have hcz37_5 : wr.cell? ⟨gb247, 5, none⟩ = some (.slice A0_5 l0_5.length c0_5) := (blk_cell BK247.out 5).trans rfl; have hcz37_6 : wr.cell? ⟨gb247, 6, none⟩ = some (.slice A0_6 l0_6.length c0_6) := (blk_cell BK247.out 6).trans rfl; have hfz37_0 := blk_frozen BK247.out 0; have hfz37_1 := blk_frozen BK247.out 1; have hfz37_2 := blk_frozen BK247.out 2; have hfz37_3 := blk_frozen BK247.out 3; have hfz37_4 := blk_frozen BK247.out 4; have hfz37_5 := blk_frozen BK247.out 5; have hfz37_6 := blk_frozen BK247.out 6
                  go_wp2
                  repeat (go_quiet (fail); try go_wp2)
                  go_roundg k4
                  case measure => have := HJ1.out; have := HK2.out; have := HJ8.out; have := HK4.out; omega
                  case rel => exact ⟨(wrap64 (x5_4 + 1)), (by first | rfl | (simp; done) | (simp [*]; done)), H', ⟨by have := HJ1.out; have := HK2.out; have := HJ8.out; have := HK4.out; omega⟩, ⟨by (with_reducible repeat (first | refine bN ?_ _ | refine bD ?_ | refine bA ?_ _)); exact BK247.out⟩, ⟨by repeat (first | (with_reducible first | exact HB.out | apply wA | apply wN | apply wD | refine wS ?_ GE247.out) | exact HB.out)⟩⟩
              ·rw [if_neg c26] at H
               exact absurd H (by simp)
             ·rw [if_neg c25] at H
              have c25b0 : decide (x5_4 < (l0_4.length : Int)) = false := decide_eq_false c25
              clear c25
              have H' := Aside0.mk H
              clear H
              go_wp2
              repeat (go_quiet (fail); try go_wp2)
              go_roundg k4
              case measure => have := HJ1.out; have := HK2.out; have := HJ8.out; have := HK4.out; omega
              case rel => exact ⟨(1), (by first | rfl | (simp; done) | (simp [*]; done)), H', ⟨by have := HJ1.out; have := HK2.out; have := HJ8.out; have := HK4.out; omega⟩, ⟨by (with_reducible repeat (first | refine bN ?_ _ | refine bD ?_ | refine bA ?_ _)); exact BK247.out⟩, ⟨by repeat (first | (with_reducible first | exact HB.out | apply wA | apply wN | apply wD | refine wS ?_ GE247.out) | exact HB.out)⟩⟩
          ·rw [if_neg c23] at H
           by_cases c38 : x3_2 = 1
           ·subst c38
            have H1 : (ndjqref18_Valid.l101 kj8 l0_5 0 a0_0 a0_1 a0_2 a0_3 l0_4 l0_5 l0_6) = some r := by rw [if_pos rfl] at H; exact H
            clear H; have H := H1; clear H1
            have H' := Aside0.mk H
            clear H; have hcz39_0 : wc.cell? ⟨gb247, 0, none⟩ = some (.int .i64 a0_0) := (blk_cell BK247.out 0).trans rfl; have hcz39_1 : wc.cell? ⟨gb247, 1, none⟩ = some (.int .i64 a0_1) := (blk_cell BK247.out 1).trans rfl; have hcz39_2 : wc.cell? ⟨gb247, 2, none⟩ = some (.int .i64 a0_2) := (blk_cell BK247.out 2).trans rfl; have hcz39_3 : wc.cell? ⟨gb247, 3, none⟩ = some (.int .i64 a0_3) := (blk_cell BK247.out 3).trans rfl; have hcz39_4 : wc.cell? ⟨gb247, 4, none⟩ = some (.slice A0_4 l0_4.length c0_4) := (blk_cell BK247.out 4).trans rfl; have hcz39_5 : wc.cell? ⟨gb247, 5, none⟩ = some (.slice A0_5 l0_5.length c0_5) := (blk_cell BK247.out 5).trans rfl; have hcz39_6 : wc.cell? ⟨gb247, 6, none⟩ = some (.slice A0_6 l0_6.length c0_6) := (blk_cell BK247.out 6).trans rfl; have hfz39_0 := blk_frozen BK247.out 0; have hfz39_1 := blk_frozen BK247.out 1; have hfz39_2 := blk_frozen BK247.out 2; have hfz39_3 := blk_frozen BK247.out 3; have hfz39_4 := blk_frozen BK247.out 4; have hfz39_5 := blk_frozen BK247.out 5; have hfz39_6 := blk_frozen BK247.out 6
            go_wp2
            repeat (go_quiet (fail); try go_wp2)
            go_loopg [5] kj8 (fun kq v5 w' => ∃ (x5_4 : Int), v5 = .int .i64 x5_4 ∧ Aside0 (ndjqref18_Valid.l101 kq l0_5 x5_4 a0_0 a0_1 a0_2 a0_3 l0_4 l0_5 l0_6 = some r) ∧ Aside0 (kq ≤ kj8) ∧ Aside0 (w'.heap[gb247]? = some (.cells #[.int .i64 a0_0, .int .i64 a0_1, .int .i64 a0_2, .int .i64 a0_3, (.slice A0_4 l0_4.length c0_4), (.slice A0_5 l0_5.length c0_5), (.slice A0_6 l0_6.length c0_6)] 26 (0, 0))) ∧ Aside0 (Below w.heap.size w w'))
            case atStart => exact ⟨(0), (by first | rfl | (simp; done) | (simp [*]; done)), H', ⟨Nat.le_refl _⟩, ⟨by (with_reducible repeat (first | refine bN ?_ _ | refine bD ?_ | refine bA ?_ _)); exact BK247.out⟩, ⟨by repeat (first | (with_reducible first | exact HB.out | apply wA | apply wN | apply wD | refine wS ?_ GE247.out) | exact HB.out)⟩⟩
            case round =>
             clear H'
             (try clear q2); (try clear hx2); (try clear c3); (try clear p6); (try clear c22); (try clear c23); (try clear p24); (try clear q24); (try clear hx24); (try clear c25); (try clear c25b0); (try clear p25); (try clear q25); (try clear hx25); (try clear c26); (try clear c26b0); (try clear c27); (try clear c27b0); (try clear c28); (try clear c28b0); (try clear c30); (try clear c30b0); (try clear c32); (try clear c32b0); (try clear c33); (try clear c33b0); (try clear c34); (try clear c34b0); (try clear c38); (try clear hcz24_0); (try clear hcz24_1); (try clear hcz24_2); (try clear hcz24_3); (try clear hcz24_4); (try clear hcz24_5); (try clear hcz24_6); (try clear hcz29_0); (try clear hcz29_1); (try clear hcz29_2); (try clear hcz29_3); (try clear hcz29_4); (try clear hcz29_5); (try clear hcz29_6); (try clear hcz35_0); (try clear hcz35_1); (try clear hcz35_2); (try clear hcz35_3); (try clear hcz35_4); (try clear hcz35_5); (try clear hcz35_6); (try clear hcz36_0); (try clear hcz36_1); (try clear hcz36_2); (try clear hcz36_3); (try clear hcz36_4); (try clear hcz36_5); (try clear hcz36_6); (try clear hcz37_0); (try clear hcz37_1); (try clear hcz37_2); (try clear hcz37_3); (try clear hcz37_4); (try clear hcz37_5); (try clear hcz37_6); (try clear hcz39_0); (try clear hcz39_1); (try clear hcz39_2); (try clear hcz39_3); (try clear hcz39_4); (try clear hcz39_5); (try clear hcz39_6); (try clear hfz24_0); (try clear hfz24_1); (try clear hfz24_2); (try clear hfz24_3); (try clear hfz24_4); (try clear hfz24_5); (try clear hfz24_6); (try clear hfz29_0); (try clear hfz29_1); (try clear hfz29_2); (try clear hfz29_3); (try clear hfz29_4); (try clear hfz29_5); (try clear hfz29_6); (try clear hfz35_0); (try clear hfz35_1); (try clear hfz35_2); (try clear hfz35_3); (try clear hfz35_4); (try clear hfz35_5); (try clear hfz35_6); (try clear hfz36_0); (try clear hfz36_1); (try clear hfz36_2); (try clear hfz36_3); (try clear hfz36_4); (try clear hfz36_5); (try clear hfz36_6); (try clear hfz37_0); (try clear hfz37_1); (try clear hfz37_2); (try clear hfz37_3); (try clear hfz37_4); (try clear hfz37_5); (try clear hfz37_6); (try clear hfz39_0); (try clear hfz39_1); (try clear hfz39_2); (try clear hfz39_3); (try clear hfz39_4); (try clear hfz39_5); (try clear hfz39_6); (try clear hx248_0); (try clear hx249_0); (try clear hx250_0); (try clear hx251_0); (try clear p248); (try clear p249); (try clear p250); (try clear p251); (try clear q248); (try clear q249); (try clear q250); (try clear q251)
             obtain ⟨x5_4, rfl, HA, HK4, BK247, HB⟩ := hrel
             cases gk with
             | zero => exact absurd HA.out (by simp [ndjqref18_Valid.l101])
             | succ k4 =>
              have H := HA.out
              clear HA
              simp only [ndjqref18_Valid.l101] at H
              by_cases c40 : x5_4 < (l0_5.length : Int)
              ·rw [if_pos c40] at H
               have c40b0 : decide (x5_4 < (l0_5.length : Int)) = true := decide_eq_true c40
               clear c40
               by_cases c41 : 0 ≤ x5_4
               ·rw [if_pos c41] at H
                have c41b0 : decide (0 ≤ x5_4) = true := decide_eq_true c41
                clear c41
                by_cases c42 : (rd l0_5 x5_4) < 0
                ·rw [if_pos c42] at H
                 have c42b0 : decide ((rd l0_5 x5_4) < 0) = true := decide_eq_true c42
                 clear c42
                 obtain rfl := Option.some.inj H
                 have p252 : 0 ≤ (x5_4 : Int) := of_decide_eq_true (by first | (with_reducible assumption) | assumption)
                 have q252 : x5_4 < (l0_5.length : Int) := of_decide_eq_true (by first | (with_reducible assumption) | assumption)
                 obtain ⟨ad252, e252, hx252_0⟩ := Kd.at_int HR0_5.out x5_4 p252 q252
                 cases e252
                 replace hx252_0 := (HB.out.cell (World.block_lt_of_cell? w _ hx252_0)).trans hx252_0
                 replace p252 := eq_true p252; replace q252 := eq_true q252
                 go_wp2
                 repeat (go_quiet (fail); try go_wp2)
                 go_ret
                 exact ⟨by first | rfl | (simp [errW_none, errW_some] <;> rfl) | (simp [*, errW_none, errW_some] <;> rfl), by repeat (first | (with_reducible first | exact HB.out | apply wA | apply wN | apply wD | refine wS ?_ GE247.out) | exact HB.out)⟩
                ·rw [if_neg c42] at H
                 have c42b0 : decide ((rd l0_5 x5_4) < 0) = false := decide_eq_false c42
                 clear c42
                 by_cases c43 : (rd l0_5 x5_4) ≥ a0_0
                 ·rw [if_pos c43] at H
                  have c43b0 : decide (a0_0 ≤ (rd l0_5 x5_4)) = true := decide_eq_true c43
                  clear c43
                  obtain rfl := Option.some.inj H
                  have p252 : 0 ≤ (x5_4 : Int) := of_decide_eq_true (by first | (with_reducible assumption) | assumption)
                  have q252 : x5_4 < (l0_5.length : Int) := of_decide_eq_true (by first | (with_reducible assumption) | assumption)
                  obtain ⟨ad252, e252, hx252_0⟩ := Kd.at_int HR0_5.out x5_4 p252 q252
                  cases e252
                  replace hx252_0 := (HB.out.cell (World.block_lt_of_cell? w _ hx252_0)).trans hx252_0
                  replace p252 := eq_true p252; replace q252 := eq_true q252
                  have p253 : 0 ≤ (x5_4 : Int) := of_decide_eq_true (by first | (with_reducible assumption) | assumption)
                  have q253 : x5_4 < (l0_5.length : Int) := of_decide_eq_true (by first | (with_reducible assumption) | assumption)
                  obtain ⟨ad253, e253, hx253_0⟩ := Kd.at_int HR0_5.out x5_4 p253 q253
                  obtain rfl : ad252 = ad253 := (by injection e253)
                  replace hx253_0 := (HB.out.cell (World.block_lt_of_cell? w _ hx253_0)).trans hx253_0
                  replace p253 := eq_true p253; replace q253 := eq_true q253; have hcz44_0 : wr.cell? ⟨gb247, 0, none⟩ = some (.int .i64 a0_0) := (blk_cell BK247.out 0).trans rfl; have hcz44_1 : wr.cell? ⟨gb247, 1, none⟩ = some (.int .i64 a0_1) := (blk_cell BK247.out 1).trans rfl; have hcz44_2 : wr.cell? ⟨gb247, 2, none⟩ = some (.int .i64 a0_2) := (blk_cell BK247.out 2).trans rfl; have hcz44_3 : wr.cell? ⟨gb247, 3, none⟩ = some (.int .i64 a0_3) := (blk_cell BK247.out 3).trans rfl; have hcz44_4 : wr.cell? ⟨gb247, 4, none⟩ = some (.slice A0_4 l0_4.length c0_4) := (blk_cell BK247.out 4).trans rfl; have hcz44_5 : wr.cell? ⟨gb247, 5, none⟩ = some (.slice (some ad252) l0_5.length c0_5) := (blk_cell BK247.out 5).trans rfl; have hcz44_6 : wr.cell? ⟨gb247, 6, none⟩ = some (.slice A0_6 l0_6.length c0_6) := (blk_cell BK247.out 6).trans rfl; have hfz44_0 := blk_frozen BK247.out 0; have hfz44_1 := blk_frozen BK247.out 1; have hfz44_2 := blk_frozen BK247.out 2; have hfz44_3 := blk_frozen BK247.out 3; have hfz44_4 := blk_frozen BK247.out 4; have hfz44_5 := blk_frozen BK247.out 5; have hfz44_6 := blk_frozen BK247.out 6
                  go_wp2
                  repeat (go_quiet (fail); try go_wp2)
                  go_ret
                  exact ⟨by first | rfl | (simp [errW_none, errW_some] <;> rfl) | (simp [*, errW_none, errW_some] <;> rfl), by repeat (first | (with_reducible first | exact HB.out | apply wA | apply wN | apply wD | refine wS ?_ GE247.out) | exact HB.out)⟩
                 ·rw [if_neg c43] at H
                  have c43b0 : decide (a0_0 ≤ (rd l0_5 x5_4)) = false := decide_eq_false c43
                  clear c43
                  by_cases c45 : x5_4 > 0
                  ·rw [if_pos c45] at H
                   have c45b0 : decide (0 < x5_4) = true := decide_eq_true c45
                   clear c45
                   obtain ⟨ji46, hji46⟩ : ∃ j_ : Int, (wrap64 (x5_4 - 1)) = j_ := ⟨_, rfl⟩
                   replace H : (if 0 ≤ (ji46) then (if (ji46) < (l0_5.length : Int) then (if (rd l0_5 (ji46)) ≥ (rd l0_5 x5_4) then (some false) else (ndjqref18_Valid.l101 k4 l0_5 (wrap64 (x5_4 + 1)) a0_0 a0_1 a0_2 a0_3 l0_4 l0_5 l0_6)) else (none)) else (none)) = some r := by first | (rw [hji46] at H; exact H) | (simp only [hji46] at H ⊢; exact H)
                   have hji46w : (IntKind.i64.wrap (x5_4 - 1)) = ji46 := (i64_w _).trans hji46
                   by_cases c47 : 0 ≤ (ji46)
                   ·rw [if_pos c47] at H
                    have c47b0 : decide (0 ≤ (ji46)) = true := decide_eq_true c47
                    clear c47
                    by_cases c48 : (ji46) < (l0_5.length : Int)
                    ·rw [if_pos c48] at H
                     have c48b0 : decide ((ji46) < (l0_5.length : Int)) = true := decide_eq_true c48
                     clear c48
                     by_cases c49 : (rd l0_5 (ji46)) ≥ (rd l0_5 x5_4)
                     ·rw [if_pos c49] at H
                      have c49b0 : decide ((rd l0_5 x5_4) ≤ (rd l0_5 (ji46))) = true := decide_eq_true c49
                      clear c49
                      obtain rfl := Option.some.inj H
                      have p252 : 0 ≤ (x5_4 : Int) := of_decide_eq_true (by first | (with_reducible assumption) | assumption)
                      have q252 : x5_4 < (l0_5.length : Int) := of_decide_eq_true (by first | (with_reducible assumption) | assumption)
                      obtain ⟨ad252, e252, hx252_0⟩ := Kd.at_int HR0_5.out x5_4 p252 q252
                      cases e252
                      replace hx252_0 := (HB.out.cell (World.block_lt_of_cell? w _ hx252_0)).trans hx252_0
                      replace p252 := eq_true p252; replace q252 := eq_true q252
                      have p253 : 0 ≤ (x5_4 : Int) := of_decide_eq_true (by first | (with_reducible assumption) | assumption)
                      have q253 : x5_4 < (l0_5.length : Int) := of_decide_eq_true (by first | (with_reducible assumption) | assumption)
                      obtain ⟨ad253, e253, hx253_0⟩ := Kd.at_int HR0_5.out x5_4 p253 q253
                      obtain rfl : ad252 = ad253 := (by injection e253)
                      replace hx253_0 := (HB.out.cell (World.block_lt_of_cell? w _ hx253_0)).trans hx253_0
                      replace p253 := eq_true p253; replace q253 := eq_true q253; have hcz50_0 : wr.cell? ⟨gb247, 0, none⟩ = some (.int .i64 a0_0) := (blk_cell BK247.out 0).trans rfl; have hcz50_1 : wr.cell? ⟨gb247, 1, none⟩ = some (.int .i64 a0_1) := (blk_cell BK247.out 1).trans rfl; have hcz50_2 : wr.cell? ⟨gb247, 2, none⟩ = some (.int .i64 a0_2) := (blk_cell BK247.out 2).trans rfl; have hcz50_3 : wr.cell? ⟨gb247, 3, none⟩ = some (.int .i64 a0_3) := (blk_cell BK247.out 3).trans rfl; have hcz50_4 : wr.cell? ⟨gb247, 4, none⟩ = some (.slice A0_4 l0_4.length c0_4) := (blk_cell BK247.out 4).trans rfl; have hcz50_5 : wr.cell? ⟨gb247, 5, none⟩ = some (.slice (some ad252) l0_5.length c0_5) := (blk_cell BK247.out 5).trans rfl; have hcz50_6 : wr.cell? ⟨gb247, 6, none⟩ = some (.slice A0_6 l0_6.length c0_6) := (blk_cell BK247.out 6).trans rfl; have hfz50_0 := blk_frozen BK247.out 0; have hfz50_1 := blk_frozen BK247.out 1; have hfz50_2 := blk_frozen BK247.out 2; have hfz50_3 := blk_frozen BK247.out 3; have hfz50_4 := blk_frozen BK247.out 4; have hfz50_5 := blk_frozen BK247.out 5; have hfz50_6 := blk_frozen BK247.out 6
                      have p254 : 0 ≤ ((ji46) : Int) := of_decide_eq_true (by first | (with_reducible assumption) | assumption)
                      have q254 : (ji46) < (l0_5.length : Int) := of_decide_eq_true (by first | (with_reducible assumption) | assumption)
                      obtain ⟨ad254, e254, hx254_0⟩ := Kd.at_int HR0_5.out (ji46) p254 q254
                      obtain rfl : ad252 = ad254 := (by injection e254)
                      replace hx254_0 := (HB.out.cell (World.block_lt_of_cell? w _ hx254_0)).trans hx254_0
                      replace p254 := eq_true p254; replace q254 := eq_true q254
                      have p255 : 0 ≤ (x5_4 : Int) := of_decide_eq_true (by first | (with_reducible assumption) | assumption)
                      have q255 : x5_4 < (l0_5.length : Int) := of_decide_eq_true (by first | (with_reducible assumption) | assumption)
                      obtain ⟨ad255, e255, hx255_0⟩ := Kd.at_int HR0_5.out x5_4 p255 q255
                      obtain rfl : ad252 = ad255 := (by injection e255)
                      replace hx255_0 := (HB.out.cell (World.block_lt_of_cell? w _ hx255_0)).trans hx255_0
                      replace p255 := eq_true p255; replace q255 := eq_true q255
                      go_wp2
                      repeat (go_quiet (fail); try go_wp2)
                      go_ret
                      exact ⟨by first | rfl | (simp [errW_none, errW_some] <;> rfl) | (simp only [← hji46]; first | rfl | (simp [errW_none, errW_some] <;> rfl)) | (simp [*, errW_none, errW_some] <;> rfl), by repeat (first | (with_reducible first | exact HB.out | apply wA | apply wN | apply wD | refine wS ?_ GE247.out) | exact HB.out)⟩
                     ·rw [if_neg c49] at H
                      have c49b0 : decide ((rd l0_5 x5_4) ≤ (rd l0_5 (ji46))) = false := decide_eq_false c49
                      clear c49
                      have H' := Aside0.mk H
                      clear H
                      have p252 : 0 ≤ (x5_4 : Int) := of_decide_eq_true (by first | (with_reducible assumption) | assumption)
                      have q252 : x5_4 < (l0_5.length : Int) := of_decide_eq_true (by first | (with_reducible assumption) | assumption)
                      obtain ⟨ad252, e252, hx252_0⟩ := Kd.at_int HR0_5.out x5_4 p252 q252
                      cases e252
                      replace hx252_0 := (HB.out.cell (World.block_lt_of_cell? w _ hx252_0)).trans hx252_0
                      replace p252 := eq_true p252; replace q252 := eq_true q252
                      have p253 : 0 ≤ (x5_4 : Int) := of_decide_eq_true (by first | (with_reducible assumption) | assumption)
                      have q253 : x5_4 < (l0_5.length : Int) := of_decide_eq_true (by first | (with_reducible assumption) | assumption)
                      obtain ⟨ad253, e253, hx253_0⟩ := Kd.at_int HR0_5.out x5_4 p253 q253
                      obtain rfl : ad252 = ad253 := (by injection e253)
                      replace hx253_0 := (HB.out.cell (World.block_lt_of_cell? w _ hx253_0)).trans hx253_0
                      replace p253 := eq_true p253; replace q253 := eq_true q253; have hcz51_0 : wr.cell? ⟨gb247, 0, none⟩ = some (.int .i64 a0_0) := (blk_cell BK247.out 0).trans rfl; have hcz51_1 : wr.cell? ⟨gb247, 1, none⟩ = some (.int .i64 a0_1) := (blk_cell BK247.out 1).trans rfl; have hcz51_2 : wr.cell? ⟨gb247, 2, none⟩ = some (.int .i64 a0_2) := (blk_cell BK247.out 2).trans rfl; have hcz51_3 : wr.cell? ⟨gb247, 3, none⟩ = some (.int .i64 a0_3) := (blk_cell BK247.out 3).trans rfl; have hcz51_4 : wr.cell? ⟨gb247, 4, none⟩ = some (.slice A0_4 l0_4.length c0_4) := (blk_cell BK247.out 4).trans rfl; have hcz51_5 : wr.cell? ⟨gb247, 5, none⟩ = some (.slice (some ad252) l0_5.length c0_5) := (blk_cell BK247.out 5).trans rfl; have hcz51_6 : wr.cell? ⟨gb247, 6, none⟩ = some (.slice A0_6 l0_6.length c0_6) := (blk_cell BK247.out 6).trans rfl; have hfz51_0 := blk_frozen BK247.out 0; have hfz51_1 := blk_frozen BK247.out 1; have hfz51_2 := blk_frozen BK247.out 2; have hfz51_3 := blk_frozen BK247.out 3; have hfz51_4 := blk_frozen BK247.out 4; have hfz51_5 := blk_frozen BK247.out 5; have hfz51_6 := blk_frozen BK247.out 6
                      have p254 : 0 ≤ ((ji46) : Int) := of_decide_eq_true (by first | (with_reducible assumption) | assumption)
                      have q254 : (ji46) < (l0_5.length : Int) := of_decide_eq_true (by first | (with_reducible assumption) | assumption)
                      obtain ⟨ad254, e254, hx254_0⟩ := Kd.at_int HR0_5.out (ji46) p254 q254
                      obtain rfl : ad252 = ad254 := (by injection e254)
                      replace hx254_0 := (HB.out.cell (World.block_lt_of_cell? w _ hx254_0)).trans hx254_0
                      replace p254 := eq_true p254; replace q254 := eq_true q254
                      have p255 : 0 ≤ (x5_4 : Int) := of_decide_eq_true (by first | (with_reducible assumption) | assumption)
                      have q255 : x5_4 < (l0_5.length : Int) := of_decide_eq_true (by first | (with_reducible assumption) | assumption)
                      obtain ⟨ad255, e255, hx255_0⟩ := Kd.at_int HR0_5.out x5_4 p255 q255
                      obtain rfl : ad252 = ad255 := (by injection e255)
                      replace hx255_0 := (HB.out.cell (World.block_lt_of_cell? w _ hx255_0)).trans hx255_0
                      replace p255 := eq_true p255; replace q255 := eq_true q255
                      go_wp2
                      repeat (go_quiet (fail); try go_wp2)
                      go_roundg k4
                      case measure => have := HJ1.out; have := HK2.out; have := HJ8.out; have := HK4.out; omega
                      case rel => exact ⟨(wrap64 (x5_4 + 1)), (by first | rfl | (simp; done) | (simp [*]; done)), H', ⟨by have := HJ1.out; have := HK2.out; have := HJ8.out; have := HK4.out; omega⟩, ⟨by (with_reducible repeat (first | refine bN ?_ _ | refine bD ?_ | refine bA ?_ _)); exact BK247.out⟩, ⟨by repeat (first | (with_reducible first | exact HB.out | apply wA | apply wN | apply wD | refine wS ?_ GE247.out) | exact HB.out)⟩⟩
                    ·rw [if_neg c48] at H
                     exact absurd H (by simp)
                   ·rw [if_neg c47] at H
                    exact absurd H (by simp)
                  ·rw [if_neg c45] at H
                   have c45b0 : decide (0 < x5_4) = false := decide_eq_false c45
                   clear c45
                   have H' := Aside0.mk H
                   clear H
                   have p252 : 0 ≤ (x5_4 : Int) := of_decide_eq_true (by first | (with_reducible assumption) | assumption)
                   have q252 : x5_4 < (l0_5.length : Int) := of_decide_eq_true (by first | (with_reducible assumption) | assumption)
                   obtain ⟨ad252, e252, hx252_0⟩ := Kd.at_int HR0_5.out x5_4 p252 q252
                   cases e252
                   replace hx252_0 := (HB.out.cell (World.block_lt_of_cell? w _ hx252_0)).trans hx252_0
                   replace p252 := eq_true p252; replace q252 := eq_true q252
                   have p253 : 0 ≤ (x5_4 : Int) := of_decide_eq_true (by first | (with_reducible assumption) | assumption)
                   have q253 : x5_4 < (l0_5.length : Int) := of_decide_eq_true (by first | (with_reducible assumption) | assumption)
                   obtain ⟨ad253, e253, hx253_0⟩ := Kd.at_int HR0_5.out x5_4 p253 q253
                   obtain rfl : ad252 = ad253 := (by injection e253)
                   replace hx253_0 := (HB.out.cell (World.block_lt_of_cell? w _ hx253_0)).trans hx253_0
                   replace p253 := eq_true p253; replace q253 := eq_true q253; have hcz52_0 : wr.cell? ⟨gb247, 0, none⟩ = some (.int .i64 a0_0) := (blk_cell BK247.out 0).trans rfl; have hcz52_1 : wr.cell? ⟨gb247, 1, none⟩ = some (.int .i64 a0_1) := (blk_cell BK247.out 1).trans rfl; have hcz52_2 : wr.cell? ⟨gb247, 2, none⟩ = some (.int .i64 a0_2) := (blk_cell BK247.out 2).trans rfl; have hcz52_3 : wr.cell? ⟨gb247, 3, none⟩ = some (.int .i64 a0_3) := (blk_cell BK247.out 3).trans rfl; have hcz52_4 : wr.cell? ⟨gb247, 4, none⟩ = some (.slice A0_4 l0_4.length c0_4) := (blk_cell BK247.out 4).trans rfl; have hcz52_5 : wr.cell? ⟨gb247, 5, none⟩ = some (.slice (some ad252) l0_5.length c0_5) := (blk_cell BK247.out 5).trans rfl; have hcz52_6 : wr.cell? ⟨gb247, 6, none⟩ = some (.slice A0_6 l0_6.length c0_6) := (blk_cell BK247.out 6).trans rfl; have hfz52_0 := blk_frozen BK247.out 0; have hfz52_1 := blk_frozen BK247.out 1; have hfz52_2 := blk_frozen BK247.out 2; have hfz52_3 := blk_frozen BK247.out 3; have hfz52_4 := blk_frozen BK247.out 4; have hfz52_5 := blk_frozen BK247.out 5; have hfz52_6 := blk_frozen BK247.out 6
                   go_wp2
                   repeat (go_quiet (fail); try go_wp2)
                   go_roundg k4
                   case measure => have := HJ1.out; have := HK2.out; have := HJ8.out; have := HK4.out; omega
                   case rel => exact ⟨(wrap64 (x5_4 + 1)), (by first | rfl | (simp; done) | (simp [*]; done)), H', ⟨by have := HJ1.out; have := HK2.out; have := HJ8.out; have := HK4.out; omega⟩, ⟨by (with_reducible repeat (first | refine bN ?_ _ | refine bD ?_ | refine bA ?_ _)); exact BK247.out⟩, ⟨by repeat (first | (with_reducible first | exact HB.out | apply wA | apply wN | apply wD | refine wS ?_ GE247.out) | exact HB.out)⟩⟩
               ·rw [if_neg c41] at H
                exact absurd H (by simp)
              ·rw [if_neg c40] at H
               have c40b0 : decide (x5_4 < (l0_5.length : Int)) = false := decide_eq_false c40
               clear c40
               have H' := Aside0.mk H
               clear H
               go_wp2
               repeat (go_quiet (fail); try go_wp2)
               go_roundg k4
               case measure => have := HJ1.out; have := HK2.out; have := HJ8.out; have := HK4.out; omega
               case rel => exact ⟨(2), (by first | rfl | (simp; done) | (simp [*]; done)), H', ⟨by have := HJ1.out; have := HK2.out; have := HJ8.out; have := HK4.out; omega⟩, ⟨by (with_reducible repeat (first | refine bN ?_ _ | refine bD ?_ | refine bA ?_ _)); exact BK247.out⟩, ⟨by repeat (first | (with_reducible first | exact HB.out | apply wA | apply wN | apply wD | refine wS ?_ GE247.out) | exact HB.out)⟩⟩
           ·rw [if_neg c38] at H
            by_cases c53 : x3_2 = 2
            ·subst c53
             have H1 : (ndjqref18_Valid.l201 kj8 l0_6 0 a0_0 a0_1 a0_2 a0_3 l0_4 l0_5 l0_6) = some r := by rw [if_pos rfl] at H; exact H
             clear H; have H := H1; clear H1
             have H' := Aside0.mk H
             clear H; have hcz54_0 : wc.cell? ⟨gb247, 0, none⟩ = some (.int .i64 a0_0) := (blk_cell BK247.out 0).trans rfl; have hcz54_1 : wc.cell? ⟨gb247, 1, none⟩ = some (.int .i64 a0_1) := (blk_cell BK247.out 1).trans rfl; have hcz54_2 : wc.cell? ⟨gb247, 2, none⟩ = some (.int .i64 a0_2) := (blk_cell BK247.out 2).trans rfl; have hcz54_3 : wc.cell? ⟨gb247, 3, none⟩ = some (.int .i64 a0_3) := (blk_cell BK247.out 3).trans rfl; have hcz54_4 : wc.cell? ⟨gb247, 4, none⟩ = some (.slice A0_4 l0_4.length c0_4) := (blk_cell BK247.out 4).trans rfl; have hcz54_5 : wc.cell? ⟨gb247, 5, none⟩ = some (.slice A0_5 l0_5.length c0_5) := (blk_cell BK247.out 5).trans rfl; have hcz54_6 : wc.cell? ⟨gb247, 6, none⟩ = some (.slice A0_6 l0_6.length c0_6) := (blk_cell BK247.out 6).trans rfl; have hfz54_0 := blk_frozen BK247.out 0; have hfz54_1 := blk_frozen BK247.out 1; have hfz54_2 := blk_frozen BK247.out 2; have hfz54_3 := blk_frozen BK247.out 3; have hfz54_4 := blk_frozen BK247.out 4; have hfz54_5 := blk_frozen BK247.out 5; have hfz54_6 := blk_frozen BK247.out 6
             go_wp2
             repeat (go_quiet (fail); try go_wp2)
             go_loopg [5] kj8 (fun kq v5 w' => ∃ (x5_4 : Int), v5 = .int .i64 x5_4 ∧ Aside0 (ndjqref18_Valid.l201 kq l0_6 x5_4 a0_0 a0_1 a0_2 a0_3 l0_4 l0_5 l0_6 = some r) ∧ Aside0 (kq ≤ kj8) ∧ Aside0 (w'.heap[gb247]? = some (.cells #[.int .i64 a0_0, .int .i64 a0_1, .int .i64 a0_2, .int .i64 a0_3, (.slice A0_4 l0_4.length c0_4), (.slice A0_5 l0_5.length c0_5), (.slice A0_6 l0_6.length c0_6)] 26 (0, 0))) ∧ Aside0 (Below w.heap.size w w'))
             case atStart => exact ⟨(0), (by first | rfl | (simp; done) | (simp [*]; done)), H', ⟨Nat.le_refl _⟩, ⟨by (with_reducible repeat (first | refine bN ?_ _ | refine bD ?_ | refine bA ?_ _)); exact BK247.out⟩, ⟨by repeat (first | (with_reducible first | exact HB.out | apply wA | apply wN | apply wD | refine wS ?_ GE247.out) | exact HB.out)⟩⟩
             case round =>
              clear H'
              (try clear q2); (try clear hx2); (try clear c3); (try clear c5); (try clear p6); (try clear c22); (try clear c23); (try clear p24); (try clear q24); (try clear hx24); (try clear c25); (try clear c25b0); (try clear p25); (try clear q25); (try clear hx25); (try clear c26); (try clear c26b0); (try clear c27); (try clear c27b0); (try clear c28); (try clear c28b0); (try clear c30); (try clear c30b0); (try clear c32); (try clear c32b0); (try clear c33); (try clear c33b0); (try clear c34); (try clear c34b0); (try clear c38); (try clear c40); (try clear c40b0); (try clear c41); (try clear c41b0); (try clear c42); (try clear c42b0); (try clear c43); (try clear c43b0); (try clear c45); (try clear c45b0); (try clear c47); (try clear c47b0); (try clear c48); (try clear c48b0); (try clear c49); (try clear c49b0); (try clear c53); (try clear hcz24_0); (try clear hcz24_1); (try clear hcz24_2); (try clear hcz24_3); (try clear hcz24_4); (try clear hcz24_5); (try clear hcz24_6); (try clear hcz29_0); (try clear hcz29_1); (try clear hcz29_2); (try clear hcz29_3); (try clear hcz29_4); (try clear hcz29_5); (try clear hcz29_6); (try clear hcz35_0); (try clear hcz35_1); (try clear hcz35_2); (try clear hcz35_3); (try clear hcz35_4); (try clear hcz35_5); (try clear hcz35_6); (try clear hcz36_0); (try clear hcz36_1); (try clear hcz36_2); (try clear hcz36_3); (try clear hcz36_4); (try clear hcz36_5); (try clear hcz36_6); (try clear hcz37_0); (try clear hcz37_1); (try clear hcz37_2); (try clear hcz37_3); (try clear hcz37_4); (try clear hcz37_5); (try clear hcz37_6); (try clear hcz39_0); (try clear hcz39_1); (try clear hcz39_2); (try clear hcz39_3); (try clear hcz39_4); (try clear hcz39_5); (try clear hcz39_6); (try clear hcz44_0); (try clear hcz44_1); (try clear hcz44_2); (try clear hcz44_3); (try clear hcz44_4); (try clear hcz44_5); (try clear hcz44_6); (try clear hcz50_0); (try clear hcz50_1); (try clear hcz50_2); (try clear hcz50_3); (try clear hcz50_4); (try clear hcz50_5); (try clear hcz50_6); (try clear hcz51_0); (try clear hcz51_1); (try clear hcz51_2); (try clear hcz51_3); (try clear hcz51_4); (try clear hcz51_5); (try clear hcz51_6); (try clear hcz52_0); (try clear hcz52_1); (try clear hcz52_2); (try clear hcz52_3); (try clear hcz52_4); (try clear hcz52_5); (try clear hcz52_6); (try clear hcz54_0); (try clear hcz54_1); (try clear hcz54_2); (try clear hcz54_3); (try clear hcz54_4); (try clear hcz54_5); (try clear hcz54_6); (try clear hfz24_0); (try clear hfz24_1); (try clear hfz24_2); (try clear hfz24_3); (try clear hfz24_4); (try clear hfz24_5); (try clear hfz24_6); (try clear hfz29_0); (try clear hfz29_1); (try clear hfz29_2); (try clear hfz29_3); (try clear hfz29_4); (try clear hfz29_5); (try clear hfz29_6); (try clear hfz35_0); (try clear hfz35_1); (try clear hfz35_2); (try clear hfz35_3); (try clear hfz35_4); (try clear hfz35_5); (try clear hfz35_6); (try clear hfz36_0); (try clear hfz36_1); (try clear hfz36_2); (try clear hfz36_3); (try clear hfz36_4); (try clear hfz36_5); (try clear hfz36_6); (try clear hfz37_0); (try clear hfz37_1); (try clear hfz37_2); (try clear hfz37_3); (try clear hfz37_4); (try clear hfz37_5); (try clear hfz37_6); (try clear hfz39_0); (try clear hfz39_1); (try clear hfz39_2); (try clear hfz39_3); (try clear hfz39_4); (try clear hfz39_5); (try clear hfz39_6); (try clear hfz44_0); (try clear hfz44_1); (try clear hfz44_2); (try clear hfz44_3); (try clear hfz44_4); (try clear hfz44_5); (try clear hfz44_6); (try clear hfz50_0); (try clear hfz50_1); (try clear hfz50_2); (try clear hfz50_3); (try clear hfz50_4); (try clear hfz50_5); (try clear hfz50_6); (try clear hfz51_0); (try clear hfz51_1); (try clear hfz51_2); (try clear hfz51_3); (try clear hfz51_4); (try clear hfz51_5); (try clear hfz51_6); (try clear hfz52_0); (try clear hfz52_1); (try clear hfz52_2); (try clear hfz52_3); (try clear hfz52_4); (try clear hfz52_5); (try clear hfz52_6); (try clear hfz54_0); (try clear hfz54_1); (try clear hfz54_2); (try clear hfz54_3); (try clear hfz54_4); (try clear hfz54_5); (try clear hfz54_6); (try clear hx248_0); (try clear hx249_0); (try clear hx250_0); (try clear hx251_0); (try clear hx252_0); (try clear hx253_0); (try clear hx254_0); (try clear hx255_0); (try clear p248); (try clear p249); (try clear p250); (try clear p251); (try clear p252); (try clear p253); (try clear p254); (try clear p255); (try clear q248); (try clear q249); (try clear q250); (try clear q251); (try clear q252); (try clear q253); (try clear q254); (try clear q255)
              obtain ⟨x5_4, rfl, HA, HK4, BK247, HB⟩ := hrel
              cases gk with
              | zero => exact absurd HA.out (by simp [ndjqref18_Valid.l201])
              | succ k4 =>
               have H := HA.out
               clear HA
               simp only [ndjqref18_Valid.l201] at H
               by_cases c55 : x5_4 < (l0_6.length : Int)
               ·rw [if_pos c55] at H
                have c55b0 : decide (x5_4 < (l0_6.length : Int)) = true := decide_eq_true c55
                clear c55
                by_cases c56 : 0 ≤ x5_4
                ·rw [if_pos c56] at H
                 have c56b0 : decide (0 ≤ x5_4) = true := decide_eq_true c56
                 clear c56
                 by_cases c57 : (rd l0_6 x5_4) < 0
                 ·rw [if_pos c57] at H
                  have c57b0 : decide ((rd l0_6 x5_4) < 0) = true := decide_eq_true c57
                  clear c57
                  obtain rfl := Option.some.inj H
                  have p256 : 0 ≤ (x5_4 : Int) := of_decide_eq_true (by first | (with_reducible assumption) | assumption)
                  have q256 : x5_4 < (l0_6.length : Int) := of_decide_eq_true (by first | (with_reducible assumption) | assumption)
                  obtain ⟨ad256, e256, hx256_0⟩ := Kd.at_int HR0_6.out x5_4 p256 q256
                  cases e256
                  replace hx256_0 := (HB.out.cell (World.block_lt_of_cell? w _ hx256_0)).trans hx256_0
                  replace p256 := eq_true p256; replace q256 := eq_true q256
                  go_wp2
                  repeat (go_quiet (fail); try go_wp2)
                  go_ret
                  exact ⟨by first | rfl | (simp [errW_none, errW_some] <;> rfl) | (simp [*, errW_none, errW_some] <;> rfl), by repeat (first | (with_reducible first | exact HB.out | apply wA | apply wN | apply wD | refine wS ?_ GE247.out) | exact HB.out)⟩
                 ·rw [if_neg c57] at H
                  have c57b0 : decide ((rd l0_6 x5_4) < 0) = false := decide_eq_false c57
                  clear c57
                  by_cases c58 : (rd l0_6 x5_4) ≥ a0_0
                  ·rw [if_pos c58] at H
                   have c58b0 : decide (a0_0 ≤ (rd l0_6 x5_4)) = true := decide_eq_true c58
                   clear c58
                   obtain rfl := Option.some.inj H
                   have p256 : 0 ≤ (x5_4 : Int) := of_decide_eq_true (by first | (with_reducible assumption) | assumption)
                   have q256 : x5_4 < (l0_6.length : Int) := of_decide_eq_true (by first | (with_reducible assumption) | assumption)
                   obtain ⟨ad256, e256, hx256_0⟩ := Kd.at_int HR0_6.out x5_4 p256 q256
                   cases e256
                   replace hx256_0 := (HB.out.cell (World.block_lt_of_cell? w _ hx256_0)).trans hx256_0
                   replace p256 := eq_true p256; replace q256 := eq_true q256
                   have p257 : 0 ≤ (x5_4 : Int) := of_decide_eq_true (by first | (with_reducible assumption) | assumption)
                   have q257 : x5_4 < (l0_6.length : Int) := of_decide_eq_true (by first | (with_reducible assumption) | assumption)
                   obtain ⟨ad257, e257, hx257_0⟩ := Kd.at_int HR0_6.out x5_4 p257 q257
                   obtain rfl : ad256 = ad257 := (by injection e257)
                   replace hx257_0 := (HB.out.cell (World.block_lt_of_cell? w _ hx257_0)).trans hx257_0
                   replace p257 := eq_true p257; replace q257 := eq_true q257; have hcz59_0 : wr.cell? ⟨gb247, 0, none⟩ = some (.int .i64 a0_0) := (blk_cell BK247.out 0).trans rfl; have hcz59_1 : wr.cell? ⟨gb247, 1, none⟩ = some (.int .i64 a0_1) := (blk_cell BK247.out 1).trans rfl; have hcz59_2 : wr.cell? ⟨gb247, 2, none⟩ = some (.int .i64 a0_2) := (blk_cell BK247.out 2).trans rfl; have hcz59_3 : wr.cell? ⟨gb247, 3, none⟩ = some (.int .i64 a0_3) := (blk_cell BK247.out 3).trans rfl; have hcz59_4 : wr.cell? ⟨gb247, 4, none⟩ = some (.slice A0_4 l0_4.length c0_4) := (blk_cell BK247.out 4).trans rfl; have hcz59_5 : wr.cell? ⟨gb247, 5, none⟩ = some (.slice A0_5 l0_5.length c0_5) := (blk_cell BK247.out 5).trans rfl; have hcz59_6 : wr.cell? ⟨gb247, 6, none⟩ = some (.slice (some ad256) l0_6.length c0_6) := (blk_cell BK247.out 6).trans rfl; have hfz59_0 := blk_frozen BK247.out 0; have hfz59_1 := blk_frozen BK247.out 1; have hfz59_2 := blk_frozen BK247.out 2; have hfz59_3 := blk_frozen BK247.out 3; have hfz59_4 := blk_frozen BK247.out 4; have hfz59_5 := blk_frozen BK247.out 5; have hfz59_6 := blk_frozen BK247.out 6
                   go_wp2
                   repeat (go_quiet (fail); try go_wp2)
                   go_ret
                   exact ⟨by first | rfl | (simp [errW_none, errW_some] <;> rfl) | (simp [*, errW_none, errW_some] <;> rfl), by repeat (first | (with_reducible first | exact HB.out | apply wA | apply wN | apply wD | refine wS ?_ GE247.out) | exact HB.out)⟩
                  ·rw [if_neg c58] at H
                   have c58b0 : decide (a0_0 ≤ (rd l0_6 x5_4)) = false := decide_eq_false c58
                   clear c58
                   by_cases c60 : x5_4 > 0
                   ·rw [if_pos c60] at H
                    have c60b0 : decide (0 < x5_4) = true := decide_eq_true c60
                    clear c60
                    obtain ⟨ji61, hji61⟩ : ∃ j_ : Int, (wrap64 (x5_4 - 1)) = j_ := ⟨_, rfl⟩
                    replace H : (if 0 ≤ (ji61) then (if (ji61) < (l0_6.length : Int) then (if (rd l0_6 (ji61)) ≥ (rd l0_6 x5_4) then (some false) else (ndjqref18_Valid.l201 k4 l0_6 (wrap64 (x5_4 + 1)) a0_0 a0_1 a0_2 a0_3 l0_4 l0_5 l0_6)) else (none)) else (none)) = some r := by first | (rw [hji61] at H; exact H) | (simp only [hji61] at H ⊢; exact H)
                    have hji61w : (IntKind.i64.wrap (x5_4 - 1)) = ji61 := (i64_w _).trans hji61
                    by_cases c62 : 0 ≤ (ji61)
                    ·rw [if_pos c62] at H
                     have c62b0 : decide (0 ≤ (ji61)) = true := decide_eq_true c62
                     clear c62
                     by_cases c63 : (ji61) < (l0_6.length : Int)
                     ·rw [if_pos c63] at H
                      have c63b0 : decide ((ji61) < (l0_6.length : Int)) = true := decide_eq_true c63
                      clear c63
                      by_cases c64 : (rd l0_6 (ji61)) ≥ (rd l0_6 x5_4)
                      ·rw [if_pos c64] at H
                       have c64b0 : decide ((rd l0_6 x5_4) ≤ (rd l0_6 (ji61))) = true := decide_eq_true c64
                       clear c64
                       obtain rfl := Option.some.inj H
                       have p256 : 0 ≤ (x5_4 : Int) := of_decide_eq_true (by first | (with_reducible assumption) | assumption)
                       have q256 : x5_4 < (l0_6.length : Int) := of_decide_eq_true (by first | (with_reducible assumption) | assumption)
                       obtain ⟨ad256, e256, hx256_0⟩ := Kd.at_int HR0_6.out x5_4 p256 q256
                       cases e256
                       replace hx256_0 := (HB.out.cell (World.block_lt_of_cell? w _ hx256_0)).trans hx256_0
                       replace p256 := eq_true p256; replace q256 := eq_true q256
                       have p257 : 0 ≤ (x5_4 : Int) := of_decide_eq_true (by first | (with_reducible assumption) | assumption)
                       have q257 : x5_4 < (l0_6.length : Int) := of_decide_eq_true (by first | (with_reducible assumption) | assumption)
                       obtain ⟨ad257, e257, hx257_0⟩ := Kd.at_int HR0_6.out x5_4 p257 q257
                       obtain rfl : ad256 = ad257 := (by injection e257)
                       replace hx257_0 := (HB.out.cell (World.block_lt_of_cell? w _ hx257_0)).trans hx257_0
                       replace p257 := eq_true p257; replace q257 := eq_true q257; have hcz65_0 : wr.cell? ⟨gb247, 0, none⟩ = some (.int .i64 a0_0) := (blk_cell BK247.out 0).trans rfl; have hcz65_1 : wr.cell? ⟨gb247, 1, none⟩ = some (.int .i64 a0_1) := (blk_cell BK247.out 1).trans rfl; have hcz65_2 : wr.cell? ⟨gb247, 2, none⟩ = some (.int .i64 a0_2) := (blk_cell BK247.out 2).trans rfl; have hcz65_3 : wr.cell? ⟨gb247, 3, none⟩ = some (.int .i64 a0_3) := (blk_cell BK247.out 3).trans rfl; have hcz65_4 : wr.cell? ⟨gb247, 4, none⟩ = some (.slice A0_4 l0_4.length c0_4) := (blk_cell BK247.out 4).trans rfl; have hcz65_5 : wr.cell? ⟨gb247, 5, none⟩ = some (.slice A0_5 l0_5.length c0_5) := (blk_cell BK247.out 5).trans rfl; have hcz65_6 : wr.cell? ⟨gb247, 6, none⟩ = some (.slice (some ad256) l0_6.length c0_6) := (blk_cell BK247.out 6).trans rfl; have hfz65_0 := blk_frozen BK247.out 0; have hfz65_1 := blk_frozen BK247.out 1; have hfz65_2 := blk_frozen BK247.out 2; have hfz65_3 := blk_frozen BK247.out 3; have hfz65_4 := blk_frozen BK247.out 4; have hfz65_5 := blk_frozen BK247.out 5; have hfz65_6 := blk_frozen BK247.out 6
                       have p258 : 0 ≤ ((ji61) : Int) := of_decide_eq_true (by first | (with_reducible assumption) | assumption)
                       have q258 : (ji61) < (l0_6.length : Int) := of_decide_eq_true (by first | (with_reducible assumption) | assumption)
                       obtain ⟨ad258, e258, hx258_0⟩ := Kd.at_int HR0_6.out (ji61) p258 q258
                       obtain rfl : ad256 = ad258 := (by injection e258)
                       replace hx258_0 := (HB.out.cell (World.block_lt_of_cell? w _ hx258_0)).trans hx258_0
                       replace p258 := eq_true p258; replace q258 := eq_true q258
                       have p259 : 0 ≤ (x5_4 : Int) := of_decide_eq_true (by first | (with_reducible assumption) | assumption)
                       have q259 : x5_4 < (l0_6.length : Int) := of_decide_eq_true (by first | (with_reducible assumption) | assumption)
                       obtain ⟨ad259, e259, hx259_0⟩ := Kd.at_int HR0_6.out x5_4 p259 q259
                       obtain rfl : ad256 = ad259 := (by injection e259)
                       replace hx259_0 := (HB.out.cell (World.block_lt_of_cell? w _ hx259_0)).trans hx259_0
                       replace p259 := eq_true p259; replace q259 := eq_true q259
                       go_wp2
                       repeat (go_quiet (fail); try go_wp2)
                       go_ret
                       exact ⟨by first | rfl | (simp [errW_none, errW_some] <;> rfl) | (simp only [← hji61]; first | rfl | (simp [errW_none, errW_some] <;> rfl)) | (simp [*, errW_none, errW_some] <;> rfl), by repeat (first | (with_reducible first | exact HB.out | apply wA | apply wN | apply wD | refine wS ?_ GE247.out) | exact HB.out)⟩
                      ·rw [if_neg c64] at H
                       have c64b0 : decide ((rd l0_6 x5_4) ≤ (rd l0_6 (ji61))) = false := decide_eq_false c64
                       clear c64
                       have H' := Aside0.mk H
                       clear H
                       have p256 : 0 ≤ (x5_4 : Int) := of_decide_eq_true (by first | (with_reducible assumption) | assumption)
                       have q256 : x5_4 < (l0_6.length : Int) := of_decide_eq_true (by first | (with_reducible assumption) | assumption)
                       obtain ⟨ad256, e256, hx256_0⟩ := Kd.at_int HR0_6.out x5_4 p256 q256
                       cases e256
                       replace hx256_0 := (HB.out.cell (World.block_lt_of_cell? w _ hx256_0)).trans hx256_0
                       replace p256 := eq_true p256; replace q256 := eq_true q256
                       have p257 : 0 ≤ (x5_4 : Int) := of_decide_eq_true (by first | (with_reducible assumption) | assumption)
                       have q257 : x5_4 < (l0_6.length : Int) := of_decide_eq_true (by first | (with_reducible assumption) | assumption)
                       obtain ⟨ad257, e257, hx257_0⟩ := Kd.at_int HR0_6.out x5_4 p257 q257
                       obtain rfl : ad256 = ad257 := (by injection e257)
                       replace hx257_0 := (HB.out.cell (World.block_lt_of_cell? w _ hx257_0)).trans hx257_0
                       replace p257 := eq_true p257; replace q257 := eq_true q257; have hcz66_0 : wr.cell? ⟨gb247, 0, none⟩ = some (.int .i64 a0_0) := (blk_cell BK247.out 0).trans rfl; have hcz66_1 : wr.cell? ⟨gb247, 1, none⟩ = some (.int .i64 a0_1) := (blk_cell BK247.out 1).trans rfl; have hcz66_2 : wr.cell? ⟨gb247, 2, none⟩ = some (.int .i64 a0_2) := (blk_cell BK247.out 2).trans rfl; have hcz66_3 : wr.cell? ⟨gb247, 3, none⟩ = some (.int .i64 a0_3) := (blk_cell BK247.out 3).trans rfl; have hcz66_4 : wr.cell? ⟨gb247, 4, none⟩ = some (.slice A0_4 l0_4.length c0_4) := (blk_cell BK247.out 4).trans rfl; have hcz66_5 : wr.cell? ⟨gb247, 5, none⟩ = some (.slice A0_5 l0_5.length c0_5) := (blk_cell BK247.out 5).trans rfl; have hcz66_6 : wr.cell? ⟨gb247, 6, none⟩ = some (.slice (some ad256) l0_6.length c0_6) := (blk_cell BK247.out 6).trans rfl; have hfz66_0 := blk_frozen BK247.out 0; have hfz66_1 := blk_frozen BK247.out 1; have hfz66_2 := blk_frozen BK247.out 2; have hfz66_3 := blk_frozen BK247.out 3; have hfz66_4 := blk_frozen BK247.out 4; have hfz66_5 := blk_frozen BK247.out 5; have hfz66_6 := blk_frozen BK247.out 6
                       have p258 : 0 ≤ ((ji61) : Int) := of_decide_eq_true (by first | (with_reducible assumption) | assumption)
                       have q258 : (ji61) < (l0_6.length : Int) := of_decide_eq_true (by first | (with_reducible assumption) | assumption)
                       obtain ⟨ad258, e258, hx258_0⟩ := Kd.at_int HR0_6.out (ji61) p258 q258
                       obtain rfl : ad256 = ad258 := (by injection e258)
                       replace hx258_0 := (HB.out.cell (World.block_lt_of_cell? w _ hx258_0)).trans hx258_0
                       replace p258 := eq_true p258; replace q258 := eq_true q258
                       have p259 : 0 ≤ (x5_4 : Int) := of_decide_eq_true (by first | (with_reducible assumption) | assumption)
                       have q259 : x5_4 < (l0_6.length : Int) := of_decide_eq_true (by first | (with_reducible assumption) | assumption)
                       obtain ⟨ad259, e259, hx259_0⟩ := Kd.at_int HR0_6.out x5_4 p259 q259
                       obtain rfl : ad256 = ad259 := (by injection e259)
                       replace hx259_0 := (HB.out.cell (World.block_lt_of_cell? w _ hx259_0)).trans hx259_0
                       replace p259 := eq_true p259; replace q259 := eq_true q259
                       go_wp2
                       repeat (go_quiet (fail); try go_wp2)
                       go_roundg k4
                       case measure => have := HJ1.out; have := HK2.out; have := HJ8.out; have := HK4.out; omega
                       case rel => exact ⟨(wrap64 (x5_4 + 1)), (by first | rfl | (simp; done) | (simp [*]; done)), H', ⟨by have := HJ1.out; have := HK2.out; have := HJ8.out; have := HK4.out; omega⟩, ⟨by (with_reducible repeat (first | refine bN ?_ _ | refine bD ?_ | refine bA ?_ _)); exact BK247.out⟩, ⟨by repeat (first | (with_reducible first | exact HB.out | apply wA | apply wN | apply wD | refine wS ?_ GE247.out) | exact HB.out)⟩⟩
                     ·rw [if_neg c63] at H
                      exact absurd H (by simp)
                    ·rw [if_neg c62] at H
                     exact absurd H (by simp)
                   ·rw [if_neg c60] at H
                    have c60b0 : decide (0 < x5_4) = false := decide_eq_false c60
                    clear c60
                    have H' := Aside0.mk H
                    clear H
                    have p256 : 0 ≤ (x5_4 : Int) := of_decide_eq_true (by first | (with_reducible assumption) | assumption)
                    have q256 : x5_4 < (l0_6.length : Int) := of_decide_eq_true (by first | (with_reducible assumption) | assumption)
                    obtain ⟨ad256, e256, hx256_0⟩ := Kd.at_int HR0_6.out x5_4 p256 q256
                    cases e256
                    replace hx256_0 := (HB.out.cell (World.block_lt_of_cell? w _ hx256_0)).trans hx256_0
                    replace p256 := eq_true p256; replace q256 := eq_true q256
                    have p257 : 0 ≤ (x5_4 : Int) := of_decide_eq_true (by first | (with_reducible assumption) | assumption)
                    have q257 : x5_4 < (l0_6.length : Int) := of_decide_eq_true (by first | (with_reducible assumption) | assumption)
                    obtain ⟨ad257, e257, hx257_0⟩ := Kd.at_int HR0_6.out x5_4 p257 q257
                    obtain rfl : ad256 = ad257 := (by injection e257)
                    replace hx257_0 := (HB.out.cell (World.block_lt_of_cell? w _ hx257_0)).trans hx257_0
                    replace p257 := eq_true p257; replace q257 := eq_true q257; have hcz67_0 : wr.cell? ⟨gb247, 0, none⟩ = some (.int .i64 a0_0) := (blk_cell BK247.out 0).trans rfl; have hcz67_1 : wr.cell? ⟨gb247, 1, none⟩ = some (.int .i64 a0_1) := (blk_cell BK247.out 1).trans rfl; have hcz67_2 : wr.cell? ⟨gb247, 2, none⟩ = some (.int .i64 a0_2) := (blk_cell BK247.out 2).trans rfl; have hcz67_3 : wr.cell? ⟨gb247, 3, none⟩ = some (.int .i64 a0_3) := (blk_cell BK247.out 3).trans rfl; have hcz67_4 : wr.cell? ⟨gb247, 4, none⟩ = some (.slice A0_4 l0_4.length c0_4) := (blk_cell BK247.out 4).trans rfl; have hcz67_5 : wr.cell? ⟨gb247, 5, none⟩ = some (.slice A0_5 l0_5.length c0_5) := (blk_cell BK247.out 5).trans rfl; have hcz67_6 : wr.cell? ⟨gb247, 6, none⟩ = some (.slice (some ad256) l0_6.length c0_6) := (blk_cell BK247.out 6).trans rfl; have hfz67_0 := blk_frozen BK247.out 0; have hfz67_1 := blk_frozen BK247.out 1; have hfz67_2 := blk_frozen BK247.out 2; have hfz67_3 := blk_frozen BK247.out 3; have hfz67_4 := blk_frozen BK247.out 4; have hfz67_5 := blk_frozen BK247.out 5; have hfz67_6 := blk_frozen BK247.out 6
                    go_wp2
                    repeat (go_quiet (fail); try go_wp2)
                    go_roundg k4
                    case measure => have := HJ1.out; have := HK2.out; have := HJ8.out; have := HK4.out; omega
                    case rel => exact ⟨(wrap64 (x5_4 + 1)), (by first | rfl | (simp; done) | (simp [*]; done)), H', ⟨by have := HJ1.out; have := HK2.out; have := HJ8.out; have := HK4.out; omega⟩, ⟨by (with_reducible repeat (first | refine bN ?_ _ | refine bD ?_ | refine bA ?_ _)); exact BK247.out⟩, ⟨by repeat (first | (with_reducible first | exact HB.out | apply wA | apply wN | apply wD | refine wS ?_ GE247.out) | exact HB.out)⟩⟩
                ·rw [if_neg c56] at H
                 exact absurd H (by simp)
               ·rw [if_neg c55] at H
                have c55b0 : decide (x5_4 < (l0_6.length : Int)) = false := decide_eq_false c55
                clear c55
                have H' := Aside0.mk H
                clear H
                go_wp2
                repeat (go_quiet (fail); try go_wp2)
                go_roundg k4
                case measure => have := HJ1.out; have := HK2.out; have := HJ8.out; have := HK4.out; omega
                case rel => exact ⟨(3), (by first | rfl | (simp; done) | (simp [*]; done)), H', ⟨by have := HJ1.out; have := HK2.out; have := HJ8.out; have := HK4.out; omega⟩, ⟨by (with_reducible repeat (first | refine bN ?_ _ | refine bD ?_ | refine bA ?_ _)); exact BK247.out⟩, ⟨by repeat (first | (with_reducible first | exact HB.out | apply wA | apply wN | apply wD | refine wS ?_ GE247.out) | exact HB.out)⟩⟩
            ·rw [if_neg c53] at H
             exact absurd H (by simp)
      ·rw [if_neg c8] at H
       have c8b0 : decide (x3_2 < 3) = false := decide_eq_false c8
       clear c8
       obtain rfl := Option.some.inj H
       go_wp2
       repeat (go_quiet (fail); try go_wp2)
       go_ret
       exact ⟨by first | rfl | (simp [errW_none, errW_some] <;> rfl) | (simp [*, errW_none, errW_some] <;> rfl), by repeat (first | (with_reducible first | exact HB.out | apply wA | apply wN | apply wD | refine wS ?_ GE247.out) | exact HB.out)⟩

end Go.Proofs.YtkhnifehcnlpjaaDoor.QB
