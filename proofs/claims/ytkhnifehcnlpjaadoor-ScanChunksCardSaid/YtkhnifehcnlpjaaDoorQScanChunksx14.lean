-- by a program of this session (print2.py): the machine's side of one law; Lean checks it.
import Derived.Test.YtkhnifehcnlpjaaDoorQScanChunksx0
import Derived.Test.YtkhnifehcnlpjaaDoorQScanChunksx3
import Derived.Test.YtkhnifehcnlpjaaDoorQScanChunksx8
import Derived.Test.YtkhnifehcnlpjaaDoorQScanChunksx10
import Derived.Test.YtkhnifehcnlpjaaDoorQScanChunksx11
import Derived.Test.YtkhnifehcnlpjaaDoorQScanChunksx13
namespace Go.Proofs.YtkhnifehcnlpjaaDoor.QScanChunks
open Go.RowKit Go.Proofs.YtkhnifehcnlpjaaDoorW.PrintWords Go.Proofs.YtkhnifehcnlpjaaDoorW.PrintLast Go.Proofs.YtkhnifehcnlpjaaDoorW.PrintMore
attribute [local go_sem] max2_int min2_int max_two min_two max_three min_three max_four min_four   -- for this text's walks alone
set_option linter.unusedVariables false
set_option linter.unusedSimpArgs false

/-! ### ndjqlaw20_ScanChunks: function 4 -/
mutual
def ndjqlaw20_ScanChunks.j0 : Nat → ByteArray → Int → Int → List (S26) → Bool → Option (Bool)
 | 0, _, _, _, _, _ => none
 | k + 1, x0, x1, x2, x3, x29 => if x29 = true then ((ndjqlaw20_awake.f k).bind fun t288 => (some t288)) else (if x1 > 5000 then (if x1 ≤ 1048576 then (if x2 > 0 then (ndjqlaw20_ScanChunks.j1 k x0 x1 x2 x3 (decide (x2 < 100))) else (ndjqlaw20_ScanChunks.j1 k x0 x1 x2 x3 false)) else (ndjqlaw20_ScanChunks.j1 k x0 x1 x2 x3 false)) else (ndjqlaw20_ScanChunks.j1 k x0 x1 x2 x3 false))
def ndjqlaw20_ScanChunks.j1 : Nat → ByteArray → Int → Int → List (S26) → Bool → Option (Bool)
 | 0, _, _, _, _, _ => none
 | k + 1, x0, x1, x2, x3, x44 => if x44 = true then (ndjqlaw20_ScanChunks.j2 k x0 (Int.tmod x1 5000) x2 x3) else (ndjqlaw20_ScanChunks.j2 k x0 x1 x2 x3)
def ndjqlaw20_ScanChunks.j2 : Nat → ByteArray → Int → Int → List (S26) → Option (Bool)
 | 0, _, _, _, _ => none
 | k + 1, x0, x1, x2, x3 => (scan_Chunks.f k x1 x2).bind fun bt289 => ((ndjqref20_Chunks.f k x1 x2).bind fun bt293 => ((scan_Summaries.f k x0 x2).bind fun bt297 => ((ndjqref20_Summaries.f k x0 x2).bind fun bt301 => ((ndjqkeep_Spans.f k bt289.1 bt293.1).bind fun t305 => (if t305 = true then (if bt289.2 = bt293.2 then (if (bt297.1.length : Int) = (bt301.1.length : Int) then (ndjqlaw20_ScanChunks.j3 k x3 bt297.1 bt301.1 (bt297.2 != bt301.2)) else (ndjqlaw20_ScanChunks.j3 k x3 bt297.1 bt301.1 true)) else (ndjqlaw20_ScanChunks.j3 k x3 bt297.1 bt301.1 true)) else (ndjqlaw20_ScanChunks.j3 k x3 bt297.1 bt301.1 true))))))
def ndjqlaw20_ScanChunks.j3 : Nat → List (S26) → List (S26) → List (S26) → Bool → Option (Bool)
 | 0, _, _, _, _ => none
 | k + 1, x3, x13, x15, x91 => if x91 = true then (some false) else (ndjqlaw20_ScanChunks.l0 k x3 x13 x15 0)
def ndjqlaw20_ScanChunks.l0 : Nat → List (S26) → List (S26) → List (S26) → Int → Option (Bool)
 | 0, _, _, _, _ => none
 | k + 1, x3, x13, x15, x17 => if x17 < (x13.length : Int) then (if 0 ≤ x17 then (if x17 < (x15.length : Int) then ((ndjqkeep_Summaries.f k ((rd_T26 x13 x17).f0) ((rd_T26 x13 x17).f1.f0) ((rd_T26 x13 x17).f1.f1) ((rd_T26 x13 x17).f1.f2) ((rd_T26 x13 x17).f2.f0) ((rd_T26 x13 x17).f2.f1) ((rd_T26 x13 x17).f2.f2) ((rd_T26 x15 x17).f0) ((rd_T26 x15 x17).f1.f0) ((rd_T26 x15 x17).f1.f1) ((rd_T26 x15 x17).f1.f2) ((rd_T26 x15 x17).f2.f0) ((rd_T26 x15 x17).f2.f1) ((rd_T26 x15 x17).f2.f2)).bind fun t308 => (if t308 = true then (ndjqlaw20_ScanChunks.l0 k x3 x13 x15 (wrap64 (x17 + 1))) else (some false))) else (none)) else (none)) else ((scan_Entries.f k x3).bind fun bt309 => ((ndjqref20_Entries.f k x3).bind fun bt313 => ((ndjqkeep_Ints.f k bt309.1 bt313.1).bind fun t317 => (if t317 = true then (if bt309.2 = bt313.2 then ((ndjqlaw20_awake.f k).bind fun t318 => (some t318)) else (some false)) else (some false)))))
end
def ndjqlaw20_ScanChunks.f (k : Nat) (a0 : ByteArray) (a1 : Int) (a2 : Int) (l3 : List (S26)) : Option (Bool) := if (a0.size : Int) > 200 then (ndjqlaw20_ScanChunks.j0 k a0 a1 a2 l3 true) else (ndjqlaw20_ScanChunks.j0 k a0 a1 a2 l3 (decide ((l3.length : Int) > 6)))
theorem ndjqlaw20_ScanChunks.mono_l : ∀ k, (∀ y0 y1 y2 y3 y4, LeO (ndjqlaw20_ScanChunks.j0 k y0 y1 y2 y3 y4) (ndjqlaw20_ScanChunks.j0 (k + 1) y0 y1 y2 y3 y4)) ∧ (∀ y0 y1 y2 y3 y4, LeO (ndjqlaw20_ScanChunks.j1 k y0 y1 y2 y3 y4) (ndjqlaw20_ScanChunks.j1 (k + 1) y0 y1 y2 y3 y4)) ∧ (∀ y0 y1 y2 y3, LeO (ndjqlaw20_ScanChunks.j2 k y0 y1 y2 y3) (ndjqlaw20_ScanChunks.j2 (k + 1) y0 y1 y2 y3)) ∧ (∀ y0 y1 y2 y3, LeO (ndjqlaw20_ScanChunks.j3 k y0 y1 y2 y3) (ndjqlaw20_ScanChunks.j3 (k + 1) y0 y1 y2 y3)) ∧ (∀ y0 y1 y2 y3, LeO (ndjqlaw20_ScanChunks.l0 k y0 y1 y2 y3) (ndjqlaw20_ScanChunks.l0 (k + 1) y0 y1 y2 y3))
 | 0 => ⟨fun _ _ _ _ _ r h => by simp [ndjqlaw20_ScanChunks.j0] at h, fun _ _ _ _ _ r h => by simp [ndjqlaw20_ScanChunks.j1] at h, fun _ _ _ _ r h => by simp [ndjqlaw20_ScanChunks.j2] at h, fun _ _ _ _ r h => by simp [ndjqlaw20_ScanChunks.j3] at h, fun _ _ _ _ r h => by simp [ndjqlaw20_ScanChunks.l0] at h⟩
 | k + 1 => by
  obtain ⟨ih0, ih1, ih2, ih3, ih4⟩ := ndjqlaw20_ScanChunks.mono_l k
  refine ⟨?_, ?_, ?_, ?_, ?_⟩
  ·intro y0 y1 y2 y3 y4
   unfold ndjqlaw20_ScanChunks.j0
   repeat' first
   | (with_reducible exact ih0 _ _ _ _ _)
   | (with_reducible exact ih1 _ _ _ _ _)
   | (with_reducible exact ih2 _ _ _ _)
   | (with_reducible exact ih3 _ _ _ _)
   | (with_reducible exact ih4 _ _ _ _)
   | (with_reducible exact ndjqkeep_Ints.mono _ _ _)
   | (with_reducible exact ndjqkeep_Spans.mono _ _ _)
   | (with_reducible exact ndjqkeep_Summaries.mono _ _ _ _ _ _ _ _ _ _ _ _ _ _ _)
   | (with_reducible exact ndjqlaw20_awake.mono _)
   | (with_reducible exact ndjqref20_Chunks.mono _ _ _)
   | (with_reducible exact ndjqref20_Entries.mono _ _)
   | (with_reducible exact ndjqref20_Summaries.mono _ _ _)
   | (with_reducible exact scan_Chunks.mono _ _ _)
   | (with_reducible exact scan_Entries.mono _ _)
   | (with_reducible exact scan_Summaries.mono _ _ _)
   | (with_reducible exact LeO.refl _)
   | (with_reducible exact LeO.none _)
   | (with_reducible refine LeO.ite ?_ ?_)
   | (with_reducible refine LeO.bind ?_ (fun _ => ?_))
   | exact ih0 _ _ _ _ _
   | exact ih1 _ _ _ _ _
   | exact ih2 _ _ _ _
   | exact ih3 _ _ _ _
   | exact ih4 _ _ _ _
   | exact ndjqkeep_Ints.mono _ _ _
   | exact ndjqkeep_Spans.mono _ _ _
   | exact ndjqkeep_Summaries.mono _ _ _ _ _ _ _ _ _ _ _ _ _ _ _
   | exact ndjqlaw20_awake.mono _
   | exact ndjqref20_Chunks.mono _ _ _
   | exact ndjqref20_Entries.mono _ _
   | exact ndjqref20_Summaries.mono _ _ _
   | exact scan_Chunks.mono _ _ _
   | exact scan_Entries.mono _ _
   | exact scan_Summaries.mono _ _ _
   | exact LeO.none _
   | refine LeO.ite ?_ ?_
   | refine LeO.bind ?_ (fun _ => ?_)
  ·intro y0 y1 y2 y3 y4
   unfold ndjqlaw20_ScanChunks.j1
   repeat' first
   | (with_reducible exact ih0 _ _ _ _ _)
   | (with_reducible exact ih1 _ _ _ _ _)
   | (with_reducible exact ih2 _ _ _ _)
   | (with_reducible exact ih3 _ _ _ _)
   | (with_reducible exact ih4 _ _ _ _)
   | (with_reducible exact ndjqkeep_Ints.mono _ _ _)
   | (with_reducible exact ndjqkeep_Spans.mono _ _ _)
   | (with_reducible exact ndjqkeep_Summaries.mono _ _ _ _ _ _ _ _ _ _ _ _ _ _ _)
   | (with_reducible exact ndjqlaw20_awake.mono _)
   | (with_reducible exact ndjqref20_Chunks.mono _ _ _)
   | (with_reducible exact ndjqref20_Entries.mono _ _)
   | (with_reducible exact ndjqref20_Summaries.mono _ _ _)
   | (with_reducible exact scan_Chunks.mono _ _ _)
   | (with_reducible exact scan_Entries.mono _ _)
   | (with_reducible exact scan_Summaries.mono _ _ _)
   | (with_reducible exact LeO.refl _)
   | (with_reducible exact LeO.none _)
   | (with_reducible refine LeO.ite ?_ ?_)
   | (with_reducible refine LeO.bind ?_ (fun _ => ?_))
   | exact ih0 _ _ _ _ _
   | exact ih1 _ _ _ _ _
   | exact ih2 _ _ _ _
   | exact ih3 _ _ _ _
   | exact ih4 _ _ _ _
   | exact ndjqkeep_Ints.mono _ _ _
   | exact ndjqkeep_Spans.mono _ _ _
   | exact ndjqkeep_Summaries.mono _ _ _ _ _ _ _ _ _ _ _ _ _ _ _
   | exact ndjqlaw20_awake.mono _
   | exact ndjqref20_Chunks.mono _ _ _
   | exact ndjqref20_Entries.mono _ _
   | exact ndjqref20_Summaries.mono _ _ _
   | exact scan_Chunks.mono _ _ _
   | exact scan_Entries.mono _ _
   | exact scan_Summaries.mono _ _ _
   | exact LeO.none _
   | refine LeO.ite ?_ ?_
   | refine LeO.bind ?_ (fun _ => ?_)
  ·intro y0 y1 y2 y3
   unfold ndjqlaw20_ScanChunks.j2
   repeat' first
   | (with_reducible exact ih0 _ _ _ _ _)
   | (with_reducible exact ih1 _ _ _ _ _)
   | (with_reducible exact ih2 _ _ _ _)
   | (with_reducible exact ih3 _ _ _ _)
   | (with_reducible exact ih4 _ _ _ _)
   | (with_reducible exact ndjqkeep_Ints.mono _ _ _)
   | (with_reducible exact ndjqkeep_Spans.mono _ _ _)
   | (with_reducible exact ndjqkeep_Summaries.mono _ _ _ _ _ _ _ _ _ _ _ _ _ _ _)
   | (with_reducible exact ndjqlaw20_awake.mono _)
   | (with_reducible exact ndjqref20_Chunks.mono _ _ _)
   | (with_reducible exact ndjqref20_Entries.mono _ _)
   | (with_reducible exact ndjqref20_Summaries.mono _ _ _)
   | (with_reducible exact scan_Chunks.mono _ _ _)
   | (with_reducible exact scan_Entries.mono _ _)
   | (with_reducible exact scan_Summaries.mono _ _ _)
   | (with_reducible exact LeO.refl _)
   | (with_reducible exact LeO.none _)
   | (with_reducible refine LeO.ite ?_ ?_)
   | (with_reducible refine LeO.bind ?_ (fun _ => ?_))
   | exact ih0 _ _ _ _ _
   | exact ih1 _ _ _ _ _
   | exact ih2 _ _ _ _
   | exact ih3 _ _ _ _
   | exact ih4 _ _ _ _
   | exact ndjqkeep_Ints.mono _ _ _
   | exact ndjqkeep_Spans.mono _ _ _
   | exact ndjqkeep_Summaries.mono _ _ _ _ _ _ _ _ _ _ _ _ _ _ _
   | exact ndjqlaw20_awake.mono _
   | exact ndjqref20_Chunks.mono _ _ _
   | exact ndjqref20_Entries.mono _ _
   | exact ndjqref20_Summaries.mono _ _ _
   | exact scan_Chunks.mono _ _ _
   | exact scan_Entries.mono _ _
   | exact scan_Summaries.mono _ _ _
   | exact LeO.none _
   | refine LeO.ite ?_ ?_
   | refine LeO.bind ?_ (fun _ => ?_)
  ·intro y0 y1 y2 y3
   unfold ndjqlaw20_ScanChunks.j3
   repeat' first
   | (with_reducible exact ih0 _ _ _ _ _)
   | (with_reducible exact ih1 _ _ _ _ _)
   | (with_reducible exact ih2 _ _ _ _)
   | (with_reducible exact ih3 _ _ _ _)
   | (with_reducible exact ih4 _ _ _ _)
   | (with_reducible exact ndjqkeep_Ints.mono _ _ _)
   | (with_reducible exact ndjqkeep_Spans.mono _ _ _)
   | (with_reducible exact ndjqkeep_Summaries.mono _ _ _ _ _ _ _ _ _ _ _ _ _ _ _)
   | (with_reducible exact ndjqlaw20_awake.mono _)
   | (with_reducible exact ndjqref20_Chunks.mono _ _ _)
   | (with_reducible exact ndjqref20_Entries.mono _ _)
   | (with_reducible exact ndjqref20_Summaries.mono _ _ _)
   | (with_reducible exact scan_Chunks.mono _ _ _)
   | (with_reducible exact scan_Entries.mono _ _)
   | (with_reducible exact scan_Summaries.mono _ _ _)
   | (with_reducible exact LeO.refl _)
   | (with_reducible exact LeO.none _)
   | (with_reducible refine LeO.ite ?_ ?_)
   | (with_reducible refine LeO.bind ?_ (fun _ => ?_))
   | exact ih0 _ _ _ _ _
   | exact ih1 _ _ _ _ _
   | exact ih2 _ _ _ _
   | exact ih3 _ _ _ _
   | exact ih4 _ _ _ _
   | exact ndjqkeep_Ints.mono _ _ _
   | exact ndjqkeep_Spans.mono _ _ _
   | exact ndjqkeep_Summaries.mono _ _ _ _ _ _ _ _ _ _ _ _ _ _ _
   | exact ndjqlaw20_awake.mono _
   | exact ndjqref20_Chunks.mono _ _ _
   | exact ndjqref20_Entries.mono _ _
   | exact ndjqref20_Summaries.mono _ _ _
   | exact scan_Chunks.mono _ _ _
   | exact scan_Entries.mono _ _
   | exact scan_Summaries.mono _ _ _
   | exact LeO.none _
   | refine LeO.ite ?_ ?_
   | refine LeO.bind ?_ (fun _ => ?_)
  ·intro y0 y1 y2 y3
   unfold ndjqlaw20_ScanChunks.l0
   repeat' first
   | (with_reducible exact ih0 _ _ _ _ _)
   | (with_reducible exact ih1 _ _ _ _ _)
   | (with_reducible exact ih2 _ _ _ _)
   | (with_reducible exact ih3 _ _ _ _)
   | (with_reducible exact ih4 _ _ _ _)
   | (with_reducible exact ndjqkeep_Ints.mono _ _ _)
   | (with_reducible exact ndjqkeep_Spans.mono _ _ _)
   | (with_reducible exact ndjqkeep_Summaries.mono _ _ _ _ _ _ _ _ _ _ _ _ _ _ _)
   | (with_reducible exact ndjqlaw20_awake.mono _)
   | (with_reducible exact ndjqref20_Chunks.mono _ _ _)
   | (with_reducible exact ndjqref20_Entries.mono _ _)
   | (with_reducible exact ndjqref20_Summaries.mono _ _ _)
   | (with_reducible exact scan_Chunks.mono _ _ _)
   | (with_reducible exact scan_Entries.mono _ _)
   | (with_reducible exact scan_Summaries.mono _ _ _)
   | (with_reducible exact LeO.refl _)
   | (with_reducible exact LeO.none _)
   | (with_reducible refine LeO.ite ?_ ?_)
   | (with_reducible refine LeO.bind ?_ (fun _ => ?_))
   | exact ih0 _ _ _ _ _
   | exact ih1 _ _ _ _ _
   | exact ih2 _ _ _ _
   | exact ih3 _ _ _ _
   | exact ih4 _ _ _ _
   | exact ndjqkeep_Ints.mono _ _ _
   | exact ndjqkeep_Spans.mono _ _ _
   | exact ndjqkeep_Summaries.mono _ _ _ _ _ _ _ _ _ _ _ _ _ _ _
   | exact ndjqlaw20_awake.mono _
   | exact ndjqref20_Chunks.mono _ _ _
   | exact ndjqref20_Entries.mono _ _
   | exact ndjqref20_Summaries.mono _ _ _
   | exact scan_Chunks.mono _ _ _
   | exact scan_Entries.mono _ _
   | exact scan_Summaries.mono _ _ _
   | exact LeO.none _
   | refine LeO.ite ?_ ?_
   | refine LeO.bind ?_ (fun _ => ?_)
theorem ndjqlaw20_ScanChunks.mono : ∀ a0 a1 a2 a3 k, LeO (ndjqlaw20_ScanChunks.f k a0 a1 a2 a3) (ndjqlaw20_ScanChunks.f (k + 1) a0 a1 a2 a3) := by
 intro a0 a1 a2 a3 k
 obtain ⟨ih0, ih1, ih2, ih3, ih4⟩ := ndjqlaw20_ScanChunks.mono_l k
 unfold ndjqlaw20_ScanChunks.f
 repeat' first
   | (with_reducible exact ih0 _ _ _ _ _)
   | (with_reducible exact ih1 _ _ _ _ _)
   | (with_reducible exact ih2 _ _ _ _)
   | (with_reducible exact ih3 _ _ _ _)
   | (with_reducible exact ih4 _ _ _ _)
   | (with_reducible exact ndjqkeep_Ints.mono _ _ _)
   | (with_reducible exact ndjqkeep_Spans.mono _ _ _)
   | (with_reducible exact ndjqkeep_Summaries.mono _ _ _ _ _ _ _ _ _ _ _ _ _ _ _)
   | (with_reducible exact ndjqlaw20_awake.mono _)
   | (with_reducible exact ndjqref20_Chunks.mono _ _ _)
   | (with_reducible exact ndjqref20_Entries.mono _ _)
   | (with_reducible exact ndjqref20_Summaries.mono _ _ _)
   | (with_reducible exact scan_Chunks.mono _ _ _)
   | (with_reducible exact scan_Entries.mono _ _)
   | (with_reducible exact scan_Summaries.mono _ _ _)
   | (with_reducible exact LeO.refl _)
   | (with_reducible exact LeO.none _)
   | (with_reducible refine LeO.ite ?_ ?_)
   | (with_reducible refine LeO.bind ?_ (fun _ => ?_))
   | exact ih0 _ _ _ _ _
   | exact ih1 _ _ _ _ _
   | exact ih2 _ _ _ _
   | exact ih3 _ _ _ _
   | exact ih4 _ _ _ _
   | exact ndjqkeep_Ints.mono _ _ _
   | exact ndjqkeep_Spans.mono _ _ _
   | exact ndjqkeep_Summaries.mono _ _ _ _ _ _ _ _ _ _ _ _ _ _ _
   | exact ndjqlaw20_awake.mono _
   | exact ndjqref20_Chunks.mono _ _ _
   | exact ndjqref20_Entries.mono _ _
   | exact ndjqref20_Summaries.mono _ _ _
   | exact scan_Chunks.mono _ _ _
   | exact scan_Entries.mono _ _
   | exact scan_Summaries.mono _ _ _
   | exact LeO.none _
   | refine LeO.ite ?_ ?_
   | refine LeO.bind ?_ (fun _ => ?_)
def ndjqlaw20_ScanChunks.T14 : Bool × List (List Nat × List Nat) := (true, [([], []), ([], []), ([0, 1], [0, 1]), ([2], [2]), ([], []), ([], []), ([4, 5], [4, 5]), ([6], [6]), ([3, 7], [3, 7]), ([8], [8])])
def ndjqlaw20_ScanChunks.B14 : List Nat := [0, 0, 3, 7, 0, 0, 48, 112, 255, 511]
theorem ndjqlaw20_ScanChunks.tab14 : rtab .any (opsOf Tryd.f4 14) = ndjqlaw20_ScanChunks.T14 := by kernel_rfl
theorem ndjqlaw20_ScanChunks.bits14 : waitsOk ndjqlaw20_ScanChunks.T14.2 ndjqlaw20_ScanChunks.B14 = true := by kernel_rfl
set_option maxHeartbeats 8000000 in
set_option maxRecDepth 100000 in
theorem ndjqlaw20_ScanChunks.calls (k : Nat) (a0 : ByteArray) (a1 : Int) (a2 : Int) (A3 : Option Addr) (c3 : Nat) (l3 : List (S26)) (r : Bool) (w : World) (hr3 : Kd.C k26 w A3 l3.length l3) (hc3 : l3.length ≤ c3) (hG : GlbLaid w) (h : ndjqlaw20_ScanChunks.f k a0 a1 a2 l3 = some r) :
  Calls Tryd.prog 4 #[.string a0, .int .i64 a1, .int .i64 a2, .slice A3 l3.length c3] w fun e w' => e = .returned (.bool r) ∧ Below w.heap.size w w' := by
 have hu26 := Tryd.underlying26
 have HR3 := Aside0.mk hr3
 have HC3 := Aside0.mk hc3
 clear hr3 hc3
 have HG := Aside0.mk hG
 clear hG
 have HB := Aside0.mk (Below.refl w.heap.size w)
 have H : (if (a0.size : Int) > 200 then (ndjqlaw20_ScanChunks.j0 k a0 a1 a2 l3 true) else (ndjqlaw20_ScanChunks.j0 k a0 a1 a2 l3 (decide ((l3.length : Int) > 6)))) = some r := h
 clear h
 have HC5 := Aside0.mk H
 clear H
 go_enter Tryd.func4, Tryd.ntmps4
 go_upto_region 1 with (fail)
 go_cut [29] (fun v29 wc => ∃ (kq : Nat) (x29_4 : Bool), v29 = .bool x29_4 ∧ Aside0 (ndjqlaw20_ScanChunks.j0 kq a0 a1 a2 l3 x29_4 = some r) ∧ Aside0 (kq ≤ k) ∧ Aside0 (Below w.heap.size w wc))
 case first =>
  have H := HC5.out
  clear HC5
  by_cases c6 : (a0.size : Int) > 200
  ·rw [if_pos c6] at H
   have c6b0 : decide (200 < (a0.size : Int)) = true := decide_eq_true c6
   have c6b1 : decide (200 < a0.size) = true := decide_eq_true (by omega)
   clear c6
   (first | rw [c6b0] | (simp only [i64_w, i32_w]; rw [c6b0]) | skip)
   have H' := Aside0.mk H
   clear H
   go_wp2
   go_meet
   case rel => exact ⟨_, (true), (by first | rfl | (simp; done) | (simp [*]; done)), H', ⟨by first | omega | exact Nat.le_refl _⟩, ⟨by repeat (first | (with_reducible first | exact HB.out | apply wA | apply wN | apply wD) | exact HB.out)⟩⟩
  ·rw [if_neg c6] at H
   have c6b0 : decide (200 < (a0.size : Int)) = false := decide_eq_false c6
   have c6b1 : decide (200 < a0.size) = false := decide_eq_false (by omega)
   clear c6
   (first | rw [c6b0] | (simp only [i64_w, i32_w]; rw [c6b0]) | skip)
   have H' := Aside0.mk H
   clear H
   go_wp2
   go_meet
   case rel => exact ⟨_, (decide ((l3.length : Int) > 6)), (by first | rfl | (simp; done) | (simp [*]; done)), H', ⟨by first | omega | exact Nat.le_refl _⟩, ⟨by repeat (first | (with_reducible first | exact HB.out | apply wA | apply wN | apply wD) | exact HB.out)⟩⟩
 case rest =>
  clear HC5
  (try clear p2); (try clear c3); (try clear c4); (try clear c6); (try clear c6b0); (try clear c6b1)
  obtain ⟨kq, x29_4, rfl, HA, HJ4, HB⟩ := hcut
  cases kq with
  | zero => exact absurd HA.out (by simp [ndjqlaw20_ScanChunks.j0])
  | succ kj4 =>
   have H := HA.out
   clear HA
   simp only [ndjqlaw20_ScanChunks.j0] at H
   by_cases c7 : x29_4 = true
   ·subst c7
    have H1 : ((ndjqlaw20_awake.f kj4).bind fun t288 => (some t288)) = some r := by rw [if_pos rfl] at H; exact H
    clear H; have H := H1; clear H1
    replace H := Option.bind_eq_some_iff.mp H
    obtain ⟨t288, A80, H⟩ := H
    replace H : (some t288) = some r := H
    have A8 := Aside0.mk A80
    clear A80
    obtain rfl := Option.some.inj H
    go_wp2_with (first | ((with_reducible refine gate_callee (f := 9) rfl ?_); refine goesL_ (some 30) rfl rfl Tryd.func9 (by kernel_rfl) rfl #[] rfl (by (try simp only [List.map_toArray, List.map_cons, List.map_nil]); first | done | rfl | (simp only [List.length_drop, List.length_take]; rfl)) ?_; (with_reducible refine (ndjqlaw20_awake.calls kj4  t288 _ ?side1 A8.out).mono ?_); (case side1 => exact GlbLaid.below HG.out (by repeat (first | (with_reducible first | exact HB.out | apply wA | apply wN | apply wD) | exact HB.out))); rintro e w9 ⟨rfl, hb⟩; refine ⟨_, rfl, ?_⟩; have n0_ := Aside0.mk (below_step (by repeat (first | (with_reducible first | exact HB.out | apply wA | apply wN | apply wD) | exact HB.out)) hb); clear HB; have HB := n0_; clear n0_; (try clear hb); (try clear hb2); (try clear hk); (try clear hi)))
    go_ret
    exact ⟨by first | rfl | (simp [errW_none, errW_some] <;> rfl) | (simp [*, errW_none, errW_some] <;> rfl), by repeat (first | (with_reducible first | exact HB.out | apply wA | apply wN | apply wD) | exact HB.out)⟩
   ·replace c7 := Bool.eq_false_iff.mpr c7
    subst c7
    have H1 : (if a1 > 5000 then (if a1 ≤ 1048576 then (if a2 > 0 then (ndjqlaw20_ScanChunks.j1 kj4 a0 a1 a2 l3 (decide (a2 < 100))) else (ndjqlaw20_ScanChunks.j1 kj4 a0 a1 a2 l3 false)) else (ndjqlaw20_ScanChunks.j1 kj4 a0 a1 a2 l3 false)) else (ndjqlaw20_ScanChunks.j1 kj4 a0 a1 a2 l3 false)) = some r := by rw [if_neg (show ¬ (false = true) by decide)] at H; exact H
    clear H; have H := H1; clear H1
    have HC10 := Aside0.mk H
    clear H
    go_upto_region 3 with (fail)
    go_cut [44] (fun v44 wc => ∃ (kq : Nat) (x44_9 : Bool), v44 = .bool x44_9 ∧ Aside0 (ndjqlaw20_ScanChunks.j1 kq a0 a1 a2 l3 x44_9 = some r) ∧ Aside0 (kq ≤ kj4) ∧ Aside0 (Below w.heap.size w wc))
    case first =>
     have H := HC10.out
     clear HC10
     by_cases c11 : a1 > 5000
     ·rw [if_pos c11] at H
      have c11b0 : decide (5000 < a1) = true := decide_eq_true c11
      clear c11
      (first | rw [c11b0] | (simp only [i64_w, i32_w]; rw [c11b0]) | skip)
      by_cases c12 : a1 ≤ 1048576
      ·rw [if_pos c12] at H
       have c12b0 : decide (a1 ≤ 1048576) = true := decide_eq_true c12
       clear c12
       by_cases c13 : a2 > 0
       ·rw [if_pos c13] at H
        have c13b0 : decide (0 < a2) = true := decide_eq_true c13
        clear c13
        have H' := Aside0.mk H
        clear H
        go_wp2
        go_meet
        case rel => exact ⟨_, (decide (a2 < 100)), (by first | rfl | (simp; done) | (simp [*]; done)), H', ⟨by have := HJ4.out; first | omega | exact Nat.le_refl _⟩, ⟨by repeat (first | (with_reducible first | exact HB.out | apply wA | apply wN | apply wD) | exact HB.out)⟩⟩
       ·rw [if_neg c13] at H
        have c13b0 : decide (0 < a2) = false := decide_eq_false c13
        clear c13
        have H' := Aside0.mk H
        clear H
        go_wp2
        go_meet
        case rel => exact ⟨_, (false), (by first | rfl | (simp; done) | (simp [*]; done)), H', ⟨by have := HJ4.out; first | omega | exact Nat.le_refl _⟩, ⟨by repeat (first | (with_reducible first | exact HB.out | apply wA | apply wN | apply wD) | exact HB.out)⟩⟩
      ·rw [if_neg c12] at H
       have c12b0 : decide (a1 ≤ 1048576) = false := decide_eq_false c12
       clear c12
       have H' := Aside0.mk H
       clear H
       go_wp2
       go_meet
       case rel => exact ⟨_, (false), (by first | rfl | (simp; done) | (simp [*]; done)), H', ⟨by have := HJ4.out; first | omega | exact Nat.le_refl _⟩, ⟨by repeat (first | (with_reducible first | exact HB.out | apply wA | apply wN | apply wD) | exact HB.out)⟩⟩
     ·rw [if_neg c11] at H
      have c11b0 : decide (5000 < a1) = false := decide_eq_false c11
      clear c11
      (first | rw [c11b0] | (simp only [i64_w, i32_w]; rw [c11b0]) | skip)
      have H' := Aside0.mk H
      clear H
      go_wp2
      go_meet
      case rel => exact ⟨_, (false), (by first | rfl | (simp; done) | (simp [*]; done)), H', ⟨by have := HJ4.out; first | omega | exact Nat.le_refl _⟩, ⟨by repeat (first | (with_reducible first | exact HB.out | apply wA | apply wN | apply wD) | exact HB.out)⟩⟩
    case rest =>
     clear HC10
     (try clear c1); (try clear c7); (try clear c9); (try clear c11); (try clear c11b0); (try clear c12); (try clear c12b0); (try clear c13); (try clear c13b0)
     obtain ⟨kq, x44_9, rfl, HA, HJ9, HB⟩ := hcut
     cases kq with
     | zero => exact absurd HA.out (by simp [ndjqlaw20_ScanChunks.j1])
     | succ kj9 =>
      have H := HA.out
      clear HA
      simp only [ndjqlaw20_ScanChunks.j1] at H
      have HC14 := Aside0.mk H
      clear H
      go_upto_if 44 with (fail)
      go_cut [1] (fun v1 wc => ∃ (kq : Nat) (x1_13 : Int), v1 = .int .i64 x1_13 ∧ Aside0 (ndjqlaw20_ScanChunks.j2 kq a0 x1_13 a2 l3 = some r) ∧ Aside0 (kq ≤ kj9) ∧ Aside0 (Below w.heap.size w wc))
      case first =>
       have H := HC14.out
       clear HC14
       by_cases c15 : x44_9 = true
       ·subst c15
        have H1 : (ndjqlaw20_ScanChunks.j2 kj9 a0 (Int.tmod a1 5000) a2 l3) = some r := by rw [if_pos rfl] at H; exact H
        clear H; have H := H1; clear H1
        have H' := Aside0.mk H
        clear H
        go_wp2
        go_meet
        case rel => exact ⟨_, (Int.tmod a1 5000), (by first | rfl | (simp; done) | (simp [*]; done)), H', ⟨by have := HJ4.out; have := HJ9.out; first | omega | exact Nat.le_refl _⟩, ⟨by repeat (first | (with_reducible first | exact HB.out | apply wA | apply wN | apply wD) | exact HB.out)⟩⟩
       ·replace c15 := Bool.eq_false_iff.mpr c15
        subst c15
        have H1 : (ndjqlaw20_ScanChunks.j2 kj9 a0 a1 a2 l3) = some r := by rw [if_neg (show ¬ (false = true) by decide)] at H; exact H
        clear H; have H := H1; clear H1
        have H' := Aside0.mk H
        clear H
        go_wp2
        go_meet
        case rel => exact ⟨_, (a1), (by first | rfl | (simp; done) | (simp [*]; done)), H', ⟨by have := HJ4.out; have := HJ9.out; first | omega | exact Nat.le_refl _⟩, ⟨by repeat (first | (with_reducible first | exact HB.out | apply wA | apply wN | apply wD) | exact HB.out)⟩⟩
      case rest =>
       clear HC14
       (try clear c15)
       obtain ⟨kq, x1_13, rfl, HA, HJ13, HB⟩ := hcut
       cases kq with
       | zero => exact absurd HA.out (by simp [ndjqlaw20_ScanChunks.j2])
       | succ kj13 =>
        have H := HA.out
        clear HA
        simp only [ndjqlaw20_ScanChunks.j2] at H
        replace H := Option.bind_eq_some_iff.mp H
        obtain ⟨⟨t289, t290⟩, A160, H⟩ := H
        replace H : ((ndjqref20_Chunks.f kj13 x1_13 a2).bind fun bt293 => ((scan_Summaries.f kj13 a0 a2).bind fun bt297 => ((ndjqref20_Summaries.f kj13 a0 a2).bind fun bt301 => ((ndjqkeep_Spans.f kj13 t289 bt293.1).bind fun t305 => (if t305 = true then (if t290 = bt293.2 then (if (bt297.1.length : Int) = (bt301.1.length : Int) then (ndjqlaw20_ScanChunks.j3 kj13 l3 bt297.1 bt301.1 (bt297.2 != bt301.2)) else (ndjqlaw20_ScanChunks.j3 kj13 l3 bt297.1 bt301.1 true)) else (ndjqlaw20_ScanChunks.j3 kj13 l3 bt297.1 bt301.1 true)) else (ndjqlaw20_ScanChunks.j3 kj13 l3 bt297.1 bt301.1 true)))))) = some r := H
        have A16 := Aside0.mk A160
        clear A160
        replace H := Option.bind_eq_some_iff.mp H
        obtain ⟨⟨t293, t294⟩, A170, H⟩ := H
        replace H : ((scan_Summaries.f kj13 a0 a2).bind fun bt297 => ((ndjqref20_Summaries.f kj13 a0 a2).bind fun bt301 => ((ndjqkeep_Spans.f kj13 t289 t293).bind fun t305 => (if t305 = true then (if t290 = t294 then (if (bt297.1.length : Int) = (bt301.1.length : Int) then (ndjqlaw20_ScanChunks.j3 kj13 l3 bt297.1 bt301.1 (bt297.2 != bt301.2)) else (ndjqlaw20_ScanChunks.j3 kj13 l3 bt297.1 bt301.1 true)) else (ndjqlaw20_ScanChunks.j3 kj13 l3 bt297.1 bt301.1 true)) else (ndjqlaw20_ScanChunks.j3 kj13 l3 bt297.1 bt301.1 true))))) = some r := H
        have A17 := Aside0.mk A170
        clear A170
        replace H := Option.bind_eq_some_iff.mp H
        obtain ⟨⟨t297, t298⟩, A180, H⟩ := H
        replace H : ((ndjqref20_Summaries.f kj13 a0 a2).bind fun bt301 => ((ndjqkeep_Spans.f kj13 t289 t293).bind fun t305 => (if t305 = true then (if t290 = t294 then (if (t297.length : Int) = (bt301.1.length : Int) then (ndjqlaw20_ScanChunks.j3 kj13 l3 t297 bt301.1 (t298 != bt301.2)) else (ndjqlaw20_ScanChunks.j3 kj13 l3 t297 bt301.1 true)) else (ndjqlaw20_ScanChunks.j3 kj13 l3 t297 bt301.1 true)) else (ndjqlaw20_ScanChunks.j3 kj13 l3 t297 bt301.1 true)))) = some r := H
        have A18 := Aside0.mk A180
        clear A180
        replace H := Option.bind_eq_some_iff.mp H
        obtain ⟨⟨t301, t302⟩, A190, H⟩ := H
        replace H : ((ndjqkeep_Spans.f kj13 t289 t293).bind fun t305 => (if t305 = true then (if t290 = t294 then (if (t297.length : Int) = (t301.length : Int) then (ndjqlaw20_ScanChunks.j3 kj13 l3 t297 t301 (t298 != t302)) else (ndjqlaw20_ScanChunks.j3 kj13 l3 t297 t301 true)) else (ndjqlaw20_ScanChunks.j3 kj13 l3 t297 t301 true)) else (ndjqlaw20_ScanChunks.j3 kj13 l3 t297 t301 true))) = some r := H
        have A19 := Aside0.mk A190
        clear A190
        have HC20 := Aside0.mk H
        clear H
        go_upto_region 9 with (first | ((with_reducible refine gate_callee (f := 13) rfl ?_); refine goesL_ (some 50) rfl rfl Tryd.func13 (by kernel_rfl) rfl #[.int .i64 x1_13, .int .i64 a2] rfl (by (try simp only [List.map_toArray, List.map_cons, List.map_nil]); first | done | rfl | (simp only [List.length_drop, List.length_take]; rfl)) ?_; (with_reducible refine (scan_Chunks.calls kj13 x1_13 a2 t289 t290 _ A16.out).mono ?_); rintro e w21 ⟨v291, rfl, ho0, hb⟩; refine ⟨_, rfl, ?_⟩; have n0_ := Aside0.mk (Kd.R_lower ho0 (below_size (by repeat (first | (with_reducible first | exact HB.out | apply wA | apply wN | apply wD) | exact HB.out)))); have n1_ := Aside0.mk (below_step (by repeat (first | (with_reducible first | exact HB.out | apply wA | apply wN | apply wD) | exact HB.out)) hb); clear HB; have HO292 := n0_; have HB := n1_; clear n0_ n1_; (try clear hb); (try clear hb2); (try clear hk); (try clear hi); (try clear ho0)) | ((with_reducible refine gate_callee (f := 14) rfl ?_); refine goesL_ (some 56) rfl rfl Tryd.func14 (by kernel_rfl) rfl #[.int .i64 x1_13, .int .i64 a2] rfl (by (try simp only [List.map_toArray, List.map_cons, List.map_nil]); first | done | rfl | (simp only [List.length_drop, List.length_take]; rfl)) ?_; (with_reducible refine (ndjqref20_Chunks.calls kj13 x1_13 a2 t293 t294 _ A17.out).mono ?_); rintro e w22 ⟨v295, rfl, ho0, hb⟩; refine ⟨_, rfl, ?_⟩; have n0_ := Aside0.mk (Kd.R_elder' (by (with_reducible repeat (first | apply rA | apply rN | apply rD)); exact HO292.out) (Kd.R_base ho0) hb); have n1_ := Aside0.mk (Kd.R_lower (Kd.R_new' ho0 (Kd.R_lt (by (with_reducible repeat (first | apply rA | apply rN | apply rD)); exact HO292.out))) (below_size (by repeat (first | (with_reducible first | exact HB.out | apply wA | apply wN | apply wD) | exact HB.out)))); have n2_ := Aside0.mk (below_step (by repeat (first | (with_reducible first | exact HB.out | apply wA | apply wN | apply wD) | exact HB.out)) hb); clear HO292; clear HB; have HO292 := n0_; have HO296 := n1_; have HB := n2_; clear n0_ n1_ n2_; (try clear hb); (try clear hb2); (try clear hk); (try clear hi); (try clear ho0)) | ((with_reducible refine gate_callee (f := 15) rfl ?_); refine goesL_ (some 62) rfl rfl Tryd.func15 (by kernel_rfl) rfl #[.string a0, .int .i64 a2] rfl (by (try simp only [List.map_toArray, List.map_cons, List.map_nil]); first | done | rfl | (simp only [List.length_drop, List.length_take]; rfl)) ?_; (with_reducible refine (scan_Summaries.calls kj13 a0 a2 t297 t298 _ ?side1 A18.out).mono ?_); (case side1 => exact GlbLaid.below HG.out (by repeat (first | (with_reducible first | exact HB.out | apply wA | apply wN | apply wD) | exact HB.out))); rintro e w23 ⟨v299, rfl, ho0, hb⟩; refine ⟨_, rfl, ?_⟩; have n0_ := Aside0.mk (Kd.R_below (by (with_reducible repeat (first | apply rA | apply rN | apply rD)); exact HO292.out) hb); have n1_ := Aside0.mk (Kd.R_below (by (with_reducible repeat (first | apply rA | apply rN | apply rD)); exact HO296.out) hb); have n2_ := Aside0.mk (Kd.S_lower ho0 (below_size (by repeat (first | (with_reducible first | exact HB.out | apply wA | apply wN | apply wD) | exact HB.out)))); have n3_ := Aside0.mk (below_step (by repeat (first | (with_reducible first | exact HB.out | apply wA | apply wN | apply wD) | exact HB.out)) hb); clear HO292; clear HO296; clear HB; have HO292 := n0_; have HO296 := n1_; have HO300 := n2_; have HB := n3_; clear n0_ n1_ n2_ n3_; (try clear hb); (try clear hb2); (try clear hk); (try clear hi); (try clear ho0)) | ((with_reducible refine gate_callee (f := 16) rfl ?_); refine goesL_ (some 68) rfl rfl Tryd.func16 (by kernel_rfl) rfl #[.string a0, .int .i64 a2] rfl (by (try simp only [List.map_toArray, List.map_cons, List.map_nil]); first | done | rfl | (simp only [List.length_drop, List.length_take]; rfl)) ?_; (with_reducible refine (ndjqref20_Summaries.calls kj13 a0 a2 t301 t302 _ A19.out).mono ?_); rintro e w24 ⟨v303, rfl, ho0, hb⟩; refine ⟨_, rfl, ?_⟩; have n0_ := Aside0.mk (Kd.R_below (by (with_reducible repeat (first | apply rA | apply rN | apply rD)); exact HO292.out) hb); have n1_ := Aside0.mk (Kd.R_below (by (with_reducible repeat (first | apply rA | apply rN | apply rD)); exact HO296.out) hb); have n2_ := Aside0.mk (Kd.S_elder' (by (with_reducible repeat (first | apply Kd.S_alloc | apply Kd.S_drewN | apply Kd.S_drew)); exact HO300.out) (Kd.S_base ho0) hb); have n3_ := Aside0.mk (Kd.S_lower (Kd.S_new' ho0 (Kd.S_lt (by (with_reducible repeat (first | apply Kd.S_alloc | apply Kd.S_drewN | apply Kd.S_drew)); exact HO300.out))) (below_size (by repeat (first | (with_reducible first | exact HB.out | apply wA | apply wN | apply wD) | exact HB.out)))); have n4_ := Aside0.mk (below_step (by repeat (first | (with_reducible first | exact HB.out | apply wA | apply wN | apply wD) | exact HB.out)) hb); clear HO292; clear HO296; clear HO300; clear HB; have HO292 := n0_; have HO296 := n1_; have HO300 := n2_; have HO304 := n3_; have HB := n4_; clear n0_ n1_ n2_ n3_ n4_; (try clear hb); (try clear hb2); (try clear hk); (try clear hi); (try clear ho0)))
        (try simp only [Act.put, List.setIfInBounds_toArray, List.set_cons_zero, List.set_cons_succ])
        go_cut [91] (fun v91 wc => ∃ (kq : Nat) (x91_19 : Bool), v91 = .bool x91_19 ∧ Aside0 (ndjqlaw20_ScanChunks.j3 kq l3 t297 t301 x91_19 = some r) ∧ Aside0 (kq ≤ kj13) ∧ Aside0 (Kd.S k26 26 wc w.heap.size (fun k_ => some k_ ≠ (v303 : Value).ownBlock) v299 t297) ∧ Aside0 (Kd.S k26 26 wc w.heap.size (fun k_ => some k_ ≠ (v299 : Value).ownBlock) v303 t301) ∧ Aside0 (Below w.heap.size w wc))
        case first =>
         have H := HC20.out
         clear HC20
         replace H := Option.bind_eq_some_iff.mp H
         obtain ⟨t305, A250, H⟩ := H
         replace H : (if t305 = true then (if t290 = t294 then (if (t297.length : Int) = (t301.length : Int) then (ndjqlaw20_ScanChunks.j3 kj13 l3 t297 t301 (t298 != t302)) else (ndjqlaw20_ScanChunks.j3 kj13 l3 t297 t301 true)) else (ndjqlaw20_ScanChunks.j3 kj13 l3 t297 t301 true)) else (ndjqlaw20_ScanChunks.j3 kj13 l3 t297 t301 true)) = some r := H
         have A25 := Aside0.mk A250
         clear A250
         by_cases c26 : t305 = true
         ·subst c26
          have H1 : (if t290 = t294 then (if (t297.length : Int) = (t301.length : Int) then (ndjqlaw20_ScanChunks.j3 kj13 l3 t297 t301 (t298 != t302)) else (ndjqlaw20_ScanChunks.j3 kj13 l3 t297 t301 true)) else (ndjqlaw20_ScanChunks.j3 kj13 l3 t297 t301 true)) = some r := by rw [if_pos rfl] at H; exact H
          clear H; have H := H1; clear H1
          by_cases c27 : t290 = t294
          ·rw [if_pos c27] at H
           have c27b0 : (t290 == t294) = true := beq_iff_eq.mpr c27
           have c27b1 : (t290 != t294) = false := bne_eq_false_iff_eq.mpr c27
           clear c27
           (first | rw [c27b0] | (simp only [i64_w, i32_w]; rw [c27b0]) | skip)
           by_cases c28 : (t297.length : Int) = (t301.length : Int)
           ·rw [if_pos c28] at H
            have c28b0 : ((t297.length : Int) == (t301.length : Int)) = true := beq_iff_eq.mpr c28
            have c28b1 : ((t297.length : Int) != (t301.length : Int)) = false := bne_eq_false_iff_eq.mpr c28
            have c28b2 : (t297.length == t301.length) = true := by first | simpa using c28 | (simp at c28 ⊢; omega)
            clear c28
            have H' := Aside0.mk H
            clear H
            obtain ⟨Ao29, co29, eo29⟩ := Kd.R_slice HO292.out
            subst eo29
            obtain ⟨Ao30, co30, eo30⟩ := Kd.R_slice HO296.out
            subst eo30
            go_wp2_with (first | ((with_reducible refine gate_callee (f := 12) rfl ?_); refine goesL_ (some 73) rfl rfl Tryd.func12 (by kernel_rfl) rfl #[.slice Ao29 t289.length co29, .slice Ao30 t293.length co30] rfl (by (try simp only [List.map_toArray, List.map_cons, List.map_nil]); first | done | rfl | (simp only [List.length_drop, List.length_take]; rfl)) ?_; (with_reducible refine (ndjqkeep_Spans.calls kj13 _ _ t289 _ _ t293 true _ ?side1 ?side2 ?side3 ?side4 A25.out).mono ?_); (case side1 => repeat (first | exact (Kd.R_reads' HO292.out).2.2 | (with_reducible refine Kd.C_alloc ?_ _) | (with_reducible refine Kd.C_drewN ?_ _) | (with_reducible refine Kd.C_drew ?_))); (case side2 => exact (Kd.R_reads' HO292.out).2.1); (case side3 => repeat (first | exact (Kd.R_reads' HO296.out).2.2 | (with_reducible refine Kd.C_alloc ?_ _) | (with_reducible refine Kd.C_drewN ?_ _) | (with_reducible refine Kd.C_drew ?_))); (case side4 => exact (Kd.R_reads' HO296.out).2.1); rintro e w' ⟨rfl, ⟨nd, rfl⟩⟩; refine ⟨_, rfl, ?_⟩; obtain ⟨Ao31, co31, eo31⟩ := Kd.S_slice HO300.out; subst eo31; obtain ⟨Ao32, co32, eo32⟩ := Kd.S_slice HO304.out; subst eo32))
            go_meet
            case rel => exact ⟨_, ((t298 != t302)), (by first | rfl | (simp; done) | (simp [*]; done)), H', ⟨by have := HJ4.out; have := HJ9.out; have := HJ13.out; first | omega | exact Nat.le_refl _⟩, ⟨by (with_reducible repeat (first | apply Kd.S_alloc | apply Kd.S_drewN | apply Kd.S_drew)); exact Kd.S_mono HO300.out (fun _ hk => hk.2)⟩, ⟨by (with_reducible repeat (first | apply Kd.S_alloc | apply Kd.S_drewN | apply Kd.S_drew)); exact Kd.S_mono HO304.out (fun _ hk => hk.2)⟩, ⟨by repeat (first | (with_reducible first | exact HB.out | apply wA | apply wN | apply wD) | exact HB.out)⟩⟩
           ·rw [if_neg c28] at H
            have c28b0 : ((t297.length : Int) == (t301.length : Int)) = false := beq_eq_false_iff_ne.mpr c28
            have c28b1 : ((t297.length : Int) != (t301.length : Int)) = true := bne_iff_ne.mpr c28
            have c28b2 : (t297.length == t301.length) = false := by first | simpa using c28 | (simp at c28 ⊢; omega)
            have H' := Aside0.mk H
            clear H
            obtain ⟨Ao33, co33, eo33⟩ := Kd.R_slice HO292.out
            subst eo33
            obtain ⟨Ao34, co34, eo34⟩ := Kd.R_slice HO296.out
            subst eo34
            go_wp2_with (first | ((with_reducible refine gate_callee (f := 12) rfl ?_); refine goesL_ (some 73) rfl rfl Tryd.func12 (by kernel_rfl) rfl #[.slice Ao33 t289.length co33, .slice Ao34 t293.length co34] rfl (by (try simp only [List.map_toArray, List.map_cons, List.map_nil]); first | done | rfl | (simp only [List.length_drop, List.length_take]; rfl)) ?_; (with_reducible refine (ndjqkeep_Spans.calls kj13 _ _ t289 _ _ t293 true _ ?side1 ?side2 ?side3 ?side4 A25.out).mono ?_); (case side1 => repeat (first | exact (Kd.R_reads' HO292.out).2.2 | (with_reducible refine Kd.C_alloc ?_ _) | (with_reducible refine Kd.C_drewN ?_ _) | (with_reducible refine Kd.C_drew ?_))); (case side2 => exact (Kd.R_reads' HO292.out).2.1); (case side3 => repeat (first | exact (Kd.R_reads' HO296.out).2.2 | (with_reducible refine Kd.C_alloc ?_ _) | (with_reducible refine Kd.C_drewN ?_ _) | (with_reducible refine Kd.C_drew ?_))); (case side4 => exact (Kd.R_reads' HO296.out).2.1); rintro e w' ⟨rfl, ⟨nd, rfl⟩⟩; refine ⟨_, rfl, ?_⟩; obtain ⟨Ao35, co35, eo35⟩ := Kd.S_slice HO300.out; subst eo35; obtain ⟨Ao36, co36, eo36⟩ := Kd.S_slice HO304.out; subst eo36))
            go_meet
            case rel => exact ⟨_, (true), (by first | rfl | (simp; done) | (simp [*]; done)), H', ⟨by have := HJ4.out; have := HJ9.out; have := HJ13.out; first | omega | exact Nat.le_refl _⟩, ⟨by (with_reducible repeat (first | apply Kd.S_alloc | apply Kd.S_drewN | apply Kd.S_drew)); exact Kd.S_mono HO300.out (fun _ hk => hk.2)⟩, ⟨by (with_reducible repeat (first | apply Kd.S_alloc | apply Kd.S_drewN | apply Kd.S_drew)); exact Kd.S_mono HO304.out (fun _ hk => hk.2)⟩, ⟨by repeat (first | (with_reducible first | exact HB.out | apply wA | apply wN | apply wD) | exact HB.out)⟩⟩
          ·rw [if_neg c27] at H
           have c27b0 : (t290 == t294) = false := beq_eq_false_iff_ne.mpr c27
           have c27b1 : (t290 != t294) = true := bne_iff_ne.mpr c27
           (first | rw [c27b0] | (simp only [i64_w, i32_w]; rw [c27b0]) | skip)
           have H' := Aside0.mk H
           clear H
           obtain ⟨Ao37, co37, eo37⟩ := Kd.R_slice HO292.out
           subst eo37
           obtain ⟨Ao38, co38, eo38⟩ := Kd.R_slice HO296.out
           subst eo38
           go_wp2_with (first | ((with_reducible refine gate_callee (f := 12) rfl ?_); refine goesL_ (some 73) rfl rfl Tryd.func12 (by kernel_rfl) rfl #[.slice Ao37 t289.length co37, .slice Ao38 t293.length co38] rfl (by (try simp only [List.map_toArray, List.map_cons, List.map_nil]); first | done | rfl | (simp only [List.length_drop, List.length_take]; rfl)) ?_; (with_reducible refine (ndjqkeep_Spans.calls kj13 _ _ t289 _ _ t293 true _ ?side1 ?side2 ?side3 ?side4 A25.out).mono ?_); (case side1 => repeat (first | exact (Kd.R_reads' HO292.out).2.2 | (with_reducible refine Kd.C_alloc ?_ _) | (with_reducible refine Kd.C_drewN ?_ _) | (with_reducible refine Kd.C_drew ?_))); (case side2 => exact (Kd.R_reads' HO292.out).2.1); (case side3 => repeat (first | exact (Kd.R_reads' HO296.out).2.2 | (with_reducible refine Kd.C_alloc ?_ _) | (with_reducible refine Kd.C_drewN ?_ _) | (with_reducible refine Kd.C_drew ?_))); (case side4 => exact (Kd.R_reads' HO296.out).2.1); rintro e w' ⟨rfl, ⟨nd, rfl⟩⟩; refine ⟨_, rfl, ?_⟩))
           go_meet
           case rel => exact ⟨_, (true), (by first | rfl | (simp; done) | (simp [*]; done)), H', ⟨by have := HJ4.out; have := HJ9.out; have := HJ13.out; first | omega | exact Nat.le_refl _⟩, ⟨by (with_reducible repeat (first | apply Kd.S_alloc | apply Kd.S_drewN | apply Kd.S_drew)); exact Kd.S_mono HO300.out (fun _ hk => hk.2)⟩, ⟨by (with_reducible repeat (first | apply Kd.S_alloc | apply Kd.S_drewN | apply Kd.S_drew)); exact Kd.S_mono HO304.out (fun _ hk => hk.2)⟩, ⟨by repeat (first | (with_reducible first | exact HB.out | apply wA | apply wN | apply wD) | exact HB.out)⟩⟩
         ·replace c26 := Bool.eq_false_iff.mpr c26
          subst c26
          have H1 : (ndjqlaw20_ScanChunks.j3 kj13 l3 t297 t301 true) = some r := by rw [if_neg (show ¬ (false = true) by decide)] at H; exact H
          clear H; have H := H1; clear H1
          have H' := Aside0.mk H
          clear H
          obtain ⟨Ao39, co39, eo39⟩ := Kd.R_slice HO292.out
          subst eo39
          obtain ⟨Ao40, co40, eo40⟩ := Kd.R_slice HO296.out
          subst eo40
          go_wp2_with (first | ((with_reducible refine gate_callee (f := 12) rfl ?_); refine goesL_ (some 73) rfl rfl Tryd.func12 (by kernel_rfl) rfl #[.slice Ao39 t289.length co39, .slice Ao40 t293.length co40] rfl (by (try simp only [List.map_toArray, List.map_cons, List.map_nil]); first | done | rfl | (simp only [List.length_drop, List.length_take]; rfl)) ?_; (with_reducible refine (ndjqkeep_Spans.calls kj13 _ _ t289 _ _ t293 false _ ?side1 ?side2 ?side3 ?side4 A25.out).mono ?_); (case side1 => repeat (first | exact (Kd.R_reads' HO292.out).2.2 | (with_reducible refine Kd.C_alloc ?_ _) | (with_reducible refine Kd.C_drewN ?_ _) | (with_reducible refine Kd.C_drew ?_))); (case side2 => exact (Kd.R_reads' HO292.out).2.1); (case side3 => repeat (first | exact (Kd.R_reads' HO296.out).2.2 | (with_reducible refine Kd.C_alloc ?_ _) | (with_reducible refine Kd.C_drewN ?_ _) | (with_reducible refine Kd.C_drew ?_))); (case side4 => exact (Kd.R_reads' HO296.out).2.1); rintro e w' ⟨rfl, ⟨nd, rfl⟩⟩; refine ⟨_, rfl, ?_⟩))
          go_meet
          case rel => exact ⟨_, (true), (by first | rfl | (simp; done) | (simp [*]; done)), H', ⟨by have := HJ4.out; have := HJ9.out; have := HJ13.out; first | omega | exact Nat.le_refl _⟩, ⟨by (with_reducible repeat (first | apply Kd.S_alloc | apply Kd.S_drewN | apply Kd.S_drew)); exact Kd.S_mono HO300.out (fun _ hk => hk.2)⟩, ⟨by (with_reducible repeat (first | apply Kd.S_alloc | apply Kd.S_drewN | apply Kd.S_drew)); exact Kd.S_mono HO304.out (fun _ hk => hk.2)⟩, ⟨by repeat (first | (with_reducible first | exact HB.out | apply wA | apply wN | apply wD) | exact HB.out)⟩⟩
        case rest =>
         clear HC20
         (try clear c2); (try clear c14); (try clear c16); (try clear c26); (try clear c27); (try clear c27b0); (try clear c27b1); (try clear c28); (try clear c28b0); (try clear c28b1); (try clear c28b2)
         obtain ⟨kq, x91_19, rfl, HA, HJ19, HO_13, HO_15, HB⟩ := hcut
         cases kq with
         | zero => exact absurd HA.out (by simp [ndjqlaw20_ScanChunks.j3])
         | succ kj19 =>
          have H := HA.out
          clear HA
          simp only [ndjqlaw20_ScanChunks.j3] at H
          by_cases c41 : x91_19 = true
          ·subst c41
           have H1 : (some false) = some r := by rw [if_pos rfl] at H; exact H
           clear H; have H := H1; clear H1
           obtain rfl := Option.some.inj H
           go_wp2
           go_ret
           exact ⟨by first | rfl | (simp [errW_none, errW_some] <;> rfl) | (simp [*, errW_none, errW_some] <;> rfl), by repeat (first | (with_reducible first | exact HB.out | apply wA | apply wN | apply wD) | exact HB.out)⟩
          ·replace c41 := Bool.eq_false_iff.mpr c41
           subst c41
           have H1 : (ndjqlaw20_ScanChunks.l0 kj19 l3 t297 t301 0) = some r := by rw [if_neg (show ¬ (false = true) by decide)] at H; exact H
           clear H; have H := H1; clear H1
           have H' := Aside0.mk H
           clear H
           go_wp2
           go_loopg [17] kj19 (fun kq v17 w' => ∃ (x17_5 : Int), v17 = .int .i64 x17_5 ∧ Aside0 (ndjqlaw20_ScanChunks.l0 kq l3 t297 t301 x17_5 = some r) ∧ Aside0 (kq ≤ kj19) ∧ Aside0 (Kd.S k26 26 w' w.heap.size (fun k_ => some k_ ≠ (v303 : Value).ownBlock) v299 t297) ∧ Aside0 (Kd.S k26 26 w' w.heap.size (fun k_ => some k_ ≠ (v299 : Value).ownBlock) v303 t301) ∧ Aside0 (Below w.heap.size w w'))
           case atStart => exact ⟨(0), (by first | rfl | (simp; done) | (simp [*]; done)), H', ⟨Nat.le_refl _⟩, ⟨by (with_reducible repeat (first | apply Kd.S_alloc | apply Kd.S_drewN | apply Kd.S_drew)); exact HO_13.out⟩, ⟨by (with_reducible repeat (first | apply Kd.S_alloc | apply Kd.S_drewN | apply Kd.S_drew)); exact HO_15.out⟩, ⟨by repeat (first | (with_reducible first | exact HB.out | apply wA | apply wN | apply wD) | exact HB.out)⟩⟩
           case round =>
            clear H'
            (try clear c41)
            obtain ⟨x17_5, rfl, HA, HK5, HO_13, HO_15, HB⟩ := hrel
            cases gk with
            | zero => exact absurd HA.out (by simp [ndjqlaw20_ScanChunks.l0])
            | succ k5 =>
             have H := HA.out
             clear HA
             simp only [ndjqlaw20_ScanChunks.l0] at H
             by_cases c42 : x17_5 < (t297.length : Int)
             ·rw [if_pos c42] at H
              have c42b0 : decide (x17_5 < (t297.length : Int)) = true := decide_eq_true c42
              clear c42
              by_cases c43 : 0 ≤ x17_5
              ·rw [if_pos c43] at H
               have c43b0 : decide (0 ≤ x17_5) = true := decide_eq_true c43
               clear c43
               by_cases c44 : x17_5 < (t301.length : Int)
               ·rw [if_pos c44] at H
                have c44b0 : decide (x17_5 < (t301.length : Int)) = true := decide_eq_true c44
                clear c44
                replace H := Option.bind_eq_some_iff.mp H
                obtain ⟨t308, A450, H⟩ := H
                replace H : (if t308 = true then (ndjqlaw20_ScanChunks.l0 k5 l3 t297 t301 (wrap64 (x17_5 + 1))) else (some false)) = some r := H
                have A45 := Aside0.mk A450
                clear A450
                by_cases c46 : t308 = true
                ·subst c46
                 have H1 : (ndjqlaw20_ScanChunks.l0 k5 l3 t297 t301 (wrap64 (x17_5 + 1))) = some r := by rw [if_pos rfl] at H; exact H
                 clear H; have H := H1; clear H1
                 have H' := Aside0.mk H
                 clear H
                 obtain ⟨Ao47, co47, eo47⟩ := Kd.S_slice HO_13.out
                 subst eo47
                 try go_wp2
                 have n0_ := Aside0.mk (Kd.S_drew HO_13.out)
                 have n1_ := Aside0.mk (Kd.S_drew HO_15.out)
                 have n2_ := Aside0.mk (below_drew1 HB.out)
                 clear HO_13
                 clear HO_15
                 clear HB
                 have HO_13 := n0_
                 have HO_15 := n1_
                 have HB := n2_
                 clear n0_ n1_ n2_
                 have p306 : 0 ≤ (x17_5 : Int) := of_decide_eq_true (by first | (with_reducible assumption) | assumption)
                 have q306 : x17_5 < (t297.length : Int) := of_decide_eq_true (by first | (with_reducible assumption) | assumption)
                 obtain ⟨ad306, A306_4, c306_4, A306_5, c306_5, A306_6, c306_6, e306, hx306_0, hx306_1, hx306_2, hx306_3, hx306_4, hx306_5, hx306_6, hl306_4, hi306_4, hl306_5, hi306_5, hl306_6, hi306_6⟩ := at_T26 (Kd.S_reads' HO_13.out).2.2 x17_5 p306 q306
                 cases e306
                 obtain ⟨ce306, hce306, hMe306, hcc306⟩ := Kd.S_get HO_13.out z26 x17_5 p306 (by first | exact q306 | exact of_decide_eq_true (by first | (with_reducible assumption) | assumption) | (have e_ := (Kd.S_reads' HO_13.out).1; omega))
                 obtain ⟨ve306_4, ve306_5, ve306_6, rfl, ge306_4, ge306_5, ge306_6⟩ := k26_openM hMe306
                 have hv306_4 := hcc306 4 _ rfl
                 rw [add_field _ _ 4 (by omega)] at hv306_4
                 replace hv306_4 := Option.some.inj (hv306_4.symm.trans hx306_4)
                 rw [hv306_4] at ge306_4
                 have HL306_4 := Aside0.mk (show Kd.R (Kd.int .i64) 3 _ _ _ _ ((rd_T26 t297 x17_5).f2.f0) from ge306_4)
                 clear hv306_4 ge306_4
                 have hv306_5 := hcc306 5 _ rfl
                 rw [add_field _ _ 5 (by omega)] at hv306_5
                 replace hv306_5 := Option.some.inj (hv306_5.symm.trans hx306_5)
                 rw [hv306_5] at ge306_5
                 have HL306_5 := Aside0.mk (show Kd.R (Kd.int .i64) 3 _ _ _ _ ((rd_T26 t297 x17_5).f2.f1) from ge306_5)
                 clear hv306_5 ge306_5
                 have hv306_6 := hcc306 6 _ rfl
                 rw [add_field _ _ 6 (by omega)] at hv306_6
                 replace hv306_6 := Option.some.inj (hv306_6.symm.trans hx306_6)
                 rw [hv306_6] at ge306_6
                 have HL306_6 := Aside0.mk (show Kd.R (Kd.int .i64) 3 _ _ _ _ ((rd_T26 t297 x17_5).f2.f2) from ge306_6)
                 clear hv306_6 ge306_6
                 clear hcc306 hce306
                 have HR306_4 := Aside0.mk hi306_4
                 have HC306_4 := Aside0.mk hl306_4
                 clear hi306_4 hl306_4
                 have HR306_5 := Aside0.mk hi306_5
                 have HC306_5 := Aside0.mk hl306_5
                 clear hi306_5 hl306_5
                 have HR306_6 := Aside0.mk hi306_6
                 have HC306_6 := Aside0.mk hl306_6
                 clear hi306_6 hl306_6
                 replace p306 := eq_true p306; replace q306 := eq_true q306
                 obtain ⟨Ao49, co49, eo49⟩ := Kd.S_slice HO_15.out
                 (first | subst eo49 | (injection eo49 with f1_ f2_ f3_; have f4_ := f1_.symm; have f5_ := f3_.symm; clear f1_ f2_ f3_; subst f4_; subst f5_))
                 have p307 : 0 ≤ (x17_5 : Int) := of_decide_eq_true (by first | (with_reducible assumption) | assumption)
                 have q307 : x17_5 < (t301.length : Int) := of_decide_eq_true (by first | (with_reducible assumption) | assumption)
                 obtain ⟨ad307, A307_4, c307_4, A307_5, c307_5, A307_6, c307_6, e307, hx307_0, hx307_1, hx307_2, hx307_3, hx307_4, hx307_5, hx307_6, hl307_4, hi307_4, hl307_5, hi307_5, hl307_6, hi307_6⟩ := at_T26 (Kd.S_reads' HO_15.out).2.2 x17_5 p307 q307
                 cases e307
                 obtain ⟨ce307, hce307, hMe307, hcc307⟩ := Kd.S_get HO_15.out z26 x17_5 p307 (by first | exact q307 | exact of_decide_eq_true (by first | (with_reducible assumption) | assumption) | (have e_ := (Kd.S_reads' HO_15.out).1; omega))
                 obtain ⟨ve307_4, ve307_5, ve307_6, rfl, ge307_4, ge307_5, ge307_6⟩ := k26_openM hMe307
                 have hv307_4 := hcc307 4 _ rfl
                 rw [add_field _ _ 4 (by omega)] at hv307_4
                 replace hv307_4 := Option.some.inj (hv307_4.symm.trans hx307_4)
                 rw [hv307_4] at ge307_4
                 have HL307_4 := Aside0.mk (show Kd.R (Kd.int .i64) 3 _ _ _ _ ((rd_T26 t301 x17_5).f2.f0) from ge307_4)
                 clear hv307_4 ge307_4
                 have hv307_5 := hcc307 5 _ rfl
                 rw [add_field _ _ 5 (by omega)] at hv307_5
                 replace hv307_5 := Option.some.inj (hv307_5.symm.trans hx307_5)
                 rw [hv307_5] at ge307_5
                 have HL307_5 := Aside0.mk (show Kd.R (Kd.int .i64) 3 _ _ _ _ ((rd_T26 t301 x17_5).f2.f1) from ge307_5)
                 clear hv307_5 ge307_5
                 have hv307_6 := hcc307 6 _ rfl
                 rw [add_field _ _ 6 (by omega)] at hv307_6
                 replace hv307_6 := Option.some.inj (hv307_6.symm.trans hx307_6)
                 rw [hv307_6] at ge307_6
                 have HL307_6 := Aside0.mk (show Kd.R (Kd.int .i64) 3 _ _ _ _ ((rd_T26 t301 x17_5).f2.f2) from ge307_6)
                 clear hv307_6 ge307_6
                 clear hcc307 hce307
                 have HR307_4 := Aside0.mk hi307_4
                 have HC307_4 := Aside0.mk hl307_4
                 clear hi307_4 hl307_4
                 have HR307_5 := Aside0.mk hi307_5
                 have HC307_5 := Aside0.mk hl307_5
                 clear hi307_5 hl307_5
                 have HR307_6 := Aside0.mk hi307_6
                 have HC307_6 := Aside0.mk hl307_6
                 clear hi307_6 hl307_6
                 replace p307 := eq_true p307; replace q307 := eq_true q307
                 refine start_ (n := 10) (S := fun w' => w'.cell? (ad306.add ((x17_5).toNat * 7)) = some (.int .i64 ((rd_T26 t297 x17_5).f0)) ∧ w'.cell? ⟨(ad306.add ((x17_5).toNat * 7)).block, (ad306.add ((x17_5).toNat * 7)).off + 1, none⟩ = some (.int .i64 ((rd_T26 t297 x17_5).f1.f0)) ∧ w'.cell? ⟨(ad306.add ((x17_5).toNat * 7)).block, (ad306.add ((x17_5).toNat * 7)).off + 2, none⟩ = some (.int .i64 ((rd_T26 t297 x17_5).f1.f1)) ∧ w'.cell? ⟨(ad306.add ((x17_5).toNat * 7)).block, (ad306.add ((x17_5).toNat * 7)).off + 3, none⟩ = some (.int .i64 ((rd_T26 t297 x17_5).f1.f2)) ∧ w'.cell? ⟨(ad306.add ((x17_5).toNat * 7)).block, (ad306.add ((x17_5).toNat * 7)).off + 4, none⟩ = some (.slice A306_4 ((rd_T26 t297 x17_5).f2.f0).length c306_4) ∧ w'.cell? ⟨(ad306.add ((x17_5).toNat * 7)).block, (ad306.add ((x17_5).toNat * 7)).off + 5, none⟩ = some (.slice A306_5 ((rd_T26 t297 x17_5).f2.f1).length c306_5) ∧ w'.cell? ⟨(ad306.add ((x17_5).toNat * 7)).block, (ad306.add ((x17_5).toNat * 7)).off + 6, none⟩ = some (.slice A306_6 ((rd_T26 t297 x17_5).f2.f2).length c306_6) ∧ w'.cell? (ad307.add ((x17_5).toNat * 7)) = some (.int .i64 ((rd_T26 t301 x17_5).f0)) ∧ w'.cell? ⟨(ad307.add ((x17_5).toNat * 7)).block, (ad307.add ((x17_5).toNat * 7)).off + 1, none⟩ = some (.int .i64 ((rd_T26 t301 x17_5).f1.f0)) ∧ w'.cell? ⟨(ad307.add ((x17_5).toNat * 7)).block, (ad307.add ((x17_5).toNat * 7)).off + 2, none⟩ = some (.int .i64 ((rd_T26 t301 x17_5).f1.f1)) ∧ w'.cell? ⟨(ad307.add ((x17_5).toNat * 7)).block, (ad307.add ((x17_5).toNat * 7)).off + 3, none⟩ = some (.int .i64 ((rd_T26 t301 x17_5).f1.f2)) ∧ w'.cell? ⟨(ad307.add ((x17_5).toNat * 7)).block, (ad307.add ((x17_5).toNat * 7)).off + 4, none⟩ = some (.slice A307_4 ((rd_T26 t301 x17_5).f2.f0).length c307_4) ∧ w'.cell? ⟨(ad307.add ((x17_5).toNat * 7)).block, (ad307.add ((x17_5).toNat * 7)).off + 5, none⟩ = some (.slice A307_5 ((rd_T26 t301 x17_5).f2.f1).length c307_5) ∧ w'.cell? ⟨(ad307.add ((x17_5).toNat * 7)).block, (ad307.add ((x17_5).toNat * 7)).off + 6, none⟩ = some (.slice A307_6 ((rd_T26 t301 x17_5).f2.f2).length c307_6)) (ds := []) #[false, false, false, false, false, false, false, false, false, false] (by kernel_rfl) rfl rfl ⟨hx306_0, hx306_1, hx306_2, hx306_3, hx306_4, hx306_5, hx306_6, hx307_0, hx307_1, hx307_2, hx307_3, hx307_4, hx307_5, hx307_6⟩ (fun hHeld => ?_); refine with_tabW ndjqlaw20_ScanChunks.tab14 ndjqlaw20_ScanChunks.bits14 (fun HT_ HW_ => ?_)
                 generalize wr.drew = w48 at HO_13 HO_15 HB HL306_4 HL306_5 HL306_6 HL307_4 HL307_5 HL307_6 HR306_4 HR306_5 HR306_6 HR307_4 HR307_5 HR307_6 hx306_0 hx306_1 hx306_2 hx306_3 hx306_4 hx306_5 hx306_6 hx307_0 hx307_1 hx307_2 hx307_3 hx307_4 hx307_5 hx307_6 hHeld ⊢
                 refine pure_ (i := 0) (N := some 98) (v := ?_) (a' := ?_) #[true, false, false, false, false, false, false, false, false, false] rfl rfl (any_of HT_.out (by kernel_rfl)) (fun _ _ _ h => h) (Or.inl ⟨by rfl, ?_⟩) ?_ ?_
                 rotate_left
                 ·intro w'
                  go_simp
                  with_reducible rfl
                 rotate_left
                 ·simp only [Act.put, List.setIfInBounds_toArray, List.set_cons_zero, List.set_cons_succ, i64_w, i32_w]
                  rfl
                 refine pure_ (i := 1) (N := some 99) (v := ?_) (a' := ?_) #[true, true, false, false, false, false, false, false, false, false] rfl rfl (any_of HT_.out (by kernel_rfl)) (fun _ _ _ h => h) (Or.inl ⟨by rfl, ?_⟩) ?_ ?_
                 rotate_left
                 ·intro w'
                  go_simp
                  with_reducible rfl
                 rotate_left
                 ·simp only [Act.put, List.setIfInBounds_toArray, List.set_cons_zero, List.set_cons_succ, i64_w, i32_w]
                  rfl
                 refine pure_ (i := 2) (N := some 100) (v := ?_) (a' := ?_) #[true, true, true, false, false, false, false, false, false, false] rfl rfl (any_of HT_.out (by kernel_rfl)) (fun _ _ _ h => h) (Or.inl ⟨by rfl, ?_⟩) ?_ ?_
                 rotate_left
                 ·intro w'
                  go_simp
                  with_reducible rfl
                 rotate_left
                 ·simp only [Act.put, List.setIfInBounds_toArray, List.set_cons_zero, List.set_cons_succ, i64_w, i32_w]
                  rfl
                 refine pure_ (i := 4) (N := some 102) (v := ?_) (a' := ?_) #[true, true, true, false, true, false, false, false, false, false] rfl rfl (any_of HT_.out (by kernel_rfl)) (fun _ _ _ h => h) (Or.inl ⟨by rfl, ?_⟩) ?_ ?_
                 rotate_left
                 ·intro w'
                  go_simp
                  with_reducible rfl
                 rotate_left
                 ·simp only [Act.put, List.setIfInBounds_toArray, List.set_cons_zero, List.set_cons_succ, i64_w, i32_w]
                  rfl
                 refine pure_ (i := 5) (N := some 103) (v := ?_) (a' := ?_) #[true, true, true, false, true, true, false, false, false, false] rfl rfl (any_of HT_.out (by kernel_rfl)) (fun _ _ _ h => h) (Or.inl ⟨by rfl, ?_⟩) ?_ ?_
                 rotate_left
                 ·intro w'
                  go_simp
                  with_reducible rfl
                 rotate_left
                 ·simp only [Act.put, List.setIfInBounds_toArray, List.set_cons_zero, List.set_cons_succ, i64_w, i32_w]
                  rfl
                 refine pure_ (i := 6) (N := some 104) (v := ?_) (a' := ?_) #[true, true, true, false, true, true, true, false, false, false] rfl rfl (any_of HT_.out (by kernel_rfl)) (fun _ _ _ h => h) (Or.inl ⟨by rfl, ?_⟩) ?_ ?_
                 rotate_left
                 ·intro w'
                  go_simp
                  with_reducible rfl
                 rotate_left
                 ·simp only [Act.put, List.setIfInBounds_toArray, List.set_cons_zero, List.set_cons_succ, i64_w, i32_w]
                  rfl
                 refine take_ (i := 3) (N := some 101) (v := ?_) (a' := ?_) #[true, true, true, true, true, true, true, false, false, false] rfl rfl (take_ofW HT_.out HW_.out (by kernel_rfl)) (fun _ _ _ h => h) (Or.inl ⟨by rfl, ?_⟩) hHeld ?_ ?_
                 rotate_left
                 ·rintro w' ⟨s0, s1, s2, s3, s4, s5, s6, s7, s8, s9, s10, s11, s12, s13⟩
                  go_simp
                  with_reducible rfl
                 rotate_left
                 ·simp only [Act.put, List.setIfInBounds_toArray, List.set_cons_zero, List.set_cons_succ, i64_w, i32_w]
                  rfl
                 refine take_ (i := 7) (N := some 105) (v := ?_) (a' := ?_) #[true, true, true, true, true, true, true, true, false, false] rfl rfl (take_ofW HT_.out HW_.out (by kernel_rfl)) (fun _ _ _ h => h) (Or.inl ⟨by rfl, ?_⟩) hHeld ?_ ?_
                 rotate_left
                 ·rintro w' ⟨s0, s1, s2, s3, s4, s5, s6, s7, s8, s9, s10, s11, s12, s13⟩
                  go_simp
                  with_reducible rfl
                 rotate_left
                 ·simp only [Act.put, List.setIfInBounds_toArray, List.set_cons_zero, List.set_cons_succ, i64_w, i32_w]
                  rfl
                 refine one_ (i := 8) (N := some 106) #[true, true, true, true, true, true, true, true, true, false] rfl rfl (one_of HT_.out (by kernel_rfl)) (by decide) (fun K hK => ?_)
                 refine goes_ Tryd.func17 (by kernel_rfl) rfl #[.agg #[.int .i64 ((rd_T26 t297 x17_5).f0), .int .i64 ((rd_T26 t297 x17_5).f1.f0), .int .i64 ((rd_T26 t297 x17_5).f1.f1), .int .i64 ((rd_T26 t297 x17_5).f1.f2), .slice A306_4 ((rd_T26 t297 x17_5).f2.f0).length c306_4, .slice A306_5 ((rd_T26 t297 x17_5).f2.f1).length c306_5, .slice A306_6 ((rd_T26 t297 x17_5).f2.f2).length c306_6], .agg #[.int .i64 ((rd_T26 t301 x17_5).f0), .int .i64 ((rd_T26 t301 x17_5).f1.f0), .int .i64 ((rd_T26 t301 x17_5).f1.f1), .int .i64 ((rd_T26 t301 x17_5).f1.f2), .slice A307_4 ((rd_T26 t301 x17_5).f2.f0).length c307_4, .slice A307_5 ((rd_T26 t301 x17_5).f2.f1).length c307_5, .slice A307_6 ((rd_T26 t301 x17_5).f2.f2).length c307_6]] (by rfl) rfl rfl (by (try simp only [List.map_toArray, List.map_cons, List.map_nil]); first | done | rfl | (simp only [List.length_drop, List.length_take]; rfl)) ?_
                 with_reducible refine (ndjqkeep_Summaries.calls k5 ((rd_T26 t297 x17_5).f0) ((rd_T26 t297 x17_5).f1.f0) ((rd_T26 t297 x17_5).f1.f1) ((rd_T26 t297 x17_5).f1.f2) _ _ ((rd_T26 t297 x17_5).f2.f0) _ _ ((rd_T26 t297 x17_5).f2.f1) _ _ ((rd_T26 t297 x17_5).f2.f2) ((rd_T26 t301 x17_5).f0) ((rd_T26 t301 x17_5).f1.f0) ((rd_T26 t301 x17_5).f1.f1) ((rd_T26 t301 x17_5).f1.f2) _ _ ((rd_T26 t301 x17_5).f2.f0) _ _ ((rd_T26 t301 x17_5).f2.f1) _ _ ((rd_T26 t301 x17_5).f2.f2) true _ ?side1 ?side2 ?side3 ?side4 ?side5 ?side6 ?side7 ?side8 ?side9 ?side10 ?side11 ?side12 A45.out).mono ?_
                 (case side1 => repeat (first | exact (by repeat (first | (with_reducible exact HR306_4.out) | (with_reducible refine Kd.C_alloc ?_ _) | (with_reducible refine Kd.C_drewN ?_ _) | (with_reducible refine Kd.C_drew ?_) | exact HR306_4.out)) | (with_reducible refine Kd.C_alloc ?_ _) | (with_reducible refine Kd.C_drewN ?_ _) | (with_reducible refine Kd.C_drew ?_)))
                 (case side2 => exact HC306_4.out)
                 (case side3 => repeat (first | exact (by repeat (first | (with_reducible exact HR306_5.out) | (with_reducible refine Kd.C_alloc ?_ _) | (with_reducible refine Kd.C_drewN ?_ _) | (with_reducible refine Kd.C_drew ?_) | exact HR306_5.out)) | (with_reducible refine Kd.C_alloc ?_ _) | (with_reducible refine Kd.C_drewN ?_ _) | (with_reducible refine Kd.C_drew ?_)))
                 (case side4 => exact HC306_5.out)
                 (case side5 => repeat (first | exact (by repeat (first | (with_reducible exact HR306_6.out) | (with_reducible refine Kd.C_alloc ?_ _) | (with_reducible refine Kd.C_drewN ?_ _) | (with_reducible refine Kd.C_drew ?_) | exact HR306_6.out)) | (with_reducible refine Kd.C_alloc ?_ _) | (with_reducible refine Kd.C_drewN ?_ _) | (with_reducible refine Kd.C_drew ?_)))
                 (case side6 => exact HC306_6.out)
                 (case side7 => repeat (first | exact (by repeat (first | (with_reducible exact HR307_4.out) | (with_reducible refine Kd.C_alloc ?_ _) | (with_reducible refine Kd.C_drewN ?_ _) | (with_reducible refine Kd.C_drew ?_) | exact HR307_4.out)) | (with_reducible refine Kd.C_alloc ?_ _) | (with_reducible refine Kd.C_drewN ?_ _) | (with_reducible refine Kd.C_drew ?_)))
                 (case side8 => exact HC307_4.out)
                 (case side9 => repeat (first | exact (by repeat (first | (with_reducible exact HR307_5.out) | (with_reducible refine Kd.C_alloc ?_ _) | (with_reducible refine Kd.C_drewN ?_ _) | (with_reducible refine Kd.C_drew ?_) | exact HR307_5.out)) | (with_reducible refine Kd.C_alloc ?_ _) | (with_reducible refine Kd.C_drewN ?_ _) | (with_reducible refine Kd.C_drew ?_)))
                 (case side10 => exact HC307_5.out)
                 (case side11 => repeat (first | exact (by repeat (first | (with_reducible exact HR307_6.out) | (with_reducible refine Kd.C_alloc ?_ _) | (with_reducible refine Kd.C_drewN ?_ _) | (with_reducible refine Kd.C_drew ?_) | exact HR307_6.out)) | (with_reducible refine Kd.C_alloc ?_ _) | (with_reducible refine Kd.C_drewN ?_ _) | (with_reducible refine Kd.C_drew ?_)))
                 (case side12 => exact HC307_6.out)
                 rintro e w50 ⟨rfl, hb⟩
                 have HS0_ := (hb.cell (World.block_lt_of_cell? _ _ (hHeld.1))).trans (hHeld.1)
                 have HS1_ := (hb.cell (World.block_lt_of_cell? _ _ (hHeld.2.1))).trans (hHeld.2.1)
                 have HS2_ := (hb.cell (World.block_lt_of_cell? _ _ (hHeld.2.2.1))).trans (hHeld.2.2.1)
                 have HS3_ := (hb.cell (World.block_lt_of_cell? _ _ (hHeld.2.2.2.1))).trans (hHeld.2.2.2.1)
                 have HS4_ := (hb.cell (World.block_lt_of_cell? _ _ (hHeld.2.2.2.2.1))).trans (hHeld.2.2.2.2.1)
                 have HS5_ := (hb.cell (World.block_lt_of_cell? _ _ (hHeld.2.2.2.2.2.1))).trans (hHeld.2.2.2.2.2.1)
                 have HS6_ := (hb.cell (World.block_lt_of_cell? _ _ (hHeld.2.2.2.2.2.2.1))).trans (hHeld.2.2.2.2.2.2.1)
                 have HS7_ := (hb.cell (World.block_lt_of_cell? _ _ (hHeld.2.2.2.2.2.2.2.1))).trans (hHeld.2.2.2.2.2.2.2.1)
                 have HS8_ := (hb.cell (World.block_lt_of_cell? _ _ (hHeld.2.2.2.2.2.2.2.2.1))).trans (hHeld.2.2.2.2.2.2.2.2.1)
                 have HS9_ := (hb.cell (World.block_lt_of_cell? _ _ (hHeld.2.2.2.2.2.2.2.2.2.1))).trans (hHeld.2.2.2.2.2.2.2.2.2.1)
                 have HS10_ := (hb.cell (World.block_lt_of_cell? _ _ (hHeld.2.2.2.2.2.2.2.2.2.2.1))).trans (hHeld.2.2.2.2.2.2.2.2.2.2.1)
                 have HS11_ := (hb.cell (World.block_lt_of_cell? _ _ (hHeld.2.2.2.2.2.2.2.2.2.2.2.1))).trans (hHeld.2.2.2.2.2.2.2.2.2.2.2.1)
                 have HS12_ := (hb.cell (World.block_lt_of_cell? _ _ (hHeld.2.2.2.2.2.2.2.2.2.2.2.2.1))).trans (hHeld.2.2.2.2.2.2.2.2.2.2.2.2.1)
                 have HS13_ := (hb.cell (World.block_lt_of_cell? _ _ (hHeld.2.2.2.2.2.2.2.2.2.2.2.2.2))).trans (hHeld.2.2.2.2.2.2.2.2.2.2.2.2.2)
                 refine ⟨_, rfl, ?_⟩
                 have n0_ := Aside0.mk (Kd.S_below (by (with_reducible repeat (first | apply Kd.S_alloc | apply Kd.S_drewN | apply Kd.S_drew)); exact HO_13.out) hb)
                 have n1_ := Aside0.mk (Kd.S_below (by (with_reducible repeat (first | apply Kd.S_alloc | apply Kd.S_drewN | apply Kd.S_drew)); exact HO_15.out) hb)
                 have n2_ := Aside0.mk (Kd.R_below (by (with_reducible repeat (first | apply rA | apply rN | apply rD)); exact HL306_4.out) hb)
                 have n3_ := Aside0.mk (Kd.R_below (by (with_reducible repeat (first | apply rA | apply rN | apply rD)); exact HL306_5.out) hb)
                 have n4_ := Aside0.mk (Kd.R_below (by (with_reducible repeat (first | apply rA | apply rN | apply rD)); exact HL306_6.out) hb)
                 have n5_ := Aside0.mk (Kd.R_below (by (with_reducible repeat (first | apply rA | apply rN | apply rD)); exact HL307_4.out) hb)
                 have n6_ := Aside0.mk (Kd.R_below (by (with_reducible repeat (first | apply rA | apply rN | apply rD)); exact HL307_5.out) hb)
                 have n7_ := Aside0.mk (Kd.R_below (by (with_reducible repeat (first | apply rA | apply rN | apply rD)); exact HL307_6.out) hb)
                 have n8_ := Aside0.mk (Kd.C_below (by repeat (first | (with_reducible exact HR306_4.out) | (with_reducible refine Kd.C_alloc ?_ _) | (with_reducible refine Kd.C_drewN ?_ _) | (with_reducible refine Kd.C_drew ?_) | exact HR306_4.out)) hb)
                 have n9_ := Aside0.mk (Kd.C_below (by repeat (first | (with_reducible exact HR306_5.out) | (with_reducible refine Kd.C_alloc ?_ _) | (with_reducible refine Kd.C_drewN ?_ _) | (with_reducible refine Kd.C_drew ?_) | exact HR306_5.out)) hb)
                 have n10_ := Aside0.mk (Kd.C_below (by repeat (first | (with_reducible exact HR306_6.out) | (with_reducible refine Kd.C_alloc ?_ _) | (with_reducible refine Kd.C_drewN ?_ _) | (with_reducible refine Kd.C_drew ?_) | exact HR306_6.out)) hb)
                 have n11_ := Aside0.mk (Kd.C_below (by repeat (first | (with_reducible exact HR307_4.out) | (with_reducible refine Kd.C_alloc ?_ _) | (with_reducible refine Kd.C_drewN ?_ _) | (with_reducible refine Kd.C_drew ?_) | exact HR307_4.out)) hb)
                 have n12_ := Aside0.mk (Kd.C_below (by repeat (first | (with_reducible exact HR307_5.out) | (with_reducible refine Kd.C_alloc ?_ _) | (with_reducible refine Kd.C_drewN ?_ _) | (with_reducible refine Kd.C_drew ?_) | exact HR307_5.out)) hb)
                 have n13_ := Aside0.mk (Kd.C_below (by repeat (first | (with_reducible exact HR307_6.out) | (with_reducible refine Kd.C_alloc ?_ _) | (with_reducible refine Kd.C_drewN ?_ _) | (with_reducible refine Kd.C_drew ?_) | exact HR307_6.out)) hb)
                 have n14_ := Aside0.mk (below_step (by repeat (first | (with_reducible first | exact HB.out | apply wA | apply wN | apply wD) | exact HB.out)) hb)
                 clear HO_13
                 clear HO_15
                 clear HL306_4
                 clear HL306_5
                 clear HL306_6
                 clear HL307_4
                 clear HL307_5
                 clear HL307_6
                 clear HR306_4
                 clear HR306_5
                 clear HR306_6
                 clear HR307_4
                 clear HR307_5
                 clear HR307_6
                 clear HB
                 have HO_13 := n0_
                 have HO_15 := n1_
                 have HL306_4 := n2_
                 have HL306_5 := n3_
                 have HL306_6 := n4_
                 have HL307_4 := n5_
                 have HL307_5 := n6_
                 have HL307_6 := n7_
                 have HR306_4 := n8_
                 have HR306_5 := n9_
                 have HR306_6 := n10_
                 have HR307_4 := n11_
                 have HR307_5 := n12_
                 have HR307_6 := n13_
                 have HB := n14_
                 clear n0_ n1_ n2_ n3_ n4_ n5_ n6_ n7_ n8_ n9_ n10_ n11_ n12_ n13_ n14_
                 (try clear hb); (try clear hb2); (try clear hk); (try clear hi)
                 refine hK.out _ _ ⟨HS0_, HS1_, HS2_, HS3_, HS4_, HS5_, HS6_, HS7_, HS8_, HS9_, HS10_, HS11_, HS12_, HS13_⟩ (fun hHeld => ?_)
                 clear hK K
                 refine norm_ (a' := ?_) ?_ ?_
                 rotate_left
                 ·show Act.put _ (some 106) _ = _
                  simp only [Act.put, List.setIfInBounds_toArray, List.set_cons_zero, List.set_cons_succ, i64_w, i32_w]
                  rfl
                 refine pure_ (i := 9) (N := some 107) (v := ?_) (a' := ?_) #[true, true, true, true, true, true, true, true, true, true] rfl rfl (any_of HT_.out (by kernel_rfl)) (fun _ _ _ h => h) (Or.inl ⟨by rfl, ?_⟩) ?_ ?_
                 rotate_left
                 ·intro w'
                  go_simp
                  with_reducible rfl
                 rotate_left
                 ·simp only [Act.put, List.setIfInBounds_toArray, List.set_cons_zero, List.set_cons_succ, i64_w, i32_w]
                  rfl
                 refine done_ (done_of HT_.out (by kernel_rfl)) ?_
                 try go_wp2
                 go_roundg k5
                 case measure => have := HJ4.out; have := HJ9.out; have := HJ13.out; have := HJ19.out; have := HK5.out; omega
                 case rel => exact ⟨(wrap64 (x17_5 + 1)), (by first | rfl | (simp; done) | (simp [*]; done)), H', ⟨by have := HJ4.out; have := HJ9.out; have := HJ13.out; have := HJ19.out; have := HK5.out; omega⟩, ⟨by (with_reducible repeat (first | apply Kd.S_alloc | apply Kd.S_drewN | apply Kd.S_drew)); exact HO_13.out⟩, ⟨by (with_reducible repeat (first | apply Kd.S_alloc | apply Kd.S_drewN | apply Kd.S_drew)); exact HO_15.out⟩, ⟨by repeat (first | (with_reducible first | exact HB.out | apply wA | apply wN | apply wD) | exact HB.out)⟩⟩
                ·replace c46 := Bool.eq_false_iff.mpr c46
                 subst c46
                 have H1 : (some false) = some r := by rw [if_neg (show ¬ (false = true) by decide)] at H; exact H
                 clear H; have H := H1; clear H1
                 obtain rfl := Option.some.inj H
                 obtain ⟨Ao51, co51, eo51⟩ := Kd.S_slice HO_13.out
                 subst eo51
                 try go_wp2
                 have n0_ := Aside0.mk (Kd.S_drew HO_13.out)
                 have n1_ := Aside0.mk (Kd.S_drew HO_15.out)
                 have n2_ := Aside0.mk (below_drew1 HB.out)
                 clear HO_13
                 clear HO_15
                 clear HB
                 have HO_13 := n0_
                 have HO_15 := n1_
                 have HB := n2_
                 clear n0_ n1_ n2_
                 have p306 : 0 ≤ (x17_5 : Int) := of_decide_eq_true (by first | (with_reducible assumption) | assumption)
                 have q306 : x17_5 < (t297.length : Int) := of_decide_eq_true (by first | (with_reducible assumption) | assumption)
                 obtain ⟨ad306, A306_4, c306_4, A306_5, c306_5, A306_6, c306_6, e306, hx306_0, hx306_1, hx306_2, hx306_3, hx306_4, hx306_5, hx306_6, hl306_4, hi306_4, hl306_5, hi306_5, hl306_6, hi306_6⟩ := at_T26 (Kd.S_reads' HO_13.out).2.2 x17_5 p306 q306
                 cases e306
                 obtain ⟨ce306, hce306, hMe306, hcc306⟩ := Kd.S_get HO_13.out z26 x17_5 p306 (by first | exact q306 | exact of_decide_eq_true (by first | (with_reducible assumption) | assumption) | (have e_ := (Kd.S_reads' HO_13.out).1; omega))
                 obtain ⟨ve306_4, ve306_5, ve306_6, rfl, ge306_4, ge306_5, ge306_6⟩ := k26_openM hMe306
                 have hv306_4 := hcc306 4 _ rfl
                 rw [add_field _ _ 4 (by omega)] at hv306_4
                 replace hv306_4 := Option.some.inj (hv306_4.symm.trans hx306_4)
                 rw [hv306_4] at ge306_4
                 have HL306_4 := Aside0.mk (show Kd.R (Kd.int .i64) 3 _ _ _ _ ((rd_T26 t297 x17_5).f2.f0) from ge306_4)
                 clear hv306_4 ge306_4
                 have hv306_5 := hcc306 5 _ rfl
                 rw [add_field _ _ 5 (by omega)] at hv306_5
                 replace hv306_5 := Option.some.inj (hv306_5.symm.trans hx306_5)
                 rw [hv306_5] at ge306_5
                 have HL306_5 := Aside0.mk (show Kd.R (Kd.int .i64) 3 _ _ _ _ ((rd_T26 t297 x17_5).f2.f1) from ge306_5)
                 clear hv306_5 ge306_5
                 have hv306_6 := hcc306 6 _ rfl
                 rw [add_field _ _ 6 (by omega)] at hv306_6
                 replace hv306_6 := Option.some.inj (hv306_6.symm.trans hx306_6)
                 rw [hv306_6] at ge306_6
                 have HL306_6 := Aside0.mk (show Kd.R (Kd.int .i64) 3 _ _ _ _ ((rd_T26 t297 x17_5).f2.f2) from ge306_6)
                 clear hv306_6 ge306_6
                 clear hcc306 hce306
                 have HR306_4 := Aside0.mk hi306_4
                 have HC306_4 := Aside0.mk hl306_4
                 clear hi306_4 hl306_4
                 have HR306_5 := Aside0.mk hi306_5
                 have HC306_5 := Aside0.mk hl306_5
                 clear hi306_5 hl306_5
                 have HR306_6 := Aside0.mk hi306_6
                 have HC306_6 := Aside0.mk hl306_6
                 clear hi306_6 hl306_6
                 replace p306 := eq_true p306; replace q306 := eq_true q306
                 obtain ⟨Ao53, co53, eo53⟩ := Kd.S_slice HO_15.out
                 (first | subst eo53 | (injection eo53 with f1_ f2_ f3_; have f4_ := f1_.symm; have f5_ := f3_.symm; clear f1_ f2_ f3_; subst f4_; subst f5_))
                 have p307 : 0 ≤ (x17_5 : Int) := of_decide_eq_true (by first | (with_reducible assumption) | assumption)
                 have q307 : x17_5 < (t301.length : Int) := of_decide_eq_true (by first | (with_reducible assumption) | assumption)
                 obtain ⟨ad307, A307_4, c307_4, A307_5, c307_5, A307_6, c307_6, e307, hx307_0, hx307_1, hx307_2, hx307_3, hx307_4, hx307_5, hx307_6, hl307_4, hi307_4, hl307_5, hi307_5, hl307_6, hi307_6⟩ := at_T26 (Kd.S_reads' HO_15.out).2.2 x17_5 p307 q307
                 cases e307
                 obtain ⟨ce307, hce307, hMe307, hcc307⟩ := Kd.S_get HO_15.out z26 x17_5 p307 (by first | exact q307 | exact of_decide_eq_true (by first | (with_reducible assumption) | assumption) | (have e_ := (Kd.S_reads' HO_15.out).1; omega))
                 obtain ⟨ve307_4, ve307_5, ve307_6, rfl, ge307_4, ge307_5, ge307_6⟩ := k26_openM hMe307
                 have hv307_4 := hcc307 4 _ rfl
                 rw [add_field _ _ 4 (by omega)] at hv307_4
                 replace hv307_4 := Option.some.inj (hv307_4.symm.trans hx307_4)
                 rw [hv307_4] at ge307_4
                 have HL307_4 := Aside0.mk (show Kd.R (Kd.int .i64) 3 _ _ _ _ ((rd_T26 t301 x17_5).f2.f0) from ge307_4)
                 clear hv307_4 ge307_4
                 have hv307_5 := hcc307 5 _ rfl
                 rw [add_field _ _ 5 (by omega)] at hv307_5
                 replace hv307_5 := Option.some.inj (hv307_5.symm.trans hx307_5)
                 rw [hv307_5] at ge307_5
                 have HL307_5 := Aside0.mk (show Kd.R (Kd.int .i64) 3 _ _ _ _ ((rd_T26 t301 x17_5).f2.f1) from ge307_5)
                 clear hv307_5 ge307_5
                 have hv307_6 := hcc307 6 _ rfl
                 rw [add_field _ _ 6 (by omega)] at hv307_6
                 replace hv307_6 := Option.some.inj (hv307_6.symm.trans hx307_6)
                 rw [hv307_6] at ge307_6
                 have HL307_6 := Aside0.mk (show Kd.R (Kd.int .i64) 3 _ _ _ _ ((rd_T26 t301 x17_5).f2.f2) from ge307_6)
                 clear hv307_6 ge307_6
                 clear hcc307 hce307
                 have HR307_4 := Aside0.mk hi307_4
                 have HC307_4 := Aside0.mk hl307_4
                 clear hi307_4 hl307_4
                 have HR307_5 := Aside0.mk hi307_5
                 have HC307_5 := Aside0.mk hl307_5
                 clear hi307_5 hl307_5
                 have HR307_6 := Aside0.mk hi307_6
                 have HC307_6 := Aside0.mk hl307_6
                 clear hi307_6 hl307_6
                 replace p307 := eq_true p307; replace q307 := eq_true q307
                 refine start_ (n := 10) (S := fun w' => w'.cell? (ad306.add ((x17_5).toNat * 7)) = some (.int .i64 ((rd_T26 t297 x17_5).f0)) ∧ w'.cell? ⟨(ad306.add ((x17_5).toNat * 7)).block, (ad306.add ((x17_5).toNat * 7)).off + 1, none⟩ = some (.int .i64 ((rd_T26 t297 x17_5).f1.f0)) ∧ w'.cell? ⟨(ad306.add ((x17_5).toNat * 7)).block, (ad306.add ((x17_5).toNat * 7)).off + 2, none⟩ = some (.int .i64 ((rd_T26 t297 x17_5).f1.f1)) ∧ w'.cell? ⟨(ad306.add ((x17_5).toNat * 7)).block, (ad306.add ((x17_5).toNat * 7)).off + 3, none⟩ = some (.int .i64 ((rd_T26 t297 x17_5).f1.f2)) ∧ w'.cell? ⟨(ad306.add ((x17_5).toNat * 7)).block, (ad306.add ((x17_5).toNat * 7)).off + 4, none⟩ = some (.slice A306_4 ((rd_T26 t297 x17_5).f2.f0).length c306_4) ∧ w'.cell? ⟨(ad306.add ((x17_5).toNat * 7)).block, (ad306.add ((x17_5).toNat * 7)).off + 5, none⟩ = some (.slice A306_5 ((rd_T26 t297 x17_5).f2.f1).length c306_5) ∧ w'.cell? ⟨(ad306.add ((x17_5).toNat * 7)).block, (ad306.add ((x17_5).toNat * 7)).off + 6, none⟩ = some (.slice A306_6 ((rd_T26 t297 x17_5).f2.f2).length c306_6) ∧ w'.cell? (ad307.add ((x17_5).toNat * 7)) = some (.int .i64 ((rd_T26 t301 x17_5).f0)) ∧ w'.cell? ⟨(ad307.add ((x17_5).toNat * 7)).block, (ad307.add ((x17_5).toNat * 7)).off + 1, none⟩ = some (.int .i64 ((rd_T26 t301 x17_5).f1.f0)) ∧ w'.cell? ⟨(ad307.add ((x17_5).toNat * 7)).block, (ad307.add ((x17_5).toNat * 7)).off + 2, none⟩ = some (.int .i64 ((rd_T26 t301 x17_5).f1.f1)) ∧ w'.cell? ⟨(ad307.add ((x17_5).toNat * 7)).block, (ad307.add ((x17_5).toNat * 7)).off + 3, none⟩ = some (.int .i64 ((rd_T26 t301 x17_5).f1.f2)) ∧ w'.cell? ⟨(ad307.add ((x17_5).toNat * 7)).block, (ad307.add ((x17_5).toNat * 7)).off + 4, none⟩ = some (.slice A307_4 ((rd_T26 t301 x17_5).f2.f0).length c307_4) ∧ w'.cell? ⟨(ad307.add ((x17_5).toNat * 7)).block, (ad307.add ((x17_5).toNat * 7)).off + 5, none⟩ = some (.slice A307_5 ((rd_T26 t301 x17_5).f2.f1).length c307_5) ∧ w'.cell? ⟨(ad307.add ((x17_5).toNat * 7)).block, (ad307.add ((x17_5).toNat * 7)).off + 6, none⟩ = some (.slice A307_6 ((rd_T26 t301 x17_5).f2.f2).length c307_6)) (ds := []) #[false, false, false, false, false, false, false, false, false, false] (by kernel_rfl) rfl rfl ⟨hx306_0, hx306_1, hx306_2, hx306_3, hx306_4, hx306_5, hx306_6, hx307_0, hx307_1, hx307_2, hx307_3, hx307_4, hx307_5, hx307_6⟩ (fun hHeld => ?_); refine with_tabW ndjqlaw20_ScanChunks.tab14 ndjqlaw20_ScanChunks.bits14 (fun HT_ HW_ => ?_)
                 generalize wr.drew = w52 at HO_13 HO_15 HB HL306_4 HL306_5 HL306_6 HL307_4 HL307_5 HL307_6 HR306_4 HR306_5 HR306_6 HR307_4 HR307_5 HR307_6 hx306_0 hx306_1 hx306_2 hx306_3 hx306_4 hx306_5 hx306_6 hx307_0 hx307_1 hx307_2 hx307_3 hx307_4 hx307_5 hx307_6 hHeld ⊢
                 refine pure_ (i := 0) (N := some 98) (v := ?_) (a' := ?_) #[true, false, false, false, false, false, false, false, false, false] rfl rfl (any_of HT_.out (by kernel_rfl)) (fun _ _ _ h => h) (Or.inl ⟨by rfl, ?_⟩) ?_ ?_
                 rotate_left
                 ·intro w'
                  go_simp
                  with_reducible rfl
                 rotate_left
                 ·simp only [Act.put, List.setIfInBounds_toArray, List.set_cons_zero, List.set_cons_succ, i64_w, i32_w]
                  rfl
                 refine pure_ (i := 1) (N := some 99) (v := ?_) (a' := ?_) #[true, true, false, false, false, false, false, false, false, false] rfl rfl (any_of HT_.out (by kernel_rfl)) (fun _ _ _ h => h) (Or.inl ⟨by rfl, ?_⟩) ?_ ?_
                 rotate_left
                 ·intro w'
                  go_simp
                  with_reducible rfl
                 rotate_left
                 ·simp only [Act.put, List.setIfInBounds_toArray, List.set_cons_zero, List.set_cons_succ, i64_w, i32_w]
                  rfl
                 refine pure_ (i := 2) (N := some 100) (v := ?_) (a' := ?_) #[true, true, true, false, false, false, false, false, false, false] rfl rfl (any_of HT_.out (by kernel_rfl)) (fun _ _ _ h => h) (Or.inl ⟨by rfl, ?_⟩) ?_ ?_
                 rotate_left
                 ·intro w'
                  go_simp
                  with_reducible rfl
                 rotate_left
                 ·simp only [Act.put, List.setIfInBounds_toArray, List.set_cons_zero, List.set_cons_succ, i64_w, i32_w]
                  rfl
                 refine pure_ (i := 4) (N := some 102) (v := ?_) (a' := ?_) #[true, true, true, false, true, false, false, false, false, false] rfl rfl (any_of HT_.out (by kernel_rfl)) (fun _ _ _ h => h) (Or.inl ⟨by rfl, ?_⟩) ?_ ?_
                 rotate_left
                 ·intro w'
                  go_simp
                  with_reducible rfl
                 rotate_left
                 ·simp only [Act.put, List.setIfInBounds_toArray, List.set_cons_zero, List.set_cons_succ, i64_w, i32_w]
                  rfl
                 refine pure_ (i := 5) (N := some 103) (v := ?_) (a' := ?_) #[true, true, true, false, true, true, false, false, false, false] rfl rfl (any_of HT_.out (by kernel_rfl)) (fun _ _ _ h => h) (Or.inl ⟨by rfl, ?_⟩) ?_ ?_
                 rotate_left
                 ·intro w'
                  go_simp
                  with_reducible rfl
                 rotate_left
                 ·simp only [Act.put, List.setIfInBounds_toArray, List.set_cons_zero, List.set_cons_succ, i64_w, i32_w]
                  rfl
                 refine pure_ (i := 6) (N := some 104) (v := ?_) (a' := ?_) #[true, true, true, false, true, true, true, false, false, false] rfl rfl (any_of HT_.out (by kernel_rfl)) (fun _ _ _ h => h) (Or.inl ⟨by rfl, ?_⟩) ?_ ?_
                 rotate_left
                 ·intro w'
                  go_simp
                  with_reducible rfl
                 rotate_left
                 ·simp only [Act.put, List.setIfInBounds_toArray, List.set_cons_zero, List.set_cons_succ, i64_w, i32_w]
                  rfl
                 refine take_ (i := 3) (N := some 101) (v := ?_) (a' := ?_) #[true, true, true, true, true, true, true, false, false, false] rfl rfl (take_ofW HT_.out HW_.out (by kernel_rfl)) (fun _ _ _ h => h) (Or.inl ⟨by rfl, ?_⟩) hHeld ?_ ?_
                 rotate_left
                 ·rintro w' ⟨s0, s1, s2, s3, s4, s5, s6, s7, s8, s9, s10, s11, s12, s13⟩
                  go_simp
                  with_reducible rfl
                 rotate_left
                 ·simp only [Act.put, List.setIfInBounds_toArray, List.set_cons_zero, List.set_cons_succ, i64_w, i32_w]
                  rfl
                 refine take_ (i := 7) (N := some 105) (v := ?_) (a' := ?_) #[true, true, true, true, true, true, true, true, false, false] rfl rfl (take_ofW HT_.out HW_.out (by kernel_rfl)) (fun _ _ _ h => h) (Or.inl ⟨by rfl, ?_⟩) hHeld ?_ ?_
                 rotate_left
                 ·rintro w' ⟨s0, s1, s2, s3, s4, s5, s6, s7, s8, s9, s10, s11, s12, s13⟩
                  go_simp
                  with_reducible rfl
                 rotate_left
                 ·simp only [Act.put, List.setIfInBounds_toArray, List.set_cons_zero, List.set_cons_succ, i64_w, i32_w]
                  rfl
                 refine one_ (i := 8) (N := some 106) #[true, true, true, true, true, true, true, true, true, false] rfl rfl (one_of HT_.out (by kernel_rfl)) (by decide) (fun K hK => ?_)
                 refine goes_ Tryd.func17 (by kernel_rfl) rfl #[.agg #[.int .i64 ((rd_T26 t297 x17_5).f0), .int .i64 ((rd_T26 t297 x17_5).f1.f0), .int .i64 ((rd_T26 t297 x17_5).f1.f1), .int .i64 ((rd_T26 t297 x17_5).f1.f2), .slice A306_4 ((rd_T26 t297 x17_5).f2.f0).length c306_4, .slice A306_5 ((rd_T26 t297 x17_5).f2.f1).length c306_5, .slice A306_6 ((rd_T26 t297 x17_5).f2.f2).length c306_6], .agg #[.int .i64 ((rd_T26 t301 x17_5).f0), .int .i64 ((rd_T26 t301 x17_5).f1.f0), .int .i64 ((rd_T26 t301 x17_5).f1.f1), .int .i64 ((rd_T26 t301 x17_5).f1.f2), .slice A307_4 ((rd_T26 t301 x17_5).f2.f0).length c307_4, .slice A307_5 ((rd_T26 t301 x17_5).f2.f1).length c307_5, .slice A307_6 ((rd_T26 t301 x17_5).f2.f2).length c307_6]] (by rfl) rfl rfl (by (try simp only [List.map_toArray, List.map_cons, List.map_nil]); first | done | rfl | (simp only [List.length_drop, List.length_take]; rfl)) ?_
                 with_reducible refine (ndjqkeep_Summaries.calls k5 ((rd_T26 t297 x17_5).f0) ((rd_T26 t297 x17_5).f1.f0) ((rd_T26 t297 x17_5).f1.f1) ((rd_T26 t297 x17_5).f1.f2) _ _ ((rd_T26 t297 x17_5).f2.f0) _ _ ((rd_T26 t297 x17_5).f2.f1) _ _ ((rd_T26 t297 x17_5).f2.f2) ((rd_T26 t301 x17_5).f0) ((rd_T26 t301 x17_5).f1.f0) ((rd_T26 t301 x17_5).f1.f1) ((rd_T26 t301 x17_5).f1.f2) _ _ ((rd_T26 t301 x17_5).f2.f0) _ _ ((rd_T26 t301 x17_5).f2.f1) _ _ ((rd_T26 t301 x17_5).f2.f2) false _ ?side1 ?side2 ?side3 ?side4 ?side5 ?side6 ?side7 ?side8 ?side9 ?side10 ?side11 ?side12 A45.out).mono ?_
                 (case side1 => repeat (first | exact (by repeat (first | (with_reducible exact HR306_4.out) | (with_reducible refine Kd.C_alloc ?_ _) | (with_reducible refine Kd.C_drewN ?_ _) | (with_reducible refine Kd.C_drew ?_) | exact HR306_4.out)) | (with_reducible refine Kd.C_alloc ?_ _) | (with_reducible refine Kd.C_drewN ?_ _) | (with_reducible refine Kd.C_drew ?_)))
                 (case side2 => exact HC306_4.out)
                 (case side3 => repeat (first | exact (by repeat (first | (with_reducible exact HR306_5.out) | (with_reducible refine Kd.C_alloc ?_ _) | (with_reducible refine Kd.C_drewN ?_ _) | (with_reducible refine Kd.C_drew ?_) | exact HR306_5.out)) | (with_reducible refine Kd.C_alloc ?_ _) | (with_reducible refine Kd.C_drewN ?_ _) | (with_reducible refine Kd.C_drew ?_)))
                 (case side4 => exact HC306_5.out)
                 (case side5 => repeat (first | exact (by repeat (first | (with_reducible exact HR306_6.out) | (with_reducible refine Kd.C_alloc ?_ _) | (with_reducible refine Kd.C_drewN ?_ _) | (with_reducible refine Kd.C_drew ?_) | exact HR306_6.out)) | (with_reducible refine Kd.C_alloc ?_ _) | (with_reducible refine Kd.C_drewN ?_ _) | (with_reducible refine Kd.C_drew ?_)))
                 (case side6 => exact HC306_6.out)
                 (case side7 => repeat (first | exact (by repeat (first | (with_reducible exact HR307_4.out) | (with_reducible refine Kd.C_alloc ?_ _) | (with_reducible refine Kd.C_drewN ?_ _) | (with_reducible refine Kd.C_drew ?_) | exact HR307_4.out)) | (with_reducible refine Kd.C_alloc ?_ _) | (with_reducible refine Kd.C_drewN ?_ _) | (with_reducible refine Kd.C_drew ?_)))
                 (case side8 => exact HC307_4.out)
                 (case side9 => repeat (first | exact (by repeat (first | (with_reducible exact HR307_5.out) | (with_reducible refine Kd.C_alloc ?_ _) | (with_reducible refine Kd.C_drewN ?_ _) | (with_reducible refine Kd.C_drew ?_) | exact HR307_5.out)) | (with_reducible refine Kd.C_alloc ?_ _) | (with_reducible refine Kd.C_drewN ?_ _) | (with_reducible refine Kd.C_drew ?_)))
                 (case side10 => exact HC307_5.out)
                 (case side11 => repeat (first | exact (by repeat (first | (with_reducible exact HR307_6.out) | (with_reducible refine Kd.C_alloc ?_ _) | (with_reducible refine Kd.C_drewN ?_ _) | (with_reducible refine Kd.C_drew ?_) | exact HR307_6.out)) | (with_reducible refine Kd.C_alloc ?_ _) | (with_reducible refine Kd.C_drewN ?_ _) | (with_reducible refine Kd.C_drew ?_)))
                 (case side12 => exact HC307_6.out)
                 rintro e w54 ⟨rfl, hb⟩
                 have HS0_ := (hb.cell (World.block_lt_of_cell? _ _ (hHeld.1))).trans (hHeld.1)
                 have HS1_ := (hb.cell (World.block_lt_of_cell? _ _ (hHeld.2.1))).trans (hHeld.2.1)
                 have HS2_ := (hb.cell (World.block_lt_of_cell? _ _ (hHeld.2.2.1))).trans (hHeld.2.2.1)
                 have HS3_ := (hb.cell (World.block_lt_of_cell? _ _ (hHeld.2.2.2.1))).trans (hHeld.2.2.2.1)
                 have HS4_ := (hb.cell (World.block_lt_of_cell? _ _ (hHeld.2.2.2.2.1))).trans (hHeld.2.2.2.2.1)
                 have HS5_ := (hb.cell (World.block_lt_of_cell? _ _ (hHeld.2.2.2.2.2.1))).trans (hHeld.2.2.2.2.2.1)
                 have HS6_ := (hb.cell (World.block_lt_of_cell? _ _ (hHeld.2.2.2.2.2.2.1))).trans (hHeld.2.2.2.2.2.2.1)
                 have HS7_ := (hb.cell (World.block_lt_of_cell? _ _ (hHeld.2.2.2.2.2.2.2.1))).trans (hHeld.2.2.2.2.2.2.2.1)
                 have HS8_ := (hb.cell (World.block_lt_of_cell? _ _ (hHeld.2.2.2.2.2.2.2.2.1))).trans (hHeld.2.2.2.2.2.2.2.2.1)
                 have HS9_ := (hb.cell (World.block_lt_of_cell? _ _ (hHeld.2.2.2.2.2.2.2.2.2.1))).trans (hHeld.2.2.2.2.2.2.2.2.2.1)
                 have HS10_ := (hb.cell (World.block_lt_of_cell? _ _ (hHeld.2.2.2.2.2.2.2.2.2.2.1))).trans (hHeld.2.2.2.2.2.2.2.2.2.2.1)
                 have HS11_ := (hb.cell (World.block_lt_of_cell? _ _ (hHeld.2.2.2.2.2.2.2.2.2.2.2.1))).trans (hHeld.2.2.2.2.2.2.2.2.2.2.2.1)
                 have HS12_ := (hb.cell (World.block_lt_of_cell? _ _ (hHeld.2.2.2.2.2.2.2.2.2.2.2.2.1))).trans (hHeld.2.2.2.2.2.2.2.2.2.2.2.2.1)
                 have HS13_ := (hb.cell (World.block_lt_of_cell? _ _ (hHeld.2.2.2.2.2.2.2.2.2.2.2.2.2))).trans (hHeld.2.2.2.2.2.2.2.2.2.2.2.2.2)
                 refine ⟨_, rfl, ?_⟩
                 have n0_ := Aside0.mk (Kd.S_below (by (with_reducible repeat (first | apply Kd.S_alloc | apply Kd.S_drewN | apply Kd.S_drew)); exact HO_13.out) hb)
                 have n1_ := Aside0.mk (Kd.S_below (by (with_reducible repeat (first | apply Kd.S_alloc | apply Kd.S_drewN | apply Kd.S_drew)); exact HO_15.out) hb)
                 have n2_ := Aside0.mk (Kd.R_below (by (with_reducible repeat (first | apply rA | apply rN | apply rD)); exact HL306_4.out) hb)
                 have n3_ := Aside0.mk (Kd.R_below (by (with_reducible repeat (first | apply rA | apply rN | apply rD)); exact HL306_5.out) hb)
                 have n4_ := Aside0.mk (Kd.R_below (by (with_reducible repeat (first | apply rA | apply rN | apply rD)); exact HL306_6.out) hb)
                 have n5_ := Aside0.mk (Kd.R_below (by (with_reducible repeat (first | apply rA | apply rN | apply rD)); exact HL307_4.out) hb)
                 have n6_ := Aside0.mk (Kd.R_below (by (with_reducible repeat (first | apply rA | apply rN | apply rD)); exact HL307_5.out) hb)
                 have n7_ := Aside0.mk (Kd.R_below (by (with_reducible repeat (first | apply rA | apply rN | apply rD)); exact HL307_6.out) hb)
                 have n8_ := Aside0.mk (Kd.C_below (by repeat (first | (with_reducible exact HR306_4.out) | (with_reducible refine Kd.C_alloc ?_ _) | (with_reducible refine Kd.C_drewN ?_ _) | (with_reducible refine Kd.C_drew ?_) | exact HR306_4.out)) hb)
                 have n9_ := Aside0.mk (Kd.C_below (by repeat (first | (with_reducible exact HR306_5.out) | (with_reducible refine Kd.C_alloc ?_ _) | (with_reducible refine Kd.C_drewN ?_ _) | (with_reducible refine Kd.C_drew ?_) | exact HR306_5.out)) hb)
                 have n10_ := Aside0.mk (Kd.C_below (by repeat (first | (with_reducible exact HR306_6.out) | (with_reducible refine Kd.C_alloc ?_ _) | (with_reducible refine Kd.C_drewN ?_ _) | (with_reducible refine Kd.C_drew ?_) | exact HR306_6.out)) hb)
                 have n11_ := Aside0.mk (Kd.C_below (by repeat (first | (with_reducible exact HR307_4.out) | (with_reducible refine Kd.C_alloc ?_ _) | (with_reducible refine Kd.C_drewN ?_ _) | (with_reducible refine Kd.C_drew ?_) | exact HR307_4.out)) hb)
                 have n12_ := Aside0.mk (Kd.C_below (by repeat (first | (with_reducible exact HR307_5.out) | (with_reducible refine Kd.C_alloc ?_ _) | (with_reducible refine Kd.C_drewN ?_ _) | (with_reducible refine Kd.C_drew ?_) | exact HR307_5.out)) hb)
                 have n13_ := Aside0.mk (Kd.C_below (by repeat (first | (with_reducible exact HR307_6.out) | (with_reducible refine Kd.C_alloc ?_ _) | (with_reducible refine Kd.C_drewN ?_ _) | (with_reducible refine Kd.C_drew ?_) | exact HR307_6.out)) hb)
                 have n14_ := Aside0.mk (below_step (by repeat (first | (with_reducible first | exact HB.out | apply wA | apply wN | apply wD) | exact HB.out)) hb)
                 clear HO_13
                 clear HO_15
                 clear HL306_4
                 clear HL306_5
                 clear HL306_6
                 clear HL307_4
                 clear HL307_5
                 clear HL307_6
                 clear HR306_4
                 clear HR306_5
                 clear HR306_6
                 clear HR307_4
                 clear HR307_5
                 clear HR307_6
                 clear HB
                 have HO_13 := n0_
                 have HO_15 := n1_
                 have HL306_4 := n2_
                 have HL306_5 := n3_
                 have HL306_6 := n4_
                 have HL307_4 := n5_
                 have HL307_5 := n6_
                 have HL307_6 := n7_
                 have HR306_4 := n8_
                 have HR306_5 := n9_
                 have HR306_6 := n10_
                 have HR307_4 := n11_
                 have HR307_5 := n12_
                 have HR307_6 := n13_
                 have HB := n14_
                 clear n0_ n1_ n2_ n3_ n4_ n5_ n6_ n7_ n8_ n9_ n10_ n11_ n12_ n13_ n14_
                 (try clear hb); (try clear hb2); (try clear hk); (try clear hi)
                 refine hK.out _ _ ⟨HS0_, HS1_, HS2_, HS3_, HS4_, HS5_, HS6_, HS7_, HS8_, HS9_, HS10_, HS11_, HS12_, HS13_⟩ (fun hHeld => ?_)
                 clear hK K
                 refine norm_ (a' := ?_) ?_ ?_
                 rotate_left
                 ·show Act.put _ (some 106) _ = _
                  simp only [Act.put, List.setIfInBounds_toArray, List.set_cons_zero, List.set_cons_succ, i64_w, i32_w]
                  rfl
                 refine pure_ (i := 9) (N := some 107) (v := ?_) (a' := ?_) #[true, true, true, true, true, true, true, true, true, true] rfl rfl (any_of HT_.out (by kernel_rfl)) (fun _ _ _ h => h) (Or.inl ⟨by rfl, ?_⟩) ?_ ?_
                 rotate_left
                 ·intro w'
                  go_simp
                  with_reducible rfl
                 rotate_left
                 ·simp only [Act.put, List.setIfInBounds_toArray, List.set_cons_zero, List.set_cons_succ, i64_w, i32_w]
                  rfl
                 refine done_ (done_of HT_.out (by kernel_rfl)) ?_
                 try go_wp2
                 go_ret
                 exact ⟨by first | rfl | (simp [errW_none, errW_some] <;> rfl) | (simp [*, errW_none, errW_some] <;> rfl), by repeat (first | (with_reducible first | exact HB.out | apply wA | apply wN | apply wD) | exact HB.out)⟩
               ·rw [if_neg c44] at H
                exact absurd H (by simp)
              ·rw [if_neg c43] at H
               exact absurd H (by simp)
             ·rw [if_neg c42] at H
              have c42b0 : decide (x17_5 < (t297.length : Int)) = false := decide_eq_false c42
              clear c42
              replace H := Option.bind_eq_some_iff.mp H
              obtain ⟨⟨t309, t310⟩, A550, H⟩ := H
              replace H : ((ndjqref20_Entries.f k5 l3).bind fun bt313 => ((ndjqkeep_Ints.f k5 t309 bt313.1).bind fun t317 => (if t317 = true then (if t310 = bt313.2 then ((ndjqlaw20_awake.f k5).bind fun t318 => (some t318)) else (some false)) else (some false)))) = some r := H
              have A55 := Aside0.mk A550
              clear A550
              replace H := Option.bind_eq_some_iff.mp H
              obtain ⟨⟨t313, t314⟩, A560, H⟩ := H
              replace H : ((ndjqkeep_Ints.f k5 t309 t313).bind fun t317 => (if t317 = true then (if t310 = t314 then ((ndjqlaw20_awake.f k5).bind fun t318 => (some t318)) else (some false)) else (some false))) = some r := H
              have A56 := Aside0.mk A560
              clear A560
              replace H := Option.bind_eq_some_iff.mp H
              obtain ⟨t317, A570, H⟩ := H
              replace H : (if t317 = true then (if t310 = t314 then ((ndjqlaw20_awake.f k5).bind fun t318 => (some t318)) else (some false)) else (some false)) = some r := H
              have A57 := Aside0.mk A570
              clear A570
              by_cases c58 : t317 = true
              ·subst c58
               have H1 : (if t310 = t314 then ((ndjqlaw20_awake.f k5).bind fun t318 => (some t318)) else (some false)) = some r := by rw [if_pos rfl] at H; exact H
               clear H; have H := H1; clear H1
               by_cases c59 : t310 = t314
               ·rw [if_pos c59] at H
                have c59b0 : (t310 == t314) = true := beq_iff_eq.mpr c59
                have c59b1 : (t310 != t314) = false := bne_eq_false_iff_eq.mpr c59
                clear c59
                replace H := Option.bind_eq_some_iff.mp H
                obtain ⟨t318, A600, H⟩ := H
                replace H : (some t318) = some r := H
                have A60 := Aside0.mk A600
                clear A600
                obtain rfl := Option.some.inj H
                obtain ⟨Ao61, co61, eo61⟩ := Kd.S_slice HO_13.out
                subst eo61
                go_wp2_with (first | ((with_reducible refine gate_callee (f := 18) rfl ?_); refine goesL_ (some 110) rfl rfl Tryd.func18 (by kernel_rfl) rfl #[.slice A3 l3.length c3] rfl (by (try simp only [List.map_toArray, List.map_cons, List.map_nil]); first | done | rfl | (simp only [List.length_drop, List.length_take]; rfl)) ?_; (with_reducible refine (scan_Entries.calls k5 _ _ l3 t309 t310 _ ?side1 ?side2 A55.out).mono ?_); (case side1 => repeat (first | exact (Kd.C_below HR3.out HB.out) | (with_reducible refine Kd.C_alloc ?_ _) | (with_reducible refine Kd.C_drewN ?_ _) | (with_reducible refine Kd.C_drew ?_))); (case side2 => exact HC3.out); rintro e w62 ⟨v311, rfl, ho0, hb⟩; refine ⟨_, rfl, ?_⟩; have n0_ := Aside0.mk (Kd.S_elder' (by (with_reducible repeat (first | apply Kd.S_alloc | apply Kd.S_drewN | apply Kd.S_drew)); exact HO_13.out) (Kd.R_base ho0) hb); have n1_ := Aside0.mk (Kd.S_elder' (by (with_reducible repeat (first | apply Kd.S_alloc | apply Kd.S_drewN | apply Kd.S_drew)); exact HO_15.out) (Kd.R_base ho0) hb); have n2_ := Aside0.mk (Kd.R_lower ho0 (below_size (by repeat (first | (with_reducible first | exact HB.out | apply wA | apply wN | apply wD) | exact HB.out)))); have n3_ := Aside0.mk (below_step (by repeat (first | (with_reducible first | exact HB.out | apply wA | apply wN | apply wD) | exact HB.out)) hb); clear HO_13; clear HO_15; clear HB; have HO_13 := n0_; have HO_15 := n1_; have HO312 := n2_; have HB := n3_; clear n0_ n1_ n2_ n3_; (try clear hb); (try clear hb2); (try clear hk); (try clear hi); (try clear ho0)) | ((with_reducible refine gate_callee (f := 19) rfl ?_); refine goesL_ (some 115) rfl rfl Tryd.func19 (by kernel_rfl) rfl #[.slice A3 l3.length c3] rfl (by (try simp only [List.map_toArray, List.map_cons, List.map_nil]); first | done | rfl | (simp only [List.length_drop, List.length_take]; rfl)) ?_; (with_reducible refine (ndjqref20_Entries.calls k5 _ _ l3 t313 t314 _ ?side1 ?side2 A56.out).mono ?_); (case side1 => repeat (first | exact (Kd.C_below HR3.out HB.out) | (with_reducible refine Kd.C_alloc ?_ _) | (with_reducible refine Kd.C_drewN ?_ _) | (with_reducible refine Kd.C_drew ?_))); (case side2 => exact HC3.out); rintro e w63 ⟨v315, rfl, ho0, hb⟩; refine ⟨_, rfl, ?_⟩; have n0_ := Aside0.mk (Kd.S_elder' (by (with_reducible repeat (first | apply Kd.S_alloc | apply Kd.S_drewN | apply Kd.S_drew)); exact HO_13.out) (Kd.R_base ho0) hb); have n1_ := Aside0.mk (Kd.S_elder' (by (with_reducible repeat (first | apply Kd.S_alloc | apply Kd.S_drewN | apply Kd.S_drew)); exact HO_15.out) (Kd.R_base ho0) hb); have n2_ := Aside0.mk (Kd.R_elder' (by (with_reducible repeat (first | apply rA | apply rN | apply rD)); exact HO312.out) (Kd.R_base ho0) hb); have n3_ := Aside0.mk (Kd.R_lower (Kd.R_new' ho0 (Kd.R_lt (by (with_reducible repeat (first | apply rA | apply rN | apply rD)); exact HO312.out))) (below_size (by repeat (first | (with_reducible first | exact HB.out | apply wA | apply wN | apply wD) | exact HB.out)))); have n4_ := Aside0.mk (below_step (by repeat (first | (with_reducible first | exact HB.out | apply wA | apply wN | apply wD) | exact HB.out)) hb); clear HO_13; clear HO_15; clear HO312; clear HB; have HO_13 := n0_; have HO_15 := n1_; have HO312 := n2_; have HO316 := n3_; have HB := n4_; clear n0_ n1_ n2_ n3_ n4_; (try clear hb); (try clear hb2); (try clear hk); (try clear hi); (try clear ho0); obtain ⟨Ao64, co64, eo64⟩ := Kd.R_slice HO312.out; subst eo64; obtain ⟨Ao65, co65, eo65⟩ := Kd.R_slice HO316.out; subst eo65) | ((with_reducible refine gate_callee (f := 20) rfl ?_); refine goesL_ (some 120) rfl rfl Tryd.func20 (by kernel_rfl) rfl #[.slice Ao64 t309.length co64, .slice Ao65 t313.length co65] rfl (by (try simp only [List.map_toArray, List.map_cons, List.map_nil]); first | done | rfl | (simp only [List.length_drop, List.length_take]; rfl)) ?_; (with_reducible refine (ndjqkeep_Ints.calls k5 _ _ t309 _ _ t313 true _ ?side1 ?side2 ?side3 ?side4 A57.out).mono ?_); (case side1 => repeat (first | exact (Kd.R_reads' HO312.out).2.2 | (with_reducible refine Kd.C_alloc ?_ _) | (with_reducible refine Kd.C_drewN ?_ _) | (with_reducible refine Kd.C_drew ?_))); (case side2 => exact (Kd.R_reads' HO312.out).2.1); (case side3 => repeat (first | exact (Kd.R_reads' HO316.out).2.2 | (with_reducible refine Kd.C_alloc ?_ _) | (with_reducible refine Kd.C_drewN ?_ _) | (with_reducible refine Kd.C_drew ?_))); (case side4 => exact (Kd.R_reads' HO316.out).2.1); rintro e w' ⟨rfl, ⟨nd, rfl⟩⟩; refine ⟨_, rfl, ?_⟩) | (go_at_call 9; (with_reducible refine (ndjqlaw20_awake.calls k5  t318 _ ?side1 A60.out).mono ?_); (case side1 => exact GlbLaid.below HG.out (by repeat (first | (with_reducible first | exact HB.out | apply wA | apply wN | apply wD) | exact HB.out))); rintro e w66 ⟨rfl, hb⟩; have n0_ := Aside0.mk (Kd.S_below (by (with_reducible repeat (first | apply Kd.S_alloc | apply Kd.S_drewN | apply Kd.S_drew)); exact HO_13.out) hb); have n1_ := Aside0.mk (Kd.S_below (by (with_reducible repeat (first | apply Kd.S_alloc | apply Kd.S_drewN | apply Kd.S_drew)); exact HO_15.out) hb); have n2_ := Aside0.mk (Kd.R_below (by (with_reducible repeat (first | apply rA | apply rN | apply rD)); exact HO312.out) hb); have n3_ := Aside0.mk (Kd.R_below (by (with_reducible repeat (first | apply rA | apply rN | apply rD)); exact HO316.out) hb); have n4_ := Aside0.mk (below_step (by repeat (first | (with_reducible first | exact HB.out | apply wA | apply wN | apply wD) | exact HB.out)) hb); clear HO_13; clear HO_15; clear HO312; clear HO316; clear HB; have HO_13 := n0_; have HO_15 := n1_; have HO312 := n2_; have HO316 := n3_; have HB := n4_; clear n0_ n1_ n2_ n3_ n4_; (try clear hb); (try clear hb2); (try clear hk); (try clear hi)))
                go_ret
                exact ⟨by first | rfl | (simp [errW_none, errW_some] <;> rfl) | (simp [*, errW_none, errW_some] <;> rfl), by repeat (first | (with_reducible first | exact HB.out | apply wA | apply wN | apply wD) | exact HB.out)⟩
               ·rw [if_neg c59] at H
                have c59b0 : (t310 == t314) = false := beq_eq_false_iff_ne.mpr c59
                have c59b1 : (t310 != t314) = true := bne_iff_ne.mpr c59
                obtain rfl := Option.some.inj H
                obtain ⟨Ao67, co67, eo67⟩ := Kd.S_slice HO_13.out
                subst eo67
                go_wp2_with (first | ((with_reducible refine gate_callee (f := 18) rfl ?_); refine goesL_ (some 110) rfl rfl Tryd.func18 (by kernel_rfl) rfl #[.slice A3 l3.length c3] rfl (by (try simp only [List.map_toArray, List.map_cons, List.map_nil]); first | done | rfl | (simp only [List.length_drop, List.length_take]; rfl)) ?_; (with_reducible refine (scan_Entries.calls k5 _ _ l3 t309 t310 _ ?side1 ?side2 A55.out).mono ?_); (case side1 => repeat (first | exact (Kd.C_below HR3.out HB.out) | (with_reducible refine Kd.C_alloc ?_ _) | (with_reducible refine Kd.C_drewN ?_ _) | (with_reducible refine Kd.C_drew ?_))); (case side2 => exact HC3.out); rintro e w68 ⟨v311, rfl, ho0, hb⟩; refine ⟨_, rfl, ?_⟩; have n0_ := Aside0.mk (Kd.S_elder' (by (with_reducible repeat (first | apply Kd.S_alloc | apply Kd.S_drewN | apply Kd.S_drew)); exact HO_13.out) (Kd.R_base ho0) hb); have n1_ := Aside0.mk (Kd.S_elder' (by (with_reducible repeat (first | apply Kd.S_alloc | apply Kd.S_drewN | apply Kd.S_drew)); exact HO_15.out) (Kd.R_base ho0) hb); have n2_ := Aside0.mk (Kd.R_lower ho0 (below_size (by repeat (first | (with_reducible first | exact HB.out | apply wA | apply wN | apply wD) | exact HB.out)))); have n3_ := Aside0.mk (below_step (by repeat (first | (with_reducible first | exact HB.out | apply wA | apply wN | apply wD) | exact HB.out)) hb); clear HO_13; clear HO_15; clear HB; have HO_13 := n0_; have HO_15 := n1_; have HO312 := n2_; have HB := n3_; clear n0_ n1_ n2_ n3_; (try clear hb); (try clear hb2); (try clear hk); (try clear hi); (try clear ho0)) | ((with_reducible refine gate_callee (f := 19) rfl ?_); refine goesL_ (some 115) rfl rfl Tryd.func19 (by kernel_rfl) rfl #[.slice A3 l3.length c3] rfl (by (try simp only [List.map_toArray, List.map_cons, List.map_nil]); first | done | rfl | (simp only [List.length_drop, List.length_take]; rfl)) ?_; (with_reducible refine (ndjqref20_Entries.calls k5 _ _ l3 t313 t314 _ ?side1 ?side2 A56.out).mono ?_); (case side1 => repeat (first | exact (Kd.C_below HR3.out HB.out) | (with_reducible refine Kd.C_alloc ?_ _) | (with_reducible refine Kd.C_drewN ?_ _) | (with_reducible refine Kd.C_drew ?_))); (case side2 => exact HC3.out); rintro e w69 ⟨v315, rfl, ho0, hb⟩; refine ⟨_, rfl, ?_⟩; have n0_ := Aside0.mk (Kd.S_elder' (by (with_reducible repeat (first | apply Kd.S_alloc | apply Kd.S_drewN | apply Kd.S_drew)); exact HO_13.out) (Kd.R_base ho0) hb); have n1_ := Aside0.mk (Kd.S_elder' (by (with_reducible repeat (first | apply Kd.S_alloc | apply Kd.S_drewN | apply Kd.S_drew)); exact HO_15.out) (Kd.R_base ho0) hb); have n2_ := Aside0.mk (Kd.R_elder' (by (with_reducible repeat (first | apply rA | apply rN | apply rD)); exact HO312.out) (Kd.R_base ho0) hb); have n3_ := Aside0.mk (Kd.R_lower (Kd.R_new' ho0 (Kd.R_lt (by (with_reducible repeat (first | apply rA | apply rN | apply rD)); exact HO312.out))) (below_size (by repeat (first | (with_reducible first | exact HB.out | apply wA | apply wN | apply wD) | exact HB.out)))); have n4_ := Aside0.mk (below_step (by repeat (first | (with_reducible first | exact HB.out | apply wA | apply wN | apply wD) | exact HB.out)) hb); clear HO_13; clear HO_15; clear HO312; clear HB; have HO_13 := n0_; have HO_15 := n1_; have HO312 := n2_; have HO316 := n3_; have HB := n4_; clear n0_ n1_ n2_ n3_ n4_; (try clear hb); (try clear hb2); (try clear hk); (try clear hi); (try clear ho0); obtain ⟨Ao70, co70, eo70⟩ := Kd.R_slice HO312.out; subst eo70; obtain ⟨Ao71, co71, eo71⟩ := Kd.R_slice HO316.out; subst eo71) | ((with_reducible refine gate_callee (f := 20) rfl ?_); refine goesL_ (some 120) rfl rfl Tryd.func20 (by kernel_rfl) rfl #[.slice Ao70 t309.length co70, .slice Ao71 t313.length co71] rfl (by (try simp only [List.map_toArray, List.map_cons, List.map_nil]); first | done | rfl | (simp only [List.length_drop, List.length_take]; rfl)) ?_; (with_reducible refine (ndjqkeep_Ints.calls k5 _ _ t309 _ _ t313 true _ ?side1 ?side2 ?side3 ?side4 A57.out).mono ?_); (case side1 => repeat (first | exact (Kd.R_reads' HO312.out).2.2 | (with_reducible refine Kd.C_alloc ?_ _) | (with_reducible refine Kd.C_drewN ?_ _) | (with_reducible refine Kd.C_drew ?_))); (case side2 => exact (Kd.R_reads' HO312.out).2.1); (case side3 => repeat (first | exact (Kd.R_reads' HO316.out).2.2 | (with_reducible refine Kd.C_alloc ?_ _) | (with_reducible refine Kd.C_drewN ?_ _) | (with_reducible refine Kd.C_drew ?_))); (case side4 => exact (Kd.R_reads' HO316.out).2.1); rintro e w' ⟨rfl, ⟨nd, rfl⟩⟩; refine ⟨_, rfl, ?_⟩))
                go_ret
                exact ⟨by first | rfl | (simp [errW_none, errW_some] <;> rfl) | (simp [*, errW_none, errW_some] <;> rfl), by repeat (first | (with_reducible first | exact HB.out | apply wA | apply wN | apply wD) | exact HB.out)⟩
              ·replace c58 := Bool.eq_false_iff.mpr c58
               subst c58
               have H1 : (some false) = some r := by rw [if_neg (show ¬ (false = true) by decide)] at H; exact H
               clear H; have H := H1; clear H1
               obtain rfl := Option.some.inj H
               obtain ⟨Ao72, co72, eo72⟩ := Kd.S_slice HO_13.out
               subst eo72
               go_wp2_with (first | ((with_reducible refine gate_callee (f := 18) rfl ?_); refine goesL_ (some 110) rfl rfl Tryd.func18 (by kernel_rfl) rfl #[.slice A3 l3.length c3] rfl (by (try simp only [List.map_toArray, List.map_cons, List.map_nil]); first | done | rfl | (simp only [List.length_drop, List.length_take]; rfl)) ?_; (with_reducible refine (scan_Entries.calls k5 _ _ l3 t309 t310 _ ?side1 ?side2 A55.out).mono ?_); (case side1 => repeat (first | exact (Kd.C_below HR3.out HB.out) | (with_reducible refine Kd.C_alloc ?_ _) | (with_reducible refine Kd.C_drewN ?_ _) | (with_reducible refine Kd.C_drew ?_))); (case side2 => exact HC3.out); rintro e w73 ⟨v311, rfl, ho0, hb⟩; refine ⟨_, rfl, ?_⟩; have n0_ := Aside0.mk (Kd.S_elder' (by (with_reducible repeat (first | apply Kd.S_alloc | apply Kd.S_drewN | apply Kd.S_drew)); exact HO_13.out) (Kd.R_base ho0) hb); have n1_ := Aside0.mk (Kd.S_elder' (by (with_reducible repeat (first | apply Kd.S_alloc | apply Kd.S_drewN | apply Kd.S_drew)); exact HO_15.out) (Kd.R_base ho0) hb); have n2_ := Aside0.mk (Kd.R_lower ho0 (below_size (by repeat (first | (with_reducible first | exact HB.out | apply wA | apply wN | apply wD) | exact HB.out)))); have n3_ := Aside0.mk (below_step (by repeat (first | (with_reducible first | exact HB.out | apply wA | apply wN | apply wD) | exact HB.out)) hb); clear HO_13; clear HO_15; clear HB; have HO_13 := n0_; have HO_15 := n1_; have HO312 := n2_; have HB := n3_; clear n0_ n1_ n2_ n3_; (try clear hb); (try clear hb2); (try clear hk); (try clear hi); (try clear ho0)) | ((with_reducible refine gate_callee (f := 19) rfl ?_); refine goesL_ (some 115) rfl rfl Tryd.func19 (by kernel_rfl) rfl #[.slice A3 l3.length c3] rfl (by (try simp only [List.map_toArray, List.map_cons, List.map_nil]); first | done | rfl | (simp only [List.length_drop, List.length_take]; rfl)) ?_; (with_reducible refine (ndjqref20_Entries.calls k5 _ _ l3 t313 t314 _ ?side1 ?side2 A56.out).mono ?_); (case side1 => repeat (first | exact (Kd.C_below HR3.out HB.out) | (with_reducible refine Kd.C_alloc ?_ _) | (with_reducible refine Kd.C_drewN ?_ _) | (with_reducible refine Kd.C_drew ?_))); (case side2 => exact HC3.out); rintro e w74 ⟨v315, rfl, ho0, hb⟩; refine ⟨_, rfl, ?_⟩; have n0_ := Aside0.mk (Kd.S_elder' (by (with_reducible repeat (first | apply Kd.S_alloc | apply Kd.S_drewN | apply Kd.S_drew)); exact HO_13.out) (Kd.R_base ho0) hb); have n1_ := Aside0.mk (Kd.S_elder' (by (with_reducible repeat (first | apply Kd.S_alloc | apply Kd.S_drewN | apply Kd.S_drew)); exact HO_15.out) (Kd.R_base ho0) hb); have n2_ := Aside0.mk (Kd.R_elder' (by (with_reducible repeat (first | apply rA | apply rN | apply rD)); exact HO312.out) (Kd.R_base ho0) hb); have n3_ := Aside0.mk (Kd.R_lower (Kd.R_new' ho0 (Kd.R_lt (by (with_reducible repeat (first | apply rA | apply rN | apply rD)); exact HO312.out))) (below_size (by repeat (first | (with_reducible first | exact HB.out | apply wA | apply wN | apply wD) | exact HB.out)))); have n4_ := Aside0.mk (below_step (by repeat (first | (with_reducible first | exact HB.out | apply wA | apply wN | apply wD) | exact HB.out)) hb); clear HO_13; clear HO_15; clear HO312; clear HB; have HO_13 := n0_; have HO_15 := n1_; have HO312 := n2_; have HO316 := n3_; have HB := n4_; clear n0_ n1_ n2_ n3_ n4_; (try clear hb); (try clear hb2); (try clear hk); (try clear hi); (try clear ho0); obtain ⟨Ao75, co75, eo75⟩ := Kd.R_slice HO312.out; subst eo75; obtain ⟨Ao76, co76, eo76⟩ := Kd.R_slice HO316.out; subst eo76) | ((with_reducible refine gate_callee (f := 20) rfl ?_); refine goesL_ (some 120) rfl rfl Tryd.func20 (by kernel_rfl) rfl #[.slice Ao75 t309.length co75, .slice Ao76 t313.length co76] rfl (by (try simp only [List.map_toArray, List.map_cons, List.map_nil]); first | done | rfl | (simp only [List.length_drop, List.length_take]; rfl)) ?_; (with_reducible refine (ndjqkeep_Ints.calls k5 _ _ t309 _ _ t313 false _ ?side1 ?side2 ?side3 ?side4 A57.out).mono ?_); (case side1 => repeat (first | exact (Kd.R_reads' HO312.out).2.2 | (with_reducible refine Kd.C_alloc ?_ _) | (with_reducible refine Kd.C_drewN ?_ _) | (with_reducible refine Kd.C_drew ?_))); (case side2 => exact (Kd.R_reads' HO312.out).2.1); (case side3 => repeat (first | exact (Kd.R_reads' HO316.out).2.2 | (with_reducible refine Kd.C_alloc ?_ _) | (with_reducible refine Kd.C_drewN ?_ _) | (with_reducible refine Kd.C_drew ?_))); (case side4 => exact (Kd.R_reads' HO316.out).2.1); rintro e w' ⟨rfl, ⟨nd, rfl⟩⟩; refine ⟨_, rfl, ?_⟩))
               go_ret
               exact ⟨by first | rfl | (simp [errW_none, errW_some] <;> rfl) | (simp [*, errW_none, errW_some] <;> rfl), by repeat (first | (with_reducible first | exact HB.out | apply wA | apply wN | apply wD) | exact HB.out)⟩

-- what came in
/-- What is known of a value of struct type 22 that came in. -/
def Wf22 (x : S22) : Prop := (Lit.int .i64 x.f0).wf = true ∧ (Lit.int .i64 x.f1).wf = true ∧ (Lit.int .i64 x.f2).wf = true
/-- What is known of a value of struct type 24 that came in. -/
def Wf24 (x : S24) : Prop := (x.f0.length * 8 ≤ 140737488351232 ∧ ∀ q1 ∈ x.f0, (Lit.int .i64 q1).wf = true) ∧ (x.f1.length * 8 ≤ 140737488351232 ∧ ∀ q1 ∈ x.f1, (Lit.int .i64 q1).wf = true) ∧ (x.f2.length * 8 ≤ 140737488351232 ∧ ∀ q1 ∈ x.f2, (Lit.int .i64 q1).wf = true)
/-- What is known of a value of struct type 26 that came in. -/
def Wf26 (x : S26) : Prop := (Lit.int .i64 x.f0).wf = true ∧ Wf22 x.f1 ∧ Wf24 x.f2
/-- THE ONE PURE STATEMENT of ndjqlaw20_ScanChunks: yours. -/
def ndjqlaw20_ScanChunks.Pure : Prop := ∀ (a0 : ByteArray) (a1 : Int) (a2 : Int) (l3 : List (S26)), a0.size ≤ 140737488351232 → (Lit.int .i64 a1).wf = true → (Lit.int .i64 a2).wf = true → (l3.length * 104 ≤ 140737488351232 ∧ ∀ q1 ∈ l3, Wf26 q1) → ∃ k, ndjqlaw20_ScanChunks.f k a0 a1 a2 l3 = some true
theorem ndjqlaw20_ScanChunks.walk (P : ndjqlaw20_ScanChunks.Pure) (a0 : ByteArray) (a1 : Int) (a2 : Int) (A3 : Option Addr) (c3 : Nat) (l3 : List (S26)) (w : World) (w0 : a0.size ≤ 140737488351232) (w1 : (Lit.int .i64 a1).wf = true) (w2 : (Lit.int .i64 a2).wf = true) (hr3 : Kd.C k26 w A3 l3.length l3) (hc3 : l3.length ≤ c3) (hw3 : (l3.length * 104 ≤ 140737488351232 ∧ ∀ q1 ∈ l3, Wf26 q1)) (hG : GlbLaid w) :
  Calls Tryd.prog 4 #[.string a0, .int .i64 a1, .int .i64 a2, .slice A3 l3.length c3] w fun e w' => e = .returned (.bool true) ∧ Below w.heap.size w w' := by
 obtain ⟨k, h⟩ := P a0 a1 a2 l3 w0 w1 w2 hw3
 refine (ndjqlaw20_ScanChunks.calls k a0 a1 a2 _ _ l3 true w hr3 hc3 hG h).mono ?_
 rintro e w' ⟨rfl, hd⟩
 exact ⟨rfl, hd⟩

end Go.Proofs.YtkhnifehcnlpjaaDoor.QScanChunks
