-- by a program of this session (print2.py): the machine's side of one law; Lean checks it.
import Derived.Test.YtkhnifehcnlpjaaDoorQScanResolvex0
import Derived.Test.YtkhnifehcnlpjaaDoorQScanResolvex2
import Derived.Test.YtkhnifehcnlpjaaDoorQScanResolvex4
import Derived.Test.YtkhnifehcnlpjaaDoorQScanResolvex7
import Derived.Test.YtkhnifehcnlpjaaDoorQScanResolvex8
namespace Go.Proofs.YtkhnifehcnlpjaaDoor.QScanResolve
open Go.RowKit Go.Proofs.YtkhnifehcnlpjaaDoorW.PrintWords Go.Proofs.YtkhnifehcnlpjaaDoorW.PrintLast Go.Proofs.YtkhnifehcnlpjaaDoorW.PrintMore
attribute [local go_sem] max2_int min2_int max_two min_two max_three min_three max_four min_four   -- for this text's walks alone
set_option linter.unusedVariables false
set_option linter.unusedSimpArgs false

/-! ### ndjqref20_Follow: function 30 -/
mutual
def ndjqref20_Follow.l0 : Nat → Int → Int → List (S51) → List Int → Int → Int → Int → Int → Int → List Int → List Int → List Int → Option ((List (S51)) × Int × Int)
 | 0, _, _, _, _, _, _, _, _, _, _, _, _ => none
 | k + 1, x0, x2, x11, x12, x13, x226000, x226001, x226002, x226003, x226004, x226005, x226006 => if x13 < (x12.length : Int) then (if 0 ≤ x13 then (if x11.length < 8796093022208 then (ndjqref20_Follow.l0 k x0 (wrap64 ((wrap64 (x0 + (rd x12 x13))) + 1)) (x11 ++ [(⟨x2, wrap64 (x0 + (rd x12 x13))⟩ : S51)]) x12 (wrap64 (x13 + 1)) x226000 x226001 x226002 x226003 x226004 x226005 x226006) else (none)) else (none)) else (some (x11, x226001, x2))
def ndjqref20_Follow.l100 : Nat → Int → Int → List (S51) → List Int → Int → Int → Int → Int → Int → List Int → List Int → List Int → Option ((List (S51)) × Int × Int)
 | 0, _, _, _, _, _, _, _, _, _, _, _, _ => none
 | k + 1, x0, x2, x11, x12, x13, x226000, x226001, x226002, x226003, x226004, x226005, x226006 => if x13 < (x12.length : Int) then (if 0 ≤ x13 then (if x11.length < 8796093022208 then (ndjqref20_Follow.l100 k x0 (wrap64 ((wrap64 (x0 + (rd x12 x13))) + 1)) (x11 ++ [(⟨x2, wrap64 (x0 + (rd x12 x13))⟩ : S51)]) x12 (wrap64 (x13 + 1)) x226000 x226001 x226002 x226003 x226004 x226005 x226006) else (none)) else (none)) else (some (x11, x226002, x2))
def ndjqref20_Follow.l200 : Nat → Int → Int → List (S51) → List Int → Int → Int → Int → Int → Int → List Int → List Int → List Int → Option ((List (S51)) × Int × Int)
 | 0, _, _, _, _, _, _, _, _, _, _, _, _ => none
 | k + 1, x0, x2, x11, x12, x13, x226000, x226001, x226002, x226003, x226004, x226005, x226006 => if x13 < (x12.length : Int) then (if 0 ≤ x13 then (if x11.length < 8796093022208 then (ndjqref20_Follow.l200 k x0 (wrap64 ((wrap64 (x0 + (rd x12 x13))) + 1)) (x11 ++ [(⟨x2, wrap64 (x0 + (rd x12 x13))⟩ : S51)]) x12 (wrap64 (x13 + 1)) x226000 x226001 x226002 x226003 x226004 x226005 x226006) else (none)) else (none)) else (some (x11, x226003, x2))
end
def ndjqref20_Follow.f (k : Nat) (a0 : Int) (a1 : Int) (a2 : Int) (a3_0 : Int) (a3_1 : Int) (a3_2 : Int) (a3_3 : Int) (l3_4 : List Int) (l3_5 : List Int) (l3_6 : List Int) : Option ((List (S51)) × Int × Int) := if a1 = 0 then (ndjqref20_Follow.l0 k a0 a2 ([] : List (S51)) l3_4 0 a3_0 a3_1 a3_2 a3_3 l3_4 l3_5 l3_6) else (if a1 = 1 then (ndjqref20_Follow.l100 k a0 a2 ([] : List (S51)) l3_5 0 a3_0 a3_1 a3_2 a3_3 l3_4 l3_5 l3_6) else (if a1 = 2 then (ndjqref20_Follow.l200 k a0 a2 ([] : List (S51)) l3_6 0 a3_0 a3_1 a3_2 a3_3 l3_4 l3_5 l3_6) else (none)))
theorem ndjqref20_Follow.mono_l : ∀ k, (∀ y0 y1 y2 y3 y4 y5 y6 y7 y8 y9 y10 y11, LeO (ndjqref20_Follow.l0 k y0 y1 y2 y3 y4 y5 y6 y7 y8 y9 y10 y11) (ndjqref20_Follow.l0 (k + 1) y0 y1 y2 y3 y4 y5 y6 y7 y8 y9 y10 y11)) ∧ (∀ y0 y1 y2 y3 y4 y5 y6 y7 y8 y9 y10 y11, LeO (ndjqref20_Follow.l100 k y0 y1 y2 y3 y4 y5 y6 y7 y8 y9 y10 y11) (ndjqref20_Follow.l100 (k + 1) y0 y1 y2 y3 y4 y5 y6 y7 y8 y9 y10 y11)) ∧ (∀ y0 y1 y2 y3 y4 y5 y6 y7 y8 y9 y10 y11, LeO (ndjqref20_Follow.l200 k y0 y1 y2 y3 y4 y5 y6 y7 y8 y9 y10 y11) (ndjqref20_Follow.l200 (k + 1) y0 y1 y2 y3 y4 y5 y6 y7 y8 y9 y10 y11))
 | 0 => ⟨fun _ _ _ _ _ _ _ _ _ _ _ _ r h => by simp [ndjqref20_Follow.l0] at h, fun _ _ _ _ _ _ _ _ _ _ _ _ r h => by simp [ndjqref20_Follow.l100] at h, fun _ _ _ _ _ _ _ _ _ _ _ _ r h => by simp [ndjqref20_Follow.l200] at h⟩
 | k + 1 => by
  obtain ⟨ih0, ih1, ih2⟩ := ndjqref20_Follow.mono_l k
  refine ⟨?_, ?_, ?_⟩
  ·intro y0 y1 y2 y3 y4 y5 y6 y7 y8 y9 y10 y11
   unfold ndjqref20_Follow.l0
   repeat' first
   | (with_reducible exact ih0 _ _ _ _ _ _ _ _ _ _ _ _)
   | (with_reducible exact ih1 _ _ _ _ _ _ _ _ _ _ _ _)
   | (with_reducible exact ih2 _ _ _ _ _ _ _ _ _ _ _ _)
   | (with_reducible exact LeO.refl _)
   | (with_reducible exact LeO.none _)
   | (with_reducible refine LeO.ite ?_ ?_)
   | (with_reducible refine LeO.bind ?_ (fun _ => ?_))
   | exact ih0 _ _ _ _ _ _ _ _ _ _ _ _
   | exact ih1 _ _ _ _ _ _ _ _ _ _ _ _
   | exact ih2 _ _ _ _ _ _ _ _ _ _ _ _
   | exact LeO.none _
   | refine LeO.ite ?_ ?_
   | refine LeO.bind ?_ (fun _ => ?_)
  ·intro y0 y1 y2 y3 y4 y5 y6 y7 y8 y9 y10 y11
   unfold ndjqref20_Follow.l100
   repeat' first
   | (with_reducible exact ih0 _ _ _ _ _ _ _ _ _ _ _ _)
   | (with_reducible exact ih1 _ _ _ _ _ _ _ _ _ _ _ _)
   | (with_reducible exact ih2 _ _ _ _ _ _ _ _ _ _ _ _)
   | (with_reducible exact LeO.refl _)
   | (with_reducible exact LeO.none _)
   | (with_reducible refine LeO.ite ?_ ?_)
   | (with_reducible refine LeO.bind ?_ (fun _ => ?_))
   | exact ih0 _ _ _ _ _ _ _ _ _ _ _ _
   | exact ih1 _ _ _ _ _ _ _ _ _ _ _ _
   | exact ih2 _ _ _ _ _ _ _ _ _ _ _ _
   | exact LeO.none _
   | refine LeO.ite ?_ ?_
   | refine LeO.bind ?_ (fun _ => ?_)
  ·intro y0 y1 y2 y3 y4 y5 y6 y7 y8 y9 y10 y11
   unfold ndjqref20_Follow.l200
   repeat' first
   | (with_reducible exact ih0 _ _ _ _ _ _ _ _ _ _ _ _)
   | (with_reducible exact ih1 _ _ _ _ _ _ _ _ _ _ _ _)
   | (with_reducible exact ih2 _ _ _ _ _ _ _ _ _ _ _ _)
   | (with_reducible exact LeO.refl _)
   | (with_reducible exact LeO.none _)
   | (with_reducible refine LeO.ite ?_ ?_)
   | (with_reducible refine LeO.bind ?_ (fun _ => ?_))
   | exact ih0 _ _ _ _ _ _ _ _ _ _ _ _
   | exact ih1 _ _ _ _ _ _ _ _ _ _ _ _
   | exact ih2 _ _ _ _ _ _ _ _ _ _ _ _
   | exact LeO.none _
   | refine LeO.ite ?_ ?_
   | refine LeO.bind ?_ (fun _ => ?_)
theorem ndjqref20_Follow.mono : ∀ a0 a1 a2 a3 a4 a5 a6 a7 a8 a9 k, LeO (ndjqref20_Follow.f k a0 a1 a2 a3 a4 a5 a6 a7 a8 a9) (ndjqref20_Follow.f (k + 1) a0 a1 a2 a3 a4 a5 a6 a7 a8 a9) := by
 intro a0 a1 a2 a3 a4 a5 a6 a7 a8 a9 k
 obtain ⟨ih0, ih1, ih2⟩ := ndjqref20_Follow.mono_l k
 unfold ndjqref20_Follow.f
 repeat' first
   | (with_reducible exact ih0 _ _ _ _ _ _ _ _ _ _ _ _)
   | (with_reducible exact ih1 _ _ _ _ _ _ _ _ _ _ _ _)
   | (with_reducible exact ih2 _ _ _ _ _ _ _ _ _ _ _ _)
   | (with_reducible exact LeO.refl _)
   | (with_reducible exact LeO.none _)
   | (with_reducible refine LeO.ite ?_ ?_)
   | (with_reducible refine LeO.bind ?_ (fun _ => ?_))
   | exact ih0 _ _ _ _ _ _ _ _ _ _ _ _
   | exact ih1 _ _ _ _ _ _ _ _ _ _ _ _
   | exact ih2 _ _ _ _ _ _ _ _ _ _ _ _
   | exact LeO.none _
   | refine LeO.ite ?_ ?_
   | refine LeO.bind ?_ (fun _ => ?_)
set_option maxHeartbeats 8000000 in
set_option maxRecDepth 100000 in
theorem ndjqref20_Follow.calls (k : Nat) (a0 : Int) (a1 : Int) (a2 : Int) (a3_0 : Int) (a3_1 : Int) (a3_2 : Int) (a3_3 : Int) (A3_4 : Option Addr) (c3_4 : Nat) (l3_4 : List Int) (A3_5 : Option Addr) (c3_5 : Nat) (l3_5 : List Int) (A3_6 : Option Addr) (c3_6 : Nat) (l3_6 : List Int) (r1 : List (S51)) (r2 : Int) (r3 : Int) (w : World) (hr3_4 : Kd.C (Kd.int .i64) w A3_4 l3_4.length l3_4) (hc3_4 : l3_4.length ≤ c3_4) (hr3_5 : Kd.C (Kd.int .i64) w A3_5 l3_5.length l3_5) (hc3_5 : l3_5.length ≤ c3_5) (hr3_6 : Kd.C (Kd.int .i64) w A3_6 l3_6.length l3_6) (hc3_6 : l3_6.length ≤ c3_6) (h : ndjqref20_Follow.f k a0 a1 a2 a3_0 a3_1 a3_2 a3_3 l3_4 l3_5 l3_6 = some (r1, r2, r3)) :
  Calls Tryd.prog 30 #[.int .i64 a0, .int .i64 a1, .int .i64 a2, .agg #[.int .i64 a3_0, .int .i64 a3_1, .int .i64 a3_2, .int .i64 a3_3, .slice A3_4 l3_4.length c3_4, .slice A3_5 l3_5.length c3_5, .slice A3_6 l3_6.length c3_6]] w fun e w' => ∃ v0_ : Value, e = .returned (.tuple #[v0_, .int .i64 r2, .int .i64 r3]) ∧ Kd.R k51 51 w' w.heap.size (fun _ => True) v0_ r1 ∧ Below w.heap.size w w' := by
 have hu26 := Tryd.underlying26
 have hu51 := Tryd.underlying51
 have HR3_4 := Aside0.mk hr3_4
 have HC3_4 := Aside0.mk hc3_4
 clear hr3_4 hc3_4
 have HR3_5 := Aside0.mk hr3_5
 have HC3_5 := Aside0.mk hc3_5
 clear hr3_5 hc3_5
 have HR3_6 := Aside0.mk hr3_6
 have HC3_6 := Aside0.mk hc3_6
 clear hr3_6 hc3_6
 have HB := Aside0.mk (Below.refl w.heap.size w)
 have H : (if a1 = 0 then (ndjqref20_Follow.l0 k a0 a2 ([] : List (S51)) l3_4 0 a3_0 a3_1 a3_2 a3_3 l3_4 l3_5 l3_6) else (if a1 = 1 then (ndjqref20_Follow.l100 k a0 a2 ([] : List (S51)) l3_5 0 a3_0 a3_1 a3_2 a3_3 l3_4 l3_5 l3_6) else (if a1 = 2 then (ndjqref20_Follow.l200 k a0 a2 ([] : List (S51)) l3_6 0 a3_0 a3_1 a3_2 a3_3 l3_4 l3_5 l3_6) else (none)))) = some (r1, r2, r3) := h
 clear h
 by_cases c5 : a1 = 0
 ·subst c5
  have H1 : (ndjqref20_Follow.l0 k a0 a2 ([] : List (S51)) l3_4 0 a3_0 a3_1 a3_2 a3_3 l3_4 l3_5 l3_6) = some (r1, r2, r3) := by rw [if_pos rfl] at H; exact H
  clear H; have H := H1; clear H1
  have H' := Aside0.mk H
  clear H
  go_enter Tryd.func30, Tryd.ntmps30
  go_wp2_with (first | ((with_reducible refine gate_dst (N := 7) rfl ?_); refine box_event ?hg (N := 7) ?hd (cs := #[.int .i64 a3_0, .int .i64 a3_1, .int .i64 a3_2, .int .i64 a3_3, .slice A3_4 l3_4.length c3_4, .slice A3_5 l3_5.length c3_5, .slice A3_6 l3_6.length c3_6]) (t := 26) ?hr ?_; (case hd => rfl); (case hg => rfl); (case hr => first | (go_simp; done) | (go_simp; rfl)); intro gb225 hg w6 hbox hb; have n0_ := Aside0.mk (below_step (by repeat (first | (with_reducible first | exact HB.out | apply wA | apply wN | apply wD) | exact HB.out)) hb); have n1_ := Aside0.mk (hbox); have n2_ := Aside0.mk ((by rw [hg]; exact (below_size (by repeat (first | (with_reducible first | exact HB.out | apply wA | apply wN | apply wD) | exact HB.out))) : w.heap.size ≤ gb225)); have n3_ := n2_; clear HB; have HB := n0_; have BK225 := n1_; have GW225 := n2_; have GE225 := n3_; clear n0_ n1_ n2_ n3_; clear hb hbox hg; have hcz7_0 : w6.cell? ⟨gb225, 0, none⟩ = some (.int .i64 a3_0) := (blk_cell BK225.out 0).trans rfl; have hcz7_1 : w6.cell? ⟨gb225, 1, none⟩ = some (.int .i64 a3_1) := (blk_cell BK225.out 1).trans rfl; have hcz7_2 : w6.cell? ⟨gb225, 2, none⟩ = some (.int .i64 a3_2) := (blk_cell BK225.out 2).trans rfl; have hcz7_3 : w6.cell? ⟨gb225, 3, none⟩ = some (.int .i64 a3_3) := (blk_cell BK225.out 3).trans rfl; have hcz7_4 : w6.cell? ⟨gb225, 4, none⟩ = some (.slice A3_4 l3_4.length c3_4) := (blk_cell BK225.out 4).trans rfl; have hcz7_5 : w6.cell? ⟨gb225, 5, none⟩ = some (.slice A3_5 l3_5.length c3_5) := (blk_cell BK225.out 5).trans rfl; have hcz7_6 : w6.cell? ⟨gb225, 6, none⟩ = some (.slice A3_6 l3_6.length c3_6) := (blk_cell BK225.out 6).trans rfl; have hfz7_0 := blk_frozen BK225.out 0; have hfz7_1 := blk_frozen BK225.out 1; have hfz7_2 := blk_frozen BK225.out 2; have hfz7_3 := blk_frozen BK225.out 3; have hfz7_4 := blk_frozen BK225.out 4; have hfz7_5 := blk_frozen BK225.out 5; have hfz7_6 := blk_frozen BK225.out 6))
  repeat (go_quiet (first | ((with_reducible refine gate_dst (N := 7) rfl ?_); refine box_event ?hg (N := 7) ?hd (cs := #[.int .i64 a3_0, .int .i64 a3_1, .int .i64 a3_2, .int .i64 a3_3, .slice A3_4 l3_4.length c3_4, .slice A3_5 l3_5.length c3_5, .slice A3_6 l3_6.length c3_6]) (t := 26) ?hr ?_; (case hd => rfl); (case hg => rfl); (case hr => first | (go_simp; done) | (go_simp; rfl)); intro gb225 hg w6 hbox hb; have n0_ := Aside0.mk (below_step (by repeat (first | (with_reducible first | exact HB.out | apply wA | apply wN | apply wD) | exact HB.out)) hb); have n1_ := Aside0.mk (hbox); have n2_ := Aside0.mk ((by rw [hg]; exact (below_size (by repeat (first | (with_reducible first | exact HB.out | apply wA | apply wN | apply wD) | exact HB.out))) : w.heap.size ≤ gb225)); have n3_ := n2_; clear HB; have HB := n0_; have BK225 := n1_; have GW225 := n2_; have GE225 := n3_; clear n0_ n1_ n2_ n3_; clear hb hbox hg; have hcz7_0 : w6.cell? ⟨gb225, 0, none⟩ = some (.int .i64 a3_0) := (blk_cell BK225.out 0).trans rfl; have hcz7_1 : w6.cell? ⟨gb225, 1, none⟩ = some (.int .i64 a3_1) := (blk_cell BK225.out 1).trans rfl; have hcz7_2 : w6.cell? ⟨gb225, 2, none⟩ = some (.int .i64 a3_2) := (blk_cell BK225.out 2).trans rfl; have hcz7_3 : w6.cell? ⟨gb225, 3, none⟩ = some (.int .i64 a3_3) := (blk_cell BK225.out 3).trans rfl; have hcz7_4 : w6.cell? ⟨gb225, 4, none⟩ = some (.slice A3_4 l3_4.length c3_4) := (blk_cell BK225.out 4).trans rfl; have hcz7_5 : w6.cell? ⟨gb225, 5, none⟩ = some (.slice A3_5 l3_5.length c3_5) := (blk_cell BK225.out 5).trans rfl; have hcz7_6 : w6.cell? ⟨gb225, 6, none⟩ = some (.slice A3_6 l3_6.length c3_6) := (blk_cell BK225.out 6).trans rfl; have hfz7_0 := blk_frozen BK225.out 0; have hfz7_1 := blk_frozen BK225.out 1; have hfz7_2 := blk_frozen BK225.out 2; have hfz7_3 := blk_frozen BK225.out 3; have hfz7_4 := blk_frozen BK225.out 4; have hfz7_5 := blk_frozen BK225.out 5; have hfz7_6 := blk_frozen BK225.out 6)); try go_wp2_with (first | ((with_reducible refine gate_dst (N := 7) rfl ?_); refine box_event ?hg (N := 7) ?hd (cs := #[.int .i64 a3_0, .int .i64 a3_1, .int .i64 a3_2, .int .i64 a3_3, .slice A3_4 l3_4.length c3_4, .slice A3_5 l3_5.length c3_5, .slice A3_6 l3_6.length c3_6]) (t := 26) ?hr ?_; (case hd => rfl); (case hg => rfl); (case hr => first | (go_simp; done) | (go_simp; rfl)); intro gb225 hg w6 hbox hb; have n0_ := Aside0.mk (below_step (by repeat (first | (with_reducible first | exact HB.out | apply wA | apply wN | apply wD) | exact HB.out)) hb); have n1_ := Aside0.mk (hbox); have n2_ := Aside0.mk ((by rw [hg]; exact (below_size (by repeat (first | (with_reducible first | exact HB.out | apply wA | apply wN | apply wD) | exact HB.out))) : w.heap.size ≤ gb225)); have n3_ := n2_; clear HB; have HB := n0_; have BK225 := n1_; have GW225 := n2_; have GE225 := n3_; clear n0_ n1_ n2_ n3_; clear hb hbox hg; have hcz7_0 : w6.cell? ⟨gb225, 0, none⟩ = some (.int .i64 a3_0) := (blk_cell BK225.out 0).trans rfl; have hcz7_1 : w6.cell? ⟨gb225, 1, none⟩ = some (.int .i64 a3_1) := (blk_cell BK225.out 1).trans rfl; have hcz7_2 : w6.cell? ⟨gb225, 2, none⟩ = some (.int .i64 a3_2) := (blk_cell BK225.out 2).trans rfl; have hcz7_3 : w6.cell? ⟨gb225, 3, none⟩ = some (.int .i64 a3_3) := (blk_cell BK225.out 3).trans rfl; have hcz7_4 : w6.cell? ⟨gb225, 4, none⟩ = some (.slice A3_4 l3_4.length c3_4) := (blk_cell BK225.out 4).trans rfl; have hcz7_5 : w6.cell? ⟨gb225, 5, none⟩ = some (.slice A3_5 l3_5.length c3_5) := (blk_cell BK225.out 5).trans rfl; have hcz7_6 : w6.cell? ⟨gb225, 6, none⟩ = some (.slice A3_6 l3_6.length c3_6) := (blk_cell BK225.out 6).trans rfl; have hfz7_0 := blk_frozen BK225.out 0; have hfz7_1 := blk_frozen BK225.out 1; have hfz7_2 := blk_frozen BK225.out 2; have hfz7_3 := blk_frozen BK225.out 3; have hfz7_4 := blk_frozen BK225.out 4; have hfz7_5 := blk_frozen BK225.out 5; have hfz7_6 := blk_frozen BK225.out 6)))
  go_loopg [2, 11, 13] k (fun kq v2 v11 v13 w' => ∃ (x2_1 : Int) (x11_1 : List (S51)) (x13_1 : Int), v2 = .int .i64 x2_1 ∧ v13 = .int .i64 x13_1 ∧ Aside0 (ndjqref20_Follow.l0 kq a0 x2_1 x11_1 l3_4 x13_1 a3_0 a3_1 a3_2 a3_3 l3_4 l3_5 l3_6 = some (r1, r2, r3)) ∧ Aside0 (kq ≤ k) ∧ Aside0 (Kd.R k51 51 w' w.heap.size (fun _ => True) v11 x11_1) ∧ Aside0 (w'.heap[gb225]? = some (.cells #[.int .i64 a3_0, .int .i64 a3_1, .int .i64 a3_2, .int .i64 a3_3, (.slice A3_4 l3_4.length c3_4), (.slice A3_5 l3_5.length c3_5), (.slice A3_6 l3_6.length c3_6)] 26 (0, 0))) ∧ Aside0 (Below w.heap.size w w'))
  case atStart => exact ⟨(a2), (([] : List (S51))), (0), (by first | rfl | (simp; done) | (simp [*]; done)), (by first | rfl | (simp; done) | (simp [*]; done)), H', ⟨Nat.le_refl _⟩, ⟨by first | exact Kd.R_nil _ _ _ _ _ | exact Kd.N_nil _ _ _ _ _ | exact Kd.V_nil _ _ _ _ _ | exact Kd.Q_nil _ _ _ _ _ | exact Kd.S_nil _ _ _ _ _⟩, ⟨by (with_reducible repeat (first | refine bN ?_ _ | refine bD ?_ | refine bA ?_ _)); exact BK225.out⟩, ⟨by repeat (first | (with_reducible first | exact HB.out | apply wA | apply wN | apply wD | refine wS ?_ GE225.out) | exact HB.out)⟩⟩
  case round =>
   clear H'
   (try clear p2); (try clear c3); (try clear c5); (try clear hcz7_0); (try clear hcz7_1); (try clear hcz7_2); (try clear hcz7_3); (try clear hcz7_4); (try clear hcz7_5); (try clear hcz7_6); (try clear hfz7_0); (try clear hfz7_1); (try clear hfz7_2); (try clear hfz7_3); (try clear hfz7_4); (try clear hfz7_5); (try clear hfz7_6)
   obtain ⟨x2_1, x11_1, x13_1, rfl, rfl, HA, HK1, HO_11, BK225, HB⟩ := hrel
   cases gk with
   | zero => exact absurd HA.out (by simp [ndjqref20_Follow.l0])
   | succ k1 =>
    have H := HA.out
    clear HA
    simp only [ndjqref20_Follow.l0] at H
    by_cases c8 : x13_1 < (l3_4.length : Int)
    ·rw [if_pos c8] at H
     have c8b0 : decide (x13_1 < (l3_4.length : Int)) = true := decide_eq_true c8
     clear c8
     by_cases c9 : 0 ≤ x13_1
     ·rw [if_pos c9] at H
      have c9b0 : decide (0 ≤ x13_1) = true := decide_eq_true c9
      clear c9
      by_cases c10 : x11_1.length < 8796093022208
      ·rw [if_pos c10] at H
       have LMc10 := Aside0.mk c10
       clear c10
       obtain ⟨y227, hy227⟩ : ∃ y_ : List (S51), y_ = (x11_1 ++ [(⟨x2_1, wrap64 (a0 + (rd l3_4 x13_1))⟩ : S51)]) := ⟨_, rfl⟩
       replace H : (ndjqref20_Follow.l0 k1 a0 (wrap64 ((wrap64 (a0 + (rd l3_4 x13_1))) + 1)) y227 l3_4 (wrap64 (x13_1 + 1)) a3_0 a3_1 a3_2 a3_3 l3_4 l3_5 l3_6) = some (r1, r2, r3) := by first | (rw [hy227]; with_reducible exact H) | (have H2_ := (Option.bind_some _ _).symm.trans H; rw [hy227]; with_reducible exact H2_) | (have H2_ := (Option.bind_some _ _).symm.trans H; with_reducible exact H2_) | with_reducible exact H | (rw [hy227]; exact H) | exact H
       have Ny227 := Aside0.mk hy227
       clear hy227
       have H' := Aside0.mk H
       clear H
       have p226 : 0 ≤ (x13_1 : Int) := of_decide_eq_true (by first | (with_reducible assumption) | assumption)
       have q226 : x13_1 < (l3_4.length : Int) := of_decide_eq_true (by first | (with_reducible assumption) | assumption)
       obtain ⟨ad226, e226, hx226_0⟩ := Kd.at_int HR3_4.out x13_1 p226 q226
       cases e226
       replace hx226_0 := (HB.out.cell (World.block_lt_of_cell? w _ hx226_0)).trans hx226_0
       replace p226 := eq_true p226; replace q226 := eq_true q226
       go_wp2_with (first | ((with_reducible refine gate_builtin (b := .append) (xs := #[.tmp 24, .tmp 33]) rfl ?_); at_builtin; refine Kd.R_append k51 (w0 := w) w.heap.size rfl (.tmp 24) (.tmp 33) 28 51 (.agg #[(.int .i64 0), (.int .i64 0)]) 16 rfl Tryd.underlying28 info51 rfl (by decide) (by omega) u11 x11_1 (⟨x2_1, wrap64 (a0 + (rd l3_4 x13_1))⟩ : S51) [.int .i64 x2_1, .int .i64 (wrap64 (a0 + (rd l3_4 x13_1)))] (fun _ => True) (fun _ => False) rfl rfl ?aP (fun _ hk => hk.elim) ?aF ?aO ?aB ?aS ?aL ?_; (case aP => exact k51_mkM _ _ _ (⟨x2_1, wrap64 (a0 + (rd l3_4 x13_1))⟩ : S51)); (case aB => exact (by repeat (first | (with_reducible first | exact HB.out | apply wA | apply wN | apply wD | refine wS ?_ GE225.out) | exact HB.out))); (case aF => exact (fun _ _ => trivial)); (case aO => exact (by (with_reducible repeat (first | apply rA | apply rN | apply rD)); exact HO_11.out)); (case aS => exact (below_size (by repeat (first | (with_reducible first | exact HB.out | apply wA | apply wN | apply wD | refine wS ?_ GE225.out) | exact HB.out)))); (case aL => have := LMc10.out; first | omega | exact Nat.le_of_lt this); intro v228 w11 ho hb hg hat; rw [← Ny227.out] at ho; have n0_ := Aside0.mk (blk_grown (g := gb225) (o := .cells #[.int .i64 a3_0, .int .i64 a3_1, .int .i64 a3_2, .int .i64 a3_3, .slice (some ad226) l3_4.length c3_4, .slice A3_5 l3_5.length c3_5, .slice A3_6 l3_6.length c3_6] 26 (0, 0)) (by (with_reducible repeat (first | refine bN ?_ _ | refine bD ?_ | refine bA ?_ _)); exact BK225.out) hg (Kd.R_ne HO_11.out BK225.out (by decide))); have n1_ := Aside0.mk (hb); have n2_ := Aside0.mk (ho); clear BK225; clear HB; clear HO_11; have BK225 := n0_; have HB := n1_; have HO229 := n2_; clear n0_ n1_ n2_; clear ho hb hg hat; have p230 : 0 ≤ (x13_1 : Int) := of_decide_eq_true (by first | (with_reducible assumption) | assumption); have q230 : x13_1 < (l3_4.length : Int) := of_decide_eq_true (by first | (with_reducible assumption) | assumption); obtain ⟨ad230, e230, hx230_0⟩ := Kd.at_int HR3_4.out x13_1 p230 q230; obtain rfl : ad226 = ad230 := (by injection e230); replace hx230_0 := (HB.out.cell (World.block_lt_of_cell? w _ hx230_0)).trans hx230_0; replace p230 := eq_true p230; replace q230 := eq_true q230))
       repeat (go_quiet (first | ((with_reducible refine gate_builtin (b := .append) (xs := #[.tmp 24, .tmp 33]) rfl ?_); at_builtin; refine Kd.R_append k51 (w0 := w) w.heap.size rfl (.tmp 24) (.tmp 33) 28 51 (.agg #[(.int .i64 0), (.int .i64 0)]) 16 rfl Tryd.underlying28 info51 rfl (by decide) (by omega) u11 x11_1 (⟨x2_1, wrap64 (a0 + (rd l3_4 x13_1))⟩ : S51) [.int .i64 x2_1, .int .i64 (wrap64 (a0 + (rd l3_4 x13_1)))] (fun _ => True) (fun _ => False) rfl rfl ?aP (fun _ hk => hk.elim) ?aF ?aO ?aB ?aS ?aL ?_; (case aP => exact k51_mkM _ _ _ (⟨x2_1, wrap64 (a0 + (rd l3_4 x13_1))⟩ : S51)); (case aB => exact (by repeat (first | (with_reducible first | exact HB.out | apply wA | apply wN | apply wD | refine wS ?_ GE225.out) | exact HB.out))); (case aF => exact (fun _ _ => trivial)); (case aO => exact (by (with_reducible repeat (first | apply rA | apply rN | apply rD)); exact HO_11.out)); (case aS => exact (below_size (by repeat (first | (with_reducible first | exact HB.out | apply wA | apply wN | apply wD | refine wS ?_ GE225.out) | exact HB.out)))); (case aL => have := LMc10.out; first | omega | exact Nat.le_of_lt this); intro v228 w11 ho hb hg hat; rw [← Ny227.out] at ho; have n0_ := Aside0.mk (blk_grown (g := gb225) (o := .cells #[.int .i64 a3_0, .int .i64 a3_1, .int .i64 a3_2, .int .i64 a3_3, .slice (some ad226) l3_4.length c3_4, .slice A3_5 l3_5.length c3_5, .slice A3_6 l3_6.length c3_6] 26 (0, 0)) (by (with_reducible repeat (first | refine bN ?_ _ | refine bD ?_ | refine bA ?_ _)); exact BK225.out) hg (Kd.R_ne HO_11.out BK225.out (by decide))); have n1_ := Aside0.mk (hb); have n2_ := Aside0.mk (ho); clear BK225; clear HB; clear HO_11; have BK225 := n0_; have HB := n1_; have HO229 := n2_; clear n0_ n1_ n2_; clear ho hb hg hat; have p230 : 0 ≤ (x13_1 : Int) := of_decide_eq_true (by first | (with_reducible assumption) | assumption); have q230 : x13_1 < (l3_4.length : Int) := of_decide_eq_true (by first | (with_reducible assumption) | assumption); obtain ⟨ad230, e230, hx230_0⟩ := Kd.at_int HR3_4.out x13_1 p230 q230; obtain rfl : ad226 = ad230 := (by injection e230); replace hx230_0 := (HB.out.cell (World.block_lt_of_cell? w _ hx230_0)).trans hx230_0; replace p230 := eq_true p230; replace q230 := eq_true q230)); try go_wp2_with (first | ((with_reducible refine gate_builtin (b := .append) (xs := #[.tmp 24, .tmp 33]) rfl ?_); at_builtin; refine Kd.R_append k51 (w0 := w) w.heap.size rfl (.tmp 24) (.tmp 33) 28 51 (.agg #[(.int .i64 0), (.int .i64 0)]) 16 rfl Tryd.underlying28 info51 rfl (by decide) (by omega) u11 x11_1 (⟨x2_1, wrap64 (a0 + (rd l3_4 x13_1))⟩ : S51) [.int .i64 x2_1, .int .i64 (wrap64 (a0 + (rd l3_4 x13_1)))] (fun _ => True) (fun _ => False) rfl rfl ?aP (fun _ hk => hk.elim) ?aF ?aO ?aB ?aS ?aL ?_; (case aP => exact k51_mkM _ _ _ (⟨x2_1, wrap64 (a0 + (rd l3_4 x13_1))⟩ : S51)); (case aB => exact (by repeat (first | (with_reducible first | exact HB.out | apply wA | apply wN | apply wD | refine wS ?_ GE225.out) | exact HB.out))); (case aF => exact (fun _ _ => trivial)); (case aO => exact (by (with_reducible repeat (first | apply rA | apply rN | apply rD)); exact HO_11.out)); (case aS => exact (below_size (by repeat (first | (with_reducible first | exact HB.out | apply wA | apply wN | apply wD | refine wS ?_ GE225.out) | exact HB.out)))); (case aL => have := LMc10.out; first | omega | exact Nat.le_of_lt this); intro v228 w11 ho hb hg hat; rw [← Ny227.out] at ho; have n0_ := Aside0.mk (blk_grown (g := gb225) (o := .cells #[.int .i64 a3_0, .int .i64 a3_1, .int .i64 a3_2, .int .i64 a3_3, .slice (some ad226) l3_4.length c3_4, .slice A3_5 l3_5.length c3_5, .slice A3_6 l3_6.length c3_6] 26 (0, 0)) (by (with_reducible repeat (first | refine bN ?_ _ | refine bD ?_ | refine bA ?_ _)); exact BK225.out) hg (Kd.R_ne HO_11.out BK225.out (by decide))); have n1_ := Aside0.mk (hb); have n2_ := Aside0.mk (ho); clear BK225; clear HB; clear HO_11; have BK225 := n0_; have HB := n1_; have HO229 := n2_; clear n0_ n1_ n2_; clear ho hb hg hat; have p230 : 0 ≤ (x13_1 : Int) := of_decide_eq_true (by first | (with_reducible assumption) | assumption); have q230 : x13_1 < (l3_4.length : Int) := of_decide_eq_true (by first | (with_reducible assumption) | assumption); obtain ⟨ad230, e230, hx230_0⟩ := Kd.at_int HR3_4.out x13_1 p230 q230; obtain rfl : ad226 = ad230 := (by injection e230); replace hx230_0 := (HB.out.cell (World.block_lt_of_cell? w _ hx230_0)).trans hx230_0; replace p230 := eq_true p230; replace q230 := eq_true q230)))
       go_roundg k1
       case measure => have := HK1.out; omega
       case rel => exact ⟨(wrap64 ((wrap64 (a0 + (rd l3_4 x13_1))) + 1)), (y227), (wrap64 (x13_1 + 1)), (by first | rfl | (simp; done) | (simp [*]; done)), (by first | rfl | (simp; done) | (simp [*]; done)), H', ⟨by have := HK1.out; omega⟩, ⟨by (with_reducible repeat (first | apply rA | apply rN | apply rD)); exact HO229.out⟩, ⟨by (with_reducible repeat (first | refine bN ?_ _ | refine bD ?_ | refine bA ?_ _)); exact BK225.out⟩, ⟨by repeat (first | (with_reducible first | exact HB.out | apply wA | apply wN | apply wD | refine wS ?_ GE225.out) | exact HB.out)⟩⟩
      ·rw [if_neg c10] at H
       exact absurd H (by simp)
     ·rw [if_neg c9] at H
      exact absurd H (by simp)
    ·rw [if_neg c8] at H
     have c8b0 : decide (x13_1 < (l3_4.length : Int)) = false := decide_eq_false c8
     clear c8
     simp only [Option.some.injEq, Prod.mk.injEq] at H
     obtain ⟨rfl, rfl, rfl⟩ := H
     have hcz12_0 : wr.cell? ⟨gb225, 0, none⟩ = some (.int .i64 a3_0) := (blk_cell BK225.out 0).trans rfl; have hcz12_1 : wr.cell? ⟨gb225, 1, none⟩ = some (.int .i64 a3_1) := (blk_cell BK225.out 1).trans rfl; have hcz12_2 : wr.cell? ⟨gb225, 2, none⟩ = some (.int .i64 a3_2) := (blk_cell BK225.out 2).trans rfl; have hcz12_3 : wr.cell? ⟨gb225, 3, none⟩ = some (.int .i64 a3_3) := (blk_cell BK225.out 3).trans rfl; have hcz12_4 : wr.cell? ⟨gb225, 4, none⟩ = some (.slice A3_4 l3_4.length c3_4) := (blk_cell BK225.out 4).trans rfl; have hcz12_5 : wr.cell? ⟨gb225, 5, none⟩ = some (.slice A3_5 l3_5.length c3_5) := (blk_cell BK225.out 5).trans rfl; have hcz12_6 : wr.cell? ⟨gb225, 6, none⟩ = some (.slice A3_6 l3_6.length c3_6) := (blk_cell BK225.out 6).trans rfl; have hfz12_0 := blk_frozen BK225.out 0; have hfz12_1 := blk_frozen BK225.out 1; have hfz12_2 := blk_frozen BK225.out 2; have hfz12_3 := blk_frozen BK225.out 3; have hfz12_4 := blk_frozen BK225.out 4; have hfz12_5 := blk_frozen BK225.out 5; have hfz12_6 := blk_frozen BK225.out 6
     go_wp2
     repeat (go_quiet (fail); try go_wp2)
     go_ret3
     exact ⟨_, by first | rfl | (simp [errW_none, errW_some] <;> rfl) | (simp [*, errW_none, errW_some] <;> rfl), by (with_reducible repeat (first | apply rA | apply rN | apply rD)); exact HO_11.out, by repeat (first | (with_reducible first | exact HB.out | apply wA | apply wN | apply wD | refine wS ?_ GE225.out) | exact HB.out)⟩
 ·rw [if_neg c5] at H
  by_cases c13 : a1 = 1
  ·subst c13
   have H1 : (ndjqref20_Follow.l100 k a0 a2 ([] : List (S51)) l3_5 0 a3_0 a3_1 a3_2 a3_3 l3_4 l3_5 l3_6) = some (r1, r2, r3) := by rw [if_pos rfl] at H; exact H
   clear H; have H := H1; clear H1
   have H' := Aside0.mk H
   clear H
   go_enter Tryd.func30, Tryd.ntmps30
   go_wp2_with (first | ((with_reducible refine gate_dst (N := 7) rfl ?_); refine box_event ?hg (N := 7) ?hd (cs := #[.int .i64 a3_0, .int .i64 a3_1, .int .i64 a3_2, .int .i64 a3_3, .slice A3_4 l3_4.length c3_4, .slice A3_5 l3_5.length c3_5, .slice A3_6 l3_6.length c3_6]) (t := 26) ?hr ?_; (case hd => rfl); (case hg => rfl); (case hr => first | (go_simp; done) | (go_simp; rfl)); intro gb225 hg w14 hbox hb; have n0_ := Aside0.mk (below_step (by repeat (first | (with_reducible first | exact HB.out | apply wA | apply wN | apply wD) | exact HB.out)) hb); have n1_ := Aside0.mk (hbox); have n2_ := Aside0.mk ((by rw [hg]; exact (below_size (by repeat (first | (with_reducible first | exact HB.out | apply wA | apply wN | apply wD) | exact HB.out))) : w.heap.size ≤ gb225)); have n3_ := n2_; clear HB; have HB := n0_; have BK225 := n1_; have GW225 := n2_; have GE225 := n3_; clear n0_ n1_ n2_ n3_; clear hb hbox hg; have hcz15_0 : w14.cell? ⟨gb225, 0, none⟩ = some (.int .i64 a3_0) := (blk_cell BK225.out 0).trans rfl; have hcz15_1 : w14.cell? ⟨gb225, 1, none⟩ = some (.int .i64 a3_1) := (blk_cell BK225.out 1).trans rfl; have hcz15_2 : w14.cell? ⟨gb225, 2, none⟩ = some (.int .i64 a3_2) := (blk_cell BK225.out 2).trans rfl; have hcz15_3 : w14.cell? ⟨gb225, 3, none⟩ = some (.int .i64 a3_3) := (blk_cell BK225.out 3).trans rfl; have hcz15_4 : w14.cell? ⟨gb225, 4, none⟩ = some (.slice A3_4 l3_4.length c3_4) := (blk_cell BK225.out 4).trans rfl; have hcz15_5 : w14.cell? ⟨gb225, 5, none⟩ = some (.slice A3_5 l3_5.length c3_5) := (blk_cell BK225.out 5).trans rfl; have hcz15_6 : w14.cell? ⟨gb225, 6, none⟩ = some (.slice A3_6 l3_6.length c3_6) := (blk_cell BK225.out 6).trans rfl; have hfz15_0 := blk_frozen BK225.out 0; have hfz15_1 := blk_frozen BK225.out 1; have hfz15_2 := blk_frozen BK225.out 2; have hfz15_3 := blk_frozen BK225.out 3; have hfz15_4 := blk_frozen BK225.out 4; have hfz15_5 := blk_frozen BK225.out 5; have hfz15_6 := blk_frozen BK225.out 6))
   repeat (go_quiet (first | ((with_reducible refine gate_dst (N := 7) rfl ?_); refine box_event ?hg (N := 7) ?hd (cs := #[.int .i64 a3_0, .int .i64 a3_1, .int .i64 a3_2, .int .i64 a3_3, .slice A3_4 l3_4.length c3_4, .slice A3_5 l3_5.length c3_5, .slice A3_6 l3_6.length c3_6]) (t := 26) ?hr ?_; (case hd => rfl); (case hg => rfl); (case hr => first | (go_simp; done) | (go_simp; rfl)); intro gb225 hg w14 hbox hb; have n0_ := Aside0.mk (below_step (by repeat (first | (with_reducible first | exact HB.out | apply wA | apply wN | apply wD) | exact HB.out)) hb); have n1_ := Aside0.mk (hbox); have n2_ := Aside0.mk ((by rw [hg]; exact (below_size (by repeat (first | (with_reducible first | exact HB.out | apply wA | apply wN | apply wD) | exact HB.out))) : w.heap.size ≤ gb225)); have n3_ := n2_; clear HB; have HB := n0_; have BK225 := n1_; have GW225 := n2_; have GE225 := n3_; clear n0_ n1_ n2_ n3_; clear hb hbox hg; have hcz15_0 : w14.cell? ⟨gb225, 0, none⟩ = some (.int .i64 a3_0) := (blk_cell BK225.out 0).trans rfl; have hcz15_1 : w14.cell? ⟨gb225, 1, none⟩ = some (.int .i64 a3_1) := (blk_cell BK225.out 1).trans rfl; have hcz15_2 : w14.cell? ⟨gb225, 2, none⟩ = some (.int .i64 a3_2) := (blk_cell BK225.out 2).trans rfl; have hcz15_3 : w14.cell? ⟨gb225, 3, none⟩ = some (.int .i64 a3_3) := (blk_cell BK225.out 3).trans rfl; have hcz15_4 : w14.cell? ⟨gb225, 4, none⟩ = some (.slice A3_4 l3_4.length c3_4) := (blk_cell BK225.out 4).trans rfl; have hcz15_5 : w14.cell? ⟨gb225, 5, none⟩ = some (.slice A3_5 l3_5.length c3_5) := (blk_cell BK225.out 5).trans rfl; have hcz15_6 : w14.cell? ⟨gb225, 6, none⟩ = some (.slice A3_6 l3_6.length c3_6) := (blk_cell BK225.out 6).trans rfl; have hfz15_0 := blk_frozen BK225.out 0; have hfz15_1 := blk_frozen BK225.out 1; have hfz15_2 := blk_frozen BK225.out 2; have hfz15_3 := blk_frozen BK225.out 3; have hfz15_4 := blk_frozen BK225.out 4; have hfz15_5 := blk_frozen BK225.out 5; have hfz15_6 := blk_frozen BK225.out 6)); try go_wp2_with (first | ((with_reducible refine gate_dst (N := 7) rfl ?_); refine box_event ?hg (N := 7) ?hd (cs := #[.int .i64 a3_0, .int .i64 a3_1, .int .i64 a3_2, .int .i64 a3_3, .slice A3_4 l3_4.length c3_4, .slice A3_5 l3_5.length c3_5, .slice A3_6 l3_6.length c3_6]) (t := 26) ?hr ?_; (case hd => rfl); (case hg => rfl); (case hr => first | (go_simp; done) | (go_simp; rfl)); intro gb225 hg w14 hbox hb; have n0_ := Aside0.mk (below_step (by repeat (first | (with_reducible first | exact HB.out | apply wA | apply wN | apply wD) | exact HB.out)) hb); have n1_ := Aside0.mk (hbox); have n2_ := Aside0.mk ((by rw [hg]; exact (below_size (by repeat (first | (with_reducible first | exact HB.out | apply wA | apply wN | apply wD) | exact HB.out))) : w.heap.size ≤ gb225)); have n3_ := n2_; clear HB; have HB := n0_; have BK225 := n1_; have GW225 := n2_; have GE225 := n3_; clear n0_ n1_ n2_ n3_; clear hb hbox hg; have hcz15_0 : w14.cell? ⟨gb225, 0, none⟩ = some (.int .i64 a3_0) := (blk_cell BK225.out 0).trans rfl; have hcz15_1 : w14.cell? ⟨gb225, 1, none⟩ = some (.int .i64 a3_1) := (blk_cell BK225.out 1).trans rfl; have hcz15_2 : w14.cell? ⟨gb225, 2, none⟩ = some (.int .i64 a3_2) := (blk_cell BK225.out 2).trans rfl; have hcz15_3 : w14.cell? ⟨gb225, 3, none⟩ = some (.int .i64 a3_3) := (blk_cell BK225.out 3).trans rfl; have hcz15_4 : w14.cell? ⟨gb225, 4, none⟩ = some (.slice A3_4 l3_4.length c3_4) := (blk_cell BK225.out 4).trans rfl; have hcz15_5 : w14.cell? ⟨gb225, 5, none⟩ = some (.slice A3_5 l3_5.length c3_5) := (blk_cell BK225.out 5).trans rfl; have hcz15_6 : w14.cell? ⟨gb225, 6, none⟩ = some (.slice A3_6 l3_6.length c3_6) := (blk_cell BK225.out 6).trans rfl; have hfz15_0 := blk_frozen BK225.out 0; have hfz15_1 := blk_frozen BK225.out 1; have hfz15_2 := blk_frozen BK225.out 2; have hfz15_3 := blk_frozen BK225.out 3; have hfz15_4 := blk_frozen BK225.out 4; have hfz15_5 := blk_frozen BK225.out 5; have hfz15_6 := blk_frozen BK225.out 6)))
   go_loopg [2, 11, 13] k (fun kq v2 v11 v13 w' => ∃ (x2_1 : Int) (x11_1 : List (S51)) (x13_1 : Int), v2 = .int .i64 x2_1 ∧ v13 = .int .i64 x13_1 ∧ Aside0 (ndjqref20_Follow.l100 kq a0 x2_1 x11_1 l3_5 x13_1 a3_0 a3_1 a3_2 a3_3 l3_4 l3_5 l3_6 = some (r1, r2, r3)) ∧ Aside0 (kq ≤ k) ∧ Aside0 (Kd.R k51 51 w' w.heap.size (fun _ => True) v11 x11_1) ∧ Aside0 (w'.heap[gb225]? = some (.cells #[.int .i64 a3_0, .int .i64 a3_1, .int .i64 a3_2, .int .i64 a3_3, (.slice A3_4 l3_4.length c3_4), (.slice A3_5 l3_5.length c3_5), (.slice A3_6 l3_6.length c3_6)] 26 (0, 0))) ∧ Aside0 (Below w.heap.size w w'))
   case atStart => exact ⟨(a2), (([] : List (S51))), (0), (by first | rfl | (simp; done) | (simp [*]; done)), (by first | rfl | (simp; done) | (simp [*]; done)), H', ⟨Nat.le_refl _⟩, ⟨by first | exact Kd.R_nil _ _ _ _ _ | exact Kd.N_nil _ _ _ _ _ | exact Kd.V_nil _ _ _ _ _ | exact Kd.Q_nil _ _ _ _ _ | exact Kd.S_nil _ _ _ _ _⟩, ⟨by (with_reducible repeat (first | refine bN ?_ _ | refine bD ?_ | refine bA ?_ _)); exact BK225.out⟩, ⟨by repeat (first | (with_reducible first | exact HB.out | apply wA | apply wN | apply wD | refine wS ?_ GE225.out) | exact HB.out)⟩⟩
   case round =>
    clear H'
    (try clear c1); (try clear p2); (try clear q2); (try clear hx2); (try clear c3); (try clear c5); (try clear p6); (try clear c8); (try clear c8b0); (try clear c9); (try clear c9b0); (try clear c10); (try clear c13); (try clear hcz12_0); (try clear hcz12_1); (try clear hcz12_2); (try clear hcz12_3); (try clear hcz12_4); (try clear hcz12_5); (try clear hcz12_6); (try clear hcz15_0); (try clear hcz15_1); (try clear hcz15_2); (try clear hcz15_3); (try clear hcz15_4); (try clear hcz15_5); (try clear hcz15_6); (try clear hcz7_0); (try clear hcz7_1); (try clear hcz7_2); (try clear hcz7_3); (try clear hcz7_4); (try clear hcz7_5); (try clear hcz7_6); (try clear hfz12_0); (try clear hfz12_1); (try clear hfz12_2); (try clear hfz12_3); (try clear hfz12_4); (try clear hfz12_5); (try clear hfz12_6); (try clear hfz15_0); (try clear hfz15_1); (try clear hfz15_2); (try clear hfz15_3); (try clear hfz15_4); (try clear hfz15_5); (try clear hfz15_6); (try clear hfz7_0); (try clear hfz7_1); (try clear hfz7_2); (try clear hfz7_3); (try clear hfz7_4); (try clear hfz7_5); (try clear hfz7_6); (try clear hx226_0); (try clear hx230_0); (try clear p226); (try clear p230); (try clear q226); (try clear q230)
    obtain ⟨x2_1, x11_1, x13_1, rfl, rfl, HA, HK1, HO_11, BK225, HB⟩ := hrel
    cases gk with
    | zero => exact absurd HA.out (by simp [ndjqref20_Follow.l100])
    | succ k1 =>
     have H := HA.out
     clear HA
     simp only [ndjqref20_Follow.l100] at H
     by_cases c16 : x13_1 < (l3_5.length : Int)
     ·rw [if_pos c16] at H
      have c16b0 : decide (x13_1 < (l3_5.length : Int)) = true := decide_eq_true c16
      clear c16
      by_cases c17 : 0 ≤ x13_1
      ·rw [if_pos c17] at H
       have c17b0 : decide (0 ≤ x13_1) = true := decide_eq_true c17
       clear c17
       by_cases c18 : x11_1.length < 8796093022208
       ·rw [if_pos c18] at H
        have LMc18 := Aside0.mk c18
        clear c18
        obtain ⟨y232, hy232⟩ : ∃ y_ : List (S51), y_ = (x11_1 ++ [(⟨x2_1, wrap64 (a0 + (rd l3_5 x13_1))⟩ : S51)]) := ⟨_, rfl⟩
        replace H : (ndjqref20_Follow.l100 k1 a0 (wrap64 ((wrap64 (a0 + (rd l3_5 x13_1))) + 1)) y232 l3_5 (wrap64 (x13_1 + 1)) a3_0 a3_1 a3_2 a3_3 l3_4 l3_5 l3_6) = some (r1, r2, r3) := by first | (rw [hy232]; with_reducible exact H) | (have H2_ := (Option.bind_some _ _).symm.trans H; rw [hy232]; with_reducible exact H2_) | (have H2_ := (Option.bind_some _ _).symm.trans H; with_reducible exact H2_) | with_reducible exact H | (rw [hy232]; exact H) | exact H
        have Ny232 := Aside0.mk hy232
        clear hy232
        have H' := Aside0.mk H
        clear H
        have p231 : 0 ≤ (x13_1 : Int) := of_decide_eq_true (by first | (with_reducible assumption) | assumption)
        have q231 : x13_1 < (l3_5.length : Int) := of_decide_eq_true (by first | (with_reducible assumption) | assumption)
        obtain ⟨ad231, e231, hx231_0⟩ := Kd.at_int HR3_5.out x13_1 p231 q231
        cases e231
        replace hx231_0 := (HB.out.cell (World.block_lt_of_cell? w _ hx231_0)).trans hx231_0
        replace p231 := eq_true p231; replace q231 := eq_true q231
        go_wp2_with (first | ((with_reducible refine gate_builtin (b := .append) (xs := #[.tmp 24, .tmp 33]) rfl ?_); at_builtin; refine Kd.R_append k51 (w0 := w) w.heap.size rfl (.tmp 24) (.tmp 33) 28 51 (.agg #[(.int .i64 0), (.int .i64 0)]) 16 rfl Tryd.underlying28 info51 rfl (by decide) (by omega) u11 x11_1 (⟨x2_1, wrap64 (a0 + (rd l3_5 x13_1))⟩ : S51) [.int .i64 x2_1, .int .i64 (wrap64 (a0 + (rd l3_5 x13_1)))] (fun _ => True) (fun _ => False) rfl rfl ?aP (fun _ hk => hk.elim) ?aF ?aO ?aB ?aS ?aL ?_; (case aP => exact k51_mkM _ _ _ (⟨x2_1, wrap64 (a0 + (rd l3_5 x13_1))⟩ : S51)); (case aB => exact (by repeat (first | (with_reducible first | exact HB.out | apply wA | apply wN | apply wD | refine wS ?_ GE225.out) | exact HB.out))); (case aF => exact (fun _ _ => trivial)); (case aO => exact (by (with_reducible repeat (first | apply rA | apply rN | apply rD)); exact HO_11.out)); (case aS => exact (below_size (by repeat (first | (with_reducible first | exact HB.out | apply wA | apply wN | apply wD | refine wS ?_ GE225.out) | exact HB.out)))); (case aL => have := LMc18.out; first | omega | exact Nat.le_of_lt this); intro v233 w19 ho hb hg hat; rw [← Ny232.out] at ho; have n0_ := Aside0.mk (blk_grown (g := gb225) (o := .cells #[.int .i64 a3_0, .int .i64 a3_1, .int .i64 a3_2, .int .i64 a3_3, .slice A3_4 l3_4.length c3_4, .slice (some ad231) l3_5.length c3_5, .slice A3_6 l3_6.length c3_6] 26 (0, 0)) (by (with_reducible repeat (first | refine bN ?_ _ | refine bD ?_ | refine bA ?_ _)); exact BK225.out) hg (Kd.R_ne HO_11.out BK225.out (by decide))); have n1_ := Aside0.mk (hb); have n2_ := Aside0.mk (ho); clear BK225; clear HB; clear HO_11; have BK225 := n0_; have HB := n1_; have HO234 := n2_; clear n0_ n1_ n2_; clear ho hb hg hat; have p235 : 0 ≤ (x13_1 : Int) := of_decide_eq_true (by first | (with_reducible assumption) | assumption); have q235 : x13_1 < (l3_5.length : Int) := of_decide_eq_true (by first | (with_reducible assumption) | assumption); obtain ⟨ad235, e235, hx235_0⟩ := Kd.at_int HR3_5.out x13_1 p235 q235; obtain rfl : ad231 = ad235 := (by injection e235); replace hx235_0 := (HB.out.cell (World.block_lt_of_cell? w _ hx235_0)).trans hx235_0; replace p235 := eq_true p235; replace q235 := eq_true q235))
        repeat (go_quiet (first | ((with_reducible refine gate_builtin (b := .append) (xs := #[.tmp 24, .tmp 33]) rfl ?_); at_builtin; refine Kd.R_append k51 (w0 := w) w.heap.size rfl (.tmp 24) (.tmp 33) 28 51 (.agg #[(.int .i64 0), (.int .i64 0)]) 16 rfl Tryd.underlying28 info51 rfl (by decide) (by omega) u11 x11_1 (⟨x2_1, wrap64 (a0 + (rd l3_5 x13_1))⟩ : S51) [.int .i64 x2_1, .int .i64 (wrap64 (a0 + (rd l3_5 x13_1)))] (fun _ => True) (fun _ => False) rfl rfl ?aP (fun _ hk => hk.elim) ?aF ?aO ?aB ?aS ?aL ?_; (case aP => exact k51_mkM _ _ _ (⟨x2_1, wrap64 (a0 + (rd l3_5 x13_1))⟩ : S51)); (case aB => exact (by repeat (first | (with_reducible first | exact HB.out | apply wA | apply wN | apply wD | refine wS ?_ GE225.out) | exact HB.out))); (case aF => exact (fun _ _ => trivial)); (case aO => exact (by (with_reducible repeat (first | apply rA | apply rN | apply rD)); exact HO_11.out)); (case aS => exact (below_size (by repeat (first | (with_reducible first | exact HB.out | apply wA | apply wN | apply wD | refine wS ?_ GE225.out) | exact HB.out)))); (case aL => have := LMc18.out; first | omega | exact Nat.le_of_lt this); intro v233 w19 ho hb hg hat; rw [← Ny232.out] at ho; have n0_ := Aside0.mk (blk_grown (g := gb225) (o := .cells #[.int .i64 a3_0, .int .i64 a3_1, .int .i64 a3_2, .int .i64 a3_3, .slice A3_4 l3_4.length c3_4, .slice (some ad231) l3_5.length c3_5, .slice A3_6 l3_6.length c3_6] 26 (0, 0)) (by (with_reducible repeat (first | refine bN ?_ _ | refine bD ?_ | refine bA ?_ _)); exact BK225.out) hg (Kd.R_ne HO_11.out BK225.out (by decide))); have n1_ := Aside0.mk (hb); have n2_ := Aside0.mk (ho); clear BK225; clear HB; clear HO_11; have BK225 := n0_; have HB := n1_; have HO234 := n2_; clear n0_ n1_ n2_; clear ho hb hg hat; have p235 : 0 ≤ (x13_1 : Int) := of_decide_eq_true (by first | (with_reducible assumption) | assumption); have q235 : x13_1 < (l3_5.length : Int) := of_decide_eq_true (by first | (with_reducible assumption) | assumption); obtain ⟨ad235, e235, hx235_0⟩ := Kd.at_int HR3_5.out x13_1 p235 q235; obtain rfl : ad231 = ad235 := (by injection e235); replace hx235_0 := (HB.out.cell (World.block_lt_of_cell? w _ hx235_0)).trans hx235_0; replace p235 := eq_true p235; replace q235 := eq_true q235)); try go_wp2_with (first | ((with_reducible refine gate_builtin (b := .append) (xs := #[.tmp 24, .tmp 33]) rfl ?_); at_builtin; refine Kd.R_append k51 (w0 := w) w.heap.size rfl (.tmp 24) (.tmp 33) 28 51 (.agg #[(.int .i64 0), (.int .i64 0)]) 16 rfl Tryd.underlying28 info51 rfl (by decide) (by omega) u11 x11_1 (⟨x2_1, wrap64 (a0 + (rd l3_5 x13_1))⟩ : S51) [.int .i64 x2_1, .int .i64 (wrap64 (a0 + (rd l3_5 x13_1)))] (fun _ => True) (fun _ => False) rfl rfl ?aP (fun _ hk => hk.elim) ?aF ?aO ?aB ?aS ?aL ?_; (case aP => exact k51_mkM _ _ _ (⟨x2_1, wrap64 (a0 + (rd l3_5 x13_1))⟩ : S51)); (case aB => exact (by repeat (first | (with_reducible first | exact HB.out | apply wA | apply wN | apply wD | refine wS ?_ GE225.out) | exact HB.out))); (case aF => exact (fun _ _ => trivial)); (case aO => exact (by (with_reducible repeat (first | apply rA | apply rN | apply rD)); exact HO_11.out)); (case aS => exact (below_size (by repeat (first | (with_reducible first | exact HB.out | apply wA | apply wN | apply wD | refine wS ?_ GE225.out) | exact HB.out)))); (case aL => have := LMc18.out; first | omega | exact Nat.le_of_lt this); intro v233 w19 ho hb hg hat; rw [← Ny232.out] at ho; have n0_ := Aside0.mk (blk_grown (g := gb225) (o := .cells #[.int .i64 a3_0, .int .i64 a3_1, .int .i64 a3_2, .int .i64 a3_3, .slice A3_4 l3_4.length c3_4, .slice (some ad231) l3_5.length c3_5, .slice A3_6 l3_6.length c3_6] 26 (0, 0)) (by (with_reducible repeat (first | refine bN ?_ _ | refine bD ?_ | refine bA ?_ _)); exact BK225.out) hg (Kd.R_ne HO_11.out BK225.out (by decide))); have n1_ := Aside0.mk (hb); have n2_ := Aside0.mk (ho); clear BK225; clear HB; clear HO_11; have BK225 := n0_; have HB := n1_; have HO234 := n2_; clear n0_ n1_ n2_; clear ho hb hg hat; have p235 : 0 ≤ (x13_1 : Int) := of_decide_eq_true (by first | (with_reducible assumption) | assumption); have q235 : x13_1 < (l3_5.length : Int) := of_decide_eq_true (by first | (with_reducible assumption) | assumption); obtain ⟨ad235, e235, hx235_0⟩ := Kd.at_int HR3_5.out x13_1 p235 q235; obtain rfl : ad231 = ad235 := (by injection e235); replace hx235_0 := (HB.out.cell (World.block_lt_of_cell? w _ hx235_0)).trans hx235_0; replace p235 := eq_true p235; replace q235 := eq_true q235)))
        go_roundg k1
        case measure => have := HK1.out; omega
        case rel => exact ⟨(wrap64 ((wrap64 (a0 + (rd l3_5 x13_1))) + 1)), (y232), (wrap64 (x13_1 + 1)), (by first | rfl | (simp; done) | (simp [*]; done)), (by first | rfl | (simp; done) | (simp [*]; done)), H', ⟨by have := HK1.out; omega⟩, ⟨by (with_reducible repeat (first | apply rA | apply rN | apply rD)); exact HO234.out⟩, ⟨by (with_reducible repeat (first | refine bN ?_ _ | refine bD ?_ | refine bA ?_ _)); exact BK225.out⟩, ⟨by repeat (first | (with_reducible first | exact HB.out | apply wA | apply wN | apply wD | refine wS ?_ GE225.out) | exact HB.out)⟩⟩
       ·rw [if_neg c18] at H
        exact absurd H (by simp)
      ·rw [if_neg c17] at H
       exact absurd H (by simp)
     ·rw [if_neg c16] at H
      have c16b0 : decide (x13_1 < (l3_5.length : Int)) = false := decide_eq_false c16
      clear c16
      simp only [Option.some.injEq, Prod.mk.injEq] at H
      obtain ⟨rfl, rfl, rfl⟩ := H
      have hcz20_0 : wr.cell? ⟨gb225, 0, none⟩ = some (.int .i64 a3_0) := (blk_cell BK225.out 0).trans rfl; have hcz20_1 : wr.cell? ⟨gb225, 1, none⟩ = some (.int .i64 a3_1) := (blk_cell BK225.out 1).trans rfl; have hcz20_2 : wr.cell? ⟨gb225, 2, none⟩ = some (.int .i64 a3_2) := (blk_cell BK225.out 2).trans rfl; have hcz20_3 : wr.cell? ⟨gb225, 3, none⟩ = some (.int .i64 a3_3) := (blk_cell BK225.out 3).trans rfl; have hcz20_4 : wr.cell? ⟨gb225, 4, none⟩ = some (.slice A3_4 l3_4.length c3_4) := (blk_cell BK225.out 4).trans rfl; have hcz20_5 : wr.cell? ⟨gb225, 5, none⟩ = some (.slice A3_5 l3_5.length c3_5) := (blk_cell BK225.out 5).trans rfl; have hcz20_6 : wr.cell? ⟨gb225, 6, none⟩ = some (.slice A3_6 l3_6.length c3_6) := (blk_cell BK225.out 6).trans rfl; have hfz20_0 := blk_frozen BK225.out 0; have hfz20_1 := blk_frozen BK225.out 1; have hfz20_2 := blk_frozen BK225.out 2; have hfz20_3 := blk_frozen BK225.out 3; have hfz20_4 := blk_frozen BK225.out 4; have hfz20_5 := blk_frozen BK225.out 5; have hfz20_6 := blk_frozen BK225.out 6
      go_wp2
      repeat (go_quiet (fail); try go_wp2)
      go_ret3
      exact ⟨_, by first | rfl | (simp [errW_none, errW_some] <;> rfl) | (simp [*, errW_none, errW_some] <;> rfl), by (with_reducible repeat (first | apply rA | apply rN | apply rD)); exact HO_11.out, by repeat (first | (with_reducible first | exact HB.out | apply wA | apply wN | apply wD | refine wS ?_ GE225.out) | exact HB.out)⟩
  ·rw [if_neg c13] at H
   by_cases c21 : a1 = 2
   ·subst c21
    have H1 : (ndjqref20_Follow.l200 k a0 a2 ([] : List (S51)) l3_6 0 a3_0 a3_1 a3_2 a3_3 l3_4 l3_5 l3_6) = some (r1, r2, r3) := by rw [if_pos rfl] at H; exact H
    clear H; have H := H1; clear H1
    have H' := Aside0.mk H
    clear H
    go_enter Tryd.func30, Tryd.ntmps30
    go_wp2_with (first | ((with_reducible refine gate_dst (N := 7) rfl ?_); refine box_event ?hg (N := 7) ?hd (cs := #[.int .i64 a3_0, .int .i64 a3_1, .int .i64 a3_2, .int .i64 a3_3, .slice A3_4 l3_4.length c3_4, .slice A3_5 l3_5.length c3_5, .slice A3_6 l3_6.length c3_6]) (t := 26) ?hr ?_; (case hd => rfl); (case hg => rfl); (case hr => first | (go_simp; done) | (go_simp; rfl)); intro gb225 hg w22 hbox hb; have n0_ := Aside0.mk (below_step (by repeat (first | (with_reducible first | exact HB.out | apply wA | apply wN | apply wD) | exact HB.out)) hb); have n1_ := Aside0.mk (hbox); have n2_ := Aside0.mk ((by rw [hg]; exact (below_size (by repeat (first | (with_reducible first | exact HB.out | apply wA | apply wN | apply wD) | exact HB.out))) : w.heap.size ≤ gb225)); have n3_ := n2_; clear HB; have HB := n0_; have BK225 := n1_; have GW225 := n2_; have GE225 := n3_; clear n0_ n1_ n2_ n3_; clear hb hbox hg; have hcz23_0 : w22.cell? ⟨gb225, 0, none⟩ = some (.int .i64 a3_0) := (blk_cell BK225.out 0).trans rfl; have hcz23_1 : w22.cell? ⟨gb225, 1, none⟩ = some (.int .i64 a3_1) := (blk_cell BK225.out 1).trans rfl; have hcz23_2 : w22.cell? ⟨gb225, 2, none⟩ = some (.int .i64 a3_2) := (blk_cell BK225.out 2).trans rfl; have hcz23_3 : w22.cell? ⟨gb225, 3, none⟩ = some (.int .i64 a3_3) := (blk_cell BK225.out 3).trans rfl; have hcz23_4 : w22.cell? ⟨gb225, 4, none⟩ = some (.slice A3_4 l3_4.length c3_4) := (blk_cell BK225.out 4).trans rfl; have hcz23_5 : w22.cell? ⟨gb225, 5, none⟩ = some (.slice A3_5 l3_5.length c3_5) := (blk_cell BK225.out 5).trans rfl; have hcz23_6 : w22.cell? ⟨gb225, 6, none⟩ = some (.slice A3_6 l3_6.length c3_6) := (blk_cell BK225.out 6).trans rfl; have hfz23_0 := blk_frozen BK225.out 0; have hfz23_1 := blk_frozen BK225.out 1; have hfz23_2 := blk_frozen BK225.out 2; have hfz23_3 := blk_frozen BK225.out 3; have hfz23_4 := blk_frozen BK225.out 4; have hfz23_5 := blk_frozen BK225.out 5; have hfz23_6 := blk_frozen BK225.out 6))
    repeat (go_quiet (first | ((with_reducible refine gate_dst (N := 7) rfl ?_); refine box_event ?hg (N := 7) ?hd (cs := #[.int .i64 a3_0, .int .i64 a3_1, .int .i64 a3_2, .int .i64 a3_3, .slice A3_4 l3_4.length c3_4, .slice A3_5 l3_5.length c3_5, .slice A3_6 l3_6.length c3_6]) (t := 26) ?hr ?_; (case hd => rfl); (case hg => rfl); (case hr => first | (go_simp; done) | (go_simp; rfl)); intro gb225 hg w22 hbox hb; have n0_ := Aside0.mk (below_step (by repeat (first | (with_reducible first | exact HB.out | apply wA | apply wN | apply wD) | exact HB.out)) hb); have n1_ := Aside0.mk (hbox); have n2_ := Aside0.mk ((by rw [hg]; exact (below_size (by repeat (first | (with_reducible first | exact HB.out | apply wA | apply wN | apply wD) | exact HB.out))) : w.heap.size ≤ gb225)); have n3_ := n2_; clear HB; have HB := n0_; have BK225 := n1_; have GW225 := n2_; have GE225 := n3_; clear n0_ n1_ n2_ n3_; clear hb hbox hg; have hcz23_0 : w22.cell? ⟨gb225, 0, none⟩ = some (.int .i64 a3_0) := (blk_cell BK225.out 0).trans rfl; have hcz23_1 : w22.cell? ⟨gb225, 1, none⟩ = some (.int .i64 a3_1) := (blk_cell BK225.out 1).trans rfl; have hcz23_2 : w22.cell? ⟨gb225, 2, none⟩ = some (.int .i64 a3_2) := (blk_cell BK225.out 2).trans rfl; have hcz23_3 : w22.cell? ⟨gb225, 3, none⟩ = some (.int .i64 a3_3) := (blk_cell BK225.out 3).trans rfl; have hcz23_4 : w22.cell? ⟨gb225, 4, none⟩ = some (.slice A3_4 l3_4.length c3_4) := (blk_cell BK225.out 4).trans rfl; have hcz23_5 : w22.cell? ⟨gb225, 5, none⟩ = some (.slice A3_5 l3_5.length c3_5) := (blk_cell BK225.out 5).trans rfl; have hcz23_6 : w22.cell? ⟨gb225, 6, none⟩ = some (.slice A3_6 l3_6.length c3_6) := (blk_cell BK225.out 6).trans rfl; have hfz23_0 := blk_frozen BK225.out 0; have hfz23_1 := blk_frozen BK225.out 1; have hfz23_2 := blk_frozen BK225.out 2; have hfz23_3 := blk_frozen BK225.out 3; have hfz23_4 := blk_frozen BK225.out 4; have hfz23_5 := blk_frozen BK225.out 5; have hfz23_6 := blk_frozen BK225.out 6)); try go_wp2_with (first | ((with_reducible refine gate_dst (N := 7) rfl ?_); refine box_event ?hg (N := 7) ?hd (cs := #[.int .i64 a3_0, .int .i64 a3_1, .int .i64 a3_2, .int .i64 a3_3, .slice A3_4 l3_4.length c3_4, .slice A3_5 l3_5.length c3_5, .slice A3_6 l3_6.length c3_6]) (t := 26) ?hr ?_; (case hd => rfl); (case hg => rfl); (case hr => first | (go_simp; done) | (go_simp; rfl)); intro gb225 hg w22 hbox hb; have n0_ := Aside0.mk (below_step (by repeat (first | (with_reducible first | exact HB.out | apply wA | apply wN | apply wD) | exact HB.out)) hb); have n1_ := Aside0.mk (hbox); have n2_ := Aside0.mk ((by rw [hg]; exact (below_size (by repeat (first | (with_reducible first | exact HB.out | apply wA | apply wN | apply wD) | exact HB.out))) : w.heap.size ≤ gb225)); have n3_ := n2_; clear HB; have HB := n0_; have BK225 := n1_; have GW225 := n2_; have GE225 := n3_; clear n0_ n1_ n2_ n3_; clear hb hbox hg; have hcz23_0 : w22.cell? ⟨gb225, 0, none⟩ = some (.int .i64 a3_0) := (blk_cell BK225.out 0).trans rfl; have hcz23_1 : w22.cell? ⟨gb225, 1, none⟩ = some (.int .i64 a3_1) := (blk_cell BK225.out 1).trans rfl; have hcz23_2 : w22.cell? ⟨gb225, 2, none⟩ = some (.int .i64 a3_2) := (blk_cell BK225.out 2).trans rfl; have hcz23_3 : w22.cell? ⟨gb225, 3, none⟩ = some (.int .i64 a3_3) := (blk_cell BK225.out 3).trans rfl; have hcz23_4 : w22.cell? ⟨gb225, 4, none⟩ = some (.slice A3_4 l3_4.length c3_4) := (blk_cell BK225.out 4).trans rfl; have hcz23_5 : w22.cell? ⟨gb225, 5, none⟩ = some (.slice A3_5 l3_5.length c3_5) := (blk_cell BK225.out 5).trans rfl; have hcz23_6 : w22.cell? ⟨gb225, 6, none⟩ = some (.slice A3_6 l3_6.length c3_6) := (blk_cell BK225.out 6).trans rfl; have hfz23_0 := blk_frozen BK225.out 0; have hfz23_1 := blk_frozen BK225.out 1; have hfz23_2 := blk_frozen BK225.out 2; have hfz23_3 := blk_frozen BK225.out 3; have hfz23_4 := blk_frozen BK225.out 4; have hfz23_5 := blk_frozen BK225.out 5; have hfz23_6 := blk_frozen BK225.out 6)))
    go_loopg [2, 11, 13] k (fun kq v2 v11 v13 w' => ∃ (x2_1 : Int) (x11_1 : List (S51)) (x13_1 : Int), v2 = .int .i64 x2_1 ∧ v13 = .int .i64 x13_1 ∧ Aside0 (ndjqref20_Follow.l200 kq a0 x2_1 x11_1 l3_6 x13_1 a3_0 a3_1 a3_2 a3_3 l3_4 l3_5 l3_6 = some (r1, r2, r3)) ∧ Aside0 (kq ≤ k) ∧ Aside0 (Kd.R k51 51 w' w.heap.size (fun _ => True) v11 x11_1) ∧ Aside0 (w'.heap[gb225]? = some (.cells #[.int .i64 a3_0, .int .i64 a3_1, .int .i64 a3_2, .int .i64 a3_3, (.slice A3_4 l3_4.length c3_4), (.slice A3_5 l3_5.length c3_5), (.slice A3_6 l3_6.length c3_6)] 26 (0, 0))) ∧ Aside0 (Below w.heap.size w w'))
    case atStart => exact ⟨(a2), (([] : List (S51))), (0), (by first | rfl | (simp; done) | (simp [*]; done)), (by first | rfl | (simp; done) | (simp [*]; done)), H', ⟨Nat.le_refl _⟩, ⟨by first | exact Kd.R_nil _ _ _ _ _ | exact Kd.N_nil _ _ _ _ _ | exact Kd.V_nil _ _ _ _ _ | exact Kd.Q_nil _ _ _ _ _ | exact Kd.S_nil _ _ _ _ _⟩, ⟨by (with_reducible repeat (first | refine bN ?_ _ | refine bD ?_ | refine bA ?_ _)); exact BK225.out⟩, ⟨by repeat (first | (with_reducible first | exact HB.out | apply wA | apply wN | apply wD | refine wS ?_ GE225.out) | exact HB.out)⟩⟩
    case round =>
     clear H'
     (try clear c1); (try clear c2); (try clear p2); (try clear q2); (try clear hx2); (try clear c3); (try clear c5); (try clear p6); (try clear c8); (try clear c8b0); (try clear c9); (try clear c9b0); (try clear c10); (try clear c13); (try clear c16); (try clear c16b0); (try clear c17); (try clear c17b0); (try clear c18); (try clear c21); (try clear p22); (try clear q22); (try clear hx22); (try clear p23); (try clear q23); (try clear hx23); (try clear hcz12_0); (try clear hcz12_1); (try clear hcz12_2); (try clear hcz12_3); (try clear hcz12_4); (try clear hcz12_5); (try clear hcz12_6); (try clear hcz15_0); (try clear hcz15_1); (try clear hcz15_2); (try clear hcz15_3); (try clear hcz15_4); (try clear hcz15_5); (try clear hcz15_6); (try clear hcz20_0); (try clear hcz20_1); (try clear hcz20_2); (try clear hcz20_3); (try clear hcz20_4); (try clear hcz20_5); (try clear hcz20_6); (try clear hcz23_0); (try clear hcz23_1); (try clear hcz23_2); (try clear hcz23_3); (try clear hcz23_4); (try clear hcz23_5); (try clear hcz23_6); (try clear hcz7_0); (try clear hcz7_1); (try clear hcz7_2); (try clear hcz7_3); (try clear hcz7_4); (try clear hcz7_5); (try clear hcz7_6); (try clear hfz12_0); (try clear hfz12_1); (try clear hfz12_2); (try clear hfz12_3); (try clear hfz12_4); (try clear hfz12_5); (try clear hfz12_6); (try clear hfz15_0); (try clear hfz15_1); (try clear hfz15_2); (try clear hfz15_3); (try clear hfz15_4); (try clear hfz15_5); (try clear hfz15_6); (try clear hfz20_0); (try clear hfz20_1); (try clear hfz20_2); (try clear hfz20_3); (try clear hfz20_4); (try clear hfz20_5); (try clear hfz20_6); (try clear hfz23_0); (try clear hfz23_1); (try clear hfz23_2); (try clear hfz23_3); (try clear hfz23_4); (try clear hfz23_5); (try clear hfz23_6); (try clear hfz7_0); (try clear hfz7_1); (try clear hfz7_2); (try clear hfz7_3); (try clear hfz7_4); (try clear hfz7_5); (try clear hfz7_6); (try clear hx226_0); (try clear hx230_0); (try clear hx231_0); (try clear hx235_0); (try clear p226); (try clear p230); (try clear p231); (try clear p235); (try clear q226); (try clear q230); (try clear q231); (try clear q235)
     obtain ⟨x2_1, x11_1, x13_1, rfl, rfl, HA, HK1, HO_11, BK225, HB⟩ := hrel
     cases gk with
     | zero => exact absurd HA.out (by simp [ndjqref20_Follow.l200])
     | succ k1 =>
      have H := HA.out
      clear HA
      simp only [ndjqref20_Follow.l200] at H
      by_cases c24 : x13_1 < (l3_6.length : Int)
      ·rw [if_pos c24] at H
       have c24b0 : decide (x13_1 < (l3_6.length : Int)) = true := decide_eq_true c24
       clear c24
       by_cases c25 : 0 ≤ x13_1
       ·rw [if_pos c25] at H
        have c25b0 : decide (0 ≤ x13_1) = true := decide_eq_true c25
        clear c25
        by_cases c26 : x11_1.length < 8796093022208
        ·rw [if_pos c26] at H
         have LMc26 := Aside0.mk c26
         clear c26
         obtain ⟨y237, hy237⟩ : ∃ y_ : List (S51), y_ = (x11_1 ++ [(⟨x2_1, wrap64 (a0 + (rd l3_6 x13_1))⟩ : S51)]) := ⟨_, rfl⟩
         replace H : (ndjqref20_Follow.l200 k1 a0 (wrap64 ((wrap64 (a0 + (rd l3_6 x13_1))) + 1)) y237 l3_6 (wrap64 (x13_1 + 1)) a3_0 a3_1 a3_2 a3_3 l3_4 l3_5 l3_6) = some (r1, r2, r3) := by first | (rw [hy237]; with_reducible exact H) | (have H2_ := (Option.bind_some _ _).symm.trans H; rw [hy237]; with_reducible exact H2_) | (have H2_ := (Option.bind_some _ _).symm.trans H; with_reducible exact H2_) | with_reducible exact H | (rw [hy237]; exact H) | exact H
         have Ny237 := Aside0.mk hy237
         clear hy237
         have H' := Aside0.mk H
         clear H
         have p236 : 0 ≤ (x13_1 : Int) := of_decide_eq_true (by first | (with_reducible assumption) | assumption)
         have q236 : x13_1 < (l3_6.length : Int) := of_decide_eq_true (by first | (with_reducible assumption) | assumption)
         obtain ⟨ad236, e236, hx236_0⟩ := Kd.at_int HR3_6.out x13_1 p236 q236
         cases e236
         replace hx236_0 := (HB.out.cell (World.block_lt_of_cell? w _ hx236_0)).trans hx236_0
         replace p236 := eq_true p236; replace q236 := eq_true q236
         go_wp2_with (first | ((with_reducible refine gate_builtin (b := .append) (xs := #[.tmp 24, .tmp 33]) rfl ?_); at_builtin; refine Kd.R_append k51 (w0 := w) w.heap.size rfl (.tmp 24) (.tmp 33) 28 51 (.agg #[(.int .i64 0), (.int .i64 0)]) 16 rfl Tryd.underlying28 info51 rfl (by decide) (by omega) u11 x11_1 (⟨x2_1, wrap64 (a0 + (rd l3_6 x13_1))⟩ : S51) [.int .i64 x2_1, .int .i64 (wrap64 (a0 + (rd l3_6 x13_1)))] (fun _ => True) (fun _ => False) rfl rfl ?aP (fun _ hk => hk.elim) ?aF ?aO ?aB ?aS ?aL ?_; (case aP => exact k51_mkM _ _ _ (⟨x2_1, wrap64 (a0 + (rd l3_6 x13_1))⟩ : S51)); (case aB => exact (by repeat (first | (with_reducible first | exact HB.out | apply wA | apply wN | apply wD | refine wS ?_ GE225.out) | exact HB.out))); (case aF => exact (fun _ _ => trivial)); (case aO => exact (by (with_reducible repeat (first | apply rA | apply rN | apply rD)); exact HO_11.out)); (case aS => exact (below_size (by repeat (first | (with_reducible first | exact HB.out | apply wA | apply wN | apply wD | refine wS ?_ GE225.out) | exact HB.out)))); (case aL => have := LMc26.out; first | omega | exact Nat.le_of_lt this); intro v238 w27 ho hb hg hat; rw [← Ny237.out] at ho; have n0_ := Aside0.mk (blk_grown (g := gb225) (o := .cells #[.int .i64 a3_0, .int .i64 a3_1, .int .i64 a3_2, .int .i64 a3_3, .slice A3_4 l3_4.length c3_4, .slice A3_5 l3_5.length c3_5, .slice (some ad236) l3_6.length c3_6] 26 (0, 0)) (by (with_reducible repeat (first | refine bN ?_ _ | refine bD ?_ | refine bA ?_ _)); exact BK225.out) hg (Kd.R_ne HO_11.out BK225.out (by decide))); have n1_ := Aside0.mk (hb); have n2_ := Aside0.mk (ho); clear BK225; clear HB; clear HO_11; have BK225 := n0_; have HB := n1_; have HO239 := n2_; clear n0_ n1_ n2_; clear ho hb hg hat; have p240 : 0 ≤ (x13_1 : Int) := of_decide_eq_true (by first | (with_reducible assumption) | assumption); have q240 : x13_1 < (l3_6.length : Int) := of_decide_eq_true (by first | (with_reducible assumption) | assumption); obtain ⟨ad240, e240, hx240_0⟩ := Kd.at_int HR3_6.out x13_1 p240 q240; obtain rfl : ad236 = ad240 := (by injection e240); replace hx240_0 := (HB.out.cell (World.block_lt_of_cell? w _ hx240_0)).trans hx240_0; replace p240 := eq_true p240; replace q240 := eq_true q240))
         repeat (go_quiet (first | ((with_reducible refine gate_builtin (b := .append) (xs := #[.tmp 24, .tmp 33]) rfl ?_); at_builtin; refine Kd.R_append k51 (w0 := w) w.heap.size rfl (.tmp 24) (.tmp 33) 28 51 (.agg #[(.int .i64 0), (.int .i64 0)]) 16 rfl Tryd.underlying28 info51 rfl (by decide) (by omega) u11 x11_1 (⟨x2_1, wrap64 (a0 + (rd l3_6 x13_1))⟩ : S51) [.int .i64 x2_1, .int .i64 (wrap64 (a0 + (rd l3_6 x13_1)))] (fun _ => True) (fun _ => False) rfl rfl ?aP (fun _ hk => hk.elim) ?aF ?aO ?aB ?aS ?aL ?_; (case aP => exact k51_mkM _ _ _ (⟨x2_1, wrap64 (a0 + (rd l3_6 x13_1))⟩ : S51)); (case aB => exact (by repeat (first | (with_reducible first | exact HB.out | apply wA | apply wN | apply wD | refine wS ?_ GE225.out) | exact HB.out))); (case aF => exact (fun _ _ => trivial)); (case aO => exact (by (with_reducible repeat (first | apply rA | apply rN | apply rD)); exact HO_11.out)); (case aS => exact (below_size (by repeat (first | (with_reducible first | exact HB.out | apply wA | apply wN | apply wD | refine wS ?_ GE225.out) | exact HB.out)))); (case aL => have := LMc26.out; first | omega | exact Nat.le_of_lt this); intro v238 w27 ho hb hg hat; rw [← Ny237.out] at ho; have n0_ := Aside0.mk (blk_grown (g := gb225) (o := .cells #[.int .i64 a3_0, .int .i64 a3_1, .int .i64 a3_2, .int .i64 a3_3, .slice A3_4 l3_4.length c3_4, .slice A3_5 l3_5.length c3_5, .slice (some ad236) l3_6.length c3_6] 26 (0, 0)) (by (with_reducible repeat (first | refine bN ?_ _ | refine bD ?_ | refine bA ?_ _)); exact BK225.out) hg (Kd.R_ne HO_11.out BK225.out (by decide))); have n1_ := Aside0.mk (hb); have n2_ := Aside0.mk (ho); clear BK225; clear HB; clear HO_11; have BK225 := n0_; have HB := n1_; have HO239 := n2_; clear n0_ n1_ n2_; clear ho hb hg hat; have p240 : 0 ≤ (x13_1 : Int) := of_decide_eq_true (by first | (with_reducible assumption) | assumption); have q240 : x13_1 < (l3_6.length : Int) := of_decide_eq_true (by first | (with_reducible assumption) | assumption); obtain ⟨ad240, e240, hx240_0⟩ := Kd.at_int HR3_6.out x13_1 p240 q240; obtain rfl : ad236 = ad240 := (by injection e240); replace hx240_0 := (HB.out.cell (World.block_lt_of_cell? w _ hx240_0)).trans hx240_0; replace p240 := eq_true p240; replace q240 := eq_true q240)); try go_wp2_with (first | ((with_reducible refine gate_builtin (b := .append) (xs := #[.tmp 24, .tmp 33]) rfl ?_); at_builtin; refine Kd.R_append k51 (w0 := w) w.heap.size rfl (.tmp 24) (.tmp 33) 28 51 (.agg #[(.int .i64 0), (.int .i64 0)]) 16 rfl Tryd.underlying28 info51 rfl (by decide) (by omega) u11 x11_1 (⟨x2_1, wrap64 (a0 + (rd l3_6 x13_1))⟩ : S51) [.int .i64 x2_1, .int .i64 (wrap64 (a0 + (rd l3_6 x13_1)))] (fun _ => True) (fun _ => False) rfl rfl ?aP (fun _ hk => hk.elim) ?aF ?aO ?aB ?aS ?aL ?_; (case aP => exact k51_mkM _ _ _ (⟨x2_1, wrap64 (a0 + (rd l3_6 x13_1))⟩ : S51)); (case aB => exact (by repeat (first | (with_reducible first | exact HB.out | apply wA | apply wN | apply wD | refine wS ?_ GE225.out) | exact HB.out))); (case aF => exact (fun _ _ => trivial)); (case aO => exact (by (with_reducible repeat (first | apply rA | apply rN | apply rD)); exact HO_11.out)); (case aS => exact (below_size (by repeat (first | (with_reducible first | exact HB.out | apply wA | apply wN | apply wD | refine wS ?_ GE225.out) | exact HB.out)))); (case aL => have := LMc26.out; first | omega | exact Nat.le_of_lt this); intro v238 w27 ho hb hg hat; rw [← Ny237.out] at ho; have n0_ := Aside0.mk (blk_grown (g := gb225) (o := .cells #[.int .i64 a3_0, .int .i64 a3_1, .int .i64 a3_2, .int .i64 a3_3, .slice A3_4 l3_4.length c3_4, .slice A3_5 l3_5.length c3_5, .slice (some ad236) l3_6.length c3_6] 26 (0, 0)) (by (with_reducible repeat (first | refine bN ?_ _ | refine bD ?_ | refine bA ?_ _)); exact BK225.out) hg (Kd.R_ne HO_11.out BK225.out (by decide))); have n1_ := Aside0.mk (hb); have n2_ := Aside0.mk (ho); clear BK225; clear HB; clear HO_11; have BK225 := n0_; have HB := n1_; have HO239 := n2_; clear n0_ n1_ n2_; clear ho hb hg hat; have p240 : 0 ≤ (x13_1 : Int) := of_decide_eq_true (by first | (with_reducible assumption) | assumption); have q240 : x13_1 < (l3_6.length : Int) := of_decide_eq_true (by first | (with_reducible assumption) | assumption); obtain ⟨ad240, e240, hx240_0⟩ := Kd.at_int HR3_6.out x13_1 p240 q240; obtain rfl : ad236 = ad240 := (by injection e240); replace hx240_0 := (HB.out.cell (World.block_lt_of_cell? w _ hx240_0)).trans hx240_0; replace p240 := eq_true p240; replace q240 := eq_true q240)))
         go_roundg k1
         case measure => have := HK1.out; omega
         case rel => exact ⟨(wrap64 ((wrap64 (a0 + (rd l3_6 x13_1))) + 1)), (y237), (wrap64 (x13_1 + 1)), (by first | rfl | (simp; done) | (simp [*]; done)), (by first | rfl | (simp; done) | (simp [*]; done)), H', ⟨by have := HK1.out; omega⟩, ⟨by (with_reducible repeat (first | apply rA | apply rN | apply rD)); exact HO239.out⟩, ⟨by (with_reducible repeat (first | refine bN ?_ _ | refine bD ?_ | refine bA ?_ _)); exact BK225.out⟩, ⟨by repeat (first | (with_reducible first | exact HB.out | apply wA | apply wN | apply wD | refine wS ?_ GE225.out) | exact HB.out)⟩⟩
        ·rw [if_neg c26] at H
         exact absurd H (by simp)
       ·rw [if_neg c25] at H
        exact absurd H (by simp)
      ·rw [if_neg c24] at H
       have c24b0 : decide (x13_1 < (l3_6.length : Int)) = false := decide_eq_false c24
       clear c24
       simp only [Option.some.injEq, Prod.mk.injEq] at H
       obtain ⟨rfl, rfl, rfl⟩ := H
       have hcz28_0 : wr.cell? ⟨gb225, 0, none⟩ = some (.int .i64 a3_0) := (blk_cell BK225.out 0).trans rfl; have hcz28_1 : wr.cell? ⟨gb225, 1, none⟩ = some (.int .i64 a3_1) := (blk_cell BK225.out 1).trans rfl; have hcz28_2 : wr.cell? ⟨gb225, 2, none⟩ = some (.int .i64 a3_2) := (blk_cell BK225.out 2).trans rfl; have hcz28_3 : wr.cell? ⟨gb225, 3, none⟩ = some (.int .i64 a3_3) := (blk_cell BK225.out 3).trans rfl; have hcz28_4 : wr.cell? ⟨gb225, 4, none⟩ = some (.slice A3_4 l3_4.length c3_4) := (blk_cell BK225.out 4).trans rfl; have hcz28_5 : wr.cell? ⟨gb225, 5, none⟩ = some (.slice A3_5 l3_5.length c3_5) := (blk_cell BK225.out 5).trans rfl; have hcz28_6 : wr.cell? ⟨gb225, 6, none⟩ = some (.slice A3_6 l3_6.length c3_6) := (blk_cell BK225.out 6).trans rfl; have hfz28_0 := blk_frozen BK225.out 0; have hfz28_1 := blk_frozen BK225.out 1; have hfz28_2 := blk_frozen BK225.out 2; have hfz28_3 := blk_frozen BK225.out 3; have hfz28_4 := blk_frozen BK225.out 4; have hfz28_5 := blk_frozen BK225.out 5; have hfz28_6 := blk_frozen BK225.out 6
       go_wp2
       repeat (go_quiet (fail); try go_wp2)
       go_ret3
       exact ⟨_, by first | rfl | (simp [errW_none, errW_some] <;> rfl) | (simp [*, errW_none, errW_some] <;> rfl), by (with_reducible repeat (first | apply rA | apply rN | apply rD)); exact HO_11.out, by repeat (first | (with_reducible first | exact HB.out | apply wA | apply wN | apply wD | refine wS ?_ GE225.out) | exact HB.out)⟩
   ·rw [if_neg c21] at H
    exact absurd H (by simp)

/-! ### ndjqref20_Resolve: function 11 -/
def ndjqref20_Resolve.j0 : Nat → Int → Int → Int → Bool → Int → Int → Int → Int → List Int → List Int → List Int → Option ((List (S51)) × Int × Int × Int)
 | 0, _, _, _, _, _, _, _, _, _, _, _ => none
 | k + 1, x0, x1, x2, x15, x242000, x242001, x242002, x242003, x242004, x242005, x242006 => if x15 = true then (some (([] : List (S51)), 0, 0, 3)) else ((ndjqref18_Valid.f k x242000 x242001 x242002 x242003 x242004 x242005 x242006).bind fun t242 => (if t242 = true then (if x0 > (wrap64 (1048576 - x242000)) then (some (([] : List (S51)), 0, 0, 2)) else ((ndjqref20_Follow.f k x0 x1 x2 x242000 x242001 x242002 x242003 x242004 x242005 x242006).bind fun bt243 => (some (bt243.1, bt243.2.1, bt243.2.2, 0)))) else (some (([] : List (S51)), 0, 0, 1))))
def ndjqref20_Resolve.f (k : Nat) (a0 : Int) (a1 : Int) (a2 : Int) (a3_0 : Int) (a3_1 : Int) (a3_2 : Int) (a3_3 : Int) (l3_4 : List Int) (l3_5 : List Int) (l3_6 : List Int) : Option ((List (S51)) × Int × Int × Int) := if a0 < 0 then (ndjqref20_Resolve.j0 k a0 a1 a2 true a3_0 a3_1 a3_2 a3_3 l3_4 l3_5 l3_6) else (if a2 < 0 then (ndjqref20_Resolve.j0 k a0 a1 a2 true a3_0 a3_1 a3_2 a3_3 l3_4 l3_5 l3_6) else (if a2 > a0 then (ndjqref20_Resolve.j0 k a0 a1 a2 true a3_0 a3_1 a3_2 a3_3 l3_4 l3_5 l3_6) else (if a1 < 0 then (ndjqref20_Resolve.j0 k a0 a1 a2 true a3_0 a3_1 a3_2 a3_3 l3_4 l3_5 l3_6) else (ndjqref20_Resolve.j0 k a0 a1 a2 (decide (a1 > 2)) a3_0 a3_1 a3_2 a3_3 l3_4 l3_5 l3_6))))
theorem ndjqref20_Resolve.mono_l : ∀ k, (∀ y0 y1 y2 y3 y4 y5 y6 y7 y8 y9 y10, LeO (ndjqref20_Resolve.j0 k y0 y1 y2 y3 y4 y5 y6 y7 y8 y9 y10) (ndjqref20_Resolve.j0 (k + 1) y0 y1 y2 y3 y4 y5 y6 y7 y8 y9 y10))
 | 0 => fun _ _ _ _ _ _ _ _ _ _ _ r h => by simp [ndjqref20_Resolve.j0] at h
 | k + 1 => by
  have ih0 := ndjqref20_Resolve.mono_l k
  ·intro y0 y1 y2 y3 y4 y5 y6 y7 y8 y9 y10
   unfold ndjqref20_Resolve.j0
   repeat' first
   | (with_reducible exact ih0 _ _ _ _ _ _ _ _ _ _ _)
   | (with_reducible exact ndjqref18_Valid.mono _ _ _ _ _ _ _ _)
   | (with_reducible exact ndjqref20_Follow.mono _ _ _ _ _ _ _ _ _ _ _)
   | (with_reducible exact LeO.refl _)
   | (with_reducible exact LeO.none _)
   | (with_reducible refine LeO.ite ?_ ?_)
   | (with_reducible refine LeO.bind ?_ (fun _ => ?_))
   | exact ih0 _ _ _ _ _ _ _ _ _ _ _
   | exact ndjqref18_Valid.mono _ _ _ _ _ _ _ _
   | exact ndjqref20_Follow.mono _ _ _ _ _ _ _ _ _ _ _
   | exact LeO.none _
   | refine LeO.ite ?_ ?_
   | refine LeO.bind ?_ (fun _ => ?_)
theorem ndjqref20_Resolve.mono : ∀ a0 a1 a2 a3 a4 a5 a6 a7 a8 a9 k, LeO (ndjqref20_Resolve.f k a0 a1 a2 a3 a4 a5 a6 a7 a8 a9) (ndjqref20_Resolve.f (k + 1) a0 a1 a2 a3 a4 a5 a6 a7 a8 a9) := by
 intro a0 a1 a2 a3 a4 a5 a6 a7 a8 a9 k
 have ih0 := ndjqref20_Resolve.mono_l k
 unfold ndjqref20_Resolve.f
 repeat' first
   | (with_reducible exact ih0 _ _ _ _ _ _ _ _ _ _ _)
   | (with_reducible exact ndjqref18_Valid.mono _ _ _ _ _ _ _ _)
   | (with_reducible exact ndjqref20_Follow.mono _ _ _ _ _ _ _ _ _ _ _)
   | (with_reducible exact LeO.refl _)
   | (with_reducible exact LeO.none _)
   | (with_reducible refine LeO.ite ?_ ?_)
   | (with_reducible refine LeO.bind ?_ (fun _ => ?_))
   | exact ih0 _ _ _ _ _ _ _ _ _ _ _
   | exact ndjqref18_Valid.mono _ _ _ _ _ _ _ _
   | exact ndjqref20_Follow.mono _ _ _ _ _ _ _ _ _ _ _
   | exact LeO.none _
   | refine LeO.ite ?_ ?_
   | refine LeO.bind ?_ (fun _ => ?_)
set_option maxHeartbeats 8000000 in
set_option maxRecDepth 100000 in
theorem ndjqref20_Resolve.calls (k : Nat) (a0 : Int) (a1 : Int) (a2 : Int) (a3_0 : Int) (a3_1 : Int) (a3_2 : Int) (a3_3 : Int) (A3_4 : Option Addr) (c3_4 : Nat) (l3_4 : List Int) (A3_5 : Option Addr) (c3_5 : Nat) (l3_5 : List Int) (A3_6 : Option Addr) (c3_6 : Nat) (l3_6 : List Int) (r1 : List (S51)) (r2 : Int) (r3 : Int) (r4 : Int) (w : World) (hr3_4 : Kd.C (Kd.int .i64) w A3_4 l3_4.length l3_4) (hc3_4 : l3_4.length ≤ c3_4) (hr3_5 : Kd.C (Kd.int .i64) w A3_5 l3_5.length l3_5) (hc3_5 : l3_5.length ≤ c3_5) (hr3_6 : Kd.C (Kd.int .i64) w A3_6 l3_6.length l3_6) (hc3_6 : l3_6.length ≤ c3_6) (h : ndjqref20_Resolve.f k a0 a1 a2 a3_0 a3_1 a3_2 a3_3 l3_4 l3_5 l3_6 = some (r1, r2, r3, r4)) :
  Calls Tryd.prog 11 #[.int .i64 a0, .int .i64 a1, .int .i64 a2, .agg #[.int .i64 a3_0, .int .i64 a3_1, .int .i64 a3_2, .int .i64 a3_3, .slice A3_4 l3_4.length c3_4, .slice A3_5 l3_5.length c3_5, .slice A3_6 l3_6.length c3_6]] w fun e w' => ∃ v0_ : Value, e = .returned (.tuple #[v0_, .int .i64 r2, .int .i64 r3, .int .i64 r4]) ∧ Kd.R k51 51 w' w.heap.size (fun _ => True) v0_ r1 ∧ Below w.heap.size w w' := by
 have hu26 := Tryd.underlying26
 have HR3_4 := Aside0.mk hr3_4
 have HC3_4 := Aside0.mk hc3_4
 clear hr3_4 hc3_4
 have HR3_5 := Aside0.mk hr3_5
 have HC3_5 := Aside0.mk hc3_5
 clear hr3_5 hc3_5
 have HR3_6 := Aside0.mk hr3_6
 have HC3_6 := Aside0.mk hc3_6
 clear hr3_6 hc3_6
 have HB := Aside0.mk (Below.refl w.heap.size w)
 have H : (if a0 < 0 then (ndjqref20_Resolve.j0 k a0 a1 a2 true a3_0 a3_1 a3_2 a3_3 l3_4 l3_5 l3_6) else (if a2 < 0 then (ndjqref20_Resolve.j0 k a0 a1 a2 true a3_0 a3_1 a3_2 a3_3 l3_4 l3_5 l3_6) else (if a2 > a0 then (ndjqref20_Resolve.j0 k a0 a1 a2 true a3_0 a3_1 a3_2 a3_3 l3_4 l3_5 l3_6) else (if a1 < 0 then (ndjqref20_Resolve.j0 k a0 a1 a2 true a3_0 a3_1 a3_2 a3_3 l3_4 l3_5 l3_6) else (ndjqref20_Resolve.j0 k a0 a1 a2 (decide (a1 > 2)) a3_0 a3_1 a3_2 a3_3 l3_4 l3_5 l3_6))))) = some (r1, r2, r3, r4) := h
 clear h
 have HC5 := Aside0.mk H
 clear H
 go_enter Tryd.func11, Tryd.ntmps11
 go_upto_region 1 with (first | ((with_reducible refine gate_dst (N := 7) rfl ?_); refine box_event ?hg (N := 7) ?hd (cs := #[.int .i64 a3_0, .int .i64 a3_1, .int .i64 a3_2, .int .i64 a3_3, .slice A3_4 l3_4.length c3_4, .slice A3_5 l3_5.length c3_5, .slice A3_6 l3_6.length c3_6]) (t := 26) ?hr ?_; (case hd => rfl); (case hg => rfl); (case hr => first | (go_simp; done) | (go_simp; rfl)); intro gb241 hg w6 hbox hb; have n0_ := Aside0.mk (below_step (by repeat (first | (with_reducible first | exact HB.out | apply wA | apply wN | apply wD) | exact HB.out)) hb); have n1_ := Aside0.mk (hbox); have n2_ := Aside0.mk ((by rw [hg]; exact (below_size (by repeat (first | (with_reducible first | exact HB.out | apply wA | apply wN | apply wD) | exact HB.out))) : w.heap.size ≤ gb241)); have n3_ := n2_; clear HB; have HB := n0_; have BK241 := n1_; have GW241 := n2_; have GE241 := n3_; clear n0_ n1_ n2_ n3_; clear hb hbox hg))
 (try simp only [Act.put, List.setIfInBounds_toArray, List.set_cons_zero, List.set_cons_succ])
 go_cut [15] (fun v15 wc => ∃ (kq : Nat) (x15_4 : Bool), v15 = .bool x15_4 ∧ Aside0 (ndjqref20_Resolve.j0 kq a0 a1 a2 x15_4 a3_0 a3_1 a3_2 a3_3 l3_4 l3_5 l3_6 = some (r1, r2, r3, r4)) ∧ Aside0 (kq ≤ k) ∧ Aside0 (wc.heap[gb241]? = some (.cells #[.int .i64 a3_0, .int .i64 a3_1, .int .i64 a3_2, .int .i64 a3_3, (.slice A3_4 l3_4.length c3_4), (.slice A3_5 l3_5.length c3_5), (.slice A3_6 l3_6.length c3_6)] 26 (0, 0))) ∧ Aside0 (Below w.heap.size w wc))
 case first =>
  have H := HC5.out
  clear HC5
  by_cases c7 : a0 < 0
  ·rw [if_pos c7] at H
   have c7b0 : decide (a0 < 0) = true := decide_eq_true c7
   clear c7
   (first | rw [c7b0] | (simp only [i64_w, i32_w]; rw [c7b0]) | skip)
   have H' := Aside0.mk H
   clear H
   go_wp2
   go_meet
   case rel => exact ⟨_, (true), (by first | rfl | (simp; done) | (simp [*]; done)), H', ⟨by first | omega | exact Nat.le_refl _⟩, ⟨by (with_reducible repeat (first | refine bN ?_ _ | refine bD ?_ | refine bA ?_ _)); exact BK241.out⟩, ⟨by repeat (first | (with_reducible first | exact HB.out | apply wA | apply wN | apply wD | refine wS ?_ GE241.out) | exact HB.out)⟩⟩
  ·rw [if_neg c7] at H
   have c7b0 : decide (a0 < 0) = false := decide_eq_false c7
   clear c7
   (first | rw [c7b0] | (simp only [i64_w, i32_w]; rw [c7b0]) | skip)
   by_cases c8 : a2 < 0
   ·rw [if_pos c8] at H
    have c8b0 : decide (a2 < 0) = true := decide_eq_true c8
    clear c8
    have H' := Aside0.mk H
    clear H
    go_wp2
    go_meet
    case rel => exact ⟨_, (true), (by first | rfl | (simp; done) | (simp [*]; done)), H', ⟨by first | omega | exact Nat.le_refl _⟩, ⟨by (with_reducible repeat (first | refine bN ?_ _ | refine bD ?_ | refine bA ?_ _)); exact BK241.out⟩, ⟨by repeat (first | (with_reducible first | exact HB.out | apply wA | apply wN | apply wD | refine wS ?_ GE241.out) | exact HB.out)⟩⟩
   ·rw [if_neg c8] at H
    have c8b0 : decide (a2 < 0) = false := decide_eq_false c8
    clear c8
    by_cases c9 : a2 > a0
    ·rw [if_pos c9] at H
     have c9b0 : decide (a0 < a2) = true := decide_eq_true c9
     clear c9
     have H' := Aside0.mk H
     clear H
     go_wp2
     go_meet
     case rel => exact ⟨_, (true), (by first | rfl | (simp; done) | (simp [*]; done)), H', ⟨by first | omega | exact Nat.le_refl _⟩, ⟨by (with_reducible repeat (first | refine bN ?_ _ | refine bD ?_ | refine bA ?_ _)); exact BK241.out⟩, ⟨by repeat (first | (with_reducible first | exact HB.out | apply wA | apply wN | apply wD | refine wS ?_ GE241.out) | exact HB.out)⟩⟩
    ·rw [if_neg c9] at H
     have c9b0 : decide (a0 < a2) = false := decide_eq_false c9
     clear c9
     by_cases c10 : a1 < 0
     ·rw [if_pos c10] at H
      have c10b0 : decide (a1 < 0) = true := decide_eq_true c10
      clear c10
      have H' := Aside0.mk H
      clear H
      go_wp2
      go_meet
      case rel => exact ⟨_, (true), (by first | rfl | (simp; done) | (simp [*]; done)), H', ⟨by first | omega | exact Nat.le_refl _⟩, ⟨by (with_reducible repeat (first | refine bN ?_ _ | refine bD ?_ | refine bA ?_ _)); exact BK241.out⟩, ⟨by repeat (first | (with_reducible first | exact HB.out | apply wA | apply wN | apply wD | refine wS ?_ GE241.out) | exact HB.out)⟩⟩
     ·rw [if_neg c10] at H
      have c10b0 : decide (a1 < 0) = false := decide_eq_false c10
      clear c10
      have H' := Aside0.mk H
      clear H
      go_wp2
      go_meet
      case rel => exact ⟨_, (decide (a1 > 2)), (by first | rfl | (simp; done) | (simp [*]; done)), H', ⟨by first | omega | exact Nat.le_refl _⟩, ⟨by (with_reducible repeat (first | refine bN ?_ _ | refine bD ?_ | refine bA ?_ _)); exact BK241.out⟩, ⟨by repeat (first | (with_reducible first | exact HB.out | apply wA | apply wN | apply wD | refine wS ?_ GE241.out) | exact HB.out)⟩⟩
 case rest =>
  clear HC5
  (try clear c1); (try clear p2); (try clear c3); (try clear c7); (try clear c7b0); (try clear c8); (try clear c8b0); (try clear c9); (try clear c9b0); (try clear c10); (try clear c10b0)
  obtain ⟨kq, x15_4, rfl, HA, HJ4, BK241, HB⟩ := hcut
  cases kq with
  | zero => exact absurd HA.out (by simp [ndjqref20_Resolve.j0])
  | succ kj4 =>
   have H := HA.out
   clear HA
   simp only [ndjqref20_Resolve.j0] at H
   by_cases c11 : x15_4 = true
   ·subst c11
    have H1 : (some (([] : List (S51)), 0, 0, 3)) = some (r1, r2, r3, r4) := by rw [if_pos rfl] at H; exact H
    clear H; have H := H1; clear H1
    simp only [Option.some.injEq, Prod.mk.injEq] at H
    obtain ⟨rfl, rfl, rfl, rfl⟩ := H
    go_wp2
    refine bodyPost_ret (results_list (rs := [.tmp 8, .tmp 9, .tmp 10, .tmp 11]) rfl (by simp) (.tmp (.tmp (.tmp (.tmp .nil))))) rfl ?_
    exact ⟨_, by first | rfl | (simp [errW_none, errW_some] <;> rfl) | (simp [*, errW_none, errW_some] <;> rfl), by first | exact Kd.R_nil _ _ _ _ _ | exact Kd.N_nil _ _ _ _ _ | exact Kd.V_nil _ _ _ _ _ | exact Kd.Q_nil _ _ _ _ _ | exact Kd.S_nil _ _ _ _ _, by repeat (first | (with_reducible first | exact HB.out | apply wA | apply wN | apply wD | refine wS ?_ GE241.out) | exact HB.out)⟩
   ·replace c11 := Bool.eq_false_iff.mpr c11
    subst c11
    have H1 : ((ndjqref18_Valid.f kj4 a3_0 a3_1 a3_2 a3_3 l3_4 l3_5 l3_6).bind fun t242 => (if t242 = true then (if a0 > (wrap64 (1048576 - a3_0)) then (some (([] : List (S51)), 0, 0, 2)) else ((ndjqref20_Follow.f kj4 a0 a1 a2 a3_0 a3_1 a3_2 a3_3 l3_4 l3_5 l3_6).bind fun bt243 => (some (bt243.1, bt243.2.1, bt243.2.2, 0)))) else (some (([] : List (S51)), 0, 0, 1)))) = some (r1, r2, r3, r4) := by rw [if_neg (show ¬ (false = true) by decide)] at H; exact H
    clear H; have H := H1; clear H1
    replace H := Option.bind_eq_some_iff.mp H
    obtain ⟨t242, A120, H⟩ := H
    replace H : (if t242 = true then (if a0 > (wrap64 (1048576 - a3_0)) then (some (([] : List (S51)), 0, 0, 2)) else ((ndjqref20_Follow.f kj4 a0 a1 a2 a3_0 a3_1 a3_2 a3_3 l3_4 l3_5 l3_6).bind fun bt243 => (some (bt243.1, bt243.2.1, bt243.2.2, 0)))) else (some (([] : List (S51)), 0, 0, 1))) = some (r1, r2, r3, r4) := H
    have A12 := Aside0.mk A120
    clear A120
    by_cases c13 : t242 = true
    ·subst c13
     have H1 : (if a0 > (wrap64 (1048576 - a3_0)) then (some (([] : List (S51)), 0, 0, 2)) else ((ndjqref20_Follow.f kj4 a0 a1 a2 a3_0 a3_1 a3_2 a3_3 l3_4 l3_5 l3_6).bind fun bt243 => (some (bt243.1, bt243.2.1, bt243.2.2, 0)))) = some (r1, r2, r3, r4) := by rw [if_pos rfl] at H; exact H
     clear H; have H := H1; clear H1
     by_cases c14 : a0 > (wrap64 (1048576 - a3_0))
     ·rw [if_pos c14] at H
      have c14b0 : decide ((wrap64 (1048576 - a3_0)) < a0) = true := decide_eq_true c14
      clear c14
      simp only [Option.some.injEq, Prod.mk.injEq] at H
      obtain ⟨rfl, rfl, rfl, rfl⟩ := H
      have hcz15_0 : wc.cell? ⟨gb241, 0, none⟩ = some (.int .i64 a3_0) := (blk_cell BK241.out 0).trans rfl; have hcz15_1 : wc.cell? ⟨gb241, 1, none⟩ = some (.int .i64 a3_1) := (blk_cell BK241.out 1).trans rfl; have hcz15_2 : wc.cell? ⟨gb241, 2, none⟩ = some (.int .i64 a3_2) := (blk_cell BK241.out 2).trans rfl; have hcz15_3 : wc.cell? ⟨gb241, 3, none⟩ = some (.int .i64 a3_3) := (blk_cell BK241.out 3).trans rfl; have hcz15_4 : wc.cell? ⟨gb241, 4, none⟩ = some (.slice A3_4 l3_4.length c3_4) := (blk_cell BK241.out 4).trans rfl; have hcz15_5 : wc.cell? ⟨gb241, 5, none⟩ = some (.slice A3_5 l3_5.length c3_5) := (blk_cell BK241.out 5).trans rfl; have hcz15_6 : wc.cell? ⟨gb241, 6, none⟩ = some (.slice A3_6 l3_6.length c3_6) := (blk_cell BK241.out 6).trans rfl; have hfz15_0 := blk_frozen BK241.out 0; have hfz15_1 := blk_frozen BK241.out 1; have hfz15_2 := blk_frozen BK241.out 2; have hfz15_3 := blk_frozen BK241.out 3; have hfz15_4 := blk_frozen BK241.out 4; have hfz15_5 := blk_frozen BK241.out 5; have hfz15_6 := blk_frozen BK241.out 6
      go_wp2_with (first | ((with_reducible refine gate_callee (f := 29) rfl ?_); refine goesL_ (some 37) rfl rfl Tryd.func29 (by kernel_rfl) rfl #[.agg #[.int .i64 a3_0, .int .i64 a3_1, .int .i64 a3_2, .int .i64 a3_3, .slice A3_4 l3_4.length c3_4, .slice A3_5 l3_5.length c3_5, .slice A3_6 l3_6.length c3_6]] rfl (by (try simp only [List.map_toArray, List.map_cons, List.map_nil]); first | done | rfl | (simp only [List.length_drop, List.length_take]; rfl)) ?_; (with_reducible refine (ndjqref18_Valid.calls kj4 a3_0 a3_1 a3_2 a3_3 _ _ l3_4 _ _ l3_5 _ _ l3_6 true _ ?side1 ?side2 ?side3 ?side4 ?side5 ?side6 A12.out).mono ?_); (case side1 => repeat (first | exact (Kd.C_below HR3_4.out HB.out) | (with_reducible refine Kd.C_alloc ?_ _) | (with_reducible refine Kd.C_drewN ?_ _) | (with_reducible refine Kd.C_drew ?_))); (case side2 => exact HC3_4.out); (case side3 => repeat (first | exact (Kd.C_below HR3_5.out HB.out) | (with_reducible refine Kd.C_alloc ?_ _) | (with_reducible refine Kd.C_drewN ?_ _) | (with_reducible refine Kd.C_drew ?_))); (case side4 => exact HC3_5.out); (case side5 => repeat (first | exact (Kd.C_below HR3_6.out HB.out) | (with_reducible refine Kd.C_alloc ?_ _) | (with_reducible refine Kd.C_drewN ?_ _) | (with_reducible refine Kd.C_drew ?_))); (case side6 => exact HC3_6.out); rintro e w16 ⟨rfl, hb⟩; refine ⟨_, rfl, ?_⟩; have n0_ := Aside0.mk (blk_below (g := gb241) (o := .cells #[.int .i64 a3_0, .int .i64 a3_1, .int .i64 a3_2, .int .i64 a3_3, .slice A3_4 l3_4.length c3_4, .slice A3_5 l3_5.length c3_5, .slice A3_6 l3_6.length c3_6] 26 (0, 0)) (by (with_reducible repeat (first | refine bN ?_ _ | refine bD ?_ | refine bA ?_ _)); exact BK241.out) hb); have n1_ := Aside0.mk (below_step (by repeat (first | (with_reducible first | exact HB.out | apply wA | apply wN | apply wD | refine wS ?_ GE241.out) | exact HB.out)) hb); clear BK241; clear HB; have BK241 := n0_; have HB := n1_; clear n0_ n1_; (try clear hb); (try clear hb2); (try clear hk); (try clear hi); have hcz17_0 : w16.cell? ⟨gb241, 0, none⟩ = some (.int .i64 a3_0) := (blk_cell BK241.out 0).trans rfl; have hcz17_1 : w16.cell? ⟨gb241, 1, none⟩ = some (.int .i64 a3_1) := (blk_cell BK241.out 1).trans rfl; have hcz17_2 : w16.cell? ⟨gb241, 2, none⟩ = some (.int .i64 a3_2) := (blk_cell BK241.out 2).trans rfl; have hcz17_3 : w16.cell? ⟨gb241, 3, none⟩ = some (.int .i64 a3_3) := (blk_cell BK241.out 3).trans rfl; have hcz17_4 : w16.cell? ⟨gb241, 4, none⟩ = some (.slice A3_4 l3_4.length c3_4) := (blk_cell BK241.out 4).trans rfl; have hcz17_5 : w16.cell? ⟨gb241, 5, none⟩ = some (.slice A3_5 l3_5.length c3_5) := (blk_cell BK241.out 5).trans rfl; have hcz17_6 : w16.cell? ⟨gb241, 6, none⟩ = some (.slice A3_6 l3_6.length c3_6) := (blk_cell BK241.out 6).trans rfl; have hfz17_0 := blk_frozen BK241.out 0; have hfz17_1 := blk_frozen BK241.out 1; have hfz17_2 := blk_frozen BK241.out 2; have hfz17_3 := blk_frozen BK241.out 3; have hfz17_4 := blk_frozen BK241.out 4; have hfz17_5 := blk_frozen BK241.out 5; have hfz17_6 := blk_frozen BK241.out 6))
      refine bodyPost_ret (results_list (rs := [.tmp 8, .tmp 9, .tmp 10, .tmp 11]) rfl (by simp) (.tmp (.tmp (.tmp (.tmp .nil))))) rfl ?_
      exact ⟨_, by first | rfl | (simp [errW_none, errW_some] <;> rfl) | (simp [*, errW_none, errW_some] <;> rfl), by first | exact Kd.R_nil _ _ _ _ _ | exact Kd.N_nil _ _ _ _ _ | exact Kd.V_nil _ _ _ _ _ | exact Kd.Q_nil _ _ _ _ _ | exact Kd.S_nil _ _ _ _ _, by repeat (first | (with_reducible first | exact HB.out | apply wA | apply wN | apply wD | refine wS ?_ GE241.out) | exact HB.out)⟩
     ·rw [if_neg c14] at H
      have c14b0 : decide ((wrap64 (1048576 - a3_0)) < a0) = false := decide_eq_false c14
      clear c14
      replace H := Option.bind_eq_some_iff.mp H
      obtain ⟨⟨t243, t246, t247⟩, A180, H⟩ := H
      replace H : (some (t243, t246, t247, 0)) = some (r1, r2, r3, r4) := H
      have A18 := Aside0.mk A180
      clear A180
      simp only [Option.some.injEq, Prod.mk.injEq] at H
      obtain ⟨rfl, rfl, rfl, rfl⟩ := H
      have hcz19_0 : wc.cell? ⟨gb241, 0, none⟩ = some (.int .i64 a3_0) := (blk_cell BK241.out 0).trans rfl; have hcz19_1 : wc.cell? ⟨gb241, 1, none⟩ = some (.int .i64 a3_1) := (blk_cell BK241.out 1).trans rfl; have hcz19_2 : wc.cell? ⟨gb241, 2, none⟩ = some (.int .i64 a3_2) := (blk_cell BK241.out 2).trans rfl; have hcz19_3 : wc.cell? ⟨gb241, 3, none⟩ = some (.int .i64 a3_3) := (blk_cell BK241.out 3).trans rfl; have hcz19_4 : wc.cell? ⟨gb241, 4, none⟩ = some (.slice A3_4 l3_4.length c3_4) := (blk_cell BK241.out 4).trans rfl; have hcz19_5 : wc.cell? ⟨gb241, 5, none⟩ = some (.slice A3_5 l3_5.length c3_5) := (blk_cell BK241.out 5).trans rfl; have hcz19_6 : wc.cell? ⟨gb241, 6, none⟩ = some (.slice A3_6 l3_6.length c3_6) := (blk_cell BK241.out 6).trans rfl; have hfz19_0 := blk_frozen BK241.out 0; have hfz19_1 := blk_frozen BK241.out 1; have hfz19_2 := blk_frozen BK241.out 2; have hfz19_3 := blk_frozen BK241.out 3; have hfz19_4 := blk_frozen BK241.out 4; have hfz19_5 := blk_frozen BK241.out 5; have hfz19_6 := blk_frozen BK241.out 6
      go_wp2_with (first | ((with_reducible refine gate_callee (f := 29) rfl ?_); refine goesL_ (some 37) rfl rfl Tryd.func29 (by kernel_rfl) rfl #[.agg #[.int .i64 a3_0, .int .i64 a3_1, .int .i64 a3_2, .int .i64 a3_3, .slice A3_4 l3_4.length c3_4, .slice A3_5 l3_5.length c3_5, .slice A3_6 l3_6.length c3_6]] rfl (by (try simp only [List.map_toArray, List.map_cons, List.map_nil]); first | done | rfl | (simp only [List.length_drop, List.length_take]; rfl)) ?_; (with_reducible refine (ndjqref18_Valid.calls kj4 a3_0 a3_1 a3_2 a3_3 _ _ l3_4 _ _ l3_5 _ _ l3_6 true _ ?side1 ?side2 ?side3 ?side4 ?side5 ?side6 A12.out).mono ?_); (case side1 => repeat (first | exact (Kd.C_below HR3_4.out HB.out) | (with_reducible refine Kd.C_alloc ?_ _) | (with_reducible refine Kd.C_drewN ?_ _) | (with_reducible refine Kd.C_drew ?_))); (case side2 => exact HC3_4.out); (case side3 => repeat (first | exact (Kd.C_below HR3_5.out HB.out) | (with_reducible refine Kd.C_alloc ?_ _) | (with_reducible refine Kd.C_drewN ?_ _) | (with_reducible refine Kd.C_drew ?_))); (case side4 => exact HC3_5.out); (case side5 => repeat (first | exact (Kd.C_below HR3_6.out HB.out) | (with_reducible refine Kd.C_alloc ?_ _) | (with_reducible refine Kd.C_drewN ?_ _) | (with_reducible refine Kd.C_drew ?_))); (case side6 => exact HC3_6.out); rintro e w20 ⟨rfl, hb⟩; refine ⟨_, rfl, ?_⟩; have n0_ := Aside0.mk (blk_below (g := gb241) (o := .cells #[.int .i64 a3_0, .int .i64 a3_1, .int .i64 a3_2, .int .i64 a3_3, .slice A3_4 l3_4.length c3_4, .slice A3_5 l3_5.length c3_5, .slice A3_6 l3_6.length c3_6] 26 (0, 0)) (by (with_reducible repeat (first | refine bN ?_ _ | refine bD ?_ | refine bA ?_ _)); exact BK241.out) hb); have n1_ := Aside0.mk (below_step (by repeat (first | (with_reducible first | exact HB.out | apply wA | apply wN | apply wD | refine wS ?_ GE241.out) | exact HB.out)) hb); clear BK241; clear HB; have BK241 := n0_; have HB := n1_; clear n0_ n1_; (try clear hb); (try clear hb2); (try clear hk); (try clear hi); have hcz21_0 : w20.cell? ⟨gb241, 0, none⟩ = some (.int .i64 a3_0) := (blk_cell BK241.out 0).trans rfl; have hcz21_1 : w20.cell? ⟨gb241, 1, none⟩ = some (.int .i64 a3_1) := (blk_cell BK241.out 1).trans rfl; have hcz21_2 : w20.cell? ⟨gb241, 2, none⟩ = some (.int .i64 a3_2) := (blk_cell BK241.out 2).trans rfl; have hcz21_3 : w20.cell? ⟨gb241, 3, none⟩ = some (.int .i64 a3_3) := (blk_cell BK241.out 3).trans rfl; have hcz21_4 : w20.cell? ⟨gb241, 4, none⟩ = some (.slice A3_4 l3_4.length c3_4) := (blk_cell BK241.out 4).trans rfl; have hcz21_5 : w20.cell? ⟨gb241, 5, none⟩ = some (.slice A3_5 l3_5.length c3_5) := (blk_cell BK241.out 5).trans rfl; have hcz21_6 : w20.cell? ⟨gb241, 6, none⟩ = some (.slice A3_6 l3_6.length c3_6) := (blk_cell BK241.out 6).trans rfl; have hfz21_0 := blk_frozen BK241.out 0; have hfz21_1 := blk_frozen BK241.out 1; have hfz21_2 := blk_frozen BK241.out 2; have hfz21_3 := blk_frozen BK241.out 3; have hfz21_4 := blk_frozen BK241.out 4; have hfz21_5 := blk_frozen BK241.out 5; have hfz21_6 := blk_frozen BK241.out 6) | ((with_reducible refine gate_callee (f := 30) rfl ?_); refine goesL_ (some 50) rfl rfl Tryd.func30 (by kernel_rfl) rfl #[.int .i64 a0, .int .i64 a1, .int .i64 a2, .agg #[.int .i64 a3_0, .int .i64 a3_1, .int .i64 a3_2, .int .i64 a3_3, .slice A3_4 l3_4.length c3_4, .slice A3_5 l3_5.length c3_5, .slice A3_6 l3_6.length c3_6]] rfl (by (try simp only [List.map_toArray, List.map_cons, List.map_nil]); first | done | rfl | (simp only [List.length_drop, List.length_take]; rfl)) ?_; (with_reducible refine (ndjqref20_Follow.calls kj4 a0 a1 a2 a3_0 a3_1 a3_2 a3_3 _ _ l3_4 _ _ l3_5 _ _ l3_6 t243 t246 t247 _ ?side1 ?side2 ?side3 ?side4 ?side5 ?side6 A18.out).mono ?_); (case side1 => repeat (first | exact (Kd.C_below HR3_4.out HB.out) | (with_reducible refine Kd.C_alloc ?_ _) | (with_reducible refine Kd.C_drewN ?_ _) | (with_reducible refine Kd.C_drew ?_))); (case side2 => exact HC3_4.out); (case side3 => repeat (first | exact (Kd.C_below HR3_5.out HB.out) | (with_reducible refine Kd.C_alloc ?_ _) | (with_reducible refine Kd.C_drewN ?_ _) | (with_reducible refine Kd.C_drew ?_))); (case side4 => exact HC3_5.out); (case side5 => repeat (first | exact (Kd.C_below HR3_6.out HB.out) | (with_reducible refine Kd.C_alloc ?_ _) | (with_reducible refine Kd.C_drewN ?_ _) | (with_reducible refine Kd.C_drew ?_))); (case side6 => exact HC3_6.out); rintro e w22 ⟨v244, rfl, ho0, hb⟩; refine ⟨_, rfl, ?_⟩; have n0_ := Aside0.mk (Kd.R_lower ho0 (below_size (by repeat (first | (with_reducible first | exact HB.out | apply wA | apply wN | apply wD | refine wS ?_ GE241.out) | exact HB.out)))); have n1_ := Aside0.mk (blk_below (g := gb241) (o := .cells #[.int .i64 a3_0, .int .i64 a3_1, .int .i64 a3_2, .int .i64 a3_3, .slice A3_4 l3_4.length c3_4, .slice A3_5 l3_5.length c3_5, .slice A3_6 l3_6.length c3_6] 26 (0, 0)) (by (with_reducible repeat (first | refine bN ?_ _ | refine bD ?_ | refine bA ?_ _)); exact BK241.out) hb); have n2_ := Aside0.mk (below_step (by repeat (first | (with_reducible first | exact HB.out | apply wA | apply wN | apply wD | refine wS ?_ GE241.out) | exact HB.out)) hb); clear BK241; clear HB; have HO245 := n0_; have BK241 := n1_; have HB := n2_; clear n0_ n1_ n2_; (try clear hb); (try clear hb2); (try clear hk); (try clear hi); (try clear ho0)))
      refine bodyPost_ret (results_list (rs := [.tmp 8, .tmp 9, .tmp 10, .tmp 11]) rfl (by simp) (.tmp (.tmp (.tmp (.tmp .nil))))) rfl ?_
      exact ⟨_, by first | rfl | (simp [errW_none, errW_some] <;> rfl) | (simp [*, errW_none, errW_some] <;> rfl), by (with_reducible repeat (first | apply rA | apply rN | apply rD)); exact HO245.out, by repeat (first | (with_reducible first | exact HB.out | apply wA | apply wN | apply wD | refine wS ?_ GE241.out) | exact HB.out)⟩
    ·replace c13 := Bool.eq_false_iff.mpr c13
     subst c13
     have H1 : (some (([] : List (S51)), 0, 0, 1)) = some (r1, r2, r3, r4) := by rw [if_neg (show ¬ (false = true) by decide)] at H; exact H
     clear H; have H := H1; clear H1
     simp only [Option.some.injEq, Prod.mk.injEq] at H
     obtain ⟨rfl, rfl, rfl, rfl⟩ := H
     have hcz23_0 : wc.cell? ⟨gb241, 0, none⟩ = some (.int .i64 a3_0) := (blk_cell BK241.out 0).trans rfl; have hcz23_1 : wc.cell? ⟨gb241, 1, none⟩ = some (.int .i64 a3_1) := (blk_cell BK241.out 1).trans rfl; have hcz23_2 : wc.cell? ⟨gb241, 2, none⟩ = some (.int .i64 a3_2) := (blk_cell BK241.out 2).trans rfl; have hcz23_3 : wc.cell? ⟨gb241, 3, none⟩ = some (.int .i64 a3_3) := (blk_cell BK241.out 3).trans rfl; have hcz23_4 : wc.cell? ⟨gb241, 4, none⟩ = some (.slice A3_4 l3_4.length c3_4) := (blk_cell BK241.out 4).trans rfl; have hcz23_5 : wc.cell? ⟨gb241, 5, none⟩ = some (.slice A3_5 l3_5.length c3_5) := (blk_cell BK241.out 5).trans rfl; have hcz23_6 : wc.cell? ⟨gb241, 6, none⟩ = some (.slice A3_6 l3_6.length c3_6) := (blk_cell BK241.out 6).trans rfl; have hfz23_0 := blk_frozen BK241.out 0; have hfz23_1 := blk_frozen BK241.out 1; have hfz23_2 := blk_frozen BK241.out 2; have hfz23_3 := blk_frozen BK241.out 3; have hfz23_4 := blk_frozen BK241.out 4; have hfz23_5 := blk_frozen BK241.out 5; have hfz23_6 := blk_frozen BK241.out 6
     go_wp2_with (first | ((with_reducible refine gate_callee (f := 29) rfl ?_); refine goesL_ (some 37) rfl rfl Tryd.func29 (by kernel_rfl) rfl #[.agg #[.int .i64 a3_0, .int .i64 a3_1, .int .i64 a3_2, .int .i64 a3_3, .slice A3_4 l3_4.length c3_4, .slice A3_5 l3_5.length c3_5, .slice A3_6 l3_6.length c3_6]] rfl (by (try simp only [List.map_toArray, List.map_cons, List.map_nil]); first | done | rfl | (simp only [List.length_drop, List.length_take]; rfl)) ?_; (with_reducible refine (ndjqref18_Valid.calls kj4 a3_0 a3_1 a3_2 a3_3 _ _ l3_4 _ _ l3_5 _ _ l3_6 false _ ?side1 ?side2 ?side3 ?side4 ?side5 ?side6 A12.out).mono ?_); (case side1 => repeat (first | exact (Kd.C_below HR3_4.out HB.out) | (with_reducible refine Kd.C_alloc ?_ _) | (with_reducible refine Kd.C_drewN ?_ _) | (with_reducible refine Kd.C_drew ?_))); (case side2 => exact HC3_4.out); (case side3 => repeat (first | exact (Kd.C_below HR3_5.out HB.out) | (with_reducible refine Kd.C_alloc ?_ _) | (with_reducible refine Kd.C_drewN ?_ _) | (with_reducible refine Kd.C_drew ?_))); (case side4 => exact HC3_5.out); (case side5 => repeat (first | exact (Kd.C_below HR3_6.out HB.out) | (with_reducible refine Kd.C_alloc ?_ _) | (with_reducible refine Kd.C_drewN ?_ _) | (with_reducible refine Kd.C_drew ?_))); (case side6 => exact HC3_6.out); rintro e w24 ⟨rfl, hb⟩; refine ⟨_, rfl, ?_⟩; have n0_ := Aside0.mk (blk_below (g := gb241) (o := .cells #[.int .i64 a3_0, .int .i64 a3_1, .int .i64 a3_2, .int .i64 a3_3, .slice A3_4 l3_4.length c3_4, .slice A3_5 l3_5.length c3_5, .slice A3_6 l3_6.length c3_6] 26 (0, 0)) (by (with_reducible repeat (first | refine bN ?_ _ | refine bD ?_ | refine bA ?_ _)); exact BK241.out) hb); have n1_ := Aside0.mk (below_step (by repeat (first | (with_reducible first | exact HB.out | apply wA | apply wN | apply wD | refine wS ?_ GE241.out) | exact HB.out)) hb); clear BK241; clear HB; have BK241 := n0_; have HB := n1_; clear n0_ n1_; (try clear hb); (try clear hb2); (try clear hk); (try clear hi)))
     refine bodyPost_ret (results_list (rs := [.tmp 8, .tmp 9, .tmp 10, .tmp 11]) rfl (by simp) (.tmp (.tmp (.tmp (.tmp .nil))))) rfl ?_
     exact ⟨_, by first | rfl | (simp [errW_none, errW_some] <;> rfl) | (simp [*, errW_none, errW_some] <;> rfl), by first | exact Kd.R_nil _ _ _ _ _ | exact Kd.N_nil _ _ _ _ _ | exact Kd.V_nil _ _ _ _ _ | exact Kd.Q_nil _ _ _ _ _ | exact Kd.S_nil _ _ _ _ _, by repeat (first | (with_reducible first | exact HB.out | apply wA | apply wN | apply wD | refine wS ?_ GE241.out) | exact HB.out)⟩

/-! ### ndjqlaw20_ScanResolve: function 3 -/
def ndjqlaw20_ScanResolve.f (k : Nat) (a0 : Int) (a1 : Int) (a2 : Int) (a3_0 : Int) (a3_1 : Int) (a3_2 : Int) (a3_3 : Int) (l3_4 : List Int) (l3_5 : List Int) (l3_6 : List Int) : Option (Bool) := if (wrap64 ((wrap64 ((l3_4.length : Int) + (l3_5.length : Int))) + (l3_6.length : Int))) > 60 then ((ndjqlaw20_awake.f k).bind fun t249 => (some t249)) else ((scan_Resolve.f k a0 a1 a2 a3_0 a3_1 a3_2 a3_3 l3_4 l3_5 l3_6).bind fun bt250 => ((ndjqref20_Resolve.f k a0 a1 a2 a3_0 a3_1 a3_2 a3_3 l3_4 l3_5 l3_6).bind fun bt256 => ((ndjqkeep_Spans.f k bt250.1 bt256.1).bind fun t262 => (if t262 = true then (if bt250.2.1 = bt256.2.1 then (if bt250.2.2.1 = bt256.2.2.1 then (if bt250.2.2.2 = bt256.2.2.2 then ((ndjqlaw20_awake.f k).bind fun t263 => (some t263)) else (some false)) else (some false)) else (some false)) else (some false)))))
theorem ndjqlaw20_ScanResolve.mono : ∀ a0 a1 a2 a3 a4 a5 a6 a7 a8 a9 k, LeO (ndjqlaw20_ScanResolve.f k a0 a1 a2 a3 a4 a5 a6 a7 a8 a9) (ndjqlaw20_ScanResolve.f (k + 1) a0 a1 a2 a3 a4 a5 a6 a7 a8 a9) := by
 intro a0 a1 a2 a3 a4 a5 a6 a7 a8 a9 k
 unfold ndjqlaw20_ScanResolve.f
 repeat' first
   | (with_reducible exact ndjqkeep_Spans.mono _ _ _)
   | (with_reducible exact ndjqlaw20_awake.mono _)
   | (with_reducible exact ndjqref20_Resolve.mono _ _ _ _ _ _ _ _ _ _ _)
   | (with_reducible exact scan_Resolve.mono _ _ _ _ _ _ _ _ _ _ _)
   | (with_reducible exact LeO.refl _)
   | (with_reducible exact LeO.none _)
   | (with_reducible refine LeO.ite ?_ ?_)
   | (with_reducible refine LeO.bind ?_ (fun _ => ?_))
   | exact ndjqkeep_Spans.mono _ _ _
   | exact ndjqlaw20_awake.mono _
   | exact ndjqref20_Resolve.mono _ _ _ _ _ _ _ _ _ _ _
   | exact scan_Resolve.mono _ _ _ _ _ _ _ _ _ _ _
   | exact LeO.none _
   | refine LeO.ite ?_ ?_
   | refine LeO.bind ?_ (fun _ => ?_)
set_option maxHeartbeats 8000000 in
set_option maxRecDepth 100000 in
theorem ndjqlaw20_ScanResolve.calls (k : Nat) (a0 : Int) (a1 : Int) (a2 : Int) (a3_0 : Int) (a3_1 : Int) (a3_2 : Int) (a3_3 : Int) (A3_4 : Option Addr) (c3_4 : Nat) (l3_4 : List Int) (A3_5 : Option Addr) (c3_5 : Nat) (l3_5 : List Int) (A3_6 : Option Addr) (c3_6 : Nat) (l3_6 : List Int) (r : Bool) (w : World) (hr3_4 : Kd.C (Kd.int .i64) w A3_4 l3_4.length l3_4) (hc3_4 : l3_4.length ≤ c3_4) (hr3_5 : Kd.C (Kd.int .i64) w A3_5 l3_5.length l3_5) (hc3_5 : l3_5.length ≤ c3_5) (hr3_6 : Kd.C (Kd.int .i64) w A3_6 l3_6.length l3_6) (hc3_6 : l3_6.length ≤ c3_6) (hG : GlbLaid w) (h : ndjqlaw20_ScanResolve.f k a0 a1 a2 a3_0 a3_1 a3_2 a3_3 l3_4 l3_5 l3_6 = some r) :
  Calls Tryd.prog 3 #[.int .i64 a0, .int .i64 a1, .int .i64 a2, .agg #[.int .i64 a3_0, .int .i64 a3_1, .int .i64 a3_2, .int .i64 a3_3, .slice A3_4 l3_4.length c3_4, .slice A3_5 l3_5.length c3_5, .slice A3_6 l3_6.length c3_6]] w fun e w' => e = .returned (.bool r) ∧ Below w.heap.size w w' := by
 have hu26 := Tryd.underlying26
 have HR3_4 := Aside0.mk hr3_4
 have HC3_4 := Aside0.mk hc3_4
 clear hr3_4 hc3_4
 have HR3_5 := Aside0.mk hr3_5
 have HC3_5 := Aside0.mk hc3_5
 clear hr3_5 hc3_5
 have HR3_6 := Aside0.mk hr3_6
 have HC3_6 := Aside0.mk hc3_6
 clear hr3_6 hc3_6
 have HG := Aside0.mk hG
 clear hG
 have HB := Aside0.mk (Below.refl w.heap.size w)
 have H : (if (wrap64 ((wrap64 ((l3_4.length : Int) + (l3_5.length : Int))) + (l3_6.length : Int))) > 60 then ((ndjqlaw20_awake.f k).bind fun t249 => (some t249)) else ((scan_Resolve.f k a0 a1 a2 a3_0 a3_1 a3_2 a3_3 l3_4 l3_5 l3_6).bind fun bt250 => ((ndjqref20_Resolve.f k a0 a1 a2 a3_0 a3_1 a3_2 a3_3 l3_4 l3_5 l3_6).bind fun bt256 => ((ndjqkeep_Spans.f k bt250.1 bt256.1).bind fun t262 => (if t262 = true then (if bt250.2.1 = bt256.2.1 then (if bt250.2.2.1 = bt256.2.2.1 then (if bt250.2.2.2 = bt256.2.2.2 then ((ndjqlaw20_awake.f k).bind fun t263 => (some t263)) else (some false)) else (some false)) else (some false)) else (some false)))))) = some r := h
 clear h
 by_cases c5 : (wrap64 ((wrap64 ((l3_4.length : Int) + (l3_5.length : Int))) + (l3_6.length : Int))) > 60
 ·rw [if_pos c5] at H
  have c5b0 : decide (60 < (wrap64 ((wrap64 ((l3_4.length : Int) + (l3_5.length : Int))) + (l3_6.length : Int)))) = true := decide_eq_true c5
  clear c5
  replace H := Option.bind_eq_some_iff.mp H
  obtain ⟨t249, A60, H⟩ := H
  replace H : (some t249) = some r := H
  have A6 := Aside0.mk A60
  clear A60
  obtain rfl := Option.some.inj H
  go_enter Tryd.func3, Tryd.ntmps3
  go_wp2_with (first | ((with_reducible refine gate_dst (N := 7) rfl ?_); refine box_event ?hg (N := 7) ?hd (cs := #[.int .i64 a3_0, .int .i64 a3_1, .int .i64 a3_2, .int .i64 a3_3, .slice A3_4 l3_4.length c3_4, .slice A3_5 l3_5.length c3_5, .slice A3_6 l3_6.length c3_6]) (t := 26) ?hr ?_; (case hd => rfl); (case hg => rfl); (case hr => first | (go_simp; done) | (go_simp; rfl)); intro gb248 hg w7 hbox hb; have n0_ := Aside0.mk (below_step (by repeat (first | (with_reducible first | exact HB.out | apply wA | apply wN | apply wD) | exact HB.out)) hb); have n1_ := Aside0.mk (hbox); have n2_ := Aside0.mk ((by rw [hg]; exact (below_size (by repeat (first | (with_reducible first | exact HB.out | apply wA | apply wN | apply wD) | exact HB.out))) : w.heap.size ≤ gb248)); have n3_ := n2_; clear HB; have HB := n0_; have BK248 := n1_; have GW248 := n2_; have GE248 := n3_; clear n0_ n1_ n2_ n3_; clear hb hbox hg; have hcz8_0 : w7.cell? ⟨gb248, 0, none⟩ = some (.int .i64 a3_0) := (blk_cell BK248.out 0).trans rfl; have hcz8_1 : w7.cell? ⟨gb248, 1, none⟩ = some (.int .i64 a3_1) := (blk_cell BK248.out 1).trans rfl; have hcz8_2 : w7.cell? ⟨gb248, 2, none⟩ = some (.int .i64 a3_2) := (blk_cell BK248.out 2).trans rfl; have hcz8_3 : w7.cell? ⟨gb248, 3, none⟩ = some (.int .i64 a3_3) := (blk_cell BK248.out 3).trans rfl; have hcz8_4 : w7.cell? ⟨gb248, 4, none⟩ = some (.slice A3_4 l3_4.length c3_4) := (blk_cell BK248.out 4).trans rfl; have hcz8_5 : w7.cell? ⟨gb248, 5, none⟩ = some (.slice A3_5 l3_5.length c3_5) := (blk_cell BK248.out 5).trans rfl; have hcz8_6 : w7.cell? ⟨gb248, 6, none⟩ = some (.slice A3_6 l3_6.length c3_6) := (blk_cell BK248.out 6).trans rfl; have hfz8_0 := blk_frozen BK248.out 0; have hfz8_1 := blk_frozen BK248.out 1; have hfz8_2 := blk_frozen BK248.out 2; have hfz8_3 := blk_frozen BK248.out 3; have hfz8_4 := blk_frozen BK248.out 4; have hfz8_5 := blk_frozen BK248.out 5; have hfz8_6 := blk_frozen BK248.out 6) | ((with_reducible refine gate_callee (f := 9) rfl ?_); refine goesL_ (some 32) rfl rfl Tryd.func9 (by kernel_rfl) rfl #[] rfl (by (try simp only [List.map_toArray, List.map_cons, List.map_nil]); first | done | rfl | (simp only [List.length_drop, List.length_take]; rfl)) ?_; (with_reducible refine (ndjqlaw20_awake.calls k  t249 _ ?side1 A6.out).mono ?_); (case side1 => exact GlbLaid.below HG.out (by repeat (first | (with_reducible first | exact HB.out | apply wA | apply wN | apply wD | refine wS ?_ GE248.out) | exact HB.out))); rintro e w9 ⟨rfl, hb⟩; refine ⟨_, rfl, ?_⟩; have n0_ := Aside0.mk (blk_below (g := gb248) (o := .cells #[.int .i64 a3_0, .int .i64 a3_1, .int .i64 a3_2, .int .i64 a3_3, .slice A3_4 l3_4.length c3_4, .slice A3_5 l3_5.length c3_5, .slice A3_6 l3_6.length c3_6] 26 (0, 0)) (by (with_reducible repeat (first | refine bN ?_ _ | refine bD ?_ | refine bA ?_ _)); exact BK248.out) hb); have n1_ := Aside0.mk (below_step (by repeat (first | (with_reducible first | exact HB.out | apply wA | apply wN | apply wD | refine wS ?_ GE248.out) | exact HB.out)) hb); clear BK248; clear HB; have BK248 := n0_; have HB := n1_; clear n0_ n1_; (try clear hb); (try clear hb2); (try clear hk); (try clear hi)))
  go_ret
  exact ⟨by first | rfl | (simp [errW_none, errW_some] <;> rfl) | (simp [*, errW_none, errW_some] <;> rfl), by repeat (first | (with_reducible first | exact HB.out | apply wA | apply wN | apply wD | refine wS ?_ GE248.out) | exact HB.out)⟩
 ·rw [if_neg c5] at H
  have c5b0 : decide (60 < (wrap64 ((wrap64 ((l3_4.length : Int) + (l3_5.length : Int))) + (l3_6.length : Int)))) = false := decide_eq_false c5
  clear c5
  replace H := Option.bind_eq_some_iff.mp H
  obtain ⟨⟨t250, t253, t254, t255⟩, A100, H⟩ := H
  replace H : ((ndjqref20_Resolve.f k a0 a1 a2 a3_0 a3_1 a3_2 a3_3 l3_4 l3_5 l3_6).bind fun bt256 => ((ndjqkeep_Spans.f k t250 bt256.1).bind fun t262 => (if t262 = true then (if t253 = bt256.2.1 then (if t254 = bt256.2.2.1 then (if t255 = bt256.2.2.2 then ((ndjqlaw20_awake.f k).bind fun t263 => (some t263)) else (some false)) else (some false)) else (some false)) else (some false)))) = some r := H
  have A10 := Aside0.mk A100
  clear A100
  replace H := Option.bind_eq_some_iff.mp H
  obtain ⟨⟨t256, t259, t260, t261⟩, A110, H⟩ := H
  replace H : ((ndjqkeep_Spans.f k t250 t256).bind fun t262 => (if t262 = true then (if t253 = t259 then (if t254 = t260 then (if t255 = t261 then ((ndjqlaw20_awake.f k).bind fun t263 => (some t263)) else (some false)) else (some false)) else (some false)) else (some false))) = some r := H
  have A11 := Aside0.mk A110
  clear A110
  replace H := Option.bind_eq_some_iff.mp H
  obtain ⟨t262, A120, H⟩ := H
  replace H : (if t262 = true then (if t253 = t259 then (if t254 = t260 then (if t255 = t261 then ((ndjqlaw20_awake.f k).bind fun t263 => (some t263)) else (some false)) else (some false)) else (some false)) else (some false)) = some r := H
  have A12 := Aside0.mk A120
  clear A120
  have HF13 := Aside0.mk H
  clear H
  go_enter Tryd.func3, Tryd.ntmps3
  go_wp2_with (first | ((with_reducible refine gate_dst (N := 7) rfl ?_); refine box_event ?hg (N := 7) ?hd (cs := #[.int .i64 a3_0, .int .i64 a3_1, .int .i64 a3_2, .int .i64 a3_3, .slice A3_4 l3_4.length c3_4, .slice A3_5 l3_5.length c3_5, .slice A3_6 l3_6.length c3_6]) (t := 26) ?hr ?_; (case hd => rfl); (case hg => rfl); (case hr => first | (go_simp; done) | (go_simp; rfl)); intro gb248 hg w14 hbox hb; have n0_ := Aside0.mk (below_step (by repeat (first | (with_reducible first | exact HB.out | apply wA | apply wN | apply wD) | exact HB.out)) hb); have n1_ := Aside0.mk (hbox); have n2_ := Aside0.mk ((by rw [hg]; exact (below_size (by repeat (first | (with_reducible first | exact HB.out | apply wA | apply wN | apply wD) | exact HB.out))) : w.heap.size ≤ gb248)); have n3_ := n2_; clear HB; have HB := n0_; have BK248 := n1_; have GW248 := n2_; have GE248 := n3_; clear n0_ n1_ n2_ n3_; clear hb hbox hg; have hcz15_0 : w14.cell? ⟨gb248, 0, none⟩ = some (.int .i64 a3_0) := (blk_cell BK248.out 0).trans rfl; have hcz15_1 : w14.cell? ⟨gb248, 1, none⟩ = some (.int .i64 a3_1) := (blk_cell BK248.out 1).trans rfl; have hcz15_2 : w14.cell? ⟨gb248, 2, none⟩ = some (.int .i64 a3_2) := (blk_cell BK248.out 2).trans rfl; have hcz15_3 : w14.cell? ⟨gb248, 3, none⟩ = some (.int .i64 a3_3) := (blk_cell BK248.out 3).trans rfl; have hcz15_4 : w14.cell? ⟨gb248, 4, none⟩ = some (.slice A3_4 l3_4.length c3_4) := (blk_cell BK248.out 4).trans rfl; have hcz15_5 : w14.cell? ⟨gb248, 5, none⟩ = some (.slice A3_5 l3_5.length c3_5) := (blk_cell BK248.out 5).trans rfl; have hcz15_6 : w14.cell? ⟨gb248, 6, none⟩ = some (.slice A3_6 l3_6.length c3_6) := (blk_cell BK248.out 6).trans rfl; have hfz15_0 := blk_frozen BK248.out 0; have hfz15_1 := blk_frozen BK248.out 1; have hfz15_2 := blk_frozen BK248.out 2; have hfz15_3 := blk_frozen BK248.out 3; have hfz15_4 := blk_frozen BK248.out 4; have hfz15_5 := blk_frozen BK248.out 5; have hfz15_6 := blk_frozen BK248.out 6) | ((with_reducible refine gate_callee (f := 10) rfl ?_); refine goesL_ (some 38) rfl rfl Tryd.func10 (by kernel_rfl) rfl #[.int .i64 a0, .int .i64 a1, .int .i64 a2, .agg #[.int .i64 a3_0, .int .i64 a3_1, .int .i64 a3_2, .int .i64 a3_3, .slice A3_4 l3_4.length c3_4, .slice A3_5 l3_5.length c3_5, .slice A3_6 l3_6.length c3_6]] rfl (by (try simp only [List.map_toArray, List.map_cons, List.map_nil]); first | done | rfl | (simp only [List.length_drop, List.length_take]; rfl)) ?_; (with_reducible refine (scan_Resolve.calls k a0 a1 a2 a3_0 a3_1 a3_2 a3_3 _ _ l3_4 _ _ l3_5 _ _ l3_6 t250 t253 t254 t255 _ ?side1 ?side2 ?side3 ?side4 ?side5 ?side6 A10.out).mono ?_); (case side1 => repeat (first | exact (Kd.C_below HR3_4.out HB.out) | (with_reducible refine Kd.C_alloc ?_ _) | (with_reducible refine Kd.C_drewN ?_ _) | (with_reducible refine Kd.C_drew ?_))); (case side2 => exact HC3_4.out); (case side3 => repeat (first | exact (Kd.C_below HR3_5.out HB.out) | (with_reducible refine Kd.C_alloc ?_ _) | (with_reducible refine Kd.C_drewN ?_ _) | (with_reducible refine Kd.C_drew ?_))); (case side4 => exact HC3_5.out); (case side5 => repeat (first | exact (Kd.C_below HR3_6.out HB.out) | (with_reducible refine Kd.C_alloc ?_ _) | (with_reducible refine Kd.C_drewN ?_ _) | (with_reducible refine Kd.C_drew ?_))); (case side6 => exact HC3_6.out); rintro e w16 ⟨v251, rfl, ho0, hb⟩; refine ⟨_, rfl, ?_⟩; have n0_ := Aside0.mk (Kd.R_lower ho0 (below_size (by repeat (first | (with_reducible first | exact HB.out | apply wA | apply wN | apply wD | refine wS ?_ GE248.out) | exact HB.out)))); have n1_ := Aside0.mk (blk_below (g := gb248) (o := .cells #[.int .i64 a3_0, .int .i64 a3_1, .int .i64 a3_2, .int .i64 a3_3, .slice A3_4 l3_4.length c3_4, .slice A3_5 l3_5.length c3_5, .slice A3_6 l3_6.length c3_6] 26 (0, 0)) (by (with_reducible repeat (first | refine bN ?_ _ | refine bD ?_ | refine bA ?_ _)); exact BK248.out) hb); have n2_ := Aside0.mk (below_step (by repeat (first | (with_reducible first | exact HB.out | apply wA | apply wN | apply wD | refine wS ?_ GE248.out) | exact HB.out)) hb); clear BK248; clear HB; have HO252 := n0_; have BK248 := n1_; have HB := n2_; clear n0_ n1_ n2_; (try clear hb); (try clear hb2); (try clear hk); (try clear hi); (try clear ho0); have hcz17_0 : w16.cell? ⟨gb248, 0, none⟩ = some (.int .i64 a3_0) := (blk_cell BK248.out 0).trans rfl; have hcz17_1 : w16.cell? ⟨gb248, 1, none⟩ = some (.int .i64 a3_1) := (blk_cell BK248.out 1).trans rfl; have hcz17_2 : w16.cell? ⟨gb248, 2, none⟩ = some (.int .i64 a3_2) := (blk_cell BK248.out 2).trans rfl; have hcz17_3 : w16.cell? ⟨gb248, 3, none⟩ = some (.int .i64 a3_3) := (blk_cell BK248.out 3).trans rfl; have hcz17_4 : w16.cell? ⟨gb248, 4, none⟩ = some (.slice A3_4 l3_4.length c3_4) := (blk_cell BK248.out 4).trans rfl; have hcz17_5 : w16.cell? ⟨gb248, 5, none⟩ = some (.slice A3_5 l3_5.length c3_5) := (blk_cell BK248.out 5).trans rfl; have hcz17_6 : w16.cell? ⟨gb248, 6, none⟩ = some (.slice A3_6 l3_6.length c3_6) := (blk_cell BK248.out 6).trans rfl; have hfz17_0 := blk_frozen BK248.out 0; have hfz17_1 := blk_frozen BK248.out 1; have hfz17_2 := blk_frozen BK248.out 2; have hfz17_3 := blk_frozen BK248.out 3; have hfz17_4 := blk_frozen BK248.out 4; have hfz17_5 := blk_frozen BK248.out 5; have hfz17_6 := blk_frozen BK248.out 6) | ((with_reducible refine gate_callee (f := 11) rfl ?_); refine goesL_ (some 48) rfl rfl Tryd.func11 (by kernel_rfl) rfl #[.int .i64 a0, .int .i64 a1, .int .i64 a2, .agg #[.int .i64 a3_0, .int .i64 a3_1, .int .i64 a3_2, .int .i64 a3_3, .slice A3_4 l3_4.length c3_4, .slice A3_5 l3_5.length c3_5, .slice A3_6 l3_6.length c3_6]] rfl (by (try simp only [List.map_toArray, List.map_cons, List.map_nil]); first | done | rfl | (simp only [List.length_drop, List.length_take]; rfl)) ?_; (with_reducible refine (ndjqref20_Resolve.calls k a0 a1 a2 a3_0 a3_1 a3_2 a3_3 _ _ l3_4 _ _ l3_5 _ _ l3_6 t256 t259 t260 t261 _ ?side1 ?side2 ?side3 ?side4 ?side5 ?side6 A11.out).mono ?_); (case side1 => repeat (first | exact (Kd.C_below HR3_4.out HB.out) | (with_reducible refine Kd.C_alloc ?_ _) | (with_reducible refine Kd.C_drewN ?_ _) | (with_reducible refine Kd.C_drew ?_))); (case side2 => exact HC3_4.out); (case side3 => repeat (first | exact (Kd.C_below HR3_5.out HB.out) | (with_reducible refine Kd.C_alloc ?_ _) | (with_reducible refine Kd.C_drewN ?_ _) | (with_reducible refine Kd.C_drew ?_))); (case side4 => exact HC3_5.out); (case side5 => repeat (first | exact (Kd.C_below HR3_6.out HB.out) | (with_reducible refine Kd.C_alloc ?_ _) | (with_reducible refine Kd.C_drewN ?_ _) | (with_reducible refine Kd.C_drew ?_))); (case side6 => exact HC3_6.out); rintro e w18 ⟨v257, rfl, ho0, hb⟩; refine ⟨_, rfl, ?_⟩; have n0_ := Aside0.mk (Kd.R_elder' (by (with_reducible repeat (first | apply rA | apply rN | apply rD)); exact HO252.out) (Kd.R_base ho0) hb); have n1_ := Aside0.mk (Kd.R_lower (Kd.R_new' ho0 (Kd.R_lt (by (with_reducible repeat (first | apply rA | apply rN | apply rD)); exact HO252.out))) (below_size (by repeat (first | (with_reducible first | exact HB.out | apply wA | apply wN | apply wD | refine wS ?_ GE248.out) | exact HB.out)))); have n2_ := Aside0.mk (blk_below (g := gb248) (o := .cells #[.int .i64 a3_0, .int .i64 a3_1, .int .i64 a3_2, .int .i64 a3_3, .slice A3_4 l3_4.length c3_4, .slice A3_5 l3_5.length c3_5, .slice A3_6 l3_6.length c3_6] 26 (0, 0)) (by (with_reducible repeat (first | refine bN ?_ _ | refine bD ?_ | refine bA ?_ _)); exact BK248.out) hb); have n3_ := Aside0.mk (below_step (by repeat (first | (with_reducible first | exact HB.out | apply wA | apply wN | apply wD | refine wS ?_ GE248.out) | exact HB.out)) hb); clear HO252; clear BK248; clear HB; have HO252 := n0_; have HO258 := n1_; have BK248 := n2_; have HB := n3_; clear n0_ n1_ n2_ n3_; (try clear hb); (try clear hb2); (try clear hk); (try clear hi); (try clear ho0)))
  have H := HF13.out
  clear HF13
  by_cases c19 : t262 = true
  ·subst c19
   have H1 : (if t253 = t259 then (if t254 = t260 then (if t255 = t261 then ((ndjqlaw20_awake.f k).bind fun t263 => (some t263)) else (some false)) else (some false)) else (some false)) = some r := by rw [if_pos rfl] at H; exact H
   clear H; have H := H1; clear H1
   by_cases c20 : t253 = t259
   ·rw [if_pos c20] at H
    have c20b0 : (t253 == t259) = true := beq_iff_eq.mpr c20
    have c20b1 : (t253 != t259) = false := bne_eq_false_iff_eq.mpr c20
    clear c20
    by_cases c21 : t254 = t260
    ·rw [if_pos c21] at H
     have c21b0 : (t254 == t260) = true := beq_iff_eq.mpr c21
     have c21b1 : (t254 != t260) = false := bne_eq_false_iff_eq.mpr c21
     clear c21
     by_cases c22 : t255 = t261
     ·rw [if_pos c22] at H
      have c22b0 : (t255 == t261) = true := beq_iff_eq.mpr c22
      have c22b1 : (t255 != t261) = false := bne_eq_false_iff_eq.mpr c22
      clear c22
      replace H := Option.bind_eq_some_iff.mp H
      obtain ⟨t263, A230, H⟩ := H
      replace H : (some t263) = some r := H
      have A23 := Aside0.mk A230
      clear A230
      obtain rfl := Option.some.inj H
      obtain ⟨Ao24, co24, eo24⟩ := Kd.R_slice HO252.out
      subst eo24
      obtain ⟨Ao25, co25, eo25⟩ := Kd.R_slice HO258.out
      subst eo25
      go_wp2_with (first | (go_at_call 12; (with_reducible refine (ndjqkeep_Spans.calls k _ _ t250 _ _ t256 true _ ?side1 ?side2 ?side3 ?side4 A12.out).mono ?_); (case side1 => repeat (first | exact (Kd.R_reads' HO252.out).2.2 | (with_reducible refine Kd.C_alloc ?_ _) | (with_reducible refine Kd.C_drewN ?_ _) | (with_reducible refine Kd.C_drew ?_))); (case side2 => exact (Kd.R_reads' HO252.out).2.1); (case side3 => repeat (first | exact (Kd.R_reads' HO258.out).2.2 | (with_reducible refine Kd.C_alloc ?_ _) | (with_reducible refine Kd.C_drewN ?_ _) | (with_reducible refine Kd.C_drew ?_))); (case side4 => exact (Kd.R_reads' HO258.out).2.1); rintro e w' ⟨rfl, ⟨nd, rfl⟩⟩) | (go_at_call 9; (with_reducible refine (ndjqlaw20_awake.calls k  t263 _ ?side1 A23.out).mono ?_); (case side1 => exact GlbLaid.below HG.out (by repeat (first | (with_reducible first | exact HB.out | apply wA | apply wN | apply wD | refine wS ?_ GE248.out) | exact HB.out))); rintro e w26 ⟨rfl, hb⟩; have n0_ := Aside0.mk (Kd.R_below (by (with_reducible repeat (first | apply rA | apply rN | apply rD)); exact HO252.out) hb); have n1_ := Aside0.mk (Kd.R_below (by (with_reducible repeat (first | apply rA | apply rN | apply rD)); exact HO258.out) hb); have n2_ := Aside0.mk (blk_below (g := gb248) (o := .cells #[.int .i64 a3_0, .int .i64 a3_1, .int .i64 a3_2, .int .i64 a3_3, .slice A3_4 l3_4.length c3_4, .slice A3_5 l3_5.length c3_5, .slice A3_6 l3_6.length c3_6] 26 (0, 0)) (by (with_reducible repeat (first | refine bN ?_ _ | refine bD ?_ | refine bA ?_ _)); exact BK248.out) hb); have n3_ := Aside0.mk (below_step (by repeat (first | (with_reducible first | exact HB.out | apply wA | apply wN | apply wD | refine wS ?_ GE248.out) | exact HB.out)) hb); clear HO252; clear HO258; clear BK248; clear HB; have HO252 := n0_; have HO258 := n1_; have BK248 := n2_; have HB := n3_; clear n0_ n1_ n2_ n3_; (try clear hb); (try clear hb2); (try clear hk); (try clear hi)))
      go_ret
      exact ⟨by first | rfl | (simp [errW_none, errW_some] <;> rfl) | (simp [*, errW_none, errW_some] <;> rfl), by repeat (first | (with_reducible first | exact HB.out | apply wA | apply wN | apply wD | refine wS ?_ GE248.out) | exact HB.out)⟩
     ·rw [if_neg c22] at H
      have c22b0 : (t255 == t261) = false := beq_eq_false_iff_ne.mpr c22
      have c22b1 : (t255 != t261) = true := bne_iff_ne.mpr c22
      obtain rfl := Option.some.inj H
      obtain ⟨Ao27, co27, eo27⟩ := Kd.R_slice HO252.out
      subst eo27
      obtain ⟨Ao28, co28, eo28⟩ := Kd.R_slice HO258.out
      subst eo28
      go_wp2_with (first | (go_at_call 12; (with_reducible refine (ndjqkeep_Spans.calls k _ _ t250 _ _ t256 true _ ?side1 ?side2 ?side3 ?side4 A12.out).mono ?_); (case side1 => repeat (first | exact (Kd.R_reads' HO252.out).2.2 | (with_reducible refine Kd.C_alloc ?_ _) | (with_reducible refine Kd.C_drewN ?_ _) | (with_reducible refine Kd.C_drew ?_))); (case side2 => exact (Kd.R_reads' HO252.out).2.1); (case side3 => repeat (first | exact (Kd.R_reads' HO258.out).2.2 | (with_reducible refine Kd.C_alloc ?_ _) | (with_reducible refine Kd.C_drewN ?_ _) | (with_reducible refine Kd.C_drew ?_))); (case side4 => exact (Kd.R_reads' HO258.out).2.1); rintro e w' ⟨rfl, ⟨nd, rfl⟩⟩))
      go_ret
      exact ⟨by first | rfl | (simp [errW_none, errW_some] <;> rfl) | (simp [*, errW_none, errW_some] <;> rfl), by repeat (first | (with_reducible first | exact HB.out | apply wA | apply wN | apply wD | refine wS ?_ GE248.out) | exact HB.out)⟩
    ·rw [if_neg c21] at H
     have c21b0 : (t254 == t260) = false := beq_eq_false_iff_ne.mpr c21
     have c21b1 : (t254 != t260) = true := bne_iff_ne.mpr c21
     obtain rfl := Option.some.inj H
     obtain ⟨Ao29, co29, eo29⟩ := Kd.R_slice HO252.out
     subst eo29
     obtain ⟨Ao30, co30, eo30⟩ := Kd.R_slice HO258.out
     subst eo30
     go_wp2_with (first | (go_at_call 12; (with_reducible refine (ndjqkeep_Spans.calls k _ _ t250 _ _ t256 true _ ?side1 ?side2 ?side3 ?side4 A12.out).mono ?_); (case side1 => repeat (first | exact (Kd.R_reads' HO252.out).2.2 | (with_reducible refine Kd.C_alloc ?_ _) | (with_reducible refine Kd.C_drewN ?_ _) | (with_reducible refine Kd.C_drew ?_))); (case side2 => exact (Kd.R_reads' HO252.out).2.1); (case side3 => repeat (first | exact (Kd.R_reads' HO258.out).2.2 | (with_reducible refine Kd.C_alloc ?_ _) | (with_reducible refine Kd.C_drewN ?_ _) | (with_reducible refine Kd.C_drew ?_))); (case side4 => exact (Kd.R_reads' HO258.out).2.1); rintro e w' ⟨rfl, ⟨nd, rfl⟩⟩))
     go_ret
     exact ⟨by first | rfl | (simp [errW_none, errW_some] <;> rfl) | (simp [*, errW_none, errW_some] <;> rfl), by repeat (first | (with_reducible first | exact HB.out | apply wA | apply wN | apply wD | refine wS ?_ GE248.out) | exact HB.out)⟩
   ·rw [if_neg c20] at H
    have c20b0 : (t253 == t259) = false := beq_eq_false_iff_ne.mpr c20
    have c20b1 : (t253 != t259) = true := bne_iff_ne.mpr c20
    obtain rfl := Option.some.inj H
    obtain ⟨Ao31, co31, eo31⟩ := Kd.R_slice HO252.out
    subst eo31
    obtain ⟨Ao32, co32, eo32⟩ := Kd.R_slice HO258.out
    subst eo32
    go_wp2_with (first | (go_at_call 12; (with_reducible refine (ndjqkeep_Spans.calls k _ _ t250 _ _ t256 true _ ?side1 ?side2 ?side3 ?side4 A12.out).mono ?_); (case side1 => repeat (first | exact (Kd.R_reads' HO252.out).2.2 | (with_reducible refine Kd.C_alloc ?_ _) | (with_reducible refine Kd.C_drewN ?_ _) | (with_reducible refine Kd.C_drew ?_))); (case side2 => exact (Kd.R_reads' HO252.out).2.1); (case side3 => repeat (first | exact (Kd.R_reads' HO258.out).2.2 | (with_reducible refine Kd.C_alloc ?_ _) | (with_reducible refine Kd.C_drewN ?_ _) | (with_reducible refine Kd.C_drew ?_))); (case side4 => exact (Kd.R_reads' HO258.out).2.1); rintro e w' ⟨rfl, ⟨nd, rfl⟩⟩))
    go_ret
    exact ⟨by first | rfl | (simp [errW_none, errW_some] <;> rfl) | (simp [*, errW_none, errW_some] <;> rfl), by repeat (first | (with_reducible first | exact HB.out | apply wA | apply wN | apply wD | refine wS ?_ GE248.out) | exact HB.out)⟩
  ·replace c19 := Bool.eq_false_iff.mpr c19
   subst c19
   have H1 : (some false) = some r := by rw [if_neg (show ¬ (false = true) by decide)] at H; exact H
   clear H; have H := H1; clear H1
   obtain rfl := Option.some.inj H
   obtain ⟨Ao33, co33, eo33⟩ := Kd.R_slice HO252.out
   subst eo33
   obtain ⟨Ao34, co34, eo34⟩ := Kd.R_slice HO258.out
   subst eo34
   go_wp2_with (first | (go_at_call 12; (with_reducible refine (ndjqkeep_Spans.calls k _ _ t250 _ _ t256 false _ ?side1 ?side2 ?side3 ?side4 A12.out).mono ?_); (case side1 => repeat (first | exact (Kd.R_reads' HO252.out).2.2 | (with_reducible refine Kd.C_alloc ?_ _) | (with_reducible refine Kd.C_drewN ?_ _) | (with_reducible refine Kd.C_drew ?_))); (case side2 => exact (Kd.R_reads' HO252.out).2.1); (case side3 => repeat (first | exact (Kd.R_reads' HO258.out).2.2 | (with_reducible refine Kd.C_alloc ?_ _) | (with_reducible refine Kd.C_drewN ?_ _) | (with_reducible refine Kd.C_drew ?_))); (case side4 => exact (Kd.R_reads' HO258.out).2.1); rintro e w' ⟨rfl, ⟨nd, rfl⟩⟩))
   go_ret
   exact ⟨by first | rfl | (simp [errW_none, errW_some] <;> rfl) | (simp [*, errW_none, errW_some] <;> rfl), by repeat (first | (with_reducible first | exact HB.out | apply wA | apply wN | apply wD | refine wS ?_ GE248.out) | exact HB.out)⟩

-- what came in
/-- What is known of a value of struct type 22 that came in. -/
def Wf22 (x : S22) : Prop := (Lit.int .i64 x.f0).wf = true ∧ (Lit.int .i64 x.f1).wf = true ∧ (Lit.int .i64 x.f2).wf = true
/-- What is known of a value of struct type 24 that came in. -/
def Wf24 (x : S24) : Prop := (x.f0.length * 8 ≤ 140737488351232 ∧ ∀ q1 ∈ x.f0, (Lit.int .i64 q1).wf = true) ∧ (x.f1.length * 8 ≤ 140737488351232 ∧ ∀ q1 ∈ x.f1, (Lit.int .i64 q1).wf = true) ∧ (x.f2.length * 8 ≤ 140737488351232 ∧ ∀ q1 ∈ x.f2, (Lit.int .i64 q1).wf = true)
/-- What is known of a value of struct type 26 that came in. -/
def Wf26 (x : S26) : Prop := (Lit.int .i64 x.f0).wf = true ∧ Wf22 x.f1 ∧ Wf24 x.f2
/-- THE ONE PURE STATEMENT of ndjqlaw20_ScanResolve: yours. -/
def ndjqlaw20_ScanResolve.Pure : Prop := ∀ (a0 : Int) (a1 : Int) (a2 : Int) (a3_0 : Int) (a3_1 : Int) (a3_2 : Int) (a3_3 : Int) (l3_4 : List Int) (l3_5 : List Int) (l3_6 : List Int), (Lit.int .i64 a0).wf = true → (Lit.int .i64 a1).wf = true → (Lit.int .i64 a2).wf = true → (Lit.int .i64 a3_0).wf = true → (Lit.int .i64 a3_1).wf = true → (Lit.int .i64 a3_2).wf = true → (Lit.int .i64 a3_3).wf = true → (l3_4.length * 8 ≤ 140737488351232 ∧ ∀ q1 ∈ l3_4, (Lit.int .i64 q1).wf = true) → (l3_5.length * 8 ≤ 140737488351232 ∧ ∀ q1 ∈ l3_5, (Lit.int .i64 q1).wf = true) → (l3_6.length * 8 ≤ 140737488351232 ∧ ∀ q1 ∈ l3_6, (Lit.int .i64 q1).wf = true) → ∃ k, ndjqlaw20_ScanResolve.f k a0 a1 a2 a3_0 a3_1 a3_2 a3_3 l3_4 l3_5 l3_6 = some true
theorem ndjqlaw20_ScanResolve.walk (P : ndjqlaw20_ScanResolve.Pure) (a0 : Int) (a1 : Int) (a2 : Int) (a3_0 : Int) (a3_1 : Int) (a3_2 : Int) (a3_3 : Int) (A3_4 : Option Addr) (c3_4 : Nat) (l3_4 : List Int) (A3_5 : Option Addr) (c3_5 : Nat) (l3_5 : List Int) (A3_6 : Option Addr) (c3_6 : Nat) (l3_6 : List Int) (w : World) (w0 : (Lit.int .i64 a0).wf = true) (w1 : (Lit.int .i64 a1).wf = true) (w2 : (Lit.int .i64 a2).wf = true) (w3_0 : (Lit.int .i64 a3_0).wf = true) (w3_1 : (Lit.int .i64 a3_1).wf = true) (w3_2 : (Lit.int .i64 a3_2).wf = true) (w3_3 : (Lit.int .i64 a3_3).wf = true) (hr3_4 : Kd.C (Kd.int .i64) w A3_4 l3_4.length l3_4) (hc3_4 : l3_4.length ≤ c3_4) (hw3_4 : (l3_4.length * 8 ≤ 140737488351232 ∧ ∀ q1 ∈ l3_4, (Lit.int .i64 q1).wf = true)) (hr3_5 : Kd.C (Kd.int .i64) w A3_5 l3_5.length l3_5) (hc3_5 : l3_5.length ≤ c3_5) (hw3_5 : (l3_5.length * 8 ≤ 140737488351232 ∧ ∀ q1 ∈ l3_5, (Lit.int .i64 q1).wf = true)) (hr3_6 : Kd.C (Kd.int .i64) w A3_6 l3_6.length l3_6) (hc3_6 : l3_6.length ≤ c3_6) (hw3_6 : (l3_6.length * 8 ≤ 140737488351232 ∧ ∀ q1 ∈ l3_6, (Lit.int .i64 q1).wf = true)) (hG : GlbLaid w) :
  Calls Tryd.prog 3 #[.int .i64 a0, .int .i64 a1, .int .i64 a2, .agg #[.int .i64 a3_0, .int .i64 a3_1, .int .i64 a3_2, .int .i64 a3_3, .slice A3_4 l3_4.length c3_4, .slice A3_5 l3_5.length c3_5, .slice A3_6 l3_6.length c3_6]] w fun e w' => e = .returned (.bool true) ∧ Below w.heap.size w w' := by
 obtain ⟨k, h⟩ := P a0 a1 a2 a3_0 a3_1 a3_2 a3_3 l3_4 l3_5 l3_6 w0 w1 w2 w3_0 w3_1 w3_2 w3_3 hw3_4 hw3_5 hw3_6
 refine (ndjqlaw20_ScanResolve.calls k a0 a1 a2 a3_0 a3_1 a3_2 a3_3 _ _ l3_4 _ _ l3_5 _ _ l3_6 true w hr3_4 hc3_4 hr3_5 hc3_5 hr3_6 hc3_6 hG h).mono ?_
 rintro e w' ⟨rfl, hd⟩
 exact ⟨rfl, hd⟩

end Go.Proofs.YtkhnifehcnlpjaaDoor.QScanResolve
