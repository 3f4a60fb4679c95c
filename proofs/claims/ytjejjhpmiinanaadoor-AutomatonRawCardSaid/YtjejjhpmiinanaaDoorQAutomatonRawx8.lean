-- by a program of this session (print2.py): the machine's side of one law; Lean checks it.
import Derived.Test.YtjejjhpmiinanaaDoorQAutomatonRawx0
import Derived.Test.YtjejjhpmiinanaaDoorQAutomatonRawx2
import Derived.Test.YtjejjhpmiinanaaDoorQAutomatonRawx5
import Derived.Test.YtjejjhpmiinanaaDoorQAutomatonRawx6
namespace Go.Proofs.YtjejjhpmiinanaaDoor.QAutomatonRaw
open Go.RowKit Go.Proofs.YtjejjhpmiinanaaDoorW.PrintWords Go.Proofs.YtjejjhpmiinanaaDoorW.PrintLast Go.Proofs.YtjejjhpmiinanaaDoorW.PrintMore
attribute [local go_sem] max2_int min2_int max_two min_two max_three min_three max_four min_four   -- for this text's walks alone
set_option linter.unusedVariables false
set_option linter.unusedSimpArgs false

/-! ### automaton_All: function 23 -/
def automaton_All.l0 : Nat → List (S29) → Int → Int → Int → Int → Int → Int → List Int → List Int → List Int → Option (Int × Int × Int × Int × List Int × List Int × List Int × Int)
 | 0, _, _, _, _, _, _, _, _, _, _ => none
 | k + 1, x9, x10, x11, x222000, x222001, x222002, x222003, x222004, x222005, x222006 => if x11 < x10 then (if 0 ≤ x11 then (if x11 < (x9.length : Int) then ((automaton_Compose.f k x222000 x222001 x222002 x222003 x222004 x222005 x222006 ((rd_T29 x9 x11).f0) ((rd_T29 x9 x11).f1.f0) ((rd_T29 x9 x11).f1.f1) ((rd_T29 x9 x11).f1.f2) ((rd_T29 x9 x11).f2.f0) ((rd_T29 x9 x11).f2.f1) ((rd_T29 x9 x11).f2.f2)).bind fun bt224 => (if bt224.2.2.2.2.2.2.2 = 0 then (automaton_All.l0 k x9 x10 (wrap64 (x11 + 1)) bt224.1 bt224.2.1 bt224.2.2.1 bt224.2.2.2.1 bt224.2.2.2.2.1 bt224.2.2.2.2.2.1 bt224.2.2.2.2.2.2.1) else (some (0, 0, 0, 0, ([] : List Int), ([] : List Int), ([] : List Int), bt224.2.2.2.2.2.2.2)))) else (none)) else (none)) else (some (x222000, x222001, x222002, x222003, x222004, x222005, x222006, 0))
def automaton_All.f (k : Nat) (l0 : List (S29)) : Option (Int × Int × Int × Int × List Int × List Int × List Int × Int) := (automaton_Empty.f).bind fun bt208 => (automaton_All.l0 k l0 (l0.length : Int) 0 bt208.1 bt208.2.1 bt208.2.2.1 bt208.2.2.2.1 bt208.2.2.2.2.1 bt208.2.2.2.2.2.1 bt208.2.2.2.2.2.2)
theorem automaton_All.mono_l : ∀ k, (∀ y0 y1 y2 y3 y4 y5 y6 y7 y8 y9, LeO (automaton_All.l0 k y0 y1 y2 y3 y4 y5 y6 y7 y8 y9) (automaton_All.l0 (k + 1) y0 y1 y2 y3 y4 y5 y6 y7 y8 y9))
 | 0 => fun _ _ _ _ _ _ _ _ _ _ r h => by simp [automaton_All.l0] at h
 | k + 1 => by
  have ih0 := automaton_All.mono_l k
  ·intro y0 y1 y2 y3 y4 y5 y6 y7 y8 y9
   unfold automaton_All.l0
   repeat' first
   | (with_reducible exact ih0 _ _ _ _ _ _ _ _ _ _)
   | (with_reducible exact automaton_Compose.mono _ _ _ _ _ _ _ _ _ _ _ _ _ _ _)
   | (with_reducible exact LeO.refl _)
   | (with_reducible exact LeO.none _)
   | (with_reducible refine LeO.ite ?_ ?_)
   | (with_reducible refine LeO.bind ?_ (fun _ => ?_))
   | exact ih0 _ _ _ _ _ _ _ _ _ _
   | exact automaton_Compose.mono _ _ _ _ _ _ _ _ _ _ _ _ _ _ _
   | exact LeO.none _
   | refine LeO.ite ?_ ?_
   | refine LeO.bind ?_ (fun _ => ?_)
theorem automaton_All.mono : ∀ a0 k, LeO (automaton_All.f k a0) (automaton_All.f (k + 1) a0) := by
 intro a0 k
 have ih0 := automaton_All.mono_l k
 unfold automaton_All.f
 repeat' first
   | (with_reducible exact ih0 _ _ _ _ _ _ _ _ _ _)
   | (with_reducible exact automaton_Compose.mono _ _ _ _ _ _ _ _ _ _ _ _ _ _ _)
   | (with_reducible exact LeO.refl _)
   | (with_reducible exact LeO.none _)
   | (with_reducible refine LeO.ite ?_ ?_)
   | (with_reducible refine LeO.bind ?_ (fun _ => ?_))
   | exact ih0 _ _ _ _ _ _ _ _ _ _
   | exact automaton_Compose.mono _ _ _ _ _ _ _ _ _ _ _ _ _ _ _
   | exact LeO.none _
   | refine LeO.ite ?_ ?_
   | refine LeO.bind ?_ (fun _ => ?_)
set_option maxHeartbeats 8000000 in
set_option maxRecDepth 100000 in
theorem automaton_All.calls (k : Nat) (A0 : Option Addr) (c0 : Nat) (l0 : List (S29)) (r1 : Int) (r2 : Int) (r3 : Int) (r4 : Int) (r5 : List Int) (r6 : List Int) (r7 : List Int) (r8 : Int) (w : World) (hr0 : Kd.C k29 w A0 l0.length l0) (hc0 : l0.length ≤ c0) (h : automaton_All.f k l0 = some (r1, r2, r3, r4, r5, r6, r7, r8)) :
  Calls Tryd.prog 23 #[.slice A0 l0.length c0] w fun e w' => ∃ v4_ v5_ v6_ : Value, e = .returned (.tuple #[.agg #[.int .i64 r1, .int .i64 r2, .int .i64 r3, .int .i64 r4, v4_, v5_, v6_], .int .i64 r8]) ∧ Kd.R (Kd.int .i64) 3 w' w.heap.size (fun k_ => some k_ ≠ (v5_ : Value).ownBlock ∧ some k_ ≠ (v6_ : Value).ownBlock) v4_ r5 ∧ Kd.R (Kd.int .i64) 3 w' w.heap.size (fun k_ => some k_ ≠ (v4_ : Value).ownBlock ∧ some k_ ≠ (v6_ : Value).ownBlock) v5_ r6 ∧ Kd.R (Kd.int .i64) 3 w' w.heap.size (fun k_ => some k_ ≠ (v4_ : Value).ownBlock ∧ some k_ ≠ (v5_ : Value).ownBlock) v6_ r7 ∧ Below w.heap.size w w' := by
 have hu29 := Tryd.underlying29
 have HR0 := Aside0.mk hr0
 have HC0 := Aside0.mk hc0
 clear hr0 hc0
 have HB := Aside0.mk (Below.refl w.heap.size w)
 have H : ((automaton_Empty.f).bind fun bt208 => (automaton_All.l0 k l0 (l0.length : Int) 0 bt208.1 bt208.2.1 bt208.2.2.1 bt208.2.2.2.1 bt208.2.2.2.2.1 bt208.2.2.2.2.2.1 bt208.2.2.2.2.2.2)) = some (r1, r2, r3, r4, r5, r6, r7, r8) := h
 clear h
 replace H := Option.bind_eq_some_iff.mp H
 obtain ⟨⟨t208, t209, t210, t211, t212, t215, t218⟩, A20, H⟩ := H
 replace H : (automaton_All.l0 k l0 (l0.length : Int) 0 t208 t209 t210 t211 t212 t215 t218) = some (r1, r2, r3, r4, r5, r6, r7, r8) := H
 have A2 := Aside0.mk A20
 clear A20
 have H' := Aside0.mk H
 clear H
 go_enter Tryd.func23, Tryd.ntmps23
 go_wp2_with (first | ((with_reducible refine gate_dst (N := 2) rfl ?_); refine box_event ?hg (N := 2) ?hd (cs := #[.int .i64 0, .int .i64 0, .int .i64 0, .int .i64 0, .slice none 0 0, .slice none 0 0, .slice none 0 0]) (t := 29) ?hr ?_; (case hd => rfl); (case hg => rfl); (case hr => first | (go_simp; done) | (go_simp; rfl)); intro gb207 hg w3 hbox hb; have n0_ := Aside0.mk (below_step (by repeat (first | (with_reducible first | exact HB.out | apply wA | apply wN | apply wD) | exact HB.out)) hb); have n1_ := Aside0.mk (hbox); have n2_ := Aside0.mk ((by rw [hg]; exact (below_size (by repeat (first | (with_reducible first | exact HB.out | apply wA | apply wN | apply wD) | exact HB.out))) : w.heap.size ≤ gb207)); have n3_ := n2_; clear HB; have HB := n0_; have BK207 := n1_; have GW207 := n2_; have GE207 := n3_; clear n0_ n1_ n2_ n3_; clear hb hbox hg) | ((with_reducible refine gate_callee (f := 15) rfl ?_); refine goesL_ (some 8) rfl rfl Tryd.func15 (by kernel_rfl) rfl #[] rfl (by (try simp only [List.map_toArray, List.map_cons, List.map_nil]); first | done | rfl | (simp only [List.length_drop, List.length_take]; rfl)) ?_; (with_reducible refine (automaton_Empty.calls  t208 t209 t210 t211 t212 t215 t218 _ A2.out).mono ?_); rintro e w4 ⟨v213, v216, v219, rfl, ho0, ho1, ho2, hb⟩; refine ⟨_, rfl, ?_⟩; have n0_ := Aside0.mk (Kd.R_lower ho0 (below_size (by repeat (first | (with_reducible first | exact HB.out | apply wA | apply wN | apply wD | refine wS ?_ GE207.out) | exact HB.out)))); have n1_ := Aside0.mk (Kd.R_lower ho1 (below_size (by repeat (first | (with_reducible first | exact HB.out | apply wA | apply wN | apply wD | refine wS ?_ GE207.out) | exact HB.out)))); have n2_ := Aside0.mk (Kd.R_lower ho2 (below_size (by repeat (first | (with_reducible first | exact HB.out | apply wA | apply wN | apply wD | refine wS ?_ GE207.out) | exact HB.out)))); have n3_ := Aside0.mk (blk_below (g := gb207) (o := .cells #[.int .i64 0, .int .i64 0, .int .i64 0, .int .i64 0, .slice none 0 0, .slice none 0 0, .slice none 0 0] 29 (0, 0)) (by (with_reducible repeat (first | refine bN ?_ _ | refine bD ?_ | refine bA ?_ _)); exact BK207.out) hb); have n4_ := Aside0.mk (below_step (by repeat (first | (with_reducible first | exact HB.out | apply wA | apply wN | apply wD | refine wS ?_ GE207.out) | exact HB.out)) hb); clear BK207; clear HB; have HO214 := n0_; have HO217 := n1_; have HO220 := n2_; have BK207 := n3_; have HB := n4_; clear n0_ n1_ n2_ n3_ n4_; (try clear hb); (try clear hb2); (try clear hk); (try clear hi); (try clear ho0); (try clear ho1); (try clear ho2)) | ((with_reducible refine gate_dst (N := 4) rfl ?_); refine box_event ?hg (N := 4) ?hd (cs := #[.int .i64 0, .int .i64 0, .int .i64 0, .int .i64 0, .slice none 0 0, .slice none 0 0, .slice none 0 0]) (t := 29) ?hr ?_; (case hd => rfl); (case hg => rfl); (case hr => first | (go_simp; done) | (go_simp; rfl)); intro gb221 hg w5 hbox hb; have n0_ := Aside0.mk (Kd.R_below (by (with_reducible repeat (first | apply rA | apply rN | apply rD)); exact HO214.out) hb); have n1_ := Aside0.mk (Kd.R_below (by (with_reducible repeat (first | apply rA | apply rN | apply rD)); exact HO217.out) hb); have n2_ := Aside0.mk (Kd.R_below (by (with_reducible repeat (first | apply rA | apply rN | apply rD)); exact HO220.out) hb); have n3_ := Aside0.mk (blk_below (g := gb207) (o := .cells #[.int .i64 0, .int .i64 0, .int .i64 0, .int .i64 0, .slice none 0 0, .slice none 0 0, .slice none 0 0] 29 (0, 0)) (by (with_reducible repeat (first | refine bN ?_ _ | refine bD ?_ | refine bA ?_ _)); exact BK207.out) hb); have n4_ := Aside0.mk (below_step (by repeat (first | (with_reducible first | exact HB.out | apply wA | apply wN | apply wD | refine wS ?_ GE207.out) | exact HB.out)) hb); have n5_ := Aside0.mk (hbox); have n6_ := Aside0.mk ((by rw [hg]; exact (below_size (by repeat (first | (with_reducible first | exact HB.out | apply wA | apply wN | apply wD | refine wS ?_ GE207.out) | exact HB.out))) : w.heap.size ≤ gb221)); have n7_ := n6_; have n8_ := Aside0.mk ((by rw [hg]; exact Nat.ne_of_lt (blk_lt (g := gb207) (o := .cells #[.int .i64 0, .int .i64 0, .int .i64 0, .int .i64 0, .slice none 0 0, .slice none 0 0, .slice none 0 0] 29 (0, 0)) (by (with_reducible repeat (first | refine bN ?_ _ | refine bD ?_ | refine bA ?_ _)); exact BK207.out)) : gb207 ≠ gb221)); have n9_ := Aside0.mk ((by rw [hg]; exact Nat.ne_of_gt (blk_lt (g := gb207) (o := .cells #[.int .i64 0, .int .i64 0, .int .i64 0, .int .i64 0, .slice none 0 0, .slice none 0 0, .slice none 0 0] 29 (0, 0)) (by (with_reducible repeat (first | refine bN ?_ _ | refine bD ?_ | refine bA ?_ _)); exact BK207.out)) : gb221 ≠ gb207)); clear HO214; clear HO217; clear HO220; clear BK207; clear HB; have HO214 := n0_; have HO217 := n1_; have HO220 := n2_; have BK207 := n3_; have HB := n4_; have BK221 := n5_; have GW221 := n6_; have GE221 := n7_; have NB207_221 := n8_; have NB221_207 := n9_; clear n0_ n1_ n2_ n3_ n4_ n5_ n6_ n7_ n8_ n9_; clear hb hbox hg; have hnb6 := NB221_207.out; have hnc6 := NB207_221.out; have hcz7_0 : w5.cell? ⟨gb221, 0, none⟩ = some (.int .i64 0) := (blk_cell BK221.out 0).trans rfl; have hcz7_1 : w5.cell? ⟨gb221, 1, none⟩ = some (.int .i64 0) := (blk_cell BK221.out 1).trans rfl; have hcz7_2 : w5.cell? ⟨gb221, 2, none⟩ = some (.int .i64 0) := (blk_cell BK221.out 2).trans rfl; have hcz7_3 : w5.cell? ⟨gb221, 3, none⟩ = some (.int .i64 0) := (blk_cell BK221.out 3).trans rfl; have hcz7_4 : w5.cell? ⟨gb221, 4, none⟩ = some (.slice none 0 0) := (blk_cell BK221.out 4).trans rfl; have hcz7_5 : w5.cell? ⟨gb221, 5, none⟩ = some (.slice none 0 0) := (blk_cell BK221.out 5).trans rfl; have hcz7_6 : w5.cell? ⟨gb221, 6, none⟩ = some (.slice none 0 0) := (blk_cell BK221.out 6).trans rfl; have hfz7_0 := blk_frozen BK221.out 0; have hfz7_1 := blk_frozen BK221.out 1; have hfz7_2 := blk_frozen BK221.out 2; have hfz7_3 := blk_frozen BK221.out 3; have hfz7_4 := blk_frozen BK221.out 4; have hfz7_5 := blk_frozen BK221.out 5; have hfz7_6 := blk_frozen BK221.out 6; obtain ⟨Ao8, co8, eo8⟩ := Kd.R_slice HO214.out; subst eo8; obtain ⟨Ao9, co9, eo9⟩ := Kd.R_slice HO217.out; subst eo9; obtain ⟨Ao10, co10, eo10⟩ := Kd.R_slice HO220.out; subst eo10))
 go_loopg [11] k (fun kq v11 w' => ∃ (x11_1 : Int) (x208000_1 : Int) (x208001_1 : Int) (x208002_1 : Int) (x208003_1 : Int) (x222000_1 : Int) (x222001_1 : Int) (x222002_1 : Int) (x222003_1 : Int) (x222004_1 : List Int) (x222005_1 : List Int) (x222006_1 : List Int) (u222004 : Value) (u222005 : Value) (u222006 : Value), v11 = .int .i64 x11_1 ∧ Aside0 (automaton_All.l0 kq l0 (l0.length : Int) x11_1 x222000_1 x222001_1 x222002_1 x222003_1 x222004_1 x222005_1 x222006_1 = some (r1, r2, r3, r4, r5, r6, r7, r8)) ∧ Aside0 (kq ≤ k) ∧ Aside0 (Kd.R (Kd.int .i64) 3 w' w.heap.size (fun k_ => some k_ ≠ (u222005 : Value).ownBlock ∧ some k_ ≠ (u222006 : Value).ownBlock) u222004 x222004_1) ∧ Aside0 (Kd.R (Kd.int .i64) 3 w' w.heap.size (fun k_ => some k_ ≠ (u222004 : Value).ownBlock ∧ some k_ ≠ (u222006 : Value).ownBlock) u222005 x222005_1) ∧ Aside0 (Kd.R (Kd.int .i64) 3 w' w.heap.size (fun k_ => some k_ ≠ (u222004 : Value).ownBlock ∧ some k_ ≠ (u222005 : Value).ownBlock) u222006 x222006_1) ∧ Aside0 (w'.heap[gb207]? = some (.cells #[.int .i64 x208000_1, .int .i64 x208001_1, .int .i64 x208002_1, .int .i64 x208003_1, (.slice none 0 0), (.slice none 0 0), (.slice none 0 0)] 29 (0, 0))) ∧ Aside0 (w'.heap[gb221]? = some (.cells #[.int .i64 x222000_1, .int .i64 x222001_1, .int .i64 x222002_1, .int .i64 x222003_1, u222004, u222005, u222006] 29 (0, 0))) ∧ Aside0 (Below w.heap.size w w'))
 case atStart => exact ⟨(0), (0), (0), (0), (0), (t208), (t209), (t210), (t211), (t212), (t215), (t218), (.slice Ao8 t212.length co8), (.slice Ao9 t215.length co9), (.slice Ao10 t218.length co10), (by first | rfl | (simp; done) | (simp [*]; done)), H', ⟨Nat.le_refl _⟩, ⟨by (with_reducible repeat (first | apply rA | apply rN | apply rD)); exact Kd.R_mono (R_fars7 gb221 (Kd.R_types HO214.out BK221.out (by decide)) (fun _ hk => hk.2) (.int .i64 t208) (.int .i64 t209) (.int .i64 t210) (.int .i64 t211) (.slice Ao8 t212.length co8) (.slice Ao9 t215.length co9) (.slice Ao10 t218.length co10)) (fun _ hk => hk.1)⟩, ⟨by (with_reducible repeat (first | apply rA | apply rN | apply rD)); exact Kd.R_mono (R_fars7 gb221 (Kd.R_types HO217.out BK221.out (by decide)) (fun _ hk => hk.2) (.int .i64 t208) (.int .i64 t209) (.int .i64 t210) (.int .i64 t211) (.slice Ao8 t212.length co8) (.slice Ao9 t215.length co9) (.slice Ao10 t218.length co10)) (fun _ hk => hk.1)⟩, ⟨by (with_reducible repeat (first | apply rA | apply rN | apply rD)); exact Kd.R_mono (R_fars7 gb221 (Kd.R_types HO220.out BK221.out (by decide)) (fun _ hk => hk.2) (.int .i64 t208) (.int .i64 t209) (.int .i64 t210) (.int .i64 t211) (.slice Ao8 t212.length co8) (.slice Ao9 t215.length co9) (.slice Ao10 t218.length co10)) (fun _ hk => hk.1)⟩, ⟨by (with_reducible repeat (first | refine bN ?_ _ | refine bD ?_ | refine bA ?_ _ | refine blk_far ?_ NB207_221.out _)); exact BK207.out⟩, ⟨by (with_reducible repeat (first | refine bN ?_ _ | refine bD ?_ | refine bA ?_ _)); refine blk_put (cs := #[.int .i64 t208, .int .i64 t209, .int .i64 t210, .int .i64 t211, .slice Ao8 t212.length co8, .slice Ao9 t215.length co9, .slice none 0 0]) ?_ 6 _ rfl; (with_reducible repeat (first | refine bN ?_ _ | refine bD ?_ | refine bA ?_ _)); refine blk_put (cs := #[.int .i64 t208, .int .i64 t209, .int .i64 t210, .int .i64 t211, .slice Ao8 t212.length co8, .slice none 0 0, .slice none 0 0]) ?_ 5 _ rfl; (with_reducible repeat (first | refine bN ?_ _ | refine bD ?_ | refine bA ?_ _)); refine blk_put (cs := #[.int .i64 t208, .int .i64 t209, .int .i64 t210, .int .i64 t211, .slice none 0 0, .slice none 0 0, .slice none 0 0]) ?_ 4 _ rfl; (with_reducible repeat (first | refine bN ?_ _ | refine bD ?_ | refine bA ?_ _)); refine blk_put (cs := #[.int .i64 t208, .int .i64 t209, .int .i64 t210, .int .i64 0, .slice none 0 0, .slice none 0 0, .slice none 0 0]) ?_ 3 _ rfl; (with_reducible repeat (first | refine bN ?_ _ | refine bD ?_ | refine bA ?_ _)); refine blk_put (cs := #[.int .i64 t208, .int .i64 t209, .int .i64 0, .int .i64 0, .slice none 0 0, .slice none 0 0, .slice none 0 0]) ?_ 2 _ rfl; (with_reducible repeat (first | refine bN ?_ _ | refine bD ?_ | refine bA ?_ _)); refine blk_put (cs := #[.int .i64 t208, .int .i64 0, .int .i64 0, .int .i64 0, .slice none 0 0, .slice none 0 0, .slice none 0 0]) ?_ 1 _ rfl; (with_reducible repeat (first | refine bN ?_ _ | refine bD ?_ | refine bA ?_ _)); refine blk_put (cs := #[.int .i64 0, .int .i64 0, .int .i64 0, .int .i64 0, .slice none 0 0, .slice none 0 0, .slice none 0 0]) ?_ 0 _ rfl; (with_reducible repeat (first | refine bN ?_ _ | refine bD ?_ | refine bA ?_ _)); exact BK221.out⟩, ⟨by repeat (first | (with_reducible first | exact HB.out | apply wA | apply wN | apply wD | refine wS ?_ GE207.out | refine wS ?_ GE221.out) | exact HB.out)⟩⟩
 case round =>
  clear H'
  (try clear c1); (try clear c2); (try clear p2); (try clear c6); (try clear hcz7_0); (try clear hcz7_1); (try clear hcz7_2); (try clear hcz7_3); (try clear hcz7_4); (try clear hcz7_5); (try clear hcz7_6); (try clear hfz7_0); (try clear hfz7_1); (try clear hfz7_2); (try clear hfz7_3); (try clear hfz7_4); (try clear hfz7_5); (try clear hfz7_6)
  obtain ⟨x11_1, x208000_1, x208001_1, x208002_1, x208003_1, x222000_1, x222001_1, x222002_1, x222003_1, x222004_1, x222005_1, x222006_1, u222004, u222005, u222006, rfl, HA, HK1, HO_222004, HO_222005, HO_222006, BK207, BK221, HB⟩ := hrel
  cases gk with
  | zero => exact absurd HA.out (by simp [automaton_All.l0])
  | succ k1 =>
   have H := HA.out
   clear HA
   simp only [automaton_All.l0] at H
   by_cases c11 : x11_1 < (l0.length : Int)
   ·rw [if_pos c11] at H
    have c11b0 : decide (x11_1 < (l0.length : Int)) = true := decide_eq_true c11
    clear c11
    by_cases c12 : 0 ≤ x11_1
    ·rw [if_pos c12] at H
     have c12b0 : decide (0 ≤ x11_1) = true := decide_eq_true c12
     clear c12
     by_cases c13 : x11_1 < (l0.length : Int)
     ·rw [if_pos c13] at H
      have c13b0 : decide (x11_1 < (l0.length : Int)) = true := decide_eq_true c13
      clear c13
      replace H := Option.bind_eq_some_iff.mp H
      obtain ⟨⟨t224, t225, t226, t227, t228, t231, t234, t237⟩, A140, H⟩ := H
      replace H : (if t237 = 0 then (automaton_All.l0 k1 l0 (l0.length : Int) (wrap64 (x11_1 + 1)) t224 t225 t226 t227 t228 t231 t234) else (some (0, 0, 0, 0, ([] : List Int), ([] : List Int), ([] : List Int), t237))) = some (r1, r2, r3, r4, r5, r6, r7, r8) := H
      have A14 := Aside0.mk A140
      clear A140
      have HF15 := Aside0.mk H
      clear H
      have p222 : 0 ≤ (x11_1 : Int) := of_decide_eq_true (by first | (with_reducible assumption) | assumption)
      have q222 : x11_1 < (l0.length : Int) := of_decide_eq_true (by first | (with_reducible assumption) | assumption)
      obtain ⟨ad222, A222_4, c222_4, A222_5, c222_5, A222_6, c222_6, e222, hx222_0, hx222_1, hx222_2, hx222_3, hx222_4, hx222_5, hx222_6, hl222_4, hi222_4, hl222_5, hi222_5, hl222_6, hi222_6⟩ := at_T29 HR0.out x11_1 p222 q222
      cases e222
      replace hx222_0 := (HB.out.cell (World.block_lt_of_cell? w _ hx222_0)).trans hx222_0
      replace hx222_1 := (HB.out.cell (World.block_lt_of_cell? w _ hx222_1)).trans hx222_1
      replace hx222_2 := (HB.out.cell (World.block_lt_of_cell? w _ hx222_2)).trans hx222_2
      replace hx222_3 := (HB.out.cell (World.block_lt_of_cell? w _ hx222_3)).trans hx222_3
      replace hx222_4 := (HB.out.cell (World.block_lt_of_cell? w _ hx222_4)).trans hx222_4
      replace hx222_5 := (HB.out.cell (World.block_lt_of_cell? w _ hx222_5)).trans hx222_5
      replace hx222_6 := (HB.out.cell (World.block_lt_of_cell? w _ hx222_6)).trans hx222_6
      have HR222_4 := Aside0.mk hi222_4
      have HC222_4 := Aside0.mk hl222_4
      clear hi222_4 hl222_4
      have HR222_5 := Aside0.mk hi222_5
      have HC222_5 := Aside0.mk hl222_5
      clear hi222_5 hl222_5
      have HR222_6 := Aside0.mk hi222_6
      have HC222_6 := Aside0.mk hl222_6
      clear hi222_6 hl222_6
      replace p222 := eq_true p222; replace q222 := eq_true q222
      go_wp2_with (first | ((with_reducible refine gate_dst (N := 6) rfl ?_); refine box_event ?hg (N := 6) ?hd (cs := #[.int .i64 0, .int .i64 0, .int .i64 0, .int .i64 0, .slice none 0 0, .slice none 0 0, .slice none 0 0]) (t := 29) ?hr ?_; (case hd => rfl); (case hg => rfl); (case hr => first | (go_simp; done) | (go_simp; rfl)); intro gb223 hg w16 hbox hb; have n0_ := Aside0.mk (Kd.R_below (by (with_reducible repeat (first | apply rA | apply rN | apply rD)); exact HO_222004.out) hb); have n1_ := Aside0.mk (Kd.R_below (by (with_reducible repeat (first | apply rA | apply rN | apply rD)); exact HO_222005.out) hb); have n2_ := Aside0.mk (Kd.R_below (by (with_reducible repeat (first | apply rA | apply rN | apply rD)); exact HO_222006.out) hb); have n3_ := Aside0.mk (blk_below (g := gb207) (o := .cells #[.int .i64 x208000_1, .int .i64 x208001_1, .int .i64 x208002_1, .int .i64 x208003_1, .slice none 0 0, .slice none 0 0, .slice none 0 0] 29 (0, 0)) (by (with_reducible repeat (first | refine bN ?_ _ | refine bD ?_ | refine bA ?_ _)); exact BK207.out) hb); have n4_ := Aside0.mk (blk_below (g := gb221) (o := .cells #[.int .i64 x222000_1, .int .i64 x222001_1, .int .i64 x222002_1, .int .i64 x222003_1, u222004, u222005, u222006] 29 (0, 0)) (by (with_reducible repeat (first | refine bN ?_ _ | refine bD ?_ | refine bA ?_ _)); exact BK221.out) hb); have n5_ := Aside0.mk (below_step (by repeat (first | (with_reducible first | exact HB.out | apply wA | apply wN | apply wD | refine wS ?_ GE207.out | refine wS ?_ GE221.out) | exact HB.out)) hb); have n6_ := Aside0.mk (hbox); have n7_ := Aside0.mk ((by rw [hg]; exact (below_size (by repeat (first | (with_reducible first | exact HB.out | apply wA | apply wN | apply wD | refine wS ?_ GE207.out | refine wS ?_ GE221.out) | exact HB.out))) : w.heap.size ≤ gb223)); have n8_ := n7_; have n9_ := Aside0.mk ((by rw [hg]; exact Nat.ne_of_lt (blk_lt (g := gb207) (o := .cells #[.int .i64 x208000_1, .int .i64 x208001_1, .int .i64 x208002_1, .int .i64 x208003_1, .slice none 0 0, .slice none 0 0, .slice none 0 0] 29 (0, 0)) (by (with_reducible repeat (first | refine bN ?_ _ | refine bD ?_ | refine bA ?_ _)); exact BK207.out)) : gb207 ≠ gb223)); have n10_ := Aside0.mk ((by rw [hg]; exact Nat.ne_of_gt (blk_lt (g := gb207) (o := .cells #[.int .i64 x208000_1, .int .i64 x208001_1, .int .i64 x208002_1, .int .i64 x208003_1, .slice none 0 0, .slice none 0 0, .slice none 0 0] 29 (0, 0)) (by (with_reducible repeat (first | refine bN ?_ _ | refine bD ?_ | refine bA ?_ _)); exact BK207.out)) : gb223 ≠ gb207)); have n11_ := Aside0.mk ((by rw [hg]; exact Nat.ne_of_lt (blk_lt (g := gb221) (o := .cells #[.int .i64 x222000_1, .int .i64 x222001_1, .int .i64 x222002_1, .int .i64 x222003_1, u222004, u222005, u222006] 29 (0, 0)) (by (with_reducible repeat (first | refine bN ?_ _ | refine bD ?_ | refine bA ?_ _)); exact BK221.out)) : gb221 ≠ gb223)); have n12_ := Aside0.mk ((by rw [hg]; exact Nat.ne_of_gt (blk_lt (g := gb221) (o := .cells #[.int .i64 x222000_1, .int .i64 x222001_1, .int .i64 x222002_1, .int .i64 x222003_1, u222004, u222005, u222006] 29 (0, 0)) (by (with_reducible repeat (first | refine bN ?_ _ | refine bD ?_ | refine bA ?_ _)); exact BK221.out)) : gb223 ≠ gb221)); clear HO_222004; clear HO_222005; clear HO_222006; clear BK207; clear BK221; clear HB; have HO_222004 := n0_; have HO_222005 := n1_; have HO_222006 := n2_; have BK207 := n3_; have BK221 := n4_; have HB := n5_; have BK223 := n6_; have GW223 := n7_; have GE223 := n8_; have NB207_223 := n9_; have NB223_207 := n10_; have NB221_223 := n11_; have NB223_221 := n12_; clear n0_ n1_ n2_ n3_ n4_ n5_ n6_ n7_ n8_ n9_ n10_ n11_ n12_; clear hb hbox hg; have hnb17 := NB223_207.out; have hnc17 := NB207_223.out; have hnb18 := NB223_221.out; have hnc18 := NB221_223.out; have hcz19_0 : w16.cell? ⟨gb223, 0, none⟩ = some (.int .i64 0) := (blk_cell BK223.out 0).trans rfl; have hcz19_1 : w16.cell? ⟨gb223, 1, none⟩ = some (.int .i64 0) := (blk_cell BK223.out 1).trans rfl; have hcz19_2 : w16.cell? ⟨gb223, 2, none⟩ = some (.int .i64 0) := (blk_cell BK223.out 2).trans rfl; have hcz19_3 : w16.cell? ⟨gb223, 3, none⟩ = some (.int .i64 0) := (blk_cell BK223.out 3).trans rfl; have hcz19_4 : w16.cell? ⟨gb223, 4, none⟩ = some (.slice none 0 0) := (blk_cell BK223.out 4).trans rfl; have hcz19_5 : w16.cell? ⟨gb223, 5, none⟩ = some (.slice none 0 0) := (blk_cell BK223.out 5).trans rfl; have hcz19_6 : w16.cell? ⟨gb223, 6, none⟩ = some (.slice none 0 0) := (blk_cell BK223.out 6).trans rfl; have hfz19_0 := blk_frozen BK223.out 0; have hfz19_1 := blk_frozen BK223.out 1; have hfz19_2 := blk_frozen BK223.out 2; have hfz19_3 := blk_frozen BK223.out 3; have hfz19_4 := blk_frozen BK223.out 4; have hfz19_5 := blk_frozen BK223.out 5; have hfz19_6 := blk_frozen BK223.out 6; have hnb20 := NB221_207.out; have hnc20 := NB207_221.out; have hcz21_0 : w16.cell? ⟨gb221, 0, none⟩ = some (.int .i64 x222000_1) := (blk_cell BK221.out 0).trans rfl; have hcz21_1 : w16.cell? ⟨gb221, 1, none⟩ = some (.int .i64 x222001_1) := (blk_cell BK221.out 1).trans rfl; have hcz21_2 : w16.cell? ⟨gb221, 2, none⟩ = some (.int .i64 x222002_1) := (blk_cell BK221.out 2).trans rfl; have hcz21_3 : w16.cell? ⟨gb221, 3, none⟩ = some (.int .i64 x222003_1) := (blk_cell BK221.out 3).trans rfl; have hcz21_4 : w16.cell? ⟨gb221, 4, none⟩ = some (u222004) := (blk_cell BK221.out 4).trans rfl; have hcz21_5 : w16.cell? ⟨gb221, 5, none⟩ = some (u222005) := (blk_cell BK221.out 5).trans rfl; have hcz21_6 : w16.cell? ⟨gb221, 6, none⟩ = some (u222006) := (blk_cell BK221.out 6).trans rfl; have hfz21_0 := blk_frozen BK221.out 0; have hfz21_1 := blk_frozen BK221.out 1; have hfz21_2 := blk_frozen BK221.out 2; have hfz21_3 := blk_frozen BK221.out 3; have hfz21_4 := blk_frozen BK221.out 4; have hfz21_5 := blk_frozen BK221.out 5; have hfz21_6 := blk_frozen BK221.out 6))
      have H := HF15.out
      clear HF15
      by_cases c22 : t237 = 0
      ·rw [if_pos c22] at H
       have c22b0 : (t237 == 0) = true := beq_iff_eq.mpr c22
       have c22b1 : (t237 != 0) = false := bne_eq_false_iff_eq.mpr c22
       clear c22
       have H' := Aside0.mk H
       clear H
       obtain ⟨Ao23, co23, eo23⟩ := Kd.R_slice HO_222004.out
       subst eo23
       obtain ⟨Ao24, co24, eo24⟩ := Kd.R_slice HO_222005.out
       subst eo24
       obtain ⟨Ao25, co25, eo25⟩ := Kd.R_slice HO_222006.out
       subst eo25
       go_wp2_with (first | (go_at_call 20; (with_reducible refine (automaton_Compose.calls k1 x222000_1 x222001_1 x222002_1 x222003_1 _ _ x222004_1 _ _ x222005_1 _ _ x222006_1 ((rd_T29 l0 x11_1).f0) ((rd_T29 l0 x11_1).f1.f0) ((rd_T29 l0 x11_1).f1.f1) ((rd_T29 l0 x11_1).f1.f2) (fun k_ => k_ < w.heap.size) _ _ ((rd_T29 l0 x11_1).f2.f0) (fun k_ => k_ < w.heap.size) _ _ ((rd_T29 l0 x11_1).f2.f1) (fun k_ => k_ < w.heap.size) _ _ ((rd_T29 l0 x11_1).f2.f2) t224 t225 t226 t227 t228 t231 t234 t237 _ ?side1 ?side2 ?side3 ?side4 ?side5 ?side6 ?side7 ?side8 ?side9 A14.out).mono ?_); (case side1 => refine (Kd.R_reads' (e := 3) (base := w.heap.size) (ok := fun k_ => (some k_ ≠ (.slice Ao24 x222005_1.length co24 : Value).ownBlock ∧ some k_ ≠ (.slice Ao25 x222006_1.length co25 : Value).ownBlock)) (n := x222004_1.length) (c := co23) ?_).2.2; exact (by (with_reducible repeat (first | apply rA | apply rN | apply rD)); exact (Kd.R_mono (R_fars7 gb223 (Kd.R_types HO_222004.out BK223.out (by decide)) (fun _ hk => hk.2) (.int .i64 ((rd_T29 l0 x11_1).f0)) (.int .i64 ((rd_T29 l0 x11_1).f1.f0)) (.int .i64 ((rd_T29 l0 x11_1).f1.f1)) (.int .i64 ((rd_T29 l0 x11_1).f1.f2)) (.slice A222_4 ((rd_T29 l0 x11_1).f2.f0).length c222_4) (.slice A222_5 ((rd_T29 l0 x11_1).f2.f1).length c222_5) (.slice A222_6 ((rd_T29 l0 x11_1).f2.f2).length c222_6)) (fun _ h_ => h_.1)))); (case side2 => exact (Kd.R_reads' HO_222004.out).2.1); (case side3 => refine (Kd.R_reads' (e := 3) (base := w.heap.size) (ok := fun k_ => (some k_ ≠ (.slice Ao23 x222004_1.length co23 : Value).ownBlock ∧ some k_ ≠ (.slice Ao25 x222006_1.length co25 : Value).ownBlock)) (n := x222005_1.length) (c := co24) ?_).2.2; exact (by (with_reducible repeat (first | apply rA | apply rN | apply rD)); exact (Kd.R_mono (R_fars7 gb223 (Kd.R_types HO_222005.out BK223.out (by decide)) (fun _ hk => hk.2) (.int .i64 ((rd_T29 l0 x11_1).f0)) (.int .i64 ((rd_T29 l0 x11_1).f1.f0)) (.int .i64 ((rd_T29 l0 x11_1).f1.f1)) (.int .i64 ((rd_T29 l0 x11_1).f1.f2)) (.slice A222_4 ((rd_T29 l0 x11_1).f2.f0).length c222_4) (.slice A222_5 ((rd_T29 l0 x11_1).f2.f1).length c222_5) (.slice A222_6 ((rd_T29 l0 x11_1).f2.f2).length c222_6)) (fun _ h_ => h_.1)))); (case side4 => exact (Kd.R_reads' HO_222005.out).2.1); (case side5 => refine (Kd.R_reads' (e := 3) (base := w.heap.size) (ok := fun k_ => (some k_ ≠ (.slice Ao23 x222004_1.length co23 : Value).ownBlock ∧ some k_ ≠ (.slice Ao24 x222005_1.length co24 : Value).ownBlock)) (n := x222006_1.length) (c := co25) ?_).2.2; exact (by (with_reducible repeat (first | apply rA | apply rN | apply rD)); exact (Kd.R_mono (R_fars7 gb223 (Kd.R_types HO_222006.out BK223.out (by decide)) (fun _ hk => hk.2) (.int .i64 ((rd_T29 l0 x11_1).f0)) (.int .i64 ((rd_T29 l0 x11_1).f1.f0)) (.int .i64 ((rd_T29 l0 x11_1).f1.f1)) (.int .i64 ((rd_T29 l0 x11_1).f1.f2)) (.slice A222_4 ((rd_T29 l0 x11_1).f2.f0).length c222_4) (.slice A222_5 ((rd_T29 l0 x11_1).f2.f1).length c222_5) (.slice A222_6 ((rd_T29 l0 x11_1).f2.f2).length c222_6)) (fun _ h_ => h_.1)))); (case side6 => exact (Kd.R_reads' HO_222006.out).2.1); (case side7 => exact Kd.V_mk HC222_4.out (Kd.F_below (Kd.C_F (Kd.heap_int .i64) HR222_4.out) (by repeat (first | (with_reducible first | exact HB.out | apply wA | apply wN | apply wD | refine wS ?_ GE207.out | refine wS ?_ GE221.out | refine wS ?_ GE223.out) | exact HB.out)))); (case side8 => exact Kd.V_mk HC222_5.out (Kd.F_below (Kd.C_F (Kd.heap_int .i64) HR222_5.out) (by repeat (first | (with_reducible first | exact HB.out | apply wA | apply wN | apply wD | refine wS ?_ GE207.out | refine wS ?_ GE221.out | refine wS ?_ GE223.out) | exact HB.out)))); (case side9 => exact Kd.V_mk HC222_6.out (Kd.F_below (Kd.C_F (Kd.heap_int .i64) HR222_6.out) (by repeat (first | (with_reducible first | exact HB.out | apply wA | apply wN | apply wD | refine wS ?_ GE207.out | refine wS ?_ GE221.out | refine wS ?_ GE223.out) | exact HB.out)))); rintro e w26 ⟨v229, v232, v235, rfl, ho0, ho1, ho2, hb⟩; have n0_ := Aside0.mk (Kd.R_mono (Kd.R_told (Kd.R_told (Kd.R_told (Kd.R_old (by (with_reducible repeat (first | apply rA | apply rN | apply rD)); exact (Kd.R_mono (R_fars7 gb223 (Kd.R_types HO_222004.out BK223.out (by decide)) (fun _ hk => hk.2) (.int .i64 ((rd_T29 l0 x11_1).f0)) (.int .i64 ((rd_T29 l0 x11_1).f1.f0)) (.int .i64 ((rd_T29 l0 x11_1).f1.f1)) (.int .i64 ((rd_T29 l0 x11_1).f1.f2)) (.slice A222_4 ((rd_T29 l0 x11_1).f2.f0).length c222_4) (.slice A222_5 ((rd_T29 l0 x11_1).f2.f1).length c222_5) (.slice A222_6 ((rd_T29 l0 x11_1).f2.f2).length c222_6)) (fun _ h_ => h_.1))) hb) (Kd.R_base ho0)) (Kd.R_base ho1)) (Kd.R_base ho2)) (fun _ h_ => h_.1)); have n1_ := Aside0.mk (Kd.R_mono (Kd.R_told (Kd.R_told (Kd.R_told (Kd.R_old (by (with_reducible repeat (first | apply rA | apply rN | apply rD)); exact (Kd.R_mono (R_fars7 gb223 (Kd.R_types HO_222005.out BK223.out (by decide)) (fun _ hk => hk.2) (.int .i64 ((rd_T29 l0 x11_1).f0)) (.int .i64 ((rd_T29 l0 x11_1).f1.f0)) (.int .i64 ((rd_T29 l0 x11_1).f1.f1)) (.int .i64 ((rd_T29 l0 x11_1).f1.f2)) (.slice A222_4 ((rd_T29 l0 x11_1).f2.f0).length c222_4) (.slice A222_5 ((rd_T29 l0 x11_1).f2.f1).length c222_5) (.slice A222_6 ((rd_T29 l0 x11_1).f2.f2).length c222_6)) (fun _ h_ => h_.1))) hb) (Kd.R_base ho0)) (Kd.R_base ho1)) (Kd.R_base ho2)) (fun _ h_ => h_.1)); have n2_ := Aside0.mk (Kd.R_mono (Kd.R_told (Kd.R_told (Kd.R_told (Kd.R_old (by (with_reducible repeat (first | apply rA | apply rN | apply rD)); exact (Kd.R_mono (R_fars7 gb223 (Kd.R_types HO_222006.out BK223.out (by decide)) (fun _ hk => hk.2) (.int .i64 ((rd_T29 l0 x11_1).f0)) (.int .i64 ((rd_T29 l0 x11_1).f1.f0)) (.int .i64 ((rd_T29 l0 x11_1).f1.f1)) (.int .i64 ((rd_T29 l0 x11_1).f1.f2)) (.slice A222_4 ((rd_T29 l0 x11_1).f2.f0).length c222_4) (.slice A222_5 ((rd_T29 l0 x11_1).f2.f1).length c222_5) (.slice A222_6 ((rd_T29 l0 x11_1).f2.f2).length c222_6)) (fun _ h_ => h_.1))) hb) (Kd.R_base ho0)) (Kd.R_base ho1)) (Kd.R_base ho2)) (fun _ h_ => h_.1)); have n3_ := Aside0.mk (Kd.R_lower (Kd.R_new' (Kd.R_new' (Kd.R_new' (Kd.R_mono (ok' := fun k_ => some k_ ≠ (v232 : Value).ownBlock ∧ some k_ ≠ (v235 : Value).ownBlock) ho0 (fun _ hk_ => hk_.2)) (Kd.R_lt (by (with_reducible repeat (first | apply rA | apply rN | apply rD)); exact (Kd.R_mono (R_fars7 gb223 (Kd.R_types HO_222004.out BK223.out (by decide)) (fun _ hk => hk.2) (.int .i64 ((rd_T29 l0 x11_1).f0)) (.int .i64 ((rd_T29 l0 x11_1).f1.f0)) (.int .i64 ((rd_T29 l0 x11_1).f1.f1)) (.int .i64 ((rd_T29 l0 x11_1).f1.f2)) (.slice A222_4 ((rd_T29 l0 x11_1).f2.f0).length c222_4) (.slice A222_5 ((rd_T29 l0 x11_1).f2.f1).length c222_5) (.slice A222_6 ((rd_T29 l0 x11_1).f2.f2).length c222_6)) (fun _ h_ => h_.1))))) (Kd.R_lt (by (with_reducible repeat (first | apply rA | apply rN | apply rD)); exact (Kd.R_mono (R_fars7 gb223 (Kd.R_types HO_222005.out BK223.out (by decide)) (fun _ hk => hk.2) (.int .i64 ((rd_T29 l0 x11_1).f0)) (.int .i64 ((rd_T29 l0 x11_1).f1.f0)) (.int .i64 ((rd_T29 l0 x11_1).f1.f1)) (.int .i64 ((rd_T29 l0 x11_1).f1.f2)) (.slice A222_4 ((rd_T29 l0 x11_1).f2.f0).length c222_4) (.slice A222_5 ((rd_T29 l0 x11_1).f2.f1).length c222_5) (.slice A222_6 ((rd_T29 l0 x11_1).f2.f2).length c222_6)) (fun _ h_ => h_.1))))) (Kd.R_lt (by (with_reducible repeat (first | apply rA | apply rN | apply rD)); exact (Kd.R_mono (R_fars7 gb223 (Kd.R_types HO_222006.out BK223.out (by decide)) (fun _ hk => hk.2) (.int .i64 ((rd_T29 l0 x11_1).f0)) (.int .i64 ((rd_T29 l0 x11_1).f1.f0)) (.int .i64 ((rd_T29 l0 x11_1).f1.f1)) (.int .i64 ((rd_T29 l0 x11_1).f1.f2)) (.slice A222_4 ((rd_T29 l0 x11_1).f2.f0).length c222_4) (.slice A222_5 ((rd_T29 l0 x11_1).f2.f1).length c222_5) (.slice A222_6 ((rd_T29 l0 x11_1).f2.f2).length c222_6)) (fun _ h_ => h_.1))))) (below_size (by repeat (first | (with_reducible first | exact HB.out | apply wA | apply wN | apply wD | refine wS ?_ GE207.out | refine wS ?_ GE221.out | refine wS ?_ GE223.out) | exact HB.out)))); have n4_ := Aside0.mk (Kd.R_lower (Kd.R_new' (Kd.R_new' (Kd.R_new' (Kd.R_mono (ok' := fun k_ => some k_ ≠ (v229 : Value).ownBlock ∧ some k_ ≠ (v235 : Value).ownBlock) ho1 (fun _ hk_ => hk_.2)) (Kd.R_lt (by (with_reducible repeat (first | apply rA | apply rN | apply rD)); exact (Kd.R_mono (R_fars7 gb223 (Kd.R_types HO_222004.out BK223.out (by decide)) (fun _ hk => hk.2) (.int .i64 ((rd_T29 l0 x11_1).f0)) (.int .i64 ((rd_T29 l0 x11_1).f1.f0)) (.int .i64 ((rd_T29 l0 x11_1).f1.f1)) (.int .i64 ((rd_T29 l0 x11_1).f1.f2)) (.slice A222_4 ((rd_T29 l0 x11_1).f2.f0).length c222_4) (.slice A222_5 ((rd_T29 l0 x11_1).f2.f1).length c222_5) (.slice A222_6 ((rd_T29 l0 x11_1).f2.f2).length c222_6)) (fun _ h_ => h_.1))))) (Kd.R_lt (by (with_reducible repeat (first | apply rA | apply rN | apply rD)); exact (Kd.R_mono (R_fars7 gb223 (Kd.R_types HO_222005.out BK223.out (by decide)) (fun _ hk => hk.2) (.int .i64 ((rd_T29 l0 x11_1).f0)) (.int .i64 ((rd_T29 l0 x11_1).f1.f0)) (.int .i64 ((rd_T29 l0 x11_1).f1.f1)) (.int .i64 ((rd_T29 l0 x11_1).f1.f2)) (.slice A222_4 ((rd_T29 l0 x11_1).f2.f0).length c222_4) (.slice A222_5 ((rd_T29 l0 x11_1).f2.f1).length c222_5) (.slice A222_6 ((rd_T29 l0 x11_1).f2.f2).length c222_6)) (fun _ h_ => h_.1))))) (Kd.R_lt (by (with_reducible repeat (first | apply rA | apply rN | apply rD)); exact (Kd.R_mono (R_fars7 gb223 (Kd.R_types HO_222006.out BK223.out (by decide)) (fun _ hk => hk.2) (.int .i64 ((rd_T29 l0 x11_1).f0)) (.int .i64 ((rd_T29 l0 x11_1).f1.f0)) (.int .i64 ((rd_T29 l0 x11_1).f1.f1)) (.int .i64 ((rd_T29 l0 x11_1).f1.f2)) (.slice A222_4 ((rd_T29 l0 x11_1).f2.f0).length c222_4) (.slice A222_5 ((rd_T29 l0 x11_1).f2.f1).length c222_5) (.slice A222_6 ((rd_T29 l0 x11_1).f2.f2).length c222_6)) (fun _ h_ => h_.1))))) (below_size (by repeat (first | (with_reducible first | exact HB.out | apply wA | apply wN | apply wD | refine wS ?_ GE207.out | refine wS ?_ GE221.out | refine wS ?_ GE223.out) | exact HB.out)))); have n5_ := Aside0.mk (Kd.R_lower (Kd.R_new' (Kd.R_new' (Kd.R_new' (Kd.R_mono (ok' := fun k_ => some k_ ≠ (v229 : Value).ownBlock ∧ some k_ ≠ (v232 : Value).ownBlock) ho2 (fun _ hk_ => hk_.2)) (Kd.R_lt (by (with_reducible repeat (first | apply rA | apply rN | apply rD)); exact (Kd.R_mono (R_fars7 gb223 (Kd.R_types HO_222004.out BK223.out (by decide)) (fun _ hk => hk.2) (.int .i64 ((rd_T29 l0 x11_1).f0)) (.int .i64 ((rd_T29 l0 x11_1).f1.f0)) (.int .i64 ((rd_T29 l0 x11_1).f1.f1)) (.int .i64 ((rd_T29 l0 x11_1).f1.f2)) (.slice A222_4 ((rd_T29 l0 x11_1).f2.f0).length c222_4) (.slice A222_5 ((rd_T29 l0 x11_1).f2.f1).length c222_5) (.slice A222_6 ((rd_T29 l0 x11_1).f2.f2).length c222_6)) (fun _ h_ => h_.1))))) (Kd.R_lt (by (with_reducible repeat (first | apply rA | apply rN | apply rD)); exact (Kd.R_mono (R_fars7 gb223 (Kd.R_types HO_222005.out BK223.out (by decide)) (fun _ hk => hk.2) (.int .i64 ((rd_T29 l0 x11_1).f0)) (.int .i64 ((rd_T29 l0 x11_1).f1.f0)) (.int .i64 ((rd_T29 l0 x11_1).f1.f1)) (.int .i64 ((rd_T29 l0 x11_1).f1.f2)) (.slice A222_4 ((rd_T29 l0 x11_1).f2.f0).length c222_4) (.slice A222_5 ((rd_T29 l0 x11_1).f2.f1).length c222_5) (.slice A222_6 ((rd_T29 l0 x11_1).f2.f2).length c222_6)) (fun _ h_ => h_.1))))) (Kd.R_lt (by (with_reducible repeat (first | apply rA | apply rN | apply rD)); exact (Kd.R_mono (R_fars7 gb223 (Kd.R_types HO_222006.out BK223.out (by decide)) (fun _ hk => hk.2) (.int .i64 ((rd_T29 l0 x11_1).f0)) (.int .i64 ((rd_T29 l0 x11_1).f1.f0)) (.int .i64 ((rd_T29 l0 x11_1).f1.f1)) (.int .i64 ((rd_T29 l0 x11_1).f1.f2)) (.slice A222_4 ((rd_T29 l0 x11_1).f2.f0).length c222_4) (.slice A222_5 ((rd_T29 l0 x11_1).f2.f1).length c222_5) (.slice A222_6 ((rd_T29 l0 x11_1).f2.f2).length c222_6)) (fun _ h_ => h_.1))))) (below_size (by repeat (first | (with_reducible first | exact HB.out | apply wA | apply wN | apply wD | refine wS ?_ GE207.out | refine wS ?_ GE221.out | refine wS ?_ GE223.out) | exact HB.out)))); have n6_ := Aside0.mk (blk_below (g := gb207) (o := .cells #[.int .i64 x208000_1, .int .i64 x208001_1, .int .i64 x208002_1, .int .i64 x208003_1, .slice none 0 0, .slice none 0 0, .slice none 0 0] 29 (0, 0)) (by (with_reducible repeat (first | refine bN ?_ _ | refine bD ?_ | refine bA ?_ _ | refine blk_far ?_ NB207_223.out _)); exact BK207.out) hb); have n7_ := Aside0.mk (blk_below (g := gb221) (o := .cells #[.int .i64 x222000_1, .int .i64 x222001_1, .int .i64 x222002_1, .int .i64 x222003_1, .slice Ao23 x222004_1.length co23, .slice Ao24 x222005_1.length co24, .slice Ao25 x222006_1.length co25] 29 (0, 0)) (by (with_reducible repeat (first | refine bN ?_ _ | refine bD ?_ | refine bA ?_ _ | refine blk_far ?_ NB221_223.out _)); exact BK221.out) hb); have n8_ := Aside0.mk (blk_below (g := gb223) (o := .cells #[.int .i64 ((rd_T29 l0 x11_1).f0), .int .i64 ((rd_T29 l0 x11_1).f1.f0), .int .i64 ((rd_T29 l0 x11_1).f1.f1), .int .i64 ((rd_T29 l0 x11_1).f1.f2), .slice A222_4 ((rd_T29 l0 x11_1).f2.f0).length c222_4, .slice A222_5 ((rd_T29 l0 x11_1).f2.f1).length c222_5, .slice A222_6 ((rd_T29 l0 x11_1).f2.f2).length c222_6] 29 (0, 0)) (by (with_reducible repeat (first | refine bN ?_ _ | refine bD ?_ | refine bA ?_ _)); refine blk_put (cs := #[.int .i64 ((rd_T29 l0 x11_1).f0), .int .i64 ((rd_T29 l0 x11_1).f1.f0), .int .i64 ((rd_T29 l0 x11_1).f1.f1), .int .i64 ((rd_T29 l0 x11_1).f1.f2), .slice A222_4 ((rd_T29 l0 x11_1).f2.f0).length c222_4, .slice A222_5 ((rd_T29 l0 x11_1).f2.f1).length c222_5, .slice none 0 0]) ?_ 6 _ rfl; (with_reducible repeat (first | refine bN ?_ _ | refine bD ?_ | refine bA ?_ _)); refine blk_put (cs := #[.int .i64 ((rd_T29 l0 x11_1).f0), .int .i64 ((rd_T29 l0 x11_1).f1.f0), .int .i64 ((rd_T29 l0 x11_1).f1.f1), .int .i64 ((rd_T29 l0 x11_1).f1.f2), .slice A222_4 ((rd_T29 l0 x11_1).f2.f0).length c222_4, .slice none 0 0, .slice none 0 0]) ?_ 5 _ rfl; (with_reducible repeat (first | refine bN ?_ _ | refine bD ?_ | refine bA ?_ _)); refine blk_put (cs := #[.int .i64 ((rd_T29 l0 x11_1).f0), .int .i64 ((rd_T29 l0 x11_1).f1.f0), .int .i64 ((rd_T29 l0 x11_1).f1.f1), .int .i64 ((rd_T29 l0 x11_1).f1.f2), .slice none 0 0, .slice none 0 0, .slice none 0 0]) ?_ 4 _ rfl; (with_reducible repeat (first | refine bN ?_ _ | refine bD ?_ | refine bA ?_ _)); refine blk_put (cs := #[.int .i64 ((rd_T29 l0 x11_1).f0), .int .i64 ((rd_T29 l0 x11_1).f1.f0), .int .i64 ((rd_T29 l0 x11_1).f1.f1), .int .i64 0, .slice none 0 0, .slice none 0 0, .slice none 0 0]) ?_ 3 _ rfl; (with_reducible repeat (first | refine bN ?_ _ | refine bD ?_ | refine bA ?_ _)); refine blk_put (cs := #[.int .i64 ((rd_T29 l0 x11_1).f0), .int .i64 ((rd_T29 l0 x11_1).f1.f0), .int .i64 0, .int .i64 0, .slice none 0 0, .slice none 0 0, .slice none 0 0]) ?_ 2 _ rfl; (with_reducible repeat (first | refine bN ?_ _ | refine bD ?_ | refine bA ?_ _)); refine blk_put (cs := #[.int .i64 ((rd_T29 l0 x11_1).f0), .int .i64 0, .int .i64 0, .int .i64 0, .slice none 0 0, .slice none 0 0, .slice none 0 0]) ?_ 1 _ rfl; (with_reducible repeat (first | refine bN ?_ _ | refine bD ?_ | refine bA ?_ _)); refine blk_put (cs := #[.int .i64 0, .int .i64 0, .int .i64 0, .int .i64 0, .slice none 0 0, .slice none 0 0, .slice none 0 0]) ?_ 0 _ rfl; (with_reducible repeat (first | refine bN ?_ _ | refine bD ?_ | refine bA ?_ _)); exact BK223.out) hb); have n9_ := Aside0.mk (below_step (by repeat (first | (with_reducible first | exact HB.out | apply wA | apply wN | apply wD | refine wS ?_ GE207.out | refine wS ?_ GE221.out | refine wS ?_ GE223.out) | exact HB.out)) hb); clear HO_222004; clear HO_222005; clear HO_222006; clear BK207; clear BK221; clear BK223; clear HB; have HO_222004 := n0_; have HO_222005 := n1_; have HO_222006 := n2_; have HO230 := n3_; have HO233 := n4_; have HO236 := n5_; have BK207 := n6_; have BK221 := n7_; have BK223 := n8_; have HB := n9_; clear n0_ n1_ n2_ n3_ n4_ n5_ n6_ n7_ n8_ n9_; (try clear hb); (try clear hb2); (try clear hk); (try clear hi); (try clear ho0); (try clear ho1); (try clear ho2); have hnb27 := NB221_207.out; have hnc27 := NB207_221.out; have hnb28 := NB221_223.out; have hnc28 := NB223_221.out; have hcz29_0 : w26.cell? ⟨gb221, 0, none⟩ = some (.int .i64 x222000_1) := (blk_cell BK221.out 0).trans rfl; have hcz29_1 : w26.cell? ⟨gb221, 1, none⟩ = some (.int .i64 x222001_1) := (blk_cell BK221.out 1).trans rfl; have hcz29_2 : w26.cell? ⟨gb221, 2, none⟩ = some (.int .i64 x222002_1) := (blk_cell BK221.out 2).trans rfl; have hcz29_3 : w26.cell? ⟨gb221, 3, none⟩ = some (.int .i64 x222003_1) := (blk_cell BK221.out 3).trans rfl; have hcz29_4 : w26.cell? ⟨gb221, 4, none⟩ = some (.slice Ao23 x222004_1.length co23) := (blk_cell BK221.out 4).trans rfl; have hcz29_5 : w26.cell? ⟨gb221, 5, none⟩ = some (.slice Ao24 x222005_1.length co24) := (blk_cell BK221.out 5).trans rfl; have hcz29_6 : w26.cell? ⟨gb221, 6, none⟩ = some (.slice Ao25 x222006_1.length co25) := (blk_cell BK221.out 6).trans rfl; have hfz29_0 := blk_frozen BK221.out 0; have hfz29_1 := blk_frozen BK221.out 1; have hfz29_2 := blk_frozen BK221.out 2; have hfz29_3 := blk_frozen BK221.out 3; have hfz29_4 := blk_frozen BK221.out 4; have hfz29_5 := blk_frozen BK221.out 5; have hfz29_6 := blk_frozen BK221.out 6; obtain ⟨Ao30, co30, eo30⟩ := Kd.R_slice HO230.out; subst eo30; obtain ⟨Ao31, co31, eo31⟩ := Kd.R_slice HO233.out; subst eo31; obtain ⟨Ao32, co32, eo32⟩ := Kd.R_slice HO236.out; subst eo32))
       go_roundg k1
       case measure => have := HK1.out; omega
       case rel => exact ⟨(wrap64 (x11_1 + 1)), (x208000_1), (x208001_1), (x208002_1), (x208003_1), (t224), (t225), (t226), (t227), (t228), (t231), (t234), (.slice Ao30 t228.length co30), (.slice Ao31 t231.length co31), (.slice Ao32 t234.length co32), (by first | rfl | (simp; done) | (simp [*]; done)), H', ⟨by have := HK1.out; omega⟩, ⟨by (with_reducible repeat (first | apply rA | apply rN | apply rD)); exact Kd.R_mono (R_fars7 gb221 (Kd.R_types HO230.out BK221.out (by decide)) (fun _ hk => hk.2) (.int .i64 t224) (.int .i64 t225) (.int .i64 t226) (.int .i64 t227) (.slice Ao30 t228.length co30) (.slice Ao31 t231.length co31) (.slice Ao32 t234.length co32)) (fun _ hk => hk.1.1.1.1)⟩, ⟨by (with_reducible repeat (first | apply rA | apply rN | apply rD)); exact Kd.R_mono (R_fars7 gb221 (Kd.R_types HO233.out BK221.out (by decide)) (fun _ hk => hk.2) (.int .i64 t224) (.int .i64 t225) (.int .i64 t226) (.int .i64 t227) (.slice Ao30 t228.length co30) (.slice Ao31 t231.length co31) (.slice Ao32 t234.length co32)) (fun _ hk => hk.1.1.1.1)⟩, ⟨by (with_reducible repeat (first | apply rA | apply rN | apply rD)); exact Kd.R_mono (R_fars7 gb221 (Kd.R_types HO236.out BK221.out (by decide)) (fun _ hk => hk.2) (.int .i64 t224) (.int .i64 t225) (.int .i64 t226) (.int .i64 t227) (.slice Ao30 t228.length co30) (.slice Ao31 t231.length co31) (.slice Ao32 t234.length co32)) (fun _ hk => hk.1.1.1.1)⟩, ⟨by (with_reducible repeat (first | refine bN ?_ _ | refine bD ?_ | refine bA ?_ _ | refine blk_far ?_ NB207_221.out _)); exact BK207.out⟩, ⟨by (with_reducible repeat (first | refine bN ?_ _ | refine bD ?_ | refine bA ?_ _)); refine blk_put (cs := #[.int .i64 t224, .int .i64 t225, .int .i64 t226, .int .i64 t227, .slice Ao30 t228.length co30, .slice Ao31 t231.length co31, .slice Ao25 x222006_1.length co25]) ?_ 6 _ rfl; (with_reducible repeat (first | refine bN ?_ _ | refine bD ?_ | refine bA ?_ _)); refine blk_put (cs := #[.int .i64 t224, .int .i64 t225, .int .i64 t226, .int .i64 t227, .slice Ao30 t228.length co30, .slice Ao24 x222005_1.length co24, .slice Ao25 x222006_1.length co25]) ?_ 5 _ rfl; (with_reducible repeat (first | refine bN ?_ _ | refine bD ?_ | refine bA ?_ _)); refine blk_put (cs := #[.int .i64 t224, .int .i64 t225, .int .i64 t226, .int .i64 t227, .slice Ao23 x222004_1.length co23, .slice Ao24 x222005_1.length co24, .slice Ao25 x222006_1.length co25]) ?_ 4 _ rfl; (with_reducible repeat (first | refine bN ?_ _ | refine bD ?_ | refine bA ?_ _)); refine blk_put (cs := #[.int .i64 t224, .int .i64 t225, .int .i64 t226, .int .i64 x222003_1, .slice Ao23 x222004_1.length co23, .slice Ao24 x222005_1.length co24, .slice Ao25 x222006_1.length co25]) ?_ 3 _ rfl; (with_reducible repeat (first | refine bN ?_ _ | refine bD ?_ | refine bA ?_ _)); refine blk_put (cs := #[.int .i64 t224, .int .i64 t225, .int .i64 x222002_1, .int .i64 x222003_1, .slice Ao23 x222004_1.length co23, .slice Ao24 x222005_1.length co24, .slice Ao25 x222006_1.length co25]) ?_ 2 _ rfl; (with_reducible repeat (first | refine bN ?_ _ | refine bD ?_ | refine bA ?_ _)); refine blk_put (cs := #[.int .i64 t224, .int .i64 x222001_1, .int .i64 x222002_1, .int .i64 x222003_1, .slice Ao23 x222004_1.length co23, .slice Ao24 x222005_1.length co24, .slice Ao25 x222006_1.length co25]) ?_ 1 _ rfl; (with_reducible repeat (first | refine bN ?_ _ | refine bD ?_ | refine bA ?_ _)); refine blk_put (cs := #[.int .i64 x222000_1, .int .i64 x222001_1, .int .i64 x222002_1, .int .i64 x222003_1, .slice Ao23 x222004_1.length co23, .slice Ao24 x222005_1.length co24, .slice Ao25 x222006_1.length co25]) ?_ 0 _ rfl; (with_reducible repeat (first | refine bN ?_ _ | refine bD ?_ | refine bA ?_ _)); exact BK221.out⟩, ⟨by repeat (first | (with_reducible first | exact HB.out | apply wA | apply wN | apply wD | refine wS ?_ GE207.out | refine wS ?_ GE221.out | refine wS ?_ GE223.out) | exact HB.out)⟩⟩
      ·rw [if_neg c22] at H
       have c22b0 : (t237 == 0) = false := beq_eq_false_iff_ne.mpr c22
       have c22b1 : (t237 != 0) = true := bne_iff_ne.mpr c22
       simp only [Option.some.injEq, Prod.mk.injEq] at H
       obtain ⟨rfl, rfl, rfl, rfl, rfl, rfl, rfl, rfl⟩ := H
       obtain ⟨Ao33, co33, eo33⟩ := Kd.R_slice HO_222004.out
       subst eo33
       obtain ⟨Ao34, co34, eo34⟩ := Kd.R_slice HO_222005.out
       subst eo34
       obtain ⟨Ao35, co35, eo35⟩ := Kd.R_slice HO_222006.out
       subst eo35
       go_wp2_with (first | (go_at_call 20; (with_reducible refine (automaton_Compose.calls k1 x222000_1 x222001_1 x222002_1 x222003_1 _ _ x222004_1 _ _ x222005_1 _ _ x222006_1 ((rd_T29 l0 x11_1).f0) ((rd_T29 l0 x11_1).f1.f0) ((rd_T29 l0 x11_1).f1.f1) ((rd_T29 l0 x11_1).f1.f2) (fun k_ => k_ < w.heap.size) _ _ ((rd_T29 l0 x11_1).f2.f0) (fun k_ => k_ < w.heap.size) _ _ ((rd_T29 l0 x11_1).f2.f1) (fun k_ => k_ < w.heap.size) _ _ ((rd_T29 l0 x11_1).f2.f2) t224 t225 t226 t227 t228 t231 t234 t237 _ ?side1 ?side2 ?side3 ?side4 ?side5 ?side6 ?side7 ?side8 ?side9 A14.out).mono ?_); (case side1 => refine (Kd.R_reads' (e := 3) (base := w.heap.size) (ok := fun k_ => (some k_ ≠ (.slice Ao34 x222005_1.length co34 : Value).ownBlock ∧ some k_ ≠ (.slice Ao35 x222006_1.length co35 : Value).ownBlock)) (n := x222004_1.length) (c := co33) ?_).2.2; exact (by (with_reducible repeat (first | apply rA | apply rN | apply rD)); exact (Kd.R_mono (R_fars7 gb223 (Kd.R_types HO_222004.out BK223.out (by decide)) (fun _ hk => hk.2) (.int .i64 ((rd_T29 l0 x11_1).f0)) (.int .i64 ((rd_T29 l0 x11_1).f1.f0)) (.int .i64 ((rd_T29 l0 x11_1).f1.f1)) (.int .i64 ((rd_T29 l0 x11_1).f1.f2)) (.slice A222_4 ((rd_T29 l0 x11_1).f2.f0).length c222_4) (.slice A222_5 ((rd_T29 l0 x11_1).f2.f1).length c222_5) (.slice A222_6 ((rd_T29 l0 x11_1).f2.f2).length c222_6)) (fun _ h_ => h_.1)))); (case side2 => exact (Kd.R_reads' HO_222004.out).2.1); (case side3 => refine (Kd.R_reads' (e := 3) (base := w.heap.size) (ok := fun k_ => (some k_ ≠ (.slice Ao33 x222004_1.length co33 : Value).ownBlock ∧ some k_ ≠ (.slice Ao35 x222006_1.length co35 : Value).ownBlock)) (n := x222005_1.length) (c := co34) ?_).2.2; exact (by (with_reducible repeat (first | apply rA | apply rN | apply rD)); exact (Kd.R_mono (R_fars7 gb223 (Kd.R_types HO_222005.out BK223.out (by decide)) (fun _ hk => hk.2) (.int .i64 ((rd_T29 l0 x11_1).f0)) (.int .i64 ((rd_T29 l0 x11_1).f1.f0)) (.int .i64 ((rd_T29 l0 x11_1).f1.f1)) (.int .i64 ((rd_T29 l0 x11_1).f1.f2)) (.slice A222_4 ((rd_T29 l0 x11_1).f2.f0).length c222_4) (.slice A222_5 ((rd_T29 l0 x11_1).f2.f1).length c222_5) (.slice A222_6 ((rd_T29 l0 x11_1).f2.f2).length c222_6)) (fun _ h_ => h_.1)))); (case side4 => exact (Kd.R_reads' HO_222005.out).2.1); (case side5 => refine (Kd.R_reads' (e := 3) (base := w.heap.size) (ok := fun k_ => (some k_ ≠ (.slice Ao33 x222004_1.length co33 : Value).ownBlock ∧ some k_ ≠ (.slice Ao34 x222005_1.length co34 : Value).ownBlock)) (n := x222006_1.length) (c := co35) ?_).2.2; exact (by (with_reducible repeat (first | apply rA | apply rN | apply rD)); exact (Kd.R_mono (R_fars7 gb223 (Kd.R_types HO_222006.out BK223.out (by decide)) (fun _ hk => hk.2) (.int .i64 ((rd_T29 l0 x11_1).f0)) (.int .i64 ((rd_T29 l0 x11_1).f1.f0)) (.int .i64 ((rd_T29 l0 x11_1).f1.f1)) (.int .i64 ((rd_T29 l0 x11_1).f1.f2)) (.slice A222_4 ((rd_T29 l0 x11_1).f2.f0).length c222_4) (.slice A222_5 ((rd_T29 l0 x11_1).f2.f1).length c222_5) (.slice A222_6 ((rd_T29 l0 x11_1).f2.f2).length c222_6)) (fun _ h_ => h_.1)))); (case side6 => exact (Kd.R_reads' HO_222006.out).2.1); (case side7 => exact Kd.V_mk HC222_4.out (Kd.F_below (Kd.C_F (Kd.heap_int .i64) HR222_4.out) (by repeat (first | (with_reducible first | exact HB.out | apply wA | apply wN | apply wD | refine wS ?_ GE207.out | refine wS ?_ GE221.out | refine wS ?_ GE223.out) | exact HB.out)))); (case side8 => exact Kd.V_mk HC222_5.out (Kd.F_below (Kd.C_F (Kd.heap_int .i64) HR222_5.out) (by repeat (first | (with_reducible first | exact HB.out | apply wA | apply wN | apply wD | refine wS ?_ GE207.out | refine wS ?_ GE221.out | refine wS ?_ GE223.out) | exact HB.out)))); (case side9 => exact Kd.V_mk HC222_6.out (Kd.F_below (Kd.C_F (Kd.heap_int .i64) HR222_6.out) (by repeat (first | (with_reducible first | exact HB.out | apply wA | apply wN | apply wD | refine wS ?_ GE207.out | refine wS ?_ GE221.out | refine wS ?_ GE223.out) | exact HB.out)))); rintro e w36 ⟨v229, v232, v235, rfl, ho0, ho1, ho2, hb⟩; have n0_ := Aside0.mk (Kd.R_mono (Kd.R_told (Kd.R_told (Kd.R_told (Kd.R_old (by (with_reducible repeat (first | apply rA | apply rN | apply rD)); exact (Kd.R_mono (R_fars7 gb223 (Kd.R_types HO_222004.out BK223.out (by decide)) (fun _ hk => hk.2) (.int .i64 ((rd_T29 l0 x11_1).f0)) (.int .i64 ((rd_T29 l0 x11_1).f1.f0)) (.int .i64 ((rd_T29 l0 x11_1).f1.f1)) (.int .i64 ((rd_T29 l0 x11_1).f1.f2)) (.slice A222_4 ((rd_T29 l0 x11_1).f2.f0).length c222_4) (.slice A222_5 ((rd_T29 l0 x11_1).f2.f1).length c222_5) (.slice A222_6 ((rd_T29 l0 x11_1).f2.f2).length c222_6)) (fun _ h_ => h_.1))) hb) (Kd.R_base ho0)) (Kd.R_base ho1)) (Kd.R_base ho2)) (fun _ h_ => h_.1)); have n1_ := Aside0.mk (Kd.R_mono (Kd.R_told (Kd.R_told (Kd.R_told (Kd.R_old (by (with_reducible repeat (first | apply rA | apply rN | apply rD)); exact (Kd.R_mono (R_fars7 gb223 (Kd.R_types HO_222005.out BK223.out (by decide)) (fun _ hk => hk.2) (.int .i64 ((rd_T29 l0 x11_1).f0)) (.int .i64 ((rd_T29 l0 x11_1).f1.f0)) (.int .i64 ((rd_T29 l0 x11_1).f1.f1)) (.int .i64 ((rd_T29 l0 x11_1).f1.f2)) (.slice A222_4 ((rd_T29 l0 x11_1).f2.f0).length c222_4) (.slice A222_5 ((rd_T29 l0 x11_1).f2.f1).length c222_5) (.slice A222_6 ((rd_T29 l0 x11_1).f2.f2).length c222_6)) (fun _ h_ => h_.1))) hb) (Kd.R_base ho0)) (Kd.R_base ho1)) (Kd.R_base ho2)) (fun _ h_ => h_.1)); have n2_ := Aside0.mk (Kd.R_mono (Kd.R_told (Kd.R_told (Kd.R_told (Kd.R_old (by (with_reducible repeat (first | apply rA | apply rN | apply rD)); exact (Kd.R_mono (R_fars7 gb223 (Kd.R_types HO_222006.out BK223.out (by decide)) (fun _ hk => hk.2) (.int .i64 ((rd_T29 l0 x11_1).f0)) (.int .i64 ((rd_T29 l0 x11_1).f1.f0)) (.int .i64 ((rd_T29 l0 x11_1).f1.f1)) (.int .i64 ((rd_T29 l0 x11_1).f1.f2)) (.slice A222_4 ((rd_T29 l0 x11_1).f2.f0).length c222_4) (.slice A222_5 ((rd_T29 l0 x11_1).f2.f1).length c222_5) (.slice A222_6 ((rd_T29 l0 x11_1).f2.f2).length c222_6)) (fun _ h_ => h_.1))) hb) (Kd.R_base ho0)) (Kd.R_base ho1)) (Kd.R_base ho2)) (fun _ h_ => h_.1)); have n3_ := Aside0.mk (Kd.R_lower (Kd.R_new' (Kd.R_new' (Kd.R_new' (Kd.R_mono (ok' := fun k_ => some k_ ≠ (v232 : Value).ownBlock ∧ some k_ ≠ (v235 : Value).ownBlock) ho0 (fun _ hk_ => hk_.2)) (Kd.R_lt (by (with_reducible repeat (first | apply rA | apply rN | apply rD)); exact (Kd.R_mono (R_fars7 gb223 (Kd.R_types HO_222004.out BK223.out (by decide)) (fun _ hk => hk.2) (.int .i64 ((rd_T29 l0 x11_1).f0)) (.int .i64 ((rd_T29 l0 x11_1).f1.f0)) (.int .i64 ((rd_T29 l0 x11_1).f1.f1)) (.int .i64 ((rd_T29 l0 x11_1).f1.f2)) (.slice A222_4 ((rd_T29 l0 x11_1).f2.f0).length c222_4) (.slice A222_5 ((rd_T29 l0 x11_1).f2.f1).length c222_5) (.slice A222_6 ((rd_T29 l0 x11_1).f2.f2).length c222_6)) (fun _ h_ => h_.1))))) (Kd.R_lt (by (with_reducible repeat (first | apply rA | apply rN | apply rD)); exact (Kd.R_mono (R_fars7 gb223 (Kd.R_types HO_222005.out BK223.out (by decide)) (fun _ hk => hk.2) (.int .i64 ((rd_T29 l0 x11_1).f0)) (.int .i64 ((rd_T29 l0 x11_1).f1.f0)) (.int .i64 ((rd_T29 l0 x11_1).f1.f1)) (.int .i64 ((rd_T29 l0 x11_1).f1.f2)) (.slice A222_4 ((rd_T29 l0 x11_1).f2.f0).length c222_4) (.slice A222_5 ((rd_T29 l0 x11_1).f2.f1).length c222_5) (.slice A222_6 ((rd_T29 l0 x11_1).f2.f2).length c222_6)) (fun _ h_ => h_.1))))) (Kd.R_lt (by (with_reducible repeat (first | apply rA | apply rN | apply rD)); exact (Kd.R_mono (R_fars7 gb223 (Kd.R_types HO_222006.out BK223.out (by decide)) (fun _ hk => hk.2) (.int .i64 ((rd_T29 l0 x11_1).f0)) (.int .i64 ((rd_T29 l0 x11_1).f1.f0)) (.int .i64 ((rd_T29 l0 x11_1).f1.f1)) (.int .i64 ((rd_T29 l0 x11_1).f1.f2)) (.slice A222_4 ((rd_T29 l0 x11_1).f2.f0).length c222_4) (.slice A222_5 ((rd_T29 l0 x11_1).f2.f1).length c222_5) (.slice A222_6 ((rd_T29 l0 x11_1).f2.f2).length c222_6)) (fun _ h_ => h_.1))))) (below_size (by repeat (first | (with_reducible first | exact HB.out | apply wA | apply wN | apply wD | refine wS ?_ GE207.out | refine wS ?_ GE221.out | refine wS ?_ GE223.out) | exact HB.out)))); have n4_ := Aside0.mk (Kd.R_lower (Kd.R_new' (Kd.R_new' (Kd.R_new' (Kd.R_mono (ok' := fun k_ => some k_ ≠ (v229 : Value).ownBlock ∧ some k_ ≠ (v235 : Value).ownBlock) ho1 (fun _ hk_ => hk_.2)) (Kd.R_lt (by (with_reducible repeat (first | apply rA | apply rN | apply rD)); exact (Kd.R_mono (R_fars7 gb223 (Kd.R_types HO_222004.out BK223.out (by decide)) (fun _ hk => hk.2) (.int .i64 ((rd_T29 l0 x11_1).f0)) (.int .i64 ((rd_T29 l0 x11_1).f1.f0)) (.int .i64 ((rd_T29 l0 x11_1).f1.f1)) (.int .i64 ((rd_T29 l0 x11_1).f1.f2)) (.slice A222_4 ((rd_T29 l0 x11_1).f2.f0).length c222_4) (.slice A222_5 ((rd_T29 l0 x11_1).f2.f1).length c222_5) (.slice A222_6 ((rd_T29 l0 x11_1).f2.f2).length c222_6)) (fun _ h_ => h_.1))))) (Kd.R_lt (by (with_reducible repeat (first | apply rA | apply rN | apply rD)); exact (Kd.R_mono (R_fars7 gb223 (Kd.R_types HO_222005.out BK223.out (by decide)) (fun _ hk => hk.2) (.int .i64 ((rd_T29 l0 x11_1).f0)) (.int .i64 ((rd_T29 l0 x11_1).f1.f0)) (.int .i64 ((rd_T29 l0 x11_1).f1.f1)) (.int .i64 ((rd_T29 l0 x11_1).f1.f2)) (.slice A222_4 ((rd_T29 l0 x11_1).f2.f0).length c222_4) (.slice A222_5 ((rd_T29 l0 x11_1).f2.f1).length c222_5) (.slice A222_6 ((rd_T29 l0 x11_1).f2.f2).length c222_6)) (fun _ h_ => h_.1))))) (Kd.R_lt (by (with_reducible repeat (first | apply rA | apply rN | apply rD)); exact (Kd.R_mono (R_fars7 gb223 (Kd.R_types HO_222006.out BK223.out (by decide)) (fun _ hk => hk.2) (.int .i64 ((rd_T29 l0 x11_1).f0)) (.int .i64 ((rd_T29 l0 x11_1).f1.f0)) (.int .i64 ((rd_T29 l0 x11_1).f1.f1)) (.int .i64 ((rd_T29 l0 x11_1).f1.f2)) (.slice A222_4 ((rd_T29 l0 x11_1).f2.f0).length c222_4) (.slice A222_5 ((rd_T29 l0 x11_1).f2.f1).length c222_5) (.slice A222_6 ((rd_T29 l0 x11_1).f2.f2).length c222_6)) (fun _ h_ => h_.1))))) (below_size (by repeat (first | (with_reducible first | exact HB.out | apply wA | apply wN | apply wD | refine wS ?_ GE207.out | refine wS ?_ GE221.out | refine wS ?_ GE223.out) | exact HB.out)))); have n5_ := Aside0.mk (Kd.R_lower (Kd.R_new' (Kd.R_new' (Kd.R_new' (Kd.R_mono (ok' := fun k_ => some k_ ≠ (v229 : Value).ownBlock ∧ some k_ ≠ (v232 : Value).ownBlock) ho2 (fun _ hk_ => hk_.2)) (Kd.R_lt (by (with_reducible repeat (first | apply rA | apply rN | apply rD)); exact (Kd.R_mono (R_fars7 gb223 (Kd.R_types HO_222004.out BK223.out (by decide)) (fun _ hk => hk.2) (.int .i64 ((rd_T29 l0 x11_1).f0)) (.int .i64 ((rd_T29 l0 x11_1).f1.f0)) (.int .i64 ((rd_T29 l0 x11_1).f1.f1)) (.int .i64 ((rd_T29 l0 x11_1).f1.f2)) (.slice A222_4 ((rd_T29 l0 x11_1).f2.f0).length c222_4) (.slice A222_5 ((rd_T29 l0 x11_1).f2.f1).length c222_5) (.slice A222_6 ((rd_T29 l0 x11_1).f2.f2).length c222_6)) (fun _ h_ => h_.1))))) (Kd.R_lt (by (with_reducible repeat (first | apply rA | apply rN | apply rD)); exact (Kd.R_mono (R_fars7 gb223 (Kd.R_types HO_222005.out BK223.out (by decide)) (fun _ hk => hk.2) (.int .i64 ((rd_T29 l0 x11_1).f0)) (.int .i64 ((rd_T29 l0 x11_1).f1.f0)) (.int .i64 ((rd_T29 l0 x11_1).f1.f1)) (.int .i64 ((rd_T29 l0 x11_1).f1.f2)) (.slice A222_4 ((rd_T29 l0 x11_1).f2.f0).length c222_4) (.slice A222_5 ((rd_T29 l0 x11_1).f2.f1).length c222_5) (.slice A222_6 ((rd_T29 l0 x11_1).f2.f2).length c222_6)) (fun _ h_ => h_.1))))) (Kd.R_lt (by (with_reducible repeat (first | apply rA | apply rN | apply rD)); exact (Kd.R_mono (R_fars7 gb223 (Kd.R_types HO_222006.out BK223.out (by decide)) (fun _ hk => hk.2) (.int .i64 ((rd_T29 l0 x11_1).f0)) (.int .i64 ((rd_T29 l0 x11_1).f1.f0)) (.int .i64 ((rd_T29 l0 x11_1).f1.f1)) (.int .i64 ((rd_T29 l0 x11_1).f1.f2)) (.slice A222_4 ((rd_T29 l0 x11_1).f2.f0).length c222_4) (.slice A222_5 ((rd_T29 l0 x11_1).f2.f1).length c222_5) (.slice A222_6 ((rd_T29 l0 x11_1).f2.f2).length c222_6)) (fun _ h_ => h_.1))))) (below_size (by repeat (first | (with_reducible first | exact HB.out | apply wA | apply wN | apply wD | refine wS ?_ GE207.out | refine wS ?_ GE221.out | refine wS ?_ GE223.out) | exact HB.out)))); have n6_ := Aside0.mk (blk_below (g := gb207) (o := .cells #[.int .i64 x208000_1, .int .i64 x208001_1, .int .i64 x208002_1, .int .i64 x208003_1, .slice none 0 0, .slice none 0 0, .slice none 0 0] 29 (0, 0)) (by (with_reducible repeat (first | refine bN ?_ _ | refine bD ?_ | refine bA ?_ _ | refine blk_far ?_ NB207_223.out _)); exact BK207.out) hb); have n7_ := Aside0.mk (blk_below (g := gb221) (o := .cells #[.int .i64 x222000_1, .int .i64 x222001_1, .int .i64 x222002_1, .int .i64 x222003_1, .slice Ao33 x222004_1.length co33, .slice Ao34 x222005_1.length co34, .slice Ao35 x222006_1.length co35] 29 (0, 0)) (by (with_reducible repeat (first | refine bN ?_ _ | refine bD ?_ | refine bA ?_ _ | refine blk_far ?_ NB221_223.out _)); exact BK221.out) hb); have n8_ := Aside0.mk (blk_below (g := gb223) (o := .cells #[.int .i64 ((rd_T29 l0 x11_1).f0), .int .i64 ((rd_T29 l0 x11_1).f1.f0), .int .i64 ((rd_T29 l0 x11_1).f1.f1), .int .i64 ((rd_T29 l0 x11_1).f1.f2), .slice A222_4 ((rd_T29 l0 x11_1).f2.f0).length c222_4, .slice A222_5 ((rd_T29 l0 x11_1).f2.f1).length c222_5, .slice A222_6 ((rd_T29 l0 x11_1).f2.f2).length c222_6] 29 (0, 0)) (by (with_reducible repeat (first | refine bN ?_ _ | refine bD ?_ | refine bA ?_ _)); refine blk_put (cs := #[.int .i64 ((rd_T29 l0 x11_1).f0), .int .i64 ((rd_T29 l0 x11_1).f1.f0), .int .i64 ((rd_T29 l0 x11_1).f1.f1), .int .i64 ((rd_T29 l0 x11_1).f1.f2), .slice A222_4 ((rd_T29 l0 x11_1).f2.f0).length c222_4, .slice A222_5 ((rd_T29 l0 x11_1).f2.f1).length c222_5, .slice none 0 0]) ?_ 6 _ rfl; (with_reducible repeat (first | refine bN ?_ _ | refine bD ?_ | refine bA ?_ _)); refine blk_put (cs := #[.int .i64 ((rd_T29 l0 x11_1).f0), .int .i64 ((rd_T29 l0 x11_1).f1.f0), .int .i64 ((rd_T29 l0 x11_1).f1.f1), .int .i64 ((rd_T29 l0 x11_1).f1.f2), .slice A222_4 ((rd_T29 l0 x11_1).f2.f0).length c222_4, .slice none 0 0, .slice none 0 0]) ?_ 5 _ rfl; (with_reducible repeat (first | refine bN ?_ _ | refine bD ?_ | refine bA ?_ _)); refine blk_put (cs := #[.int .i64 ((rd_T29 l0 x11_1).f0), .int .i64 ((rd_T29 l0 x11_1).f1.f0), .int .i64 ((rd_T29 l0 x11_1).f1.f1), .int .i64 ((rd_T29 l0 x11_1).f1.f2), .slice none 0 0, .slice none 0 0, .slice none 0 0]) ?_ 4 _ rfl; (with_reducible repeat (first | refine bN ?_ _ | refine bD ?_ | refine bA ?_ _)); refine blk_put (cs := #[.int .i64 ((rd_T29 l0 x11_1).f0), .int .i64 ((rd_T29 l0 x11_1).f1.f0), .int .i64 ((rd_T29 l0 x11_1).f1.f1), .int .i64 0, .slice none 0 0, .slice none 0 0, .slice none 0 0]) ?_ 3 _ rfl; (with_reducible repeat (first | refine bN ?_ _ | refine bD ?_ | refine bA ?_ _)); refine blk_put (cs := #[.int .i64 ((rd_T29 l0 x11_1).f0), .int .i64 ((rd_T29 l0 x11_1).f1.f0), .int .i64 0, .int .i64 0, .slice none 0 0, .slice none 0 0, .slice none 0 0]) ?_ 2 _ rfl; (with_reducible repeat (first | refine bN ?_ _ | refine bD ?_ | refine bA ?_ _)); refine blk_put (cs := #[.int .i64 ((rd_T29 l0 x11_1).f0), .int .i64 0, .int .i64 0, .int .i64 0, .slice none 0 0, .slice none 0 0, .slice none 0 0]) ?_ 1 _ rfl; (with_reducible repeat (first | refine bN ?_ _ | refine bD ?_ | refine bA ?_ _)); refine blk_put (cs := #[.int .i64 0, .int .i64 0, .int .i64 0, .int .i64 0, .slice none 0 0, .slice none 0 0, .slice none 0 0]) ?_ 0 _ rfl; (with_reducible repeat (first | refine bN ?_ _ | refine bD ?_ | refine bA ?_ _)); exact BK223.out) hb); have n9_ := Aside0.mk (below_step (by repeat (first | (with_reducible first | exact HB.out | apply wA | apply wN | apply wD | refine wS ?_ GE207.out | refine wS ?_ GE221.out | refine wS ?_ GE223.out) | exact HB.out)) hb); clear HO_222004; clear HO_222005; clear HO_222006; clear BK207; clear BK221; clear BK223; clear HB; have HO_222004 := n0_; have HO_222005 := n1_; have HO_222006 := n2_; have HO230 := n3_; have HO233 := n4_; have HO236 := n5_; have BK207 := n6_; have BK221 := n7_; have BK223 := n8_; have HB := n9_; clear n0_ n1_ n2_ n3_ n4_ n5_ n6_ n7_ n8_ n9_; (try clear hb); (try clear hb2); (try clear hk); (try clear hi); (try clear ho0); (try clear ho1); (try clear ho2); have hnb37 := NB221_207.out; have hnc37 := NB207_221.out; have hnb38 := NB221_223.out; have hnc38 := NB223_221.out; have hcz39_0 : w36.cell? ⟨gb221, 0, none⟩ = some (.int .i64 x222000_1) := (blk_cell BK221.out 0).trans rfl; have hcz39_1 : w36.cell? ⟨gb221, 1, none⟩ = some (.int .i64 x222001_1) := (blk_cell BK221.out 1).trans rfl; have hcz39_2 : w36.cell? ⟨gb221, 2, none⟩ = some (.int .i64 x222002_1) := (blk_cell BK221.out 2).trans rfl; have hcz39_3 : w36.cell? ⟨gb221, 3, none⟩ = some (.int .i64 x222003_1) := (blk_cell BK221.out 3).trans rfl; have hcz39_4 : w36.cell? ⟨gb221, 4, none⟩ = some (.slice Ao33 x222004_1.length co33) := (blk_cell BK221.out 4).trans rfl; have hcz39_5 : w36.cell? ⟨gb221, 5, none⟩ = some (.slice Ao34 x222005_1.length co34) := (blk_cell BK221.out 5).trans rfl; have hcz39_6 : w36.cell? ⟨gb221, 6, none⟩ = some (.slice Ao35 x222006_1.length co35) := (blk_cell BK221.out 6).trans rfl; have hfz39_0 := blk_frozen BK221.out 0; have hfz39_1 := blk_frozen BK221.out 1; have hfz39_2 := blk_frozen BK221.out 2; have hfz39_3 := blk_frozen BK221.out 3; have hfz39_4 := blk_frozen BK221.out 4; have hfz39_5 := blk_frozen BK221.out 5; have hfz39_6 := blk_frozen BK221.out 6; obtain ⟨Ao40, co40, eo40⟩ := Kd.R_slice HO230.out; subst eo40; obtain ⟨Ao41, co41, eo41⟩ := Kd.R_slice HO233.out; subst eo41; obtain ⟨Ao42, co42, eo42⟩ := Kd.R_slice HO236.out; subst eo42; have hnb43 := NB207_223.out; have hnc43 := NB223_207.out; have hcz44_0 : w36.cell? ⟨gb207, 0, none⟩ = some (.int .i64 x208000_1) := (blk_cell BK207.out 0).trans rfl; have hcz44_1 : w36.cell? ⟨gb207, 1, none⟩ = some (.int .i64 x208001_1) := (blk_cell BK207.out 1).trans rfl; have hcz44_2 : w36.cell? ⟨gb207, 2, none⟩ = some (.int .i64 x208002_1) := (blk_cell BK207.out 2).trans rfl; have hcz44_3 : w36.cell? ⟨gb207, 3, none⟩ = some (.int .i64 x208003_1) := (blk_cell BK207.out 3).trans rfl; have hcz44_4 : w36.cell? ⟨gb207, 4, none⟩ = some (.slice none 0 0) := (blk_cell BK207.out 4).trans rfl; have hcz44_5 : w36.cell? ⟨gb207, 5, none⟩ = some (.slice none 0 0) := (blk_cell BK207.out 5).trans rfl; have hcz44_6 : w36.cell? ⟨gb207, 6, none⟩ = some (.slice none 0 0) := (blk_cell BK207.out 6).trans rfl; have hfz44_0 := blk_frozen BK207.out 0; have hfz44_1 := blk_frozen BK207.out 1; have hfz44_2 := blk_frozen BK207.out 2; have hfz44_3 := blk_frozen BK207.out 3; have hfz44_4 := blk_frozen BK207.out 4; have hfz44_5 := blk_frozen BK207.out 5; have hfz44_6 := blk_frozen BK207.out 6))
       refine bodyPost_ret (results_ct rfl _ _ gb207 29 #[.int .i64 0, .int .i64 0, .int .i64 0, .int .i64 0, .slice none 0 0, .slice none 0 0, .slice none 0 0] (0, 0) _ rfl (by (with_reducible repeat (first | refine bN ?_ _ | refine bD ?_ | refine bA ?_ _)); refine blk_put (cs := #[.int .i64 0, .int .i64 0, .int .i64 0, .int .i64 0, .slice none 0 0, .slice none 0 0, .slice none 0 0]) ?_ 6 _ rfl; (with_reducible repeat (first | refine bN ?_ _ | refine bD ?_ | refine bA ?_ _)); refine blk_put (cs := #[.int .i64 0, .int .i64 0, .int .i64 0, .int .i64 0, .slice none 0 0, .slice none 0 0, .slice none 0 0]) ?_ 5 _ rfl; (with_reducible repeat (first | refine bN ?_ _ | refine bD ?_ | refine bA ?_ _)); refine blk_put (cs := #[.int .i64 0, .int .i64 0, .int .i64 0, .int .i64 0, .slice none 0 0, .slice none 0 0, .slice none 0 0]) ?_ 4 _ rfl; (with_reducible repeat (first | refine bN ?_ _ | refine bD ?_ | refine bA ?_ _)); refine blk_put (cs := #[.int .i64 0, .int .i64 0, .int .i64 0, .int .i64 x208003_1, .slice none 0 0, .slice none 0 0, .slice none 0 0]) ?_ 3 _ rfl; (with_reducible repeat (first | refine bN ?_ _ | refine bD ?_ | refine bA ?_ _)); refine blk_put (cs := #[.int .i64 0, .int .i64 0, .int .i64 x208002_1, .int .i64 x208003_1, .slice none 0 0, .slice none 0 0, .slice none 0 0]) ?_ 2 _ rfl; (with_reducible repeat (first | refine bN ?_ _ | refine bD ?_ | refine bA ?_ _)); refine blk_put (cs := #[.int .i64 0, .int .i64 x208001_1, .int .i64 x208002_1, .int .i64 x208003_1, .slice none 0 0, .slice none 0 0, .slice none 0 0]) ?_ 1 _ rfl; (with_reducible repeat (first | refine bN ?_ _ | refine bD ?_ | refine bA ?_ _)); refine blk_put (cs := #[.int .i64 x208000_1, .int .i64 x208001_1, .int .i64 x208002_1, .int .i64 x208003_1, .slice none 0 0, .slice none 0 0, .slice none 0 0]) ?_ 0 _ rfl; (with_reducible repeat (first | refine bN ?_ _ | refine bD ?_ | refine bA ?_ _ | refine blk_far ?_ NB207_221.out _)); exact BK207.out) Tryd.underlying29 rfl (by kernel_rfl)) rfl ?_
       exact ⟨_, _, _, by first | rfl | (simp [errW_none, errW_some] <;> rfl) | (simp [*, errW_none, errW_some] <;> rfl), by first | exact Kd.R_nil _ _ _ _ _ | exact Kd.N_nil _ _ _ _ _ | exact Kd.V_nil _ _ _ _ _ | exact Kd.Q_nil _ _ _ _ _ | exact Kd.S_nil _ _ _ _ _, by first | exact Kd.R_nil _ _ _ _ _ | exact Kd.N_nil _ _ _ _ _ | exact Kd.V_nil _ _ _ _ _ | exact Kd.Q_nil _ _ _ _ _ | exact Kd.S_nil _ _ _ _ _, by first | exact Kd.R_nil _ _ _ _ _ | exact Kd.N_nil _ _ _ _ _ | exact Kd.V_nil _ _ _ _ _ | exact Kd.Q_nil _ _ _ _ _ | exact Kd.S_nil _ _ _ _ _, by repeat (first | (with_reducible first | exact HB.out | apply wA | apply wN | apply wD | refine wS ?_ GE207.out | refine wS ?_ GE221.out | refine wS ?_ GE223.out) | exact HB.out)⟩
     ·rw [if_neg c13] at H
      exact absurd H (by simp)
    ·rw [if_neg c12] at H
     exact absurd H (by simp)
   ·rw [if_neg c11] at H
    have c11b0 : decide (x11_1 < (l0.length : Int)) = false := decide_eq_false c11
    clear c11
    simp only [Option.some.injEq, Prod.mk.injEq] at H
    obtain ⟨rfl, rfl, rfl, rfl, rfl, rfl, rfl, rfl⟩ := H
    have hnb45 := NB221_207.out; have hnc45 := NB207_221.out; have hcz46_0 : wr.cell? ⟨gb221, 0, none⟩ = some (.int .i64 x222000_1) := (blk_cell BK221.out 0).trans rfl; have hcz46_1 : wr.cell? ⟨gb221, 1, none⟩ = some (.int .i64 x222001_1) := (blk_cell BK221.out 1).trans rfl; have hcz46_2 : wr.cell? ⟨gb221, 2, none⟩ = some (.int .i64 x222002_1) := (blk_cell BK221.out 2).trans rfl; have hcz46_3 : wr.cell? ⟨gb221, 3, none⟩ = some (.int .i64 x222003_1) := (blk_cell BK221.out 3).trans rfl; have hcz46_4 : wr.cell? ⟨gb221, 4, none⟩ = some (u222004) := (blk_cell BK221.out 4).trans rfl; have hcz46_5 : wr.cell? ⟨gb221, 5, none⟩ = some (u222005) := (blk_cell BK221.out 5).trans rfl; have hcz46_6 : wr.cell? ⟨gb221, 6, none⟩ = some (u222006) := (blk_cell BK221.out 6).trans rfl; have hfz46_0 := blk_frozen BK221.out 0; have hfz46_1 := blk_frozen BK221.out 1; have hfz46_2 := blk_frozen BK221.out 2; have hfz46_3 := blk_frozen BK221.out 3; have hfz46_4 := blk_frozen BK221.out 4; have hfz46_5 := blk_frozen BK221.out 5; have hfz46_6 := blk_frozen BK221.out 6; have hcz47_0 : wr.cell? ⟨gb207, 0, none⟩ = some (.int .i64 x208000_1) := (blk_cell BK207.out 0).trans rfl; have hcz47_1 : wr.cell? ⟨gb207, 1, none⟩ = some (.int .i64 x208001_1) := (blk_cell BK207.out 1).trans rfl; have hcz47_2 : wr.cell? ⟨gb207, 2, none⟩ = some (.int .i64 x208002_1) := (blk_cell BK207.out 2).trans rfl; have hcz47_3 : wr.cell? ⟨gb207, 3, none⟩ = some (.int .i64 x208003_1) := (blk_cell BK207.out 3).trans rfl; have hcz47_4 : wr.cell? ⟨gb207, 4, none⟩ = some (.slice none 0 0) := (blk_cell BK207.out 4).trans rfl; have hcz47_5 : wr.cell? ⟨gb207, 5, none⟩ = some (.slice none 0 0) := (blk_cell BK207.out 5).trans rfl; have hcz47_6 : wr.cell? ⟨gb207, 6, none⟩ = some (.slice none 0 0) := (blk_cell BK207.out 6).trans rfl; have hfz47_0 := blk_frozen BK207.out 0; have hfz47_1 := blk_frozen BK207.out 1; have hfz47_2 := blk_frozen BK207.out 2; have hfz47_3 := blk_frozen BK207.out 3; have hfz47_4 := blk_frozen BK207.out 4; have hfz47_5 := blk_frozen BK207.out 5; have hfz47_6 := blk_frozen BK207.out 6
    obtain ⟨Ao48, co48, eo48⟩ := Kd.R_slice HO_222004.out
    subst eo48
    obtain ⟨Ao49, co49, eo49⟩ := Kd.R_slice HO_222005.out
    subst eo49
    obtain ⟨Ao50, co50, eo50⟩ := Kd.R_slice HO_222006.out
    subst eo50
    go_wp2
    refine bodyPost_ret (results_ct rfl _ _ gb207 29 #[.int .i64 x222000_1, .int .i64 x222001_1, .int .i64 x222002_1, .int .i64 x222003_1, .slice Ao48 x222004_1.length co48, .slice Ao49 x222005_1.length co49, .slice Ao50 x222006_1.length co50] (0, 0) _ rfl (by (with_reducible repeat (first | refine bN ?_ _ | refine bD ?_ | refine bA ?_ _)); refine blk_put (cs := #[.int .i64 x222000_1, .int .i64 x222001_1, .int .i64 x222002_1, .int .i64 x222003_1, .slice Ao48 x222004_1.length co48, .slice Ao49 x222005_1.length co49, .slice none 0 0]) ?_ 6 _ rfl; (with_reducible repeat (first | refine bN ?_ _ | refine bD ?_ | refine bA ?_ _)); refine blk_put (cs := #[.int .i64 x222000_1, .int .i64 x222001_1, .int .i64 x222002_1, .int .i64 x222003_1, .slice Ao48 x222004_1.length co48, .slice none 0 0, .slice none 0 0]) ?_ 5 _ rfl; (with_reducible repeat (first | refine bN ?_ _ | refine bD ?_ | refine bA ?_ _)); refine blk_put (cs := #[.int .i64 x222000_1, .int .i64 x222001_1, .int .i64 x222002_1, .int .i64 x222003_1, .slice none 0 0, .slice none 0 0, .slice none 0 0]) ?_ 4 _ rfl; (with_reducible repeat (first | refine bN ?_ _ | refine bD ?_ | refine bA ?_ _)); refine blk_put (cs := #[.int .i64 x222000_1, .int .i64 x222001_1, .int .i64 x222002_1, .int .i64 x208003_1, .slice none 0 0, .slice none 0 0, .slice none 0 0]) ?_ 3 _ rfl; (with_reducible repeat (first | refine bN ?_ _ | refine bD ?_ | refine bA ?_ _)); refine blk_put (cs := #[.int .i64 x222000_1, .int .i64 x222001_1, .int .i64 x208002_1, .int .i64 x208003_1, .slice none 0 0, .slice none 0 0, .slice none 0 0]) ?_ 2 _ rfl; (with_reducible repeat (first | refine bN ?_ _ | refine bD ?_ | refine bA ?_ _)); refine blk_put (cs := #[.int .i64 x222000_1, .int .i64 x208001_1, .int .i64 x208002_1, .int .i64 x208003_1, .slice none 0 0, .slice none 0 0, .slice none 0 0]) ?_ 1 _ rfl; (with_reducible repeat (first | refine bN ?_ _ | refine bD ?_ | refine bA ?_ _)); refine blk_put (cs := #[.int .i64 x208000_1, .int .i64 x208001_1, .int .i64 x208002_1, .int .i64 x208003_1, .slice none 0 0, .slice none 0 0, .slice none 0 0]) ?_ 0 _ rfl; (with_reducible repeat (first | refine bN ?_ _ | refine bD ?_ | refine bA ?_ _)); exact BK207.out) Tryd.underlying29 rfl (by kernel_rfl)) rfl ?_
    exact ⟨_, _, _, by first | rfl | (simp [errW_none, errW_some] <;> rfl) | (simp [*, errW_none, errW_some] <;> rfl), by (with_reducible repeat (first | apply rA | apply rN | apply rD)); exact Kd.R_mono (R_fars7 gb207 (Kd.R_types HO_222004.out BK207.out (by decide)) (fun _ hk => hk.2) (.int .i64 x222000_1) (.int .i64 x222001_1) (.int .i64 x222002_1) (.int .i64 x222003_1) (.slice Ao48 x222004_1.length co48) (.slice Ao49 x222005_1.length co49) (.slice Ao50 x222006_1.length co50)) (fun _ hk => hk.1), by (with_reducible repeat (first | apply rA | apply rN | apply rD)); exact Kd.R_mono (R_fars7 gb207 (Kd.R_types HO_222005.out BK207.out (by decide)) (fun _ hk => hk.2) (.int .i64 x222000_1) (.int .i64 x222001_1) (.int .i64 x222002_1) (.int .i64 x222003_1) (.slice Ao48 x222004_1.length co48) (.slice Ao49 x222005_1.length co49) (.slice Ao50 x222006_1.length co50)) (fun _ hk => hk.1), by (with_reducible repeat (first | apply rA | apply rN | apply rD)); exact Kd.R_mono (R_fars7 gb207 (Kd.R_types HO_222006.out BK207.out (by decide)) (fun _ hk => hk.2) (.int .i64 x222000_1) (.int .i64 x222001_1) (.int .i64 x222002_1) (.int .i64 x222003_1) (.slice Ao48 x222004_1.length co48) (.slice Ao49 x222005_1.length co49) (.slice Ao50 x222006_1.length co50)) (fun _ hk => hk.1), by repeat (first | (with_reducible first | exact HB.out | apply wA | apply wN | apply wD | refine wS ?_ GE207.out | refine wS ?_ GE221.out) | exact HB.out)⟩

/-! ### ndjqref18_Step: function 11 -/
mutual
def ndjqref18_Step.j0 : Nat → Int → Int → Bool → Option (Int × Bool)
  | 0, _, _, _ => none
  | k + 1, x0, x1, x6 => if x6 = true then (some (1, false)) else (if x0 = 0 then (some (0, (x1 == 10))) else (if x0 = 1 then (ndjqref18_Step.j1 k x0 x1 (x1 == 92)) else (ndjqref18_Step.j1 k x0 x1 false)))
def ndjqref18_Step.j1 : Nat → Int → Int → Bool → Option (Int × Bool)
  | 0, _, _, _ => none
  | k + 1, x0, x1, x18 => if x18 = true then (some (2, false)) else (if x0 = 1 then (ndjqref18_Step.j2 k x0 (x1 == 34)) else (ndjqref18_Step.j2 k x0 false))
def ndjqref18_Step.j2 : Nat → Int → Bool → Option (Int × Bool)
  | 0, _, _ => none
  | k + 1, x0, x25 => if x25 = true then (some (0, false)) else (if x0 = 1 then (some (1, false)) else (if x0 = 2 then (some (1, false)) else (some (0, false))))
end
def ndjqref18_Step.f (k : Nat) (a0 : Int) (a1 : Int) : Option (Int × Bool) := if a0 = 0 then (ndjqref18_Step.j0 k a0 a1 (a1 == 34)) else (ndjqref18_Step.j0 k a0 a1 false)
theorem ndjqref18_Step.mono_l : ∀ k, (∀ y0 y1 y2, LeO (ndjqref18_Step.j0 k y0 y1 y2) (ndjqref18_Step.j0 (k + 1) y0 y1 y2)) ∧ (∀ y0 y1 y2, LeO (ndjqref18_Step.j1 k y0 y1 y2) (ndjqref18_Step.j1 (k + 1) y0 y1 y2)) ∧ (∀ y0 y1, LeO (ndjqref18_Step.j2 k y0 y1) (ndjqref18_Step.j2 (k + 1) y0 y1))
  | 0 => ⟨fun _ _ _ r h => by simp [ndjqref18_Step.j0] at h, fun _ _ _ r h => by simp [ndjqref18_Step.j1] at h, fun _ _ r h => by simp [ndjqref18_Step.j2] at h⟩
  | k + 1 => by
    obtain ⟨ih0, ih1, ih2⟩ := ndjqref18_Step.mono_l k
    refine ⟨?_, ?_, ?_⟩
    · intro y0 y1 y2
      unfold ndjqref18_Step.j0
      repeat' first
      | (with_reducible exact ih0 _ _ _)
      | (with_reducible exact ih1 _ _ _)
      | (with_reducible exact ih2 _ _)
      | (with_reducible exact LeO.refl _)
      | (with_reducible exact LeO.none _)
      | (with_reducible refine LeO.ite ?_ ?_)
      | (with_reducible refine LeO.bind ?_ (fun _ => ?_))
      | exact ih0 _ _ _
      | exact ih1 _ _ _
      | exact ih2 _ _
      | exact LeO.none _
      | refine LeO.ite ?_ ?_
      | refine LeO.bind ?_ (fun _ => ?_)
    · intro y0 y1 y2
      unfold ndjqref18_Step.j1
      repeat' first
      | (with_reducible exact ih0 _ _ _)
      | (with_reducible exact ih1 _ _ _)
      | (with_reducible exact ih2 _ _)
      | (with_reducible exact LeO.refl _)
      | (with_reducible exact LeO.none _)
      | (with_reducible refine LeO.ite ?_ ?_)
      | (with_reducible refine LeO.bind ?_ (fun _ => ?_))
      | exact ih0 _ _ _
      | exact ih1 _ _ _
      | exact ih2 _ _
      | exact LeO.none _
      | refine LeO.ite ?_ ?_
      | refine LeO.bind ?_ (fun _ => ?_)
    · intro y0 y1
      unfold ndjqref18_Step.j2
      repeat' first
      | (with_reducible exact ih0 _ _ _)
      | (with_reducible exact ih1 _ _ _)
      | (with_reducible exact ih2 _ _)
      | (with_reducible exact LeO.refl _)
      | (with_reducible exact LeO.none _)
      | (with_reducible refine LeO.ite ?_ ?_)
      | (with_reducible refine LeO.bind ?_ (fun _ => ?_))
      | exact ih0 _ _ _
      | exact ih1 _ _ _
      | exact ih2 _ _
      | exact LeO.none _
      | refine LeO.ite ?_ ?_
      | refine LeO.bind ?_ (fun _ => ?_)
theorem ndjqref18_Step.mono : ∀ a0 a1 k, LeO (ndjqref18_Step.f k a0 a1) (ndjqref18_Step.f (k + 1) a0 a1) := by
  intro a0 a1 k
  obtain ⟨ih0, ih1, ih2⟩ := ndjqref18_Step.mono_l k
  unfold ndjqref18_Step.f
  repeat' first
      | (with_reducible exact ih0 _ _ _)
      | (with_reducible exact ih1 _ _ _)
      | (with_reducible exact ih2 _ _)
      | (with_reducible exact LeO.refl _)
      | (with_reducible exact LeO.none _)
      | (with_reducible refine LeO.ite ?_ ?_)
      | (with_reducible refine LeO.bind ?_ (fun _ => ?_))
      | exact ih0 _ _ _
      | exact ih1 _ _ _
      | exact ih2 _ _
      | exact LeO.none _
      | refine LeO.ite ?_ ?_
      | refine LeO.bind ?_ (fun _ => ?_)
set_option maxHeartbeats 8000000 in
set_option maxRecDepth 100000 in
theorem ndjqref18_Step.calls (k : Nat) (a0 : Int) (a1 : Int) (r1 : Int) (r2 : Bool) (w : World) (h : ndjqref18_Step.f k a0 a1 = some (r1, r2)) :
    Calls Tryd.prog 11 #[.int .i64 a0, .int .u8 a1] w fun e w' => e = .returned (.tuple #[.int .i64 r1, .bool r2]) ∧ Drawn0 w w' := by
  have H : (if a0 = 0 then (ndjqref18_Step.j0 k a0 a1 (a1 == 34)) else (ndjqref18_Step.j0 k a0 a1 false)) = some (r1, r2) := h
  clear h
  have HC3 := Aside0.mk H
  clear H
  go_enter Tryd.func11, Tryd.ntmps11
  go_upto_region 1 with (fail)
  go_cut [6] (fun v6 wc => ∃ (kq : Nat) (x6_2 : Bool), v6 = .bool x6_2 ∧ Aside0 (ndjqref18_Step.j0 kq a0 a1 x6_2 = some (r1, r2)) ∧ Aside0 (kq ≤ k) ∧ Drawn0 w wc)
  case first =>
    have H := HC3.out
    clear HC3
    by_cases c4 : a0 = 0
    · rw [if_pos c4] at H
      have c4b0 : (a0 == 0) = true := beq_iff_eq.mpr c4
      have c4b1 : (a0 != 0) = false := bne_eq_false_iff_eq.mpr c4
      clear c4
      (first | rw [c4b0] | (simp only [i64_w, i32_w]; rw [c4b0]) | skip)
      have H' := Aside0.mk H
      clear H
      go_wp2
      go_meet
      case rel => exact ⟨_, ((a1 == 34)), (by first | rfl | (simp; done) | (simp [*]; done)), H', ⟨by first | omega | exact Nat.le_refl _⟩, by repeat (first | exact Drawn0.refl _ | apply Drawn0.step)⟩
    · rw [if_neg c4] at H
      have c4b0 : (a0 == 0) = false := beq_eq_false_iff_ne.mpr c4
      have c4b1 : (a0 != 0) = true := bne_iff_ne.mpr c4
      (first | rw [c4b0] | (simp only [i64_w, i32_w]; rw [c4b0]) | skip)
      have H' := Aside0.mk H
      clear H
      go_wp2
      go_meet
      case rel => exact ⟨_, (false), (by first | rfl | (simp; done) | (simp [*]; done)), H', ⟨by first | omega | exact Nat.le_refl _⟩, by repeat (first | exact Drawn0.refl _ | apply Drawn0.step)⟩
  case rest =>
    clear HC3
    (try clear c1); (try clear p2); (try clear c4); (try clear c4b0); (try clear c4b1)
    obtain ⟨kq, x6_2, rfl, HA, HJ2, ⟨mc2, rfl⟩⟩ := hcut
    cases kq with
    | zero => exact absurd HA.out (by simp [ndjqref18_Step.j0])
    | succ kj2 =>
      have H := HA.out
      clear HA
      simp only [ndjqref18_Step.j0] at H
      by_cases c5 : x6_2 = true
      · subst c5
        have H1 : (some (1, false)) = some (r1, r2) := by rw [if_pos rfl] at H; exact H
        clear H
        have H := H1
        clear H1
        simp only [Option.some.injEq, Prod.mk.injEq] at H
        obtain ⟨rfl, rfl⟩ := H
        go_wp2
        go_ret2
        exact ⟨by first | rfl | (simp; done) | (simp [*]; done), by repeat (first | exact Drawn0.refl _ | apply Drawn0.step)⟩
      · replace c5 := Bool.eq_false_iff.mpr c5
        subst c5
        have H1 : (if a0 = 0 then (some (0, (a1 == 10))) else (if a0 = 1 then (ndjqref18_Step.j1 kj2 a0 a1 (a1 == 92)) else (ndjqref18_Step.j1 kj2 a0 a1 false))) = some (r1, r2) := by rw [if_neg (show ¬ (false = true) by decide)] at H; exact H
        clear H
        have H := H1
        clear H1
        by_cases c6 : a0 = 0
        · rw [if_pos c6] at H
          have c6b0 : (a0 == 0) = true := beq_iff_eq.mpr c6
          have c6b1 : (a0 != 0) = false := bne_eq_false_iff_eq.mpr c6
          clear c6
          simp only [Option.some.injEq, Prod.mk.injEq] at H
          obtain ⟨rfl, rfl⟩ := H
          go_wp2
          go_ret2
          exact ⟨by first | rfl | (simp; done) | (simp [*]; done), by repeat (first | exact Drawn0.refl _ | apply Drawn0.step)⟩
        · rw [if_neg c6] at H
          have c6b0 : (a0 == 0) = false := beq_eq_false_iff_ne.mpr c6
          have c6b1 : (a0 != 0) = true := bne_iff_ne.mpr c6
          have HC7 := Aside0.mk H
          clear H
          go_upto_region 5 with (fail)
          go_cut [18] (fun v18 wc => ∃ (kq : Nat) (x18_6 : Bool), v18 = .bool x18_6 ∧ Aside0 (ndjqref18_Step.j1 kq a0 a1 x18_6 = some (r1, r2)) ∧ Aside0 (kq ≤ kj2) ∧ Drawn0 w wc)
          case first =>
            have H := HC7.out
            clear HC7
            by_cases c8 : a0 = 1
            · rw [if_pos c8] at H
              have c8b0 : (a0 == 1) = true := beq_iff_eq.mpr c8
              have c8b1 : (a0 != 1) = false := bne_eq_false_iff_eq.mpr c8
              clear c8
              (first | rw [c8b0] | (simp only [i64_w, i32_w]; rw [c8b0]) | skip)
              have H' := Aside0.mk H
              clear H
              go_wp2
              go_meet
              case rel => exact ⟨_, ((a1 == 92)), (by first | rfl | (simp; done) | (simp [*]; done)), H', ⟨by have := HJ2.out; first | omega | exact Nat.le_refl _⟩, by repeat (first | exact Drawn0.refl _ | apply Drawn0.step)⟩
            · rw [if_neg c8] at H
              have c8b0 : (a0 == 1) = false := beq_eq_false_iff_ne.mpr c8
              have c8b1 : (a0 != 1) = true := bne_iff_ne.mpr c8
              (first | rw [c8b0] | (simp only [i64_w, i32_w]; rw [c8b0]) | skip)
              have H' := Aside0.mk H
              clear H
              go_wp2
              go_meet
              case rel => exact ⟨_, (false), (by first | rfl | (simp; done) | (simp [*]; done)), H', ⟨by have := HJ2.out; first | omega | exact Nat.le_refl _⟩, by repeat (first | exact Drawn0.refl _ | apply Drawn0.step)⟩
          case rest =>
            clear HC7
            (try clear c1); (try clear c2); (try clear p2); (try clear c4); (try clear c4b0); (try clear c4b1); (try clear c5); (try clear c6); (try clear c6b0); (try clear c6b1); (try clear c8); (try clear c8b0); (try clear c8b1); (try clear p2)
            obtain ⟨kq, x18_6, rfl, HA, HJ6, ⟨mc6, rfl⟩⟩ := hcut
            cases kq with
            | zero => exact absurd HA.out (by simp [ndjqref18_Step.j1])
            | succ kj6 =>
              have H := HA.out
              clear HA
              simp only [ndjqref18_Step.j1] at H
              by_cases c9 : x18_6 = true
              · subst c9
                have H1 : (some (2, false)) = some (r1, r2) := by rw [if_pos rfl] at H; exact H
                clear H
                have H := H1
                clear H1
                simp only [Option.some.injEq, Prod.mk.injEq] at H
                obtain ⟨rfl, rfl⟩ := H
                go_wp2
                go_ret2
                exact ⟨by first | rfl | (simp; done) | (simp [*]; done), by repeat (first | exact Drawn0.refl _ | apply Drawn0.step)⟩
              · replace c9 := Bool.eq_false_iff.mpr c9
                subst c9
                have H1 : (if a0 = 1 then (ndjqref18_Step.j2 kj6 a0 (a1 == 34)) else (ndjqref18_Step.j2 kj6 a0 false)) = some (r1, r2) := by rw [if_neg (show ¬ (false = true) by decide)] at H; exact H
                clear H
                have H := H1
                clear H1
                have HC10 := Aside0.mk H
                clear H
                go_upto_region 7 with (fail)
                go_cut [25] (fun v25 wc => ∃ (kq : Nat) (x25_9 : Bool), v25 = .bool x25_9 ∧ Aside0 (ndjqref18_Step.j2 kq a0 x25_9 = some (r1, r2)) ∧ Aside0 (kq ≤ kj6) ∧ Drawn0 w wc)
                case first =>
                  have H := HC10.out
                  clear HC10
                  by_cases c11 : a0 = 1
                  · rw [if_pos c11] at H
                    have c11b0 : (a0 == 1) = true := beq_iff_eq.mpr c11
                    have c11b1 : (a0 != 1) = false := bne_eq_false_iff_eq.mpr c11
                    clear c11
                    (first | rw [c11b0] | (simp only [i64_w, i32_w]; rw [c11b0]) | skip)
                    have H' := Aside0.mk H
                    clear H
                    go_wp2
                    go_meet
                    case rel => exact ⟨_, ((a1 == 34)), (by first | rfl | (simp; done) | (simp [*]; done)), H', ⟨by have := HJ2.out; have := HJ6.out; first | omega | exact Nat.le_refl _⟩, by repeat (first | exact Drawn0.refl _ | apply Drawn0.step)⟩
                  · rw [if_neg c11] at H
                    have c11b0 : (a0 == 1) = false := beq_eq_false_iff_ne.mpr c11
                    have c11b1 : (a0 != 1) = true := bne_iff_ne.mpr c11
                    (first | rw [c11b0] | (simp only [i64_w, i32_w]; rw [c11b0]) | skip)
                    have H' := Aside0.mk H
                    clear H
                    go_wp2
                    go_meet
                    case rel => exact ⟨_, (false), (by first | rfl | (simp; done) | (simp [*]; done)), H', ⟨by have := HJ2.out; have := HJ6.out; first | omega | exact Nat.le_refl _⟩, by repeat (first | exact Drawn0.refl _ | apply Drawn0.step)⟩
                case rest =>
                  clear HC10
                  (try clear c1); (try clear c2); (try clear p2); (try clear c4); (try clear c4b0); (try clear c4b1); (try clear c5); (try clear c6); (try clear c6b0); (try clear c6b1); (try clear c8); (try clear c8b0); (try clear c8b1); (try clear c9); (try clear c11); (try clear c11b0); (try clear c11b1); (try clear p2)
                  obtain ⟨kq, x25_9, rfl, HA, HJ9, ⟨mc9, rfl⟩⟩ := hcut
                  cases kq with
                  | zero => exact absurd HA.out (by simp [ndjqref18_Step.j2])
                  | succ kj9 =>
                    have H := HA.out
                    clear HA
                    simp only [ndjqref18_Step.j2] at H
                    by_cases c12 : x25_9 = true
                    · subst c12
                      have H1 : (some (0, false)) = some (r1, r2) := by rw [if_pos rfl] at H; exact H
                      clear H
                      have H := H1
                      clear H1
                      simp only [Option.some.injEq, Prod.mk.injEq] at H
                      obtain ⟨rfl, rfl⟩ := H
                      go_wp2
                      go_ret2
                      exact ⟨by first | rfl | (simp; done) | (simp [*]; done), by repeat (first | exact Drawn0.refl _ | apply Drawn0.step)⟩
                    · replace c12 := Bool.eq_false_iff.mpr c12
                      subst c12
                      have H1 : (if a0 = 1 then (some (1, false)) else (if a0 = 2 then (some (1, false)) else (some (0, false)))) = some (r1, r2) := by rw [if_neg (show ¬ (false = true) by decide)] at H; exact H
                      clear H
                      have H := H1
                      clear H1
                      by_cases c13 : a0 = 1
                      · rw [if_pos c13] at H
                        have c13b0 : (a0 == 1) = true := beq_iff_eq.mpr c13
                        have c13b1 : (a0 != 1) = false := bne_eq_false_iff_eq.mpr c13
                        clear c13
                        simp only [Option.some.injEq, Prod.mk.injEq] at H
                        obtain ⟨rfl, rfl⟩ := H
                        go_wp2
                        go_ret2
                        exact ⟨by first | rfl | (simp; done) | (simp [*]; done), by repeat (first | exact Drawn0.refl _ | apply Drawn0.step)⟩
                      · rw [if_neg c13] at H
                        have c13b0 : (a0 == 1) = false := beq_eq_false_iff_ne.mpr c13
                        have c13b1 : (a0 != 1) = true := bne_iff_ne.mpr c13
                        by_cases c14 : a0 = 2
                        · rw [if_pos c14] at H
                          have c14b0 : (a0 == 2) = true := beq_iff_eq.mpr c14
                          have c14b1 : (a0 != 2) = false := bne_eq_false_iff_eq.mpr c14
                          clear c14
                          simp only [Option.some.injEq, Prod.mk.injEq] at H
                          obtain ⟨rfl, rfl⟩ := H
                          go_wp2
                          go_ret2
                          exact ⟨by first | rfl | (simp; done) | (simp [*]; done), by repeat (first | exact Drawn0.refl _ | apply Drawn0.step)⟩
                        · rw [if_neg c14] at H
                          have c14b0 : (a0 == 2) = false := beq_eq_false_iff_ne.mpr c14
                          have c14b1 : (a0 != 2) = true := bne_iff_ne.mpr c14
                          simp only [Option.some.injEq, Prod.mk.injEq] at H
                          obtain ⟨rfl, rfl⟩ := H
                          go_wp2
                          go_ret2
                          exact ⟨by first | rfl | (simp; done) | (simp [*]; done), by repeat (first | exact Drawn0.refl _ | apply Drawn0.step)⟩

/-! ### ndjqref18_Read: function 30 -/
def ndjqref18_Read.l0 : Nat → Int → ByteArray → List Int → Int → Option (Int × List Int)
  | 0, _, _, _, _ => none
  | k + 1, x0, x1, x6, x7 => if x7 < (x1.size : Int) then (if 0 ≤ x7 then ((ndjqref18_Step.f k x0 (bt x1 x7)).bind fun bt238 => (if bt238.2 = true then (if x6.length < 17592186044416 then (ndjqref18_Read.l0 k bt238.1 x1 (x6 ++ [x7]) (wrap64 (x7 + 1))) else (none)) else (ndjqref18_Read.l0 k bt238.1 x1 x6 (wrap64 (x7 + 1))))) else (none)) else (some (x0, x6))
def ndjqref18_Read.f (k : Nat) (a0 : Int) (a1 : ByteArray) : Option (Int × List Int) := ndjqref18_Read.l0 k a0 a1 ([] : List Int) 0
theorem ndjqref18_Read.mono_l : ∀ k, (∀ y0 y1 y2 y3, LeO (ndjqref18_Read.l0 k y0 y1 y2 y3) (ndjqref18_Read.l0 (k + 1) y0 y1 y2 y3))
  | 0 => fun _ _ _ _ r h => by simp [ndjqref18_Read.l0] at h
  | k + 1 => by
    have ih0 := ndjqref18_Read.mono_l k
    · intro y0 y1 y2 y3
      unfold ndjqref18_Read.l0
      repeat' first
      | (with_reducible exact ih0 _ _ _ _)
      | (with_reducible exact ndjqref18_Step.mono _ _ _)
      | (with_reducible exact LeO.refl _)
      | (with_reducible exact LeO.none _)
      | (with_reducible refine LeO.ite ?_ ?_)
      | (with_reducible refine LeO.bind ?_ (fun _ => ?_))
      | exact ih0 _ _ _ _
      | exact ndjqref18_Step.mono _ _ _
      | exact LeO.none _
      | refine LeO.ite ?_ ?_
      | refine LeO.bind ?_ (fun _ => ?_)
theorem ndjqref18_Read.mono : ∀ a0 a1 k, LeO (ndjqref18_Read.f k a0 a1) (ndjqref18_Read.f (k + 1) a0 a1) := by
  intro a0 a1 k
  have ih0 := ndjqref18_Read.mono_l k
  unfold ndjqref18_Read.f
  repeat' first
      | (with_reducible exact ih0 _ _ _ _)
      | (with_reducible exact ndjqref18_Step.mono _ _ _)
      | (with_reducible exact LeO.refl _)
      | (with_reducible exact LeO.none _)
      | (with_reducible refine LeO.ite ?_ ?_)
      | (with_reducible refine LeO.bind ?_ (fun _ => ?_))
      | exact ih0 _ _ _ _
      | exact ndjqref18_Step.mono _ _ _
      | exact LeO.none _
      | refine LeO.ite ?_ ?_
      | refine LeO.bind ?_ (fun _ => ?_)
set_option maxHeartbeats 8000000 in
set_option maxRecDepth 100000 in
theorem ndjqref18_Read.calls (k : Nat) (a0 : Int) (a1 : ByteArray) (r1 : Int) (r2 : List Int) (w : World) (h : ndjqref18_Read.f k a0 a1 = some (r1, r2)) :
    Calls Tryd.prog 30 #[.int .i64 a0, .string a1] w fun e w' => ∃ v1_ : Value, e = .returned (.tuple #[.int .i64 r1, v1_]) ∧ Kd.R (Kd.int .i64) 3 w' w.heap.size (fun _ => True) v1_ r2 ∧ Below w.heap.size w w' := by
  have HB := Aside0.mk (Below.refl w.heap.size w)
  have H : (ndjqref18_Read.l0 k a0 a1 ([] : List Int) 0) = some (r1, r2) := h
  clear h
  have H' := Aside0.mk H
  clear H
  go_enter Tryd.func30, Tryd.ntmps30
  go_wp2
  go_loopg [0, 6, 7] k (fun kq v0 v6 v7 w' => ∃ (x0_1 : Int) (x6_1 : List Int) (x7_1 : Int), v0 = .int .i64 x0_1 ∧ v7 = .int .i64 x7_1 ∧ Aside0 (ndjqref18_Read.l0 kq x0_1 a1 x6_1 x7_1 = some (r1, r2)) ∧ Aside0 (kq ≤ k) ∧ Aside0 (Kd.R (Kd.int .i64) 3 w' w.heap.size (fun _ => True) v6 x6_1) ∧ Aside0 (Below w.heap.size w w'))
  case atStart => exact ⟨(a0), (([] : List Int)), (0), (by first | rfl | (simp; done) | (simp [*]; done)), (by first | rfl | (simp; done) | (simp [*]; done)), H', ⟨Nat.le_refl _⟩, ⟨by first | exact Kd.R_nil _ _ _ _ _ | exact Kd.N_nil _ _ _ _ _ | exact Kd.V_nil _ _ _ _ _ | exact Kd.Q_nil _ _ _ _ _ | exact Kd.S_nil _ _ _ _ _⟩, ⟨by repeat (first | (with_reducible first | exact HB.out | apply below_alloc | apply pw_below_drewN | apply below_drew1) | exact HB.out)⟩⟩
  case round =>
    clear H'
    (try clear p2)
    obtain ⟨x0_1, x6_1, x7_1, rfl, rfl, HA, HK1, HO_6, HB⟩ := hrel
    cases gk with
    | zero => exact absurd HA.out (by simp [ndjqref18_Read.l0])
    | succ k1 =>
      have H := HA.out
      clear HA
      simp only [ndjqref18_Read.l0] at H
      by_cases c3 : x7_1 < (a1.size : Int)
      · rw [if_pos c3] at H
        have c3b0 : decide (x7_1 < (a1.size : Int)) = true := decide_eq_true c3
        clear c3
        by_cases c4 : 0 ≤ x7_1
        · rw [if_pos c4] at H
          have c4b0 : decide (0 ≤ x7_1) = true := decide_eq_true c4
          clear c4
          replace H := Option.bind_eq_some_iff.mp H
          obtain ⟨⟨t238, t239⟩, A60, H⟩ := H
          replace H : (if t239 = true then (if x6_1.length < 17592186044416 then (ndjqref18_Read.l0 k1 t238 a1 (x6_1 ++ [x7_1]) (wrap64 (x7_1 + 1))) else (none)) else (ndjqref18_Read.l0 k1 t238 a1 x6_1 (wrap64 (x7_1 + 1)))) = some (r1, r2) := H
          have A6 := Aside0.mk A60
          clear A60
          by_cases c7 : t239 = true
          · subst c7
            have H1 : (if x6_1.length < 17592186044416 then (ndjqref18_Read.l0 k1 t238 a1 (x6_1 ++ [x7_1]) (wrap64 (x7_1 + 1))) else (none)) = some (r1, r2) := by rw [if_pos rfl] at H; exact H
            clear H
            have H := H1
            clear H1
            by_cases c8 : x6_1.length < 17592186044416
            · rw [if_pos c8] at H
              have LMc8 := Aside0.mk c8
              clear c8
              obtain ⟨y240, hy240⟩ : ∃ y_ : List Int, y_ = (x6_1 ++ [x7_1]) := ⟨_, rfl⟩
              replace H : (ndjqref18_Read.l0 k1 t238 a1 y240 (wrap64 (x7_1 + 1))) = some (r1, r2) := by first | (rw [hy240]; with_reducible exact H) | (have H2_ := (Option.bind_some _ _).symm.trans H; rw [hy240]; with_reducible exact H2_) | (have H2_ := (Option.bind_some _ _).symm.trans H; with_reducible exact H2_) | with_reducible exact H | (rw [hy240]; exact H) | exact H
              have Ny240 := Aside0.mk hy240
              clear hy240
              have H' := Aside0.mk H
              clear H
              have p5 : 0 ≤ (x7_1 : Int) := of_decide_eq_true (by first | (with_reducible assumption) | assumption)
              have q5 : x7_1 < (a1.size : Int) := of_decide_eq_true (by first | (with_reducible assumption) | assumption)
              have hx5 := bt_at a1 x7_1
              replace p5 := eq_true p5
              replace q5 := eq_true q5
              go_wp2_with (first | ((with_reducible refine gate_callee (f := 11) rfl ?_); refine goesL_ (some 21) rfl rfl Tryd.func11 (by kernel_rfl) rfl #[.int .i64 x0_1, .int .u8 (bt a1 x7_1)] rfl (by (try simp only [List.map_toArray, List.map_cons, List.map_nil]); first | done | rfl | (simp only [List.length_drop, List.length_take]; rfl)) ?_; (with_reducible refine (ndjqref18_Step.calls k1 x0_1 (bt a1 x7_1) t238 true _ A6.out).mono ?_); rintro e w' ⟨rfl, ⟨nd, rfl⟩⟩; refine ⟨_, rfl, ?_⟩) | ((with_reducible refine gate_builtin (b := .append) (xs := #[.tmp 25, .tmp 27]) rfl ?_); at_builtin; refine Kd.R_append (Kd.int .i64) (w0 := w) w.heap.size rfl (.tmp 25) (.tmp 27) 26 3 (.int .i64 0) 8 rfl Tryd.underlying26 info3 rfl (by decide) (by omega) u6 x6_1 x7_1 [.int .i64 x7_1] (fun _ => True) (fun _ => False) rfl rfl ?aP (fun _ hk => hk.elim) ?aF ?aO ?aB ?aS ?aL ?_; (case aP => exact rfl); (case aB => exact (by repeat (first | (with_reducible first | exact HB.out | apply below_alloc | apply pw_below_drewN | apply below_drew1) | exact HB.out))); (case aF => exact (fun _ _ => trivial)); (case aO => exact (by (with_reducible repeat (first | apply Kd.R_alloc | apply Kd.R_drewN | apply Kd.R_drew)); exact HO_6.out)); (case aS => exact (below_size (by repeat (first | (with_reducible first | exact HB.out | apply below_alloc | apply pw_below_drewN | apply below_drew1) | exact HB.out)))); (case aL => have := LMc8.out; first | omega | exact Nat.le_of_lt this); intro v241 w9 ho hb hg hat; rw [← Ny240.out] at ho; have n0_ := Aside0.mk (hb); have n1_ := Aside0.mk (ho); clear HB; clear HO_6; have HB := n0_; have HO242 := n1_; clear n0_ n1_; clear ho hb hg hat))
              go_roundg k1
              case measure => have := HK1.out; omega
              case rel => exact ⟨(t238), (y240), (wrap64 (x7_1 + 1)), (by first | rfl | (simp; done) | (simp [*]; done)), (by first | rfl | (simp; done) | (simp [*]; done)), H', ⟨by have := HK1.out; omega⟩, ⟨by (with_reducible repeat (first | apply Kd.R_alloc | apply Kd.R_drewN | apply Kd.R_drew)); exact HO242.out⟩, ⟨by repeat (first | (with_reducible first | exact HB.out | apply below_alloc | apply pw_below_drewN | apply below_drew1) | exact HB.out)⟩⟩
            · rw [if_neg c8] at H
              exact absurd H (by simp)
          · replace c7 := Bool.eq_false_iff.mpr c7
            subst c7
            have H1 : (ndjqref18_Read.l0 k1 t238 a1 x6_1 (wrap64 (x7_1 + 1))) = some (r1, r2) := by rw [if_neg (show ¬ (false = true) by decide)] at H; exact H
            clear H
            have H := H1
            clear H1
            have H' := Aside0.mk H
            clear H
            have p5 : 0 ≤ (x7_1 : Int) := of_decide_eq_true (by first | (with_reducible assumption) | assumption)
            have q5 : x7_1 < (a1.size : Int) := of_decide_eq_true (by first | (with_reducible assumption) | assumption)
            have hx5 := bt_at a1 x7_1
            replace p5 := eq_true p5
            replace q5 := eq_true q5
            go_wp2_with (first | ((with_reducible refine gate_callee (f := 11) rfl ?_); refine goesL_ (some 21) rfl rfl Tryd.func11 (by kernel_rfl) rfl #[.int .i64 x0_1, .int .u8 (bt a1 x7_1)] rfl (by (try simp only [List.map_toArray, List.map_cons, List.map_nil]); first | done | rfl | (simp only [List.length_drop, List.length_take]; rfl)) ?_; (with_reducible refine (ndjqref18_Step.calls k1 x0_1 (bt a1 x7_1) t238 false _ A6.out).mono ?_); rintro e w' ⟨rfl, ⟨nd, rfl⟩⟩; refine ⟨_, rfl, ?_⟩))
            go_roundg k1
            case measure => have := HK1.out; omega
            case rel => exact ⟨(t238), (x6_1), (wrap64 (x7_1 + 1)), (by first | rfl | (simp; done) | (simp [*]; done)), (by first | rfl | (simp; done) | (simp [*]; done)), H', ⟨by have := HK1.out; omega⟩, ⟨by (with_reducible repeat (first | apply Kd.R_alloc | apply Kd.R_drewN | apply Kd.R_drew)); exact HO_6.out⟩, ⟨by repeat (first | (with_reducible first | exact HB.out | apply below_alloc | apply pw_below_drewN | apply below_drew1) | exact HB.out)⟩⟩
        · rw [if_neg c4] at H
          exact absurd H (by simp)
      · rw [if_neg c3] at H
        have c3b0 : decide (x7_1 < (a1.size : Int)) = false := decide_eq_false c3
        clear c3
        simp only [Option.some.injEq, Prod.mk.injEq] at H
        obtain ⟨rfl, rfl⟩ := H
        go_wp2
        go_ret2
        exact ⟨_, by first | rfl | (simp [errW_none, errW_some] <;> rfl) | (simp [*, errW_none, errW_some] <;> rfl), by (with_reducible repeat (first | apply Kd.R_alloc | apply Kd.R_drewN | apply Kd.R_drew)); exact HO_6.out, by repeat (first | (with_reducible first | exact HB.out | apply below_alloc | apply pw_below_drewN | apply below_drew1) | exact HB.out)⟩

/-! ### ndjqref18_Summary: function 28 -/
def ndjqref18_Summary.l0 : Nat → ByteArray → Int → Int → Int → Int → Int → List Int → List Int → List Int → Option (Int × Int × Int × Int × List Int × List Int × List Int)
 | 0, _, _, _, _, _, _, _, _, _ => none
 | k + 1, x0, x4, x245000, x245001, x245002, x245003, x245004, x245005, x245006 => if x4 < 3 then ((ndjqref18_Read.f k x4 x0).bind fun bt245 => (if x4 = 0 then (ndjqref18_Summary.l0 k x0 1 x245000 bt245.1 x245002 x245003 bt245.2 x245005 x245006) else (if x4 = 1 then (ndjqref18_Summary.l0 k x0 2 x245000 x245001 bt245.1 x245003 x245004 bt245.2 x245006) else (if x4 = 2 then (ndjqref18_Summary.l0 k x0 3 x245000 x245001 x245002 bt245.1 x245004 x245005 bt245.2) else (none))))) else (some (x245000, x245001, x245002, x245003, x245004, x245005, x245006))
def ndjqref18_Summary.f (k : Nat) (a0 : ByteArray) : Option (Int × Int × Int × Int × List Int × List Int × List Int) := ndjqref18_Summary.l0 k a0 0 (a0.size : Int) 0 0 0 ([] : List Int) ([] : List Int) ([] : List Int)
theorem ndjqref18_Summary.mono_l : ∀ k, (∀ y0 y1 y2 y3 y4 y5 y6 y7 y8, LeO (ndjqref18_Summary.l0 k y0 y1 y2 y3 y4 y5 y6 y7 y8) (ndjqref18_Summary.l0 (k + 1) y0 y1 y2 y3 y4 y5 y6 y7 y8))
 | 0 => fun _ _ _ _ _ _ _ _ _ r h => by simp [ndjqref18_Summary.l0] at h
 | k + 1 => by
  have ih0 := ndjqref18_Summary.mono_l k
  ·intro y0 y1 y2 y3 y4 y5 y6 y7 y8
   unfold ndjqref18_Summary.l0
   repeat' first
   | (with_reducible exact ih0 _ _ _ _ _ _ _ _ _)
   | (with_reducible exact ndjqref18_Read.mono _ _ _)
   | (with_reducible exact LeO.refl _)
   | (with_reducible exact LeO.none _)
   | (with_reducible refine LeO.ite ?_ ?_)
   | (with_reducible refine LeO.bind ?_ (fun _ => ?_))
   | exact ih0 _ _ _ _ _ _ _ _ _
   | exact ndjqref18_Read.mono _ _ _
   | exact LeO.none _
   | refine LeO.ite ?_ ?_
   | refine LeO.bind ?_ (fun _ => ?_)
theorem ndjqref18_Summary.mono : ∀ a0 k, LeO (ndjqref18_Summary.f k a0) (ndjqref18_Summary.f (k + 1) a0) := by
 intro a0 k
 have ih0 := ndjqref18_Summary.mono_l k
 unfold ndjqref18_Summary.f
 repeat' first
   | (with_reducible exact ih0 _ _ _ _ _ _ _ _ _)
   | (with_reducible exact ndjqref18_Read.mono _ _ _)
   | (with_reducible exact LeO.refl _)
   | (with_reducible exact LeO.none _)
   | (with_reducible refine LeO.ite ?_ ?_)
   | (with_reducible refine LeO.bind ?_ (fun _ => ?_))
   | exact ih0 _ _ _ _ _ _ _ _ _
   | exact ndjqref18_Read.mono _ _ _
   | exact LeO.none _
   | refine LeO.ite ?_ ?_
   | refine LeO.bind ?_ (fun _ => ?_)
set_option maxHeartbeats 8000000 in
set_option maxRecDepth 100000 in
theorem ndjqref18_Summary.calls (k : Nat) (a0 : ByteArray) (r1 : Int) (r2 : Int) (r3 : Int) (r4 : Int) (r5 : List Int) (r6 : List Int) (r7 : List Int) (w : World) (h : ndjqref18_Summary.f k a0 = some (r1, r2, r3, r4, r5, r6, r7)) :
  Calls Tryd.prog 28 #[.string a0] w fun e w' => ∃ v4_ v5_ v6_ : Value, e = .returned (.agg #[.int .i64 r1, .int .i64 r2, .int .i64 r3, .int .i64 r4, v4_, v5_, v6_]) ∧ Kd.R (Kd.int .i64) 3 w' w.heap.size (fun k_ => some k_ ≠ (v5_ : Value).ownBlock ∧ some k_ ≠ (v6_ : Value).ownBlock) v4_ r5 ∧ Kd.R (Kd.int .i64) 3 w' w.heap.size (fun k_ => some k_ ≠ (v4_ : Value).ownBlock ∧ some k_ ≠ (v6_ : Value).ownBlock) v5_ r6 ∧ Kd.R (Kd.int .i64) 3 w' w.heap.size (fun k_ => some k_ ≠ (v4_ : Value).ownBlock ∧ some k_ ≠ (v5_ : Value).ownBlock) v6_ r7 ∧ Below w.heap.size w w' := by
 have hu29 := Tryd.underlying29
 have HB := Aside0.mk (Below.refl w.heap.size w)
 have H : (ndjqref18_Summary.l0 k a0 0 (a0.size : Int) 0 0 0 ([] : List Int) ([] : List Int) ([] : List Int)) = some (r1, r2, r3, r4, r5, r6, r7) := h
 clear h
 have H' := Aside0.mk H
 clear H
 go_enter Tryd.func28, Tryd.ntmps28
 go_wp2_with (first | ((with_reducible refine gate_dst (N := 2) rfl ?_); refine box_event ?hg (N := 2) ?hd (cs := #[.int .i64 0, .int .i64 0, .int .i64 0, .int .i64 0, .slice none 0 0, .slice none 0 0, .slice none 0 0]) (t := 29) ?hr ?_; (case hd => rfl); (case hg => rfl); (case hr => first | (go_simp; done) | (go_simp; rfl)); intro gb243 hg w2 hbox hb; have n0_ := Aside0.mk (below_step (by repeat (first | (with_reducible first | exact HB.out | apply wA | apply wN | apply wD) | exact HB.out)) hb); have n1_ := Aside0.mk (hbox); have n2_ := Aside0.mk ((by rw [hg]; exact (below_size (by repeat (first | (with_reducible first | exact HB.out | apply wA | apply wN | apply wD) | exact HB.out))) : w.heap.size ≤ gb243)); have n3_ := n2_; clear HB; have HB := n0_; have BK243 := n1_; have GW243 := n2_; have GE243 := n3_; clear n0_ n1_ n2_ n3_; clear hb hbox hg) | ((with_reducible refine gate_dst (N := 3) rfl ?_); refine box_event ?hg (N := 3) ?hd (cs := #[.int .i64 0, .int .i64 0, .int .i64 0, .int .i64 0, .slice none 0 0, .slice none 0 0, .slice none 0 0]) (t := 29) ?hr ?_; (case hd => rfl); (case hg => rfl); (case hr => first | (go_simp; done) | (go_simp; rfl)); intro gb244 hg w3 hbox hb; have n0_ := Aside0.mk (blk_below (g := gb243) (o := .cells #[.int .i64 0, .int .i64 0, .int .i64 0, .int .i64 0, .slice none 0 0, .slice none 0 0, .slice none 0 0] 29 (0, 0)) (by (with_reducible repeat (first | refine bN ?_ _ | refine bD ?_ | refine bA ?_ _)); exact BK243.out) hb); have n1_ := Aside0.mk (below_step (by repeat (first | (with_reducible first | exact HB.out | apply wA | apply wN | apply wD | refine wS ?_ GE243.out) | exact HB.out)) hb); have n2_ := Aside0.mk (hbox); have n3_ := Aside0.mk ((by rw [hg]; exact (below_size (by repeat (first | (with_reducible first | exact HB.out | apply wA | apply wN | apply wD | refine wS ?_ GE243.out) | exact HB.out))) : w.heap.size ≤ gb244)); have n4_ := n3_; have n5_ := Aside0.mk ((by rw [hg]; exact Nat.ne_of_lt (blk_lt (g := gb243) (o := .cells #[.int .i64 0, .int .i64 0, .int .i64 0, .int .i64 0, .slice none 0 0, .slice none 0 0, .slice none 0 0] 29 (0, 0)) (by (with_reducible repeat (first | refine bN ?_ _ | refine bD ?_ | refine bA ?_ _)); exact BK243.out)) : gb243 ≠ gb244)); have n6_ := Aside0.mk ((by rw [hg]; exact Nat.ne_of_gt (blk_lt (g := gb243) (o := .cells #[.int .i64 0, .int .i64 0, .int .i64 0, .int .i64 0, .slice none 0 0, .slice none 0 0, .slice none 0 0] 29 (0, 0)) (by (with_reducible repeat (first | refine bN ?_ _ | refine bD ?_ | refine bA ?_ _)); exact BK243.out)) : gb244 ≠ gb243)); clear BK243; clear HB; have BK243 := n0_; have HB := n1_; have BK244 := n2_; have GW244 := n3_; have GE244 := n4_; have NB243_244 := n5_; have NB244_243 := n6_; clear n0_ n1_ n2_ n3_ n4_ n5_ n6_; clear hb hbox hg; have hnb4 := NB244_243.out; have hnc4 := NB243_244.out; have hcz5_0 : w3.cell? ⟨gb244, 0, none⟩ = some (.int .i64 0) := (blk_cell BK244.out 0).trans rfl; have hcz5_1 : w3.cell? ⟨gb244, 1, none⟩ = some (.int .i64 0) := (blk_cell BK244.out 1).trans rfl; have hcz5_2 : w3.cell? ⟨gb244, 2, none⟩ = some (.int .i64 0) := (blk_cell BK244.out 2).trans rfl; have hcz5_3 : w3.cell? ⟨gb244, 3, none⟩ = some (.int .i64 0) := (blk_cell BK244.out 3).trans rfl; have hcz5_4 : w3.cell? ⟨gb244, 4, none⟩ = some (.slice none 0 0) := (blk_cell BK244.out 4).trans rfl; have hcz5_5 : w3.cell? ⟨gb244, 5, none⟩ = some (.slice none 0 0) := (blk_cell BK244.out 5).trans rfl; have hcz5_6 : w3.cell? ⟨gb244, 6, none⟩ = some (.slice none 0 0) := (blk_cell BK244.out 6).trans rfl; have hfz5_0 := blk_frozen BK244.out 0; have hfz5_1 := blk_frozen BK244.out 1; have hfz5_2 := blk_frozen BK244.out 2; have hfz5_3 := blk_frozen BK244.out 3; have hfz5_4 := blk_frozen BK244.out 4; have hfz5_5 := blk_frozen BK244.out 5; have hfz5_6 := blk_frozen BK244.out 6))
 go_loopg [4] k (fun kq v4 w' => ∃ (x4_1 : Int) (x245001_1 : Int) (x245002_1 : Int) (x245003_1 : Int) (x245004_1 : List Int) (x245005_1 : List Int) (x245006_1 : List Int) (u245004 : Value) (u245005 : Value) (u245006 : Value), v4 = .int .i64 x4_1 ∧ Aside0 (ndjqref18_Summary.l0 kq a0 x4_1 (a0.size : Int) x245001_1 x245002_1 x245003_1 x245004_1 x245005_1 x245006_1 = some (r1, r2, r3, r4, r5, r6, r7)) ∧ Aside0 (kq ≤ k) ∧ Aside0 (Kd.R (Kd.int .i64) 3 w' w.heap.size (fun k_ => some k_ ≠ (u245005 : Value).ownBlock ∧ some k_ ≠ (u245006 : Value).ownBlock) u245004 x245004_1) ∧ Aside0 (Kd.R (Kd.int .i64) 3 w' w.heap.size (fun k_ => some k_ ≠ (u245004 : Value).ownBlock ∧ some k_ ≠ (u245006 : Value).ownBlock) u245005 x245005_1) ∧ Aside0 (Kd.R (Kd.int .i64) 3 w' w.heap.size (fun k_ => some k_ ≠ (u245004 : Value).ownBlock ∧ some k_ ≠ (u245005 : Value).ownBlock) u245006 x245006_1) ∧ Aside0 (w'.heap[gb243]? = some (.cells #[.int .i64 0, .int .i64 0, .int .i64 0, .int .i64 0, (.slice none 0 0), (.slice none 0 0), (.slice none 0 0)] 29 (0, 0))) ∧ Aside0 (w'.heap[gb244]? = some (.cells #[.int .i64 (a0.size : Int), .int .i64 x245001_1, .int .i64 x245002_1, .int .i64 x245003_1, u245004, u245005, u245006] 29 (0, 0))) ∧ Aside0 (Below w.heap.size w w'))
 case atStart => exact ⟨(0), (0), (0), (0), (([] : List Int)), (([] : List Int)), (([] : List Int)), (.slice none 0 0), (.slice none 0 0), (.slice none 0 0), (by first | rfl | (simp; done) | (simp [*]; done)), H', ⟨Nat.le_refl _⟩, ⟨by first | exact Kd.R_nil _ _ _ _ _ | exact Kd.N_nil _ _ _ _ _ | exact Kd.V_nil _ _ _ _ _ | exact Kd.Q_nil _ _ _ _ _ | exact Kd.S_nil _ _ _ _ _⟩, ⟨by first | exact Kd.R_nil _ _ _ _ _ | exact Kd.N_nil _ _ _ _ _ | exact Kd.V_nil _ _ _ _ _ | exact Kd.Q_nil _ _ _ _ _ | exact Kd.S_nil _ _ _ _ _⟩, ⟨by first | exact Kd.R_nil _ _ _ _ _ | exact Kd.N_nil _ _ _ _ _ | exact Kd.V_nil _ _ _ _ _ | exact Kd.Q_nil _ _ _ _ _ | exact Kd.S_nil _ _ _ _ _⟩, ⟨by (with_reducible repeat (first | refine bN ?_ _ | refine bD ?_ | refine bA ?_ _ | refine blk_far ?_ NB243_244.out _)); exact BK243.out⟩, ⟨by (with_reducible repeat (first | refine bN ?_ _ | refine bD ?_ | refine bA ?_ _)); refine blk_put (cs := #[.int .i64 (a0.size : Int), .int .i64 0, .int .i64 0, .int .i64 0, .slice none 0 0, .slice none 0 0, .slice none 0 0]) ?_ 6 _ rfl; (with_reducible repeat (first | refine bN ?_ _ | refine bD ?_ | refine bA ?_ _)); refine blk_put (cs := #[.int .i64 (a0.size : Int), .int .i64 0, .int .i64 0, .int .i64 0, .slice none 0 0, .slice none 0 0, .slice none 0 0]) ?_ 5 _ rfl; (with_reducible repeat (first | refine bN ?_ _ | refine bD ?_ | refine bA ?_ _)); refine blk_put (cs := #[.int .i64 (a0.size : Int), .int .i64 0, .int .i64 0, .int .i64 0, .slice none 0 0, .slice none 0 0, .slice none 0 0]) ?_ 4 _ rfl; (with_reducible repeat (first | refine bN ?_ _ | refine bD ?_ | refine bA ?_ _)); refine blk_put (cs := #[.int .i64 (a0.size : Int), .int .i64 0, .int .i64 0, .int .i64 0, .slice none 0 0, .slice none 0 0, .slice none 0 0]) ?_ 3 _ rfl; (with_reducible repeat (first | refine bN ?_ _ | refine bD ?_ | refine bA ?_ _)); refine blk_put (cs := #[.int .i64 (a0.size : Int), .int .i64 0, .int .i64 0, .int .i64 0, .slice none 0 0, .slice none 0 0, .slice none 0 0]) ?_ 2 _ rfl; (with_reducible repeat (first | refine bN ?_ _ | refine bD ?_ | refine bA ?_ _)); refine blk_put (cs := #[.int .i64 (a0.size : Int), .int .i64 0, .int .i64 0, .int .i64 0, .slice none 0 0, .slice none 0 0, .slice none 0 0]) ?_ 1 _ rfl; (with_reducible repeat (first | refine bN ?_ _ | refine bD ?_ | refine bA ?_ _)); refine blk_put (cs := #[.int .i64 0, .int .i64 0, .int .i64 0, .int .i64 0, .slice none 0 0, .slice none 0 0, .slice none 0 0]) ?_ 0 _ rfl; (with_reducible repeat (first | refine bN ?_ _ | refine bD ?_ | refine bA ?_ _)); exact BK244.out⟩, ⟨by repeat (first | (with_reducible first | exact HB.out | apply wA | apply wN | apply wD | refine wS ?_ GE243.out | refine wS ?_ GE244.out) | exact HB.out)⟩⟩
 case round =>
  clear H'
  (try clear c2); (try clear p2); (try clear c4); (try clear hcz5_0); (try clear hcz5_1); (try clear hcz5_2); (try clear hcz5_3); (try clear hcz5_4); (try clear hcz5_5); (try clear hcz5_6); (try clear hfz5_0); (try clear hfz5_1); (try clear hfz5_2); (try clear hfz5_3); (try clear hfz5_4); (try clear hfz5_5); (try clear hfz5_6)
  obtain ⟨x4_1, x245001_1, x245002_1, x245003_1, x245004_1, x245005_1, x245006_1, u245004, u245005, u245006, rfl, HA, HK1, HO_245004, HO_245005, HO_245006, BK243, BK244, HB⟩ := hrel
  cases gk with
  | zero => exact absurd HA.out (by simp [ndjqref18_Summary.l0])
  | succ k1 =>
   have H := HA.out
   clear HA
   simp only [ndjqref18_Summary.l0] at H
   by_cases c6 : x4_1 < 3
   ·rw [if_pos c6] at H
    have c6b0 : decide (x4_1 < 3) = true := decide_eq_true c6
    clear c6
    replace H := Option.bind_eq_some_iff.mp H
    obtain ⟨⟨t245, t246⟩, A70, H⟩ := H
    replace H : (if x4_1 = 0 then (ndjqref18_Summary.l0 k1 a0 1 (a0.size : Int) t245 x245002_1 x245003_1 t246 x245005_1 x245006_1) else (if x4_1 = 1 then (ndjqref18_Summary.l0 k1 a0 2 (a0.size : Int) x245001_1 t245 x245003_1 x245004_1 t246 x245006_1) else (if x4_1 = 2 then (ndjqref18_Summary.l0 k1 a0 3 (a0.size : Int) x245001_1 x245002_1 t245 x245004_1 x245005_1 t246) else (none)))) = some (r1, r2, r3, r4, r5, r6, r7) := H
    have A7 := Aside0.mk A70
    clear A70
    by_cases c8 : x4_1 = 0
    ·subst c8
     have H1 : (ndjqref18_Summary.l0 k1 a0 1 (a0.size : Int) t245 x245002_1 x245003_1 t246 x245005_1 x245006_1) = some (r1, r2, r3, r4, r5, r6, r7) := by rw [if_pos rfl] at H; exact H
     clear H; have H := H1; clear H1
     have H' := Aside0.mk H
     clear H
     go_wp2_with (first | ((with_reducible refine gate_callee (f := 30) rfl ?_); refine goesL_ (some 17) rfl rfl Tryd.func30 (by kernel_rfl) rfl #[.int .i64 0, .string a0] rfl (by (try simp only [List.map_toArray, List.map_cons, List.map_nil]); first | done | rfl | (simp only [List.length_drop, List.length_take]; rfl)) ?_; (with_reducible refine (ndjqref18_Read.calls k1 0 a0 t245 t246 _ A7.out).mono ?_); rintro e w9 ⟨v247, rfl, ho0, hb⟩; refine ⟨_, rfl, ?_⟩; have n0_ := Aside0.mk (Kd.R_elder' (by (with_reducible repeat (first | apply rA | apply rN | apply rD)); exact HO_245004.out) (Kd.R_base ho0) hb); have n1_ := Aside0.mk (Kd.R_elder' (by (with_reducible repeat (first | apply rA | apply rN | apply rD)); exact HO_245005.out) (Kd.R_base ho0) hb); have n2_ := Aside0.mk (Kd.R_elder' (by (with_reducible repeat (first | apply rA | apply rN | apply rD)); exact HO_245006.out) (Kd.R_base ho0) hb); have n3_ := Aside0.mk (Kd.R_lower (Kd.R_new' (Kd.R_new' (Kd.R_new' ho0 (Kd.R_lt (by (with_reducible repeat (first | apply rA | apply rN | apply rD)); exact HO_245004.out))) (Kd.R_lt (by (with_reducible repeat (first | apply rA | apply rN | apply rD)); exact HO_245005.out))) (Kd.R_lt (by (with_reducible repeat (first | apply rA | apply rN | apply rD)); exact HO_245006.out))) (below_size (by repeat (first | (with_reducible first | exact HB.out | apply wA | apply wN | apply wD | refine wS ?_ GE243.out | refine wS ?_ GE244.out) | exact HB.out)))); have n4_ := Aside0.mk (blk_below (g := gb243) (o := .cells #[.int .i64 0, .int .i64 0, .int .i64 0, .int .i64 0, .slice none 0 0, .slice none 0 0, .slice none 0 0] 29 (0, 0)) (by (with_reducible repeat (first | refine bN ?_ _ | refine bD ?_ | refine bA ?_ _)); exact BK243.out) hb); have n5_ := Aside0.mk (blk_below (g := gb244) (o := .cells #[.int .i64 (a0.size : Int), .int .i64 x245001_1, .int .i64 x245002_1, .int .i64 x245003_1, u245004, u245005, u245006] 29 (0, 0)) (by (with_reducible repeat (first | refine bN ?_ _ | refine bD ?_ | refine bA ?_ _)); exact BK244.out) hb); have n6_ := Aside0.mk (below_step (by repeat (first | (with_reducible first | exact HB.out | apply wA | apply wN | apply wD | refine wS ?_ GE243.out | refine wS ?_ GE244.out) | exact HB.out)) hb); clear HO_245004; clear HO_245005; clear HO_245006; clear BK243; clear BK244; clear HB; have HO_245004 := n0_; have HO_245005 := n1_; have HO_245006 := n2_; have HO248 := n3_; have BK243 := n4_; have BK244 := n5_; have HB := n6_; clear n0_ n1_ n2_ n3_ n4_ n5_ n6_; (try clear hb); (try clear hb2); (try clear hk); (try clear hi); (try clear ho0); have hnb10 := NB244_243.out; have hnc10 := NB243_244.out; have hcz11_0 : w9.cell? ⟨gb244, 0, none⟩ = some (.int .i64 (a0.size : Int)) := (blk_cell BK244.out 0).trans rfl; have hcz11_1 : w9.cell? ⟨gb244, 1, none⟩ = some (.int .i64 x245001_1) := (blk_cell BK244.out 1).trans rfl; have hcz11_2 : w9.cell? ⟨gb244, 2, none⟩ = some (.int .i64 x245002_1) := (blk_cell BK244.out 2).trans rfl; have hcz11_3 : w9.cell? ⟨gb244, 3, none⟩ = some (.int .i64 x245003_1) := (blk_cell BK244.out 3).trans rfl; have hcz11_4 : w9.cell? ⟨gb244, 4, none⟩ = some (u245004) := (blk_cell BK244.out 4).trans rfl; have hcz11_5 : w9.cell? ⟨gb244, 5, none⟩ = some (u245005) := (blk_cell BK244.out 5).trans rfl; have hcz11_6 : w9.cell? ⟨gb244, 6, none⟩ = some (u245006) := (blk_cell BK244.out 6).trans rfl; have hfz11_0 := blk_frozen BK244.out 0; have hfz11_1 := blk_frozen BK244.out 1; have hfz11_2 := blk_frozen BK244.out 2; have hfz11_3 := blk_frozen BK244.out 3; have hfz11_4 := blk_frozen BK244.out 4; have hfz11_5 := blk_frozen BK244.out 5; have hfz11_6 := blk_frozen BK244.out 6; obtain ⟨Ao12, co12, eo12⟩ := Kd.R_slice HO248.out; subst eo12))
     go_roundg k1
     case measure => have := HK1.out; omega
     case rel => exact ⟨(1), (t245), (x245002_1), (x245003_1), (t246), (x245005_1), (x245006_1), (.slice Ao12 t246.length co12), (u245005), (u245006), (by first | rfl | (simp; done) | (simp [*]; done)), H', ⟨by have := HK1.out; omega⟩, ⟨by (with_reducible repeat (first | apply rA | apply rN | apply rD)); exact Kd.R_mono (Kd.R_far (p := ⟨gb244, 4, none⟩) (Kd.R_far (p := ⟨gb244, 1, none⟩) (Kd.R_types HO248.out BK244.out (by decide)) (fun _ hk => hk.2) (.int .i64 t245)) (fun _ hk => hk.2) (.slice Ao12 t246.length co12)) (fun _ hk => ⟨hk.1.1.2, hk.1.2⟩)⟩, ⟨by (with_reducible repeat (first | apply rA | apply rN | apply rD)); exact Kd.R_mono (Kd.R_far (p := ⟨gb244, 4, none⟩) (Kd.R_far (p := ⟨gb244, 1, none⟩) (Kd.R_types HO_245005.out BK244.out (by decide)) (fun _ hk => hk.2) (.int .i64 t245)) (fun _ hk => hk.2) (.slice Ao12 t246.length co12)) (fun _ hk => ⟨hk.1.2, hk.1.1.2⟩)⟩, ⟨by (with_reducible repeat (first | apply rA | apply rN | apply rD)); exact Kd.R_mono (Kd.R_far (p := ⟨gb244, 4, none⟩) (Kd.R_far (p := ⟨gb244, 1, none⟩) (Kd.R_types HO_245006.out BK244.out (by decide)) (fun _ hk => hk.2) (.int .i64 t245)) (fun _ hk => hk.2) (.slice Ao12 t246.length co12)) (fun _ hk => ⟨hk.1.2, hk.1.1.2⟩)⟩, ⟨by (with_reducible repeat (first | refine bN ?_ _ | refine bD ?_ | refine bA ?_ _ | refine blk_far ?_ NB243_244.out _)); exact BK243.out⟩, ⟨by (with_reducible repeat (first | refine bN ?_ _ | refine bD ?_ | refine bA ?_ _)); refine blk_put (cs := #[.int .i64 (a0.size : Int), .int .i64 t245, .int .i64 x245002_1, .int .i64 x245003_1, u245004, u245005, u245006]) ?_ 4 _ rfl; (with_reducible repeat (first | refine bN ?_ _ | refine bD ?_ | refine bA ?_ _)); refine blk_put (cs := #[.int .i64 (a0.size : Int), .int .i64 x245001_1, .int .i64 x245002_1, .int .i64 x245003_1, u245004, u245005, u245006]) ?_ 1 _ rfl; (with_reducible repeat (first | refine bN ?_ _ | refine bD ?_ | refine bA ?_ _)); exact BK244.out⟩, ⟨by repeat (first | (with_reducible first | exact HB.out | apply wA | apply wN | apply wD | refine wS ?_ GE243.out | refine wS ?_ GE244.out) | exact HB.out)⟩⟩
    ·rw [if_neg c8] at H
     by_cases c13 : x4_1 = 1
     ·subst c13
      have H1 : (ndjqref18_Summary.l0 k1 a0 2 (a0.size : Int) x245001_1 t245 x245003_1 x245004_1 t246 x245006_1) = some (r1, r2, r3, r4, r5, r6, r7) := by rw [if_pos rfl] at H; exact H
      clear H; have H := H1; clear H1
      have H' := Aside0.mk H
      clear H
      go_wp2_with (first | ((with_reducible refine gate_callee (f := 30) rfl ?_); refine goesL_ (some 17) rfl rfl Tryd.func30 (by kernel_rfl) rfl #[.int .i64 1, .string a0] rfl (by (try simp only [List.map_toArray, List.map_cons, List.map_nil]); first | done | rfl | (simp only [List.length_drop, List.length_take]; rfl)) ?_; (with_reducible refine (ndjqref18_Read.calls k1 1 a0 t245 t246 _ A7.out).mono ?_); rintro e w14 ⟨v247, rfl, ho0, hb⟩; refine ⟨_, rfl, ?_⟩; have n0_ := Aside0.mk (Kd.R_elder' (by (with_reducible repeat (first | apply rA | apply rN | apply rD)); exact HO_245004.out) (Kd.R_base ho0) hb); have n1_ := Aside0.mk (Kd.R_elder' (by (with_reducible repeat (first | apply rA | apply rN | apply rD)); exact HO_245005.out) (Kd.R_base ho0) hb); have n2_ := Aside0.mk (Kd.R_elder' (by (with_reducible repeat (first | apply rA | apply rN | apply rD)); exact HO_245006.out) (Kd.R_base ho0) hb); have n3_ := Aside0.mk (Kd.R_lower (Kd.R_new' (Kd.R_new' (Kd.R_new' ho0 (Kd.R_lt (by (with_reducible repeat (first | apply rA | apply rN | apply rD)); exact HO_245004.out))) (Kd.R_lt (by (with_reducible repeat (first | apply rA | apply rN | apply rD)); exact HO_245005.out))) (Kd.R_lt (by (with_reducible repeat (first | apply rA | apply rN | apply rD)); exact HO_245006.out))) (below_size (by repeat (first | (with_reducible first | exact HB.out | apply wA | apply wN | apply wD | refine wS ?_ GE243.out | refine wS ?_ GE244.out) | exact HB.out)))); have n4_ := Aside0.mk (blk_below (g := gb243) (o := .cells #[.int .i64 0, .int .i64 0, .int .i64 0, .int .i64 0, .slice none 0 0, .slice none 0 0, .slice none 0 0] 29 (0, 0)) (by (with_reducible repeat (first | refine bN ?_ _ | refine bD ?_ | refine bA ?_ _)); exact BK243.out) hb); have n5_ := Aside0.mk (blk_below (g := gb244) (o := .cells #[.int .i64 (a0.size : Int), .int .i64 x245001_1, .int .i64 x245002_1, .int .i64 x245003_1, u245004, u245005, u245006] 29 (0, 0)) (by (with_reducible repeat (first | refine bN ?_ _ | refine bD ?_ | refine bA ?_ _)); exact BK244.out) hb); have n6_ := Aside0.mk (below_step (by repeat (first | (with_reducible first | exact HB.out | apply wA | apply wN | apply wD | refine wS ?_ GE243.out | refine wS ?_ GE244.out) | exact HB.out)) hb); clear HO_245004; clear HO_245005; clear HO_245006; clear BK243; clear BK244; clear HB; have HO_245004 := n0_; have HO_245005 := n1_; have HO_245006 := n2_; have HO248 := n3_; have BK243 := n4_; have BK244 := n5_; have HB := n6_; clear n0_ n1_ n2_ n3_ n4_ n5_ n6_; (try clear hb); (try clear hb2); (try clear hk); (try clear hi); (try clear ho0); have hnb15 := NB244_243.out; have hnc15 := NB243_244.out; have hcz16_0 : w14.cell? ⟨gb244, 0, none⟩ = some (.int .i64 (a0.size : Int)) := (blk_cell BK244.out 0).trans rfl; have hcz16_1 : w14.cell? ⟨gb244, 1, none⟩ = some (.int .i64 x245001_1) := (blk_cell BK244.out 1).trans rfl; have hcz16_2 : w14.cell? ⟨gb244, 2, none⟩ = some (.int .i64 x245002_1) := (blk_cell BK244.out 2).trans rfl; have hcz16_3 : w14.cell? ⟨gb244, 3, none⟩ = some (.int .i64 x245003_1) := (blk_cell BK244.out 3).trans rfl; have hcz16_4 : w14.cell? ⟨gb244, 4, none⟩ = some (u245004) := (blk_cell BK244.out 4).trans rfl; have hcz16_5 : w14.cell? ⟨gb244, 5, none⟩ = some (u245005) := (blk_cell BK244.out 5).trans rfl; have hcz16_6 : w14.cell? ⟨gb244, 6, none⟩ = some (u245006) := (blk_cell BK244.out 6).trans rfl; have hfz16_0 := blk_frozen BK244.out 0; have hfz16_1 := blk_frozen BK244.out 1; have hfz16_2 := blk_frozen BK244.out 2; have hfz16_3 := blk_frozen BK244.out 3; have hfz16_4 := blk_frozen BK244.out 4; have hfz16_5 := blk_frozen BK244.out 5; have hfz16_6 := blk_frozen BK244.out 6; obtain ⟨Ao17, co17, eo17⟩ := Kd.R_slice HO248.out; subst eo17))
      go_roundg k1
      case measure => have := HK1.out; omega
      case rel => exact ⟨(2), (x245001_1), (t245), (x245003_1), (x245004_1), (t246), (x245006_1), (u245004), (.slice Ao17 t246.length co17), (u245006), (by first | rfl | (simp; done) | (simp [*]; done)), H', ⟨by have := HK1.out; omega⟩, ⟨by (with_reducible repeat (first | apply rA | apply rN | apply rD)); exact Kd.R_mono (Kd.R_far (p := ⟨gb244, 5, none⟩) (Kd.R_far (p := ⟨gb244, 2, none⟩) (Kd.R_types HO_245004.out BK244.out (by decide)) (fun _ hk => hk.2) (.int .i64 t245)) (fun _ hk => hk.2) (.slice Ao17 t246.length co17)) (fun _ hk => ⟨hk.1.2, hk.1.1.2⟩)⟩, ⟨by (with_reducible repeat (first | apply rA | apply rN | apply rD)); exact Kd.R_mono (Kd.R_far (p := ⟨gb244, 5, none⟩) (Kd.R_far (p := ⟨gb244, 2, none⟩) (Kd.R_types HO248.out BK244.out (by decide)) (fun _ hk => hk.2) (.int .i64 t245)) (fun _ hk => hk.2) (.slice Ao17 t246.length co17)) (fun _ hk => ⟨hk.1.1.1.2, hk.1.2⟩)⟩, ⟨by (with_reducible repeat (first | apply rA | apply rN | apply rD)); exact Kd.R_mono (Kd.R_far (p := ⟨gb244, 5, none⟩) (Kd.R_far (p := ⟨gb244, 2, none⟩) (Kd.R_types HO_245006.out BK244.out (by decide)) (fun _ hk => hk.2) (.int .i64 t245)) (fun _ hk => hk.2) (.slice Ao17 t246.length co17)) (fun _ hk => ⟨hk.1.1.1, hk.1.2⟩)⟩, ⟨by (with_reducible repeat (first | refine bN ?_ _ | refine bD ?_ | refine bA ?_ _ | refine blk_far ?_ NB243_244.out _)); exact BK243.out⟩, ⟨by (with_reducible repeat (first | refine bN ?_ _ | refine bD ?_ | refine bA ?_ _)); refine blk_put (cs := #[.int .i64 (a0.size : Int), .int .i64 x245001_1, .int .i64 t245, .int .i64 x245003_1, u245004, u245005, u245006]) ?_ 5 _ rfl; (with_reducible repeat (first | refine bN ?_ _ | refine bD ?_ | refine bA ?_ _)); refine blk_put (cs := #[.int .i64 (a0.size : Int), .int .i64 x245001_1, .int .i64 x245002_1, .int .i64 x245003_1, u245004, u245005, u245006]) ?_ 2 _ rfl; (with_reducible repeat (first | refine bN ?_ _ | refine bD ?_ | refine bA ?_ _)); exact BK244.out⟩, ⟨by repeat (first | (with_reducible first | exact HB.out | apply wA | apply wN | apply wD | refine wS ?_ GE243.out | refine wS ?_ GE244.out) | exact HB.out)⟩⟩
     ·rw [if_neg c13] at H
      by_cases c18 : x4_1 = 2
      ·subst c18
       have H1 : (ndjqref18_Summary.l0 k1 a0 3 (a0.size : Int) x245001_1 x245002_1 t245 x245004_1 x245005_1 t246) = some (r1, r2, r3, r4, r5, r6, r7) := by rw [if_pos rfl] at H; exact H
       clear H; have H := H1; clear H1
       have H' := Aside0.mk H
       clear H
       go_wp2_with (first | ((with_reducible refine gate_callee (f := 30) rfl ?_); refine goesL_ (some 17) rfl rfl Tryd.func30 (by kernel_rfl) rfl #[.int .i64 2, .string a0] rfl (by (try simp only [List.map_toArray, List.map_cons, List.map_nil]); first | done | rfl | (simp only [List.length_drop, List.length_take]; rfl)) ?_; (with_reducible refine (ndjqref18_Read.calls k1 2 a0 t245 t246 _ A7.out).mono ?_); rintro e w19 ⟨v247, rfl, ho0, hb⟩; refine ⟨_, rfl, ?_⟩; have n0_ := Aside0.mk (Kd.R_elder' (by (with_reducible repeat (first | apply rA | apply rN | apply rD)); exact HO_245004.out) (Kd.R_base ho0) hb); have n1_ := Aside0.mk (Kd.R_elder' (by (with_reducible repeat (first | apply rA | apply rN | apply rD)); exact HO_245005.out) (Kd.R_base ho0) hb); have n2_ := Aside0.mk (Kd.R_elder' (by (with_reducible repeat (first | apply rA | apply rN | apply rD)); exact HO_245006.out) (Kd.R_base ho0) hb); have n3_ := Aside0.mk (Kd.R_lower (Kd.R_new' (Kd.R_new' (Kd.R_new' ho0 (Kd.R_lt (by (with_reducible repeat (first | apply rA | apply rN | apply rD)); exact HO_245004.out))) (Kd.R_lt (by (with_reducible repeat (first | apply rA | apply rN | apply rD)); exact HO_245005.out))) (Kd.R_lt (by (with_reducible repeat (first | apply rA | apply rN | apply rD)); exact HO_245006.out))) (below_size (by repeat (first | (with_reducible first | exact HB.out | apply wA | apply wN | apply wD | refine wS ?_ GE243.out | refine wS ?_ GE244.out) | exact HB.out)))); have n4_ := Aside0.mk (blk_below (g := gb243) (o := .cells #[.int .i64 0, .int .i64 0, .int .i64 0, .int .i64 0, .slice none 0 0, .slice none 0 0, .slice none 0 0] 29 (0, 0)) (by (with_reducible repeat (first | refine bN ?_ _ | refine bD ?_ | refine bA ?_ _)); exact BK243.out) hb); have n5_ := Aside0.mk (blk_below (g := gb244) (o := .cells #[.int .i64 (a0.size : Int), .int .i64 x245001_1, .int .i64 x245002_1, .int .i64 x245003_1, u245004, u245005, u245006] 29 (0, 0)) (by (with_reducible repeat (first | refine bN ?_ _ | refine bD ?_ | refine bA ?_ _)); exact BK244.out) hb); have n6_ := Aside0.mk (below_step (by repeat (first | (with_reducible first | exact HB.out | apply wA | apply wN | apply wD | refine wS ?_ GE243.out | refine wS ?_ GE244.out) | exact HB.out)) hb); clear HO_245004; clear HO_245005; clear HO_245006; clear BK243; clear BK244; clear HB; have HO_245004 := n0_; have HO_245005 := n1_; have HO_245006 := n2_; have HO248 := n3_; have BK243 := n4_; have BK244 := n5_; have HB := n6_; clear n0_ n1_ n2_ n3_ n4_ n5_ n6_; (try clear hb); (try clear hb2); (try clear hk); (try clear hi); (try clear ho0); have hnb20 := NB244_243.out; have hnc20 := NB243_244.out; have hcz21_0 : w19.cell? ⟨gb244, 0, none⟩ = some (.int .i64 (a0.size : Int)) := (blk_cell BK244.out 0).trans rfl; have hcz21_1 : w19.cell? ⟨gb244, 1, none⟩ = some (.int .i64 x245001_1) := (blk_cell BK244.out 1).trans rfl; have hcz21_2 : w19.cell? ⟨gb244, 2, none⟩ = some (.int .i64 x245002_1) := (blk_cell BK244.out 2).trans rfl; have hcz21_3 : w19.cell? ⟨gb244, 3, none⟩ = some (.int .i64 x245003_1) := (blk_cell BK244.out 3).trans rfl; have hcz21_4 : w19.cell? ⟨gb244, 4, none⟩ = some (u245004) := (blk_cell BK244.out 4).trans rfl; have hcz21_5 : w19.cell? ⟨gb244, 5, none⟩ = some (u245005) := (blk_cell BK244.out 5).trans rfl; have hcz21_6 : w19.cell? ⟨gb244, 6, none⟩ = some (u245006) := (blk_cell BK244.out 6).trans rfl; have hfz21_0 := blk_frozen BK244.out 0; have hfz21_1 := blk_frozen BK244.out 1; have hfz21_2 := blk_frozen BK244.out 2; have hfz21_3 := blk_frozen BK244.out 3; have hfz21_4 := blk_frozen BK244.out 4; have hfz21_5 := blk_frozen BK244.out 5; have hfz21_6 := blk_frozen BK244.out 6; obtain ⟨Ao22, co22, eo22⟩ := Kd.R_slice HO248.out; subst eo22))
       go_roundg k1
       case measure => have := HK1.out; omega
       case rel => exact ⟨(3), (x245001_1), (x245002_1), (t245), (x245004_1), (x245005_1), (t246), (u245004), (u245005), (.slice Ao22 t246.length co22), (by first | rfl | (simp; done) | (simp [*]; done)), H', ⟨by have := HK1.out; omega⟩, ⟨by (with_reducible repeat (first | apply rA | apply rN | apply rD)); exact Kd.R_mono (Kd.R_far (p := ⟨gb244, 6, none⟩) (Kd.R_far (p := ⟨gb244, 3, none⟩) (Kd.R_types HO_245004.out BK244.out (by decide)) (fun _ hk => hk.2) (.int .i64 t245)) (fun _ hk => hk.2) (.slice Ao22 t246.length co22)) (fun _ hk => ⟨hk.1.1.1, hk.1.2⟩)⟩, ⟨by (with_reducible repeat (first | apply rA | apply rN | apply rD)); exact Kd.R_mono (Kd.R_far (p := ⟨gb244, 6, none⟩) (Kd.R_far (p := ⟨gb244, 3, none⟩) (Kd.R_types HO_245005.out BK244.out (by decide)) (fun _ hk => hk.2) (.int .i64 t245)) (fun _ hk => hk.2) (.slice Ao22 t246.length co22)) (fun _ hk => ⟨hk.1.1.1, hk.1.2⟩)⟩, ⟨by (with_reducible repeat (first | apply rA | apply rN | apply rD)); exact Kd.R_mono (Kd.R_far (p := ⟨gb244, 6, none⟩) (Kd.R_far (p := ⟨gb244, 3, none⟩) (Kd.R_types HO248.out BK244.out (by decide)) (fun _ hk => hk.2) (.int .i64 t245)) (fun _ hk => hk.2) (.slice Ao22 t246.length co22)) (fun _ hk => ⟨hk.1.1.1.2, hk.1.1.2⟩)⟩, ⟨by (with_reducible repeat (first | refine bN ?_ _ | refine bD ?_ | refine bA ?_ _ | refine blk_far ?_ NB243_244.out _)); exact BK243.out⟩, ⟨by (with_reducible repeat (first | refine bN ?_ _ | refine bD ?_ | refine bA ?_ _)); refine blk_put (cs := #[.int .i64 (a0.size : Int), .int .i64 x245001_1, .int .i64 x245002_1, .int .i64 t245, u245004, u245005, u245006]) ?_ 6 _ rfl; (with_reducible repeat (first | refine bN ?_ _ | refine bD ?_ | refine bA ?_ _)); refine blk_put (cs := #[.int .i64 (a0.size : Int), .int .i64 x245001_1, .int .i64 x245002_1, .int .i64 x245003_1, u245004, u245005, u245006]) ?_ 3 _ rfl; (with_reducible repeat (first | refine bN ?_ _ | refine bD ?_ | refine bA ?_ _)); exact BK244.out⟩, ⟨by repeat (first | (with_reducible first | exact HB.out | apply wA | apply wN | apply wD | refine wS ?_ GE243.out | refine wS ?_ GE244.out) | exact HB.out)⟩⟩
      ·rw [if_neg c18] at H
       exact absurd H (by simp)
   ·rw [if_neg c6] at H
    have c6b0 : decide (x4_1 < 3) = false := decide_eq_false c6
    clear c6
    simp only [Option.some.injEq, Prod.mk.injEq] at H
    obtain ⟨rfl, rfl, rfl, rfl, rfl, rfl, rfl⟩ := H
    have hnb23 := NB244_243.out; have hnc23 := NB243_244.out; have hcz24_0 : wr.cell? ⟨gb244, 0, none⟩ = some (.int .i64 (a0.size : Int)) := (blk_cell BK244.out 0).trans rfl; have hcz24_1 : wr.cell? ⟨gb244, 1, none⟩ = some (.int .i64 x245001_1) := (blk_cell BK244.out 1).trans rfl; have hcz24_2 : wr.cell? ⟨gb244, 2, none⟩ = some (.int .i64 x245002_1) := (blk_cell BK244.out 2).trans rfl; have hcz24_3 : wr.cell? ⟨gb244, 3, none⟩ = some (.int .i64 x245003_1) := (blk_cell BK244.out 3).trans rfl; have hcz24_4 : wr.cell? ⟨gb244, 4, none⟩ = some (u245004) := (blk_cell BK244.out 4).trans rfl; have hcz24_5 : wr.cell? ⟨gb244, 5, none⟩ = some (u245005) := (blk_cell BK244.out 5).trans rfl; have hcz24_6 : wr.cell? ⟨gb244, 6, none⟩ = some (u245006) := (blk_cell BK244.out 6).trans rfl; have hfz24_0 := blk_frozen BK244.out 0; have hfz24_1 := blk_frozen BK244.out 1; have hfz24_2 := blk_frozen BK244.out 2; have hfz24_3 := blk_frozen BK244.out 3; have hfz24_4 := blk_frozen BK244.out 4; have hfz24_5 := blk_frozen BK244.out 5; have hfz24_6 := blk_frozen BK244.out 6; have hcz25_0 : wr.cell? ⟨gb243, 0, none⟩ = some (.int .i64 0) := (blk_cell BK243.out 0).trans rfl; have hcz25_1 : wr.cell? ⟨gb243, 1, none⟩ = some (.int .i64 0) := (blk_cell BK243.out 1).trans rfl; have hcz25_2 : wr.cell? ⟨gb243, 2, none⟩ = some (.int .i64 0) := (blk_cell BK243.out 2).trans rfl; have hcz25_3 : wr.cell? ⟨gb243, 3, none⟩ = some (.int .i64 0) := (blk_cell BK243.out 3).trans rfl; have hcz25_4 : wr.cell? ⟨gb243, 4, none⟩ = some (.slice none 0 0) := (blk_cell BK243.out 4).trans rfl; have hcz25_5 : wr.cell? ⟨gb243, 5, none⟩ = some (.slice none 0 0) := (blk_cell BK243.out 5).trans rfl; have hcz25_6 : wr.cell? ⟨gb243, 6, none⟩ = some (.slice none 0 0) := (blk_cell BK243.out 6).trans rfl; have hfz25_0 := blk_frozen BK243.out 0; have hfz25_1 := blk_frozen BK243.out 1; have hfz25_2 := blk_frozen BK243.out 2; have hfz25_3 := blk_frozen BK243.out 3; have hfz25_4 := blk_frozen BK243.out 4; have hfz25_5 := blk_frozen BK243.out 5; have hfz25_6 := blk_frozen BK243.out 6
    obtain ⟨Ao26, co26, eo26⟩ := Kd.R_slice HO_245004.out
    subst eo26
    obtain ⟨Ao27, co27, eo27⟩ := Kd.R_slice HO_245005.out
    subst eo27
    obtain ⟨Ao28, co28, eo28⟩ := Kd.R_slice HO_245006.out
    subst eo28
    go_wp2
    refine bodyPost_ret (results_cell_row rfl _ _ gb243 29 #[.int .i64 (a0.size : Int), .int .i64 x245001_1, .int .i64 x245002_1, .int .i64 x245003_1, .slice Ao26 x245004_1.length co26, .slice Ao27 x245005_1.length co27, .slice Ao28 x245006_1.length co28] (0, 0) _ rfl (by (with_reducible repeat (first | refine bN ?_ _ | refine bD ?_ | refine bA ?_ _)); refine blk_put (cs := #[.int .i64 (a0.size : Int), .int .i64 x245001_1, .int .i64 x245002_1, .int .i64 x245003_1, .slice Ao26 x245004_1.length co26, .slice Ao27 x245005_1.length co27, .slice none 0 0]) ?_ 6 _ rfl; (with_reducible repeat (first | refine bN ?_ _ | refine bD ?_ | refine bA ?_ _)); refine blk_put (cs := #[.int .i64 (a0.size : Int), .int .i64 x245001_1, .int .i64 x245002_1, .int .i64 x245003_1, .slice Ao26 x245004_1.length co26, .slice none 0 0, .slice none 0 0]) ?_ 5 _ rfl; (with_reducible repeat (first | refine bN ?_ _ | refine bD ?_ | refine bA ?_ _)); refine blk_put (cs := #[.int .i64 (a0.size : Int), .int .i64 x245001_1, .int .i64 x245002_1, .int .i64 x245003_1, .slice none 0 0, .slice none 0 0, .slice none 0 0]) ?_ 4 _ rfl; (with_reducible repeat (first | refine bN ?_ _ | refine bD ?_ | refine bA ?_ _)); refine blk_put (cs := #[.int .i64 (a0.size : Int), .int .i64 x245001_1, .int .i64 x245002_1, .int .i64 0, .slice none 0 0, .slice none 0 0, .slice none 0 0]) ?_ 3 _ rfl; (with_reducible repeat (first | refine bN ?_ _ | refine bD ?_ | refine bA ?_ _)); refine blk_put (cs := #[.int .i64 (a0.size : Int), .int .i64 x245001_1, .int .i64 0, .int .i64 0, .slice none 0 0, .slice none 0 0, .slice none 0 0]) ?_ 2 _ rfl; (with_reducible repeat (first | refine bN ?_ _ | refine bD ?_ | refine bA ?_ _)); refine blk_put (cs := #[.int .i64 (a0.size : Int), .int .i64 0, .int .i64 0, .int .i64 0, .slice none 0 0, .slice none 0 0, .slice none 0 0]) ?_ 1 _ rfl; (with_reducible repeat (first | refine bN ?_ _ | refine bD ?_ | refine bA ?_ _)); refine blk_put (cs := #[.int .i64 0, .int .i64 0, .int .i64 0, .int .i64 0, .slice none 0 0, .slice none 0 0, .slice none 0 0]) ?_ 0 _ rfl; (with_reducible repeat (first | refine bN ?_ _ | refine bD ?_ | refine bA ?_ _)); exact BK243.out) Tryd.underlying29 rfl (by kernel_rfl)) rfl ?_
    exact ⟨_, _, _, by first | rfl | (simp [errW_none, errW_some] <;> rfl) | (simp [*, errW_none, errW_some] <;> rfl), by (with_reducible repeat (first | apply rA | apply rN | apply rD)); exact Kd.R_mono (R_fars7 gb243 (Kd.R_types HO_245004.out BK243.out (by decide)) (fun _ hk => hk.2) (.int .i64 (a0.size : Int)) (.int .i64 x245001_1) (.int .i64 x245002_1) (.int .i64 x245003_1) (.slice Ao26 x245004_1.length co26) (.slice Ao27 x245005_1.length co27) (.slice Ao28 x245006_1.length co28)) (fun _ hk => hk.1), by (with_reducible repeat (first | apply rA | apply rN | apply rD)); exact Kd.R_mono (R_fars7 gb243 (Kd.R_types HO_245005.out BK243.out (by decide)) (fun _ hk => hk.2) (.int .i64 (a0.size : Int)) (.int .i64 x245001_1) (.int .i64 x245002_1) (.int .i64 x245003_1) (.slice Ao26 x245004_1.length co26) (.slice Ao27 x245005_1.length co27) (.slice Ao28 x245006_1.length co28)) (fun _ hk => hk.1), by (with_reducible repeat (first | apply rA | apply rN | apply rD)); exact Kd.R_mono (R_fars7 gb243 (Kd.R_types HO_245006.out BK243.out (by decide)) (fun _ hk => hk.2) (.int .i64 (a0.size : Int)) (.int .i64 x245001_1) (.int .i64 x245002_1) (.int .i64 x245003_1) (.slice Ao26 x245004_1.length co26) (.slice Ao27 x245005_1.length co27) (.slice Ao28 x245006_1.length co28)) (fun _ hk => hk.1), by repeat (first | (with_reducible first | exact HB.out | apply wA | apply wN | apply wD | refine wS ?_ GE243.out | refine wS ?_ GE244.out) | exact HB.out)⟩

/-! ### ndjqref18_Empty: function 16 -/
def ndjqref18_Empty.f (k : Nat)  : Option (Int × Int × Int × Int × List Int × List Int × List Int) := (ndjqref18_Summary.f k (⟨#[]⟩ : ByteArray)).bind fun bt250 => (some (bt250.1, bt250.2.1, bt250.2.2.1, bt250.2.2.2.1, bt250.2.2.2.2.1, bt250.2.2.2.2.2.1, bt250.2.2.2.2.2.2))
theorem ndjqref18_Empty.mono : ∀ k, LeO (ndjqref18_Empty.f k ) (ndjqref18_Empty.f (k + 1) ) := by
  intro  k
  unfold ndjqref18_Empty.f
  repeat' first
      | (with_reducible exact ndjqref18_Summary.mono _ _)
      | (with_reducible exact LeO.refl _)
      | (with_reducible exact LeO.none _)
      | (with_reducible refine LeO.ite ?_ ?_)
      | (with_reducible refine LeO.bind ?_ (fun _ => ?_))
      | exact ndjqref18_Summary.mono _ _
      | exact LeO.none _
      | refine LeO.ite ?_ ?_
      | refine LeO.bind ?_ (fun _ => ?_)
set_option maxHeartbeats 8000000 in
set_option maxRecDepth 100000 in
theorem ndjqref18_Empty.calls (k : Nat)  (r1 : Int) (r2 : Int) (r3 : Int) (r4 : Int) (r5 : List Int) (r6 : List Int) (r7 : List Int) (w : World) (h : ndjqref18_Empty.f k  = some (r1, r2, r3, r4, r5, r6, r7)) :
    Calls Tryd.prog 16 #[] w fun e w' => ∃ v4_ v5_ v6_ : Value, e = .returned (.agg #[.int .i64 r1, .int .i64 r2, .int .i64 r3, .int .i64 r4, v4_, v5_, v6_]) ∧ Kd.R (Kd.int .i64) 3 w' w.heap.size (fun k_ => some k_ ≠ (v5_ : Value).ownBlock ∧ some k_ ≠ (v6_ : Value).ownBlock) v4_ r5 ∧ Kd.R (Kd.int .i64) 3 w' w.heap.size (fun k_ => some k_ ≠ (v4_ : Value).ownBlock ∧ some k_ ≠ (v6_ : Value).ownBlock) v5_ r6 ∧ Kd.R (Kd.int .i64) 3 w' w.heap.size (fun k_ => some k_ ≠ (v4_ : Value).ownBlock ∧ some k_ ≠ (v5_ : Value).ownBlock) v6_ r7 ∧ Below w.heap.size w w' := by
  have hu29 := Tryd.underlying29
  have HB := Aside0.mk (Below.refl w.heap.size w)
  have H : ((ndjqref18_Summary.f k (⟨#[]⟩ : ByteArray)).bind fun bt250 => (some (bt250.1, bt250.2.1, bt250.2.2.1, bt250.2.2.2.1, bt250.2.2.2.2.1, bt250.2.2.2.2.2.1, bt250.2.2.2.2.2.2))) = some (r1, r2, r3, r4, r5, r6, r7) := h
  clear h
  replace H := Option.bind_eq_some_iff.mp H
  obtain ⟨⟨t250, t251, t252, t253, t254, t257, t260⟩, A10, H⟩ := H
  replace H : (some (t250, t251, t252, t253, t254, t257, t260)) = some (r1, r2, r3, r4, r5, r6, r7) := H
  have A1 := Aside0.mk A10
  clear A10
  simp only [Option.some.injEq, Prod.mk.injEq] at H
  obtain ⟨rfl, rfl, rfl, rfl, rfl, rfl, rfl⟩ := H
  go_enter Tryd.func16, Tryd.ntmps16
  go_wp2_with (first | ((with_reducible refine gate_dst (N := 0) rfl ?_); refine box_event ?hg (N := 0) ?hd (cs := #[.int .i64 0, .int .i64 0, .int .i64 0, .int .i64 0, .slice none 0 0, .slice none 0 0, .slice none 0 0]) (t := 29) ?hr ?_; (case hd => rfl); (case hg => rfl); (case hr => first | (go_simp; done) | (go_simp; rfl)); intro gb249 hg w2 hbox hb; have n0_ := Aside0.mk (below_step (by repeat (first | (with_reducible first | exact HB.out | apply below_alloc | apply pw_below_drewN | apply below_drew1) | exact HB.out)) hb); have n1_ := Aside0.mk (hbox); have n2_ := Aside0.mk ((by rw [hg]; exact (below_size (by repeat (first | (with_reducible first | exact HB.out | apply below_alloc | apply pw_below_drewN | apply below_drew1) | exact HB.out))) : w.heap.size ≤ gb249)); have n3_ := n2_; clear HB; have HB := n0_; have BK249 := n1_; have GW249 := n2_; have GE249 := n3_; clear n0_ n1_ n2_ n3_; clear hb hbox hg) | ((with_reducible refine gate_callee (f := 28) rfl ?_); refine goesL_ (some 1) rfl rfl Tryd.func28 (by kernel_rfl) rfl #[.string (⟨#[]⟩ : ByteArray)] rfl (by (try simp only [List.map_toArray, List.map_cons, List.map_nil]); first | done | rfl | (simp only [List.length_drop, List.length_take]; rfl)) ?_; (with_reducible refine (ndjqref18_Summary.calls k (⟨#[]⟩ : ByteArray) t250 t251 t252 t253 t254 t257 t260 _ A1.out).mono ?_); rintro e w3 ⟨v255, v258, v261, rfl, ho0, ho1, ho2, hb⟩; refine ⟨_, rfl, ?_⟩; have n0_ := Aside0.mk (Kd.R_lower ho0 (below_size (by repeat (first | (with_reducible first | exact HB.out | apply below_alloc | apply pw_below_drewN | apply below_drew1 | refine below_set ?_ GE249.out) | exact HB.out)))); have n1_ := Aside0.mk (Kd.R_lower ho1 (below_size (by repeat (first | (with_reducible first | exact HB.out | apply below_alloc | apply pw_below_drewN | apply below_drew1 | refine below_set ?_ GE249.out) | exact HB.out)))); have n2_ := Aside0.mk (Kd.R_lower ho2 (below_size (by repeat (first | (with_reducible first | exact HB.out | apply below_alloc | apply pw_below_drewN | apply below_drew1 | refine below_set ?_ GE249.out) | exact HB.out)))); have n3_ := Aside0.mk (blk_below (g := gb249) (o := .cells #[.int .i64 0, .int .i64 0, .int .i64 0, .int .i64 0, .slice none 0 0, .slice none 0 0, .slice none 0 0] 29 (0, 0)) (by (with_reducible repeat (first | refine blk_drewN ?_ _ | refine blk_drew ?_ | refine blk_alloc ?_ _)); exact BK249.out) hb); have n4_ := Aside0.mk (below_step (by repeat (first | (with_reducible first | exact HB.out | apply below_alloc | apply pw_below_drewN | apply below_drew1 | refine below_set ?_ GE249.out) | exact HB.out)) hb); clear BK249; clear HB; have HO256 := n0_; have HO259 := n1_; have HO262 := n2_; have BK249 := n3_; have HB := n4_; clear n0_ n1_ n2_ n3_ n4_; (try clear hb); (try clear hb2); (try clear hk); (try clear hi); (try clear ho0); (try clear ho1); (try clear ho2); have hcz4_0 : w3.cell? ⟨gb249, 0, none⟩ = some (.int .i64 0) := (blk_cell BK249.out 0).trans rfl; have hcz4_1 : w3.cell? ⟨gb249, 1, none⟩ = some (.int .i64 0) := (blk_cell BK249.out 1).trans rfl; have hcz4_2 : w3.cell? ⟨gb249, 2, none⟩ = some (.int .i64 0) := (blk_cell BK249.out 2).trans rfl; have hcz4_3 : w3.cell? ⟨gb249, 3, none⟩ = some (.int .i64 0) := (blk_cell BK249.out 3).trans rfl; have hcz4_4 : w3.cell? ⟨gb249, 4, none⟩ = some (.slice none 0 0) := (blk_cell BK249.out 4).trans rfl; have hcz4_5 : w3.cell? ⟨gb249, 5, none⟩ = some (.slice none 0 0) := (blk_cell BK249.out 5).trans rfl; have hcz4_6 : w3.cell? ⟨gb249, 6, none⟩ = some (.slice none 0 0) := (blk_cell BK249.out 6).trans rfl; have hfz4_0 := blk_frozen BK249.out 0; have hfz4_1 := blk_frozen BK249.out 1; have hfz4_2 := blk_frozen BK249.out 2; have hfz4_3 := blk_frozen BK249.out 3; have hfz4_4 := blk_frozen BK249.out 4; have hfz4_5 := blk_frozen BK249.out 5; have hfz4_6 := blk_frozen BK249.out 6; obtain ⟨Ao5, co5, eo5⟩ := Kd.R_slice HO256.out; subst eo5; obtain ⟨Ao6, co6, eo6⟩ := Kd.R_slice HO259.out; subst eo6; obtain ⟨Ao7, co7, eo7⟩ := Kd.R_slice HO262.out; subst eo7))
  refine bodyPost_ret (results_cell_row rfl _ _ gb249 29 #[.int .i64 t250, .int .i64 t251, .int .i64 t252, .int .i64 t253, .slice Ao5 t254.length co5, .slice Ao6 t257.length co6, .slice Ao7 t260.length co7] (0, 0) _ rfl (by (with_reducible repeat (first | refine blk_drewN ?_ _ | refine blk_drew ?_ | refine blk_alloc ?_ _)); refine blk_put (cs := #[.int .i64 t250, .int .i64 t251, .int .i64 t252, .int .i64 t253, .slice Ao5 t254.length co5, .slice Ao6 t257.length co6, .slice none 0 0]) ?_ 6 _ rfl; (with_reducible repeat (first | refine blk_drewN ?_ _ | refine blk_drew ?_ | refine blk_alloc ?_ _)); refine blk_put (cs := #[.int .i64 t250, .int .i64 t251, .int .i64 t252, .int .i64 t253, .slice Ao5 t254.length co5, .slice none 0 0, .slice none 0 0]) ?_ 5 _ rfl; (with_reducible repeat (first | refine blk_drewN ?_ _ | refine blk_drew ?_ | refine blk_alloc ?_ _)); refine blk_put (cs := #[.int .i64 t250, .int .i64 t251, .int .i64 t252, .int .i64 t253, .slice none 0 0, .slice none 0 0, .slice none 0 0]) ?_ 4 _ rfl; (with_reducible repeat (first | refine blk_drewN ?_ _ | refine blk_drew ?_ | refine blk_alloc ?_ _)); refine blk_put (cs := #[.int .i64 t250, .int .i64 t251, .int .i64 t252, .int .i64 0, .slice none 0 0, .slice none 0 0, .slice none 0 0]) ?_ 3 _ rfl; (with_reducible repeat (first | refine blk_drewN ?_ _ | refine blk_drew ?_ | refine blk_alloc ?_ _)); refine blk_put (cs := #[.int .i64 t250, .int .i64 t251, .int .i64 0, .int .i64 0, .slice none 0 0, .slice none 0 0, .slice none 0 0]) ?_ 2 _ rfl; (with_reducible repeat (first | refine blk_drewN ?_ _ | refine blk_drew ?_ | refine blk_alloc ?_ _)); refine blk_put (cs := #[.int .i64 t250, .int .i64 0, .int .i64 0, .int .i64 0, .slice none 0 0, .slice none 0 0, .slice none 0 0]) ?_ 1 _ rfl; (with_reducible repeat (first | refine blk_drewN ?_ _ | refine blk_drew ?_ | refine blk_alloc ?_ _)); refine blk_put (cs := #[.int .i64 0, .int .i64 0, .int .i64 0, .int .i64 0, .slice none 0 0, .slice none 0 0, .slice none 0 0]) ?_ 0 _ rfl; (with_reducible repeat (first | refine blk_drewN ?_ _ | refine blk_drew ?_ | refine blk_alloc ?_ _)); exact BK249.out) Tryd.underlying29 rfl (by kernel_rfl)) rfl ?_
  exact ⟨_, _, _, by first | rfl | (simp [errW_none, errW_some] <;> rfl) | (simp [*, errW_none, errW_some] <;> rfl), by (with_reducible repeat (first | apply Kd.R_alloc | apply Kd.R_drewN | apply Kd.R_drew)); exact Kd.R_mono (R_fars7 gb249 (Kd.R_types HO256.out BK249.out (by decide)) (fun _ hk => hk.2) (.int .i64 t250) (.int .i64 t251) (.int .i64 t252) (.int .i64 t253) (.slice Ao5 t254.length co5) (.slice Ao6 t257.length co6) (.slice Ao7 t260.length co7)) (fun _ hk => ⟨hk.1.1, hk.1.2⟩), by (with_reducible repeat (first | apply Kd.R_alloc | apply Kd.R_drewN | apply Kd.R_drew)); exact Kd.R_mono (R_fars7 gb249 (Kd.R_types HO259.out BK249.out (by decide)) (fun _ hk => hk.2) (.int .i64 t250) (.int .i64 t251) (.int .i64 t252) (.int .i64 t253) (.slice Ao5 t254.length co5) (.slice Ao6 t257.length co6) (.slice Ao7 t260.length co7)) (fun _ hk => ⟨hk.1.1, hk.1.2⟩), by (with_reducible repeat (first | apply Kd.R_alloc | apply Kd.R_drewN | apply Kd.R_drew)); exact Kd.R_mono (R_fars7 gb249 (Kd.R_types HO262.out BK249.out (by decide)) (fun _ hk => hk.2) (.int .i64 t250) (.int .i64 t251) (.int .i64 t252) (.int .i64 t253) (.slice Ao5 t254.length co5) (.slice Ao6 t257.length co6) (.slice Ao7 t260.length co7)) (fun _ hk => ⟨hk.1.1, hk.1.2⟩), by repeat (first | (with_reducible first | exact HB.out | apply below_alloc | apply pw_below_drewN | apply below_drew1 | refine below_set ?_ GE249.out) | exact HB.out)⟩

end Go.Proofs.YtjejjhpmiinanaaDoor.QAutomatonRaw
