-- by a program of this session (print2.py): the machine's side of one law; Lean checks it.
import Derived.Test.YtjejjhpmiinanaaDoorQAutomatonBytesx0
import Derived.Test.YtjejjhpmiinanaaDoorQAutomatonBytesx2
import Derived.Test.YtjejjhpmiinanaaDoorQAutomatonBytesx3
import Derived.Test.YtjejjhpmiinanaaDoorQAutomatonBytesx4
namespace Go.Proofs.YtjejjhpmiinanaaDoor.QAutomatonBytes
open Go.RowKit Go.Proofs.YtjejjhpmiinanaaDoorW.PrintWords Go.Proofs.YtjejjhpmiinanaaDoorW.PrintLast Go.Proofs.YtjejjhpmiinanaaDoorW.PrintMore
attribute [local go_sem] max2_int min2_int max_two min_two max_three min_three max_four min_four   -- for this text's walks alone
set_option linter.unusedVariables false
set_option linter.unusedSimpArgs false

/-! ### ndjqlaw18_AutomatonBytes: function 5 -/
mutual
def ndjqlaw18_AutomatonBytes.j0 : Nat → ByteArray → Int → Bool → Int → Int → Int → Int → List Int → List Int → List Int → Option (Bool)
  | 0, _, _, _, _, _, _, _, _, _, _ => none
  | k + 1, x0, x1, x25, x173000, x173001, x173002, x173003, x173004, x173005, x173006 => if x25 = true then ((ndjqlaw18_awake.f k).bind fun t173 => (some t173)) else (ndjqlaw18_AutomatonBytes.l0 k x0 x1 x1 ([] : List Int) 0 x173000 x173001 x173002 x173003 x173004 x173005 x173006)
def ndjqlaw18_AutomatonBytes.l0 : Nat → ByteArray → Int → Int → List Int → Int → Int → Int → Int → Int → List Int → List Int → List Int → Option (Bool)
  | 0, _, _, _, _, _, _, _, _, _, _, _, _ => none
  | k + 1, x0, x1, x7, x8, x9, x173000, x173001, x173002, x173003, x173004, x173005, x173006 => if x9 < (x0.size : Int) then (if 0 ≤ x9 then ((automaton_Step.f x7 (bt x0 x9)).bind fun bt180 => (if bt180.2 = true then (if x8.length < 17592186044416 then (if x7 = 0 then (if (bt180.2 != ((bt x0 x9) == 10)) = true then (some false) else (if bt180.1 < 0 then (some false) else (if bt180.1 > 2 then (some false) else (ndjqlaw18_AutomatonBytes.l0 k x0 x1 bt180.1 (x8 ++ [x9]) (wrap64 (x9 + 1)) x173000 x173001 x173002 x173003 x173004 x173005 x173006)))) else (some false)) else (none)) else (if x7 = 0 then (if (bt180.2 != ((bt x0 x9) == 10)) = true then (some false) else (if bt180.1 < 0 then (some false) else (if bt180.1 > 2 then (some false) else (ndjqlaw18_AutomatonBytes.l0 k x0 x1 bt180.1 x8 (wrap64 (x9 + 1)) x173000 x173001 x173002 x173003 x173004 x173005 x173006)))) else (if bt180.1 < 0 then (some false) else (if bt180.1 > 2 then (some false) else (ndjqlaw18_AutomatonBytes.l0 k x0 x1 bt180.1 x8 (wrap64 (x9 + 1)) x173000 x173001 x173002 x173003 x173004 x173005 x173006)))))) else (none)) else (if x173000 = (x0.size : Int) then (if x1 = 0 then (if x173001 = x7 then ((ndjqkeep_Ints.f k x173004 x8).bind fun t174 => (if t174 = true then ((ndjqlaw18_awake.f k).bind fun t175 => (some t175)) else (some false))) else (some false)) else (if x1 = 1 then (if x173002 = x7 then ((ndjqkeep_Ints.f k x173005 x8).bind fun t176 => (if t176 = true then ((ndjqlaw18_awake.f k).bind fun t177 => (some t177)) else (some false))) else (some false)) else (if x1 = 2 then (if x173003 = x7 then ((ndjqkeep_Ints.f k x173006 x8).bind fun t178 => (if t178 = true then ((ndjqlaw18_awake.f k).bind fun t179 => (some t179)) else (some false))) else (some false)) else (none)))) else (some false))
end
def ndjqlaw18_AutomatonBytes.f (k : Nat) (a0 : ByteArray) (a1 : Int) : Option (Bool) := (ndjqkeep_Mod.f a1 3).bind fun t157 => ((automaton_Summarize.f k a0).bind fun bt158 => (if (a0.size : Int) > 200 then (ndjqlaw18_AutomatonBytes.j0 k a0 t157 true bt158.1 bt158.2.1 bt158.2.2.1 bt158.2.2.2.1 bt158.2.2.2.2.1 bt158.2.2.2.2.2.1 bt158.2.2.2.2.2.2.1) else (ndjqlaw18_AutomatonBytes.j0 k a0 t157 (bt158.2.2.2.2.2.2.2 != 0) bt158.1 bt158.2.1 bt158.2.2.1 bt158.2.2.2.1 bt158.2.2.2.2.1 bt158.2.2.2.2.2.1 bt158.2.2.2.2.2.2.1)))
theorem ndjqlaw18_AutomatonBytes.mono_l : ∀ k, (∀ y0 y1 y2 y3 y4 y5 y6 y7 y8 y9, LeO (ndjqlaw18_AutomatonBytes.j0 k y0 y1 y2 y3 y4 y5 y6 y7 y8 y9) (ndjqlaw18_AutomatonBytes.j0 (k + 1) y0 y1 y2 y3 y4 y5 y6 y7 y8 y9)) ∧ (∀ y0 y1 y2 y3 y4 y5 y6 y7 y8 y9 y10 y11, LeO (ndjqlaw18_AutomatonBytes.l0 k y0 y1 y2 y3 y4 y5 y6 y7 y8 y9 y10 y11) (ndjqlaw18_AutomatonBytes.l0 (k + 1) y0 y1 y2 y3 y4 y5 y6 y7 y8 y9 y10 y11))
  | 0 => ⟨fun _ _ _ _ _ _ _ _ _ _ r h => by simp [ndjqlaw18_AutomatonBytes.j0] at h, fun _ _ _ _ _ _ _ _ _ _ _ _ r h => by simp [ndjqlaw18_AutomatonBytes.l0] at h⟩
  | k + 1 => by
    obtain ⟨ih0, ih1⟩ := ndjqlaw18_AutomatonBytes.mono_l k
    refine ⟨?_, ?_⟩
    · intro y0 y1 y2 y3 y4 y5 y6 y7 y8 y9
      unfold ndjqlaw18_AutomatonBytes.j0
      repeat' first
      | (with_reducible exact ih0 _ _ _ _ _ _ _ _ _ _)
      | (with_reducible exact ih1 _ _ _ _ _ _ _ _ _ _ _ _)
      | (with_reducible exact automaton_Summarize.mono _ _)
      | (with_reducible exact ndjqkeep_Ints.mono _ _ _)
      | (with_reducible exact ndjqlaw18_awake.mono _)
      | (with_reducible exact LeO.refl _)
      | (with_reducible exact LeO.none _)
      | (with_reducible refine LeO.ite ?_ ?_)
      | (with_reducible refine LeO.bind ?_ (fun _ => ?_))
      | exact ih0 _ _ _ _ _ _ _ _ _ _
      | exact ih1 _ _ _ _ _ _ _ _ _ _ _ _
      | exact automaton_Summarize.mono _ _
      | exact ndjqkeep_Ints.mono _ _ _
      | exact ndjqlaw18_awake.mono _
      | exact LeO.none _
      | refine LeO.ite ?_ ?_
      | refine LeO.bind ?_ (fun _ => ?_)
    · intro y0 y1 y2 y3 y4 y5 y6 y7 y8 y9 y10 y11
      unfold ndjqlaw18_AutomatonBytes.l0
      repeat' first
      | (with_reducible exact ih0 _ _ _ _ _ _ _ _ _ _)
      | (with_reducible exact ih1 _ _ _ _ _ _ _ _ _ _ _ _)
      | (with_reducible exact automaton_Summarize.mono _ _)
      | (with_reducible exact ndjqkeep_Ints.mono _ _ _)
      | (with_reducible exact ndjqlaw18_awake.mono _)
      | (with_reducible exact LeO.refl _)
      | (with_reducible exact LeO.none _)
      | (with_reducible refine LeO.ite ?_ ?_)
      | (with_reducible refine LeO.bind ?_ (fun _ => ?_))
      | exact ih0 _ _ _ _ _ _ _ _ _ _
      | exact ih1 _ _ _ _ _ _ _ _ _ _ _ _
      | exact automaton_Summarize.mono _ _
      | exact ndjqkeep_Ints.mono _ _ _
      | exact ndjqlaw18_awake.mono _
      | exact LeO.none _
      | refine LeO.ite ?_ ?_
      | refine LeO.bind ?_ (fun _ => ?_)
theorem ndjqlaw18_AutomatonBytes.mono : ∀ a0 a1 k, LeO (ndjqlaw18_AutomatonBytes.f k a0 a1) (ndjqlaw18_AutomatonBytes.f (k + 1) a0 a1) := by
  intro a0 a1 k
  obtain ⟨ih0, ih1⟩ := ndjqlaw18_AutomatonBytes.mono_l k
  unfold ndjqlaw18_AutomatonBytes.f
  repeat' first
      | (with_reducible exact ih0 _ _ _ _ _ _ _ _ _ _)
      | (with_reducible exact ih1 _ _ _ _ _ _ _ _ _ _ _ _)
      | (with_reducible exact automaton_Summarize.mono _ _)
      | (with_reducible exact ndjqkeep_Ints.mono _ _ _)
      | (with_reducible exact ndjqlaw18_awake.mono _)
      | (with_reducible exact LeO.refl _)
      | (with_reducible exact LeO.none _)
      | (with_reducible refine LeO.ite ?_ ?_)
      | (with_reducible refine LeO.bind ?_ (fun _ => ?_))
      | exact ih0 _ _ _ _ _ _ _ _ _ _
      | exact ih1 _ _ _ _ _ _ _ _ _ _ _ _
      | exact automaton_Summarize.mono _ _
      | exact ndjqkeep_Ints.mono _ _ _
      | exact ndjqlaw18_awake.mono _
      | exact LeO.none _
      | refine LeO.ite ?_ ?_
      | refine LeO.bind ?_ (fun _ => ?_)
set_option maxHeartbeats 8000000 in
set_option maxRecDepth 100000 in
theorem ndjqlaw18_AutomatonBytes.calls (k : Nat) (a0 : ByteArray) (a1 : Int) (r : Bool) (w : World) (hG : GlbLaid w) (h : ndjqlaw18_AutomatonBytes.f k a0 a1 = some r) :
    Calls Tryd.prog 5 #[.string a0, .int .i64 a1] w fun e w' => e = .returned (.bool r) ∧ Below w.heap.size w w' := by
  have hu29 := Tryd.underlying29
  have HG := Aside0.mk hG
  clear hG
  have HB := Aside0.mk (Below.refl w.heap.size w)
  have H : ((ndjqkeep_Mod.f a1 3).bind fun t157 => ((automaton_Summarize.f k a0).bind fun bt158 => (if (a0.size : Int) > 200 then (ndjqlaw18_AutomatonBytes.j0 k a0 t157 true bt158.1 bt158.2.1 bt158.2.2.1 bt158.2.2.2.1 bt158.2.2.2.2.1 bt158.2.2.2.2.2.1 bt158.2.2.2.2.2.2.1) else (ndjqlaw18_AutomatonBytes.j0 k a0 t157 (bt158.2.2.2.2.2.2.2 != 0) bt158.1 bt158.2.1 bt158.2.2.1 bt158.2.2.2.1 bt158.2.2.2.2.1 bt158.2.2.2.2.2.1 bt158.2.2.2.2.2.2.1)))) = some r := h
  clear h
  replace H := Option.bind_eq_some_iff.mp H
  obtain ⟨t157, A30, H⟩ := H
  replace H : ((automaton_Summarize.f k a0).bind fun bt158 => (if (a0.size : Int) > 200 then (ndjqlaw18_AutomatonBytes.j0 k a0 t157 true bt158.1 bt158.2.1 bt158.2.2.1 bt158.2.2.2.1 bt158.2.2.2.2.1 bt158.2.2.2.2.2.1 bt158.2.2.2.2.2.2.1) else (ndjqlaw18_AutomatonBytes.j0 k a0 t157 (bt158.2.2.2.2.2.2.2 != 0) bt158.1 bt158.2.1 bt158.2.2.1 bt158.2.2.2.1 bt158.2.2.2.2.1 bt158.2.2.2.2.2.1 bt158.2.2.2.2.2.2.1))) = some r := H
  have A3 := Aside0.mk A30
  clear A30
  replace H := Option.bind_eq_some_iff.mp H
  obtain ⟨⟨t158, t159, t160, t161, t162, t165, t168, t171⟩, A40, H⟩ := H
  replace H : (if (a0.size : Int) > 200 then (ndjqlaw18_AutomatonBytes.j0 k a0 t157 true t158 t159 t160 t161 t162 t165 t168) else (ndjqlaw18_AutomatonBytes.j0 k a0 t157 (t171 != 0) t158 t159 t160 t161 t162 t165 t168)) = some r := H
  have A4 := Aside0.mk A40
  clear A40
  have HC5 := Aside0.mk H
  clear H
  go_enter Tryd.func5, Tryd.ntmps5
  go_upto_region 3 with (first | ((with_reducible refine gate_callee (f := 17) rfl ?_); refine goesL_ (some 13) rfl rfl Tryd.func17 (by kernel_rfl) rfl #[.int .i64 a1, .int .i64 3] rfl (by (try simp only [List.map_toArray, List.map_cons, List.map_nil]); first | done | rfl | (simp only [List.length_drop, List.length_take]; rfl)) ?_; (with_reducible refine (ndjqkeep_Mod.calls a1 3 t157 _ A3.out).mono ?_); rintro e w' ⟨rfl, ⟨nd, rfl⟩⟩; refine ⟨_, rfl, ?_⟩) | ((with_reducible refine gate_callee (f := 12) rfl ?_); refine goesL_ (some 16) rfl rfl Tryd.func12 (by kernel_rfl) rfl #[.string a0] rfl (by (try simp only [List.map_toArray, List.map_cons, List.map_nil]); first | done | rfl | (simp only [List.length_drop, List.length_take]; rfl)) ?_; (with_reducible refine (automaton_Summarize.calls k a0 t158 t159 t160 t161 t162 t165 t168 t171 _ ?side1 A4.out).mono ?_); (case side1 => exact GlbLaid.below HG.out (by repeat (first | (with_reducible first | exact HB.out | apply below_alloc | apply pw_below_drewN | apply below_drew1) | exact HB.out))); rintro e w6 ⟨v163, v166, v169, rfl, ho0, ho1, ho2, hb⟩; refine ⟨_, rfl, ?_⟩; have n0_ := Aside0.mk (Kd.R_lower ho0 (below_size (by repeat (first | (with_reducible first | exact HB.out | apply below_alloc | apply pw_below_drewN | apply below_drew1) | exact HB.out)))); have n1_ := Aside0.mk (Kd.R_lower ho1 (below_size (by repeat (first | (with_reducible first | exact HB.out | apply below_alloc | apply pw_below_drewN | apply below_drew1) | exact HB.out)))); have n2_ := Aside0.mk (Kd.R_lower ho2 (below_size (by repeat (first | (with_reducible first | exact HB.out | apply below_alloc | apply pw_below_drewN | apply below_drew1) | exact HB.out)))); have n3_ := Aside0.mk (below_step (by repeat (first | (with_reducible first | exact HB.out | apply below_alloc | apply pw_below_drewN | apply below_drew1) | exact HB.out)) hb); clear HB; have HO164 := n0_; have HO167 := n1_; have HO170 := n2_; have HB := n3_; clear n0_ n1_ n2_ n3_; (try clear hb); (try clear hb2); (try clear hk); (try clear hi); (try clear ho0); (try clear ho1); (try clear ho2)) | ((with_reducible refine gate_dst (N := 5) rfl ?_); refine box_event ?hg (N := 5) ?hd (cs := #[.int .i64 0, .int .i64 0, .int .i64 0, .int .i64 0, .slice none 0 0, .slice none 0 0, .slice none 0 0]) (t := 29) ?hr ?_; (case hd => rfl); (case hg => rfl); (case hr => first | (go_simp; done) | (go_simp; rfl)); intro gb172 hg w7 hbox hb; have n0_ := Aside0.mk (Kd.R_below (by (with_reducible repeat (first | apply Kd.R_alloc | apply Kd.R_drewN | apply Kd.R_drew)); exact HO164.out) hb); have n1_ := Aside0.mk (Kd.R_below (by (with_reducible repeat (first | apply Kd.R_alloc | apply Kd.R_drewN | apply Kd.R_drew)); exact HO167.out) hb); have n2_ := Aside0.mk (Kd.R_below (by (with_reducible repeat (first | apply Kd.R_alloc | apply Kd.R_drewN | apply Kd.R_drew)); exact HO170.out) hb); have n3_ := Aside0.mk (below_step (by repeat (first | (with_reducible first | exact HB.out | apply below_alloc | apply pw_below_drewN | apply below_drew1) | exact HB.out)) hb); have n4_ := Aside0.mk (hbox); have n5_ := Aside0.mk ((by rw [hg]; exact (below_size (by repeat (first | (with_reducible first | exact HB.out | apply below_alloc | apply pw_below_drewN | apply below_drew1) | exact HB.out))) : w.heap.size ≤ gb172)); have n6_ := Aside0.mk ((by rw [hg]; exact (below_size (by repeat (first | (with_reducible first | exact HB.out | apply below_alloc | apply pw_below_drewN | apply below_drew1) | exact HB.out))) : w.heap.size ≤ gb172)); clear HO164; clear HO167; clear HO170; clear HB; have HO164 := n0_; have HO167 := n1_; have HO170 := n2_; have HB := n3_; have BK172 := n4_; have GW172 := n5_; have GE172 := n6_; clear n0_ n1_ n2_ n3_ n4_ n5_ n6_; clear hb hbox hg; have hcz8_0 : w7.cell? ⟨gb172, 0, none⟩ = some (.int .i64 0) := (blk_cell BK172.out 0).trans rfl; have hcz8_1 : w7.cell? ⟨gb172, 1, none⟩ = some (.int .i64 0) := (blk_cell BK172.out 1).trans rfl; have hcz8_2 : w7.cell? ⟨gb172, 2, none⟩ = some (.int .i64 0) := (blk_cell BK172.out 2).trans rfl; have hcz8_3 : w7.cell? ⟨gb172, 3, none⟩ = some (.int .i64 0) := (blk_cell BK172.out 3).trans rfl; have hcz8_4 : w7.cell? ⟨gb172, 4, none⟩ = some (.slice none 0 0) := (blk_cell BK172.out 4).trans rfl; have hcz8_5 : w7.cell? ⟨gb172, 5, none⟩ = some (.slice none 0 0) := (blk_cell BK172.out 5).trans rfl; have hcz8_6 : w7.cell? ⟨gb172, 6, none⟩ = some (.slice none 0 0) := (blk_cell BK172.out 6).trans rfl; have hfz8_0 := blk_frozen BK172.out 0; have hfz8_1 := blk_frozen BK172.out 1; have hfz8_2 := blk_frozen BK172.out 2; have hfz8_3 := blk_frozen BK172.out 3; have hfz8_4 := blk_frozen BK172.out 4; have hfz8_5 := blk_frozen BK172.out 5; have hfz8_6 := blk_frozen BK172.out 6; obtain ⟨Ao9, co9, eo9⟩ := Kd.R_slice HO164.out; subst eo9; obtain ⟨Ao10, co10, eo10⟩ := Kd.R_slice HO167.out; subst eo10; obtain ⟨Ao11, co11, eo11⟩ := Kd.R_slice HO170.out; subst eo11))
  (try simp only [Act.put, List.setIfInBounds_toArray, List.set_cons_zero, List.set_cons_succ])
  go_cut [25] (fun v25 wc => ∃ (kq : Nat) (x25_4 : Bool), v25 = .bool x25_4 ∧ Aside0 (ndjqlaw18_AutomatonBytes.j0 kq a0 t157 x25_4 t158 t159 t160 t161 t162 t165 t168 = some r) ∧ Aside0 (kq ≤ k) ∧ Aside0 (Kd.R (Kd.int .i64) 3 wc w.heap.size (fun k_ => some k_ ≠ ((.slice Ao10 t165.length co10) : Value).ownBlock ∧ some k_ ≠ ((.slice Ao11 t168.length co11) : Value).ownBlock) (.slice Ao9 t162.length co9) t162) ∧ Aside0 (Kd.R (Kd.int .i64) 3 wc w.heap.size (fun k_ => some k_ ≠ ((.slice Ao9 t162.length co9) : Value).ownBlock ∧ some k_ ≠ ((.slice Ao11 t168.length co11) : Value).ownBlock) (.slice Ao10 t165.length co10) t165) ∧ Aside0 (Kd.R (Kd.int .i64) 3 wc w.heap.size (fun k_ => some k_ ≠ ((.slice Ao9 t162.length co9) : Value).ownBlock ∧ some k_ ≠ ((.slice Ao10 t165.length co10) : Value).ownBlock) (.slice Ao11 t168.length co11) t168) ∧ Aside0 (wc.heap[gb172]? = some (.cells #[.int .i64 t158, .int .i64 t159, .int .i64 t160, .int .i64 t161, (.slice Ao9 t162.length co9), (.slice Ao10 t165.length co10), (.slice Ao11 t168.length co11)] 29 (0, 0))) ∧ Aside0 (Below w.heap.size w wc))
  case first =>
    have H := HC5.out
    clear HC5
    by_cases c12 : (a0.size : Int) > 200
    · rw [if_pos c12] at H
      have c12b0 : decide (200 < (a0.size : Int)) = true := decide_eq_true c12
      have c12b1 : decide (200 < a0.size) = true := decide_eq_true (by omega)
      clear c12
      (first | rw [c12b0] | (simp only [i64_w, i32_w]; rw [c12b0]) | skip)
      have H' := Aside0.mk H
      clear H
      go_wp2
      go_meet
      case rel => exact ⟨_, (true), (by first | rfl | (simp; done) | (simp [*]; done)), H', ⟨by first | omega | exact Nat.le_refl _⟩, ⟨by (with_reducible repeat (first | apply Kd.R_alloc | apply Kd.R_drewN | apply Kd.R_drew)); exact Kd.R_mono (Kd.R_far (p := ⟨gb172, 6, none⟩) (Kd.R_far (p := ⟨gb172, 5, none⟩) (Kd.R_far (p := ⟨gb172, 4, none⟩) (Kd.R_far (p := ⟨gb172, 3, none⟩) (Kd.R_far (p := ⟨gb172, 2, none⟩) (Kd.R_far (p := ⟨gb172, 1, none⟩) (Kd.R_far (p := ⟨gb172, 0, none⟩) (Kd.R_types HO164.out BK172.out (by decide)) (fun _ hk => hk.2) (.int .i64 t158)) (fun _ hk => hk.2) (.int .i64 t159)) (fun _ hk => hk.2) (.int .i64 t160)) (fun _ hk => hk.2) (.int .i64 t161)) (fun _ hk => hk.2) (.slice Ao9 t162.length co9)) (fun _ hk => hk.2) (.slice Ao10 t165.length co10)) (fun _ hk => hk.2) (.slice Ao11 t168.length co11)) (fun _ hk => ⟨hk.1.1, hk.1.2⟩)⟩, ⟨by (with_reducible repeat (first | apply Kd.R_alloc | apply Kd.R_drewN | apply Kd.R_drew)); exact Kd.R_mono (Kd.R_far (p := ⟨gb172, 6, none⟩) (Kd.R_far (p := ⟨gb172, 5, none⟩) (Kd.R_far (p := ⟨gb172, 4, none⟩) (Kd.R_far (p := ⟨gb172, 3, none⟩) (Kd.R_far (p := ⟨gb172, 2, none⟩) (Kd.R_far (p := ⟨gb172, 1, none⟩) (Kd.R_far (p := ⟨gb172, 0, none⟩) (Kd.R_types HO167.out BK172.out (by decide)) (fun _ hk => hk.2) (.int .i64 t158)) (fun _ hk => hk.2) (.int .i64 t159)) (fun _ hk => hk.2) (.int .i64 t160)) (fun _ hk => hk.2) (.int .i64 t161)) (fun _ hk => hk.2) (.slice Ao9 t162.length co9)) (fun _ hk => hk.2) (.slice Ao10 t165.length co10)) (fun _ hk => hk.2) (.slice Ao11 t168.length co11)) (fun _ hk => ⟨hk.1.1, hk.1.2⟩)⟩, ⟨by (with_reducible repeat (first | apply Kd.R_alloc | apply Kd.R_drewN | apply Kd.R_drew)); exact Kd.R_mono (Kd.R_far (p := ⟨gb172, 6, none⟩) (Kd.R_far (p := ⟨gb172, 5, none⟩) (Kd.R_far (p := ⟨gb172, 4, none⟩) (Kd.R_far (p := ⟨gb172, 3, none⟩) (Kd.R_far (p := ⟨gb172, 2, none⟩) (Kd.R_far (p := ⟨gb172, 1, none⟩) (Kd.R_far (p := ⟨gb172, 0, none⟩) (Kd.R_types HO170.out BK172.out (by decide)) (fun _ hk => hk.2) (.int .i64 t158)) (fun _ hk => hk.2) (.int .i64 t159)) (fun _ hk => hk.2) (.int .i64 t160)) (fun _ hk => hk.2) (.int .i64 t161)) (fun _ hk => hk.2) (.slice Ao9 t162.length co9)) (fun _ hk => hk.2) (.slice Ao10 t165.length co10)) (fun _ hk => hk.2) (.slice Ao11 t168.length co11)) (fun _ hk => ⟨hk.1.1, hk.1.2⟩)⟩, ⟨by (with_reducible repeat (first | refine blk_drewN ?_ _ | refine blk_drew ?_ | refine blk_alloc ?_ _)); refine blk_put (cs := #[.int .i64 t158, .int .i64 t159, .int .i64 t160, .int .i64 t161, .slice Ao9 t162.length co9, .slice Ao10 t165.length co10, .slice none 0 0]) ?_ 6 _ rfl; (with_reducible repeat (first | refine blk_drewN ?_ _ | refine blk_drew ?_ | refine blk_alloc ?_ _)); refine blk_put (cs := #[.int .i64 t158, .int .i64 t159, .int .i64 t160, .int .i64 t161, .slice Ao9 t162.length co9, .slice none 0 0, .slice none 0 0]) ?_ 5 _ rfl; (with_reducible repeat (first | refine blk_drewN ?_ _ | refine blk_drew ?_ | refine blk_alloc ?_ _)); refine blk_put (cs := #[.int .i64 t158, .int .i64 t159, .int .i64 t160, .int .i64 t161, .slice none 0 0, .slice none 0 0, .slice none 0 0]) ?_ 4 _ rfl; (with_reducible repeat (first | refine blk_drewN ?_ _ | refine blk_drew ?_ | refine blk_alloc ?_ _)); refine blk_put (cs := #[.int .i64 t158, .int .i64 t159, .int .i64 t160, .int .i64 0, .slice none 0 0, .slice none 0 0, .slice none 0 0]) ?_ 3 _ rfl; (with_reducible repeat (first | refine blk_drewN ?_ _ | refine blk_drew ?_ | refine blk_alloc ?_ _)); refine blk_put (cs := #[.int .i64 t158, .int .i64 t159, .int .i64 0, .int .i64 0, .slice none 0 0, .slice none 0 0, .slice none 0 0]) ?_ 2 _ rfl; (with_reducible repeat (first | refine blk_drewN ?_ _ | refine blk_drew ?_ | refine blk_alloc ?_ _)); refine blk_put (cs := #[.int .i64 t158, .int .i64 0, .int .i64 0, .int .i64 0, .slice none 0 0, .slice none 0 0, .slice none 0 0]) ?_ 1 _ rfl; (with_reducible repeat (first | refine blk_drewN ?_ _ | refine blk_drew ?_ | refine blk_alloc ?_ _)); refine blk_put (cs := #[.int .i64 0, .int .i64 0, .int .i64 0, .int .i64 0, .slice none 0 0, .slice none 0 0, .slice none 0 0]) ?_ 0 _ rfl; (with_reducible repeat (first | refine blk_drewN ?_ _ | refine blk_drew ?_ | refine blk_alloc ?_ _)); exact BK172.out⟩, ⟨by repeat (first | (with_reducible first | exact HB.out | apply below_alloc | apply pw_below_drewN | apply below_drew1 | refine below_set ?_ GE172.out) | exact HB.out)⟩⟩
    · rw [if_neg c12] at H
      have c12b0 : decide (200 < (a0.size : Int)) = false := decide_eq_false c12
      have c12b1 : decide (200 < a0.size) = false := decide_eq_false (by omega)
      clear c12
      (first | rw [c12b0] | (simp only [i64_w, i32_w]; rw [c12b0]) | skip)
      have H' := Aside0.mk H
      clear H
      go_wp2
      go_meet
      case rel => exact ⟨_, ((t171 != 0)), (by first | rfl | (simp; done) | (simp [*]; done)), H', ⟨by first | omega | exact Nat.le_refl _⟩, ⟨by (with_reducible repeat (first | apply Kd.R_alloc | apply Kd.R_drewN | apply Kd.R_drew)); exact Kd.R_mono (Kd.R_far (p := ⟨gb172, 6, none⟩) (Kd.R_far (p := ⟨gb172, 5, none⟩) (Kd.R_far (p := ⟨gb172, 4, none⟩) (Kd.R_far (p := ⟨gb172, 3, none⟩) (Kd.R_far (p := ⟨gb172, 2, none⟩) (Kd.R_far (p := ⟨gb172, 1, none⟩) (Kd.R_far (p := ⟨gb172, 0, none⟩) (Kd.R_types HO164.out BK172.out (by decide)) (fun _ hk => hk.2) (.int .i64 t158)) (fun _ hk => hk.2) (.int .i64 t159)) (fun _ hk => hk.2) (.int .i64 t160)) (fun _ hk => hk.2) (.int .i64 t161)) (fun _ hk => hk.2) (.slice Ao9 t162.length co9)) (fun _ hk => hk.2) (.slice Ao10 t165.length co10)) (fun _ hk => hk.2) (.slice Ao11 t168.length co11)) (fun _ hk => ⟨hk.1.1, hk.1.2⟩)⟩, ⟨by (with_reducible repeat (first | apply Kd.R_alloc | apply Kd.R_drewN | apply Kd.R_drew)); exact Kd.R_mono (Kd.R_far (p := ⟨gb172, 6, none⟩) (Kd.R_far (p := ⟨gb172, 5, none⟩) (Kd.R_far (p := ⟨gb172, 4, none⟩) (Kd.R_far (p := ⟨gb172, 3, none⟩) (Kd.R_far (p := ⟨gb172, 2, none⟩) (Kd.R_far (p := ⟨gb172, 1, none⟩) (Kd.R_far (p := ⟨gb172, 0, none⟩) (Kd.R_types HO167.out BK172.out (by decide)) (fun _ hk => hk.2) (.int .i64 t158)) (fun _ hk => hk.2) (.int .i64 t159)) (fun _ hk => hk.2) (.int .i64 t160)) (fun _ hk => hk.2) (.int .i64 t161)) (fun _ hk => hk.2) (.slice Ao9 t162.length co9)) (fun _ hk => hk.2) (.slice Ao10 t165.length co10)) (fun _ hk => hk.2) (.slice Ao11 t168.length co11)) (fun _ hk => ⟨hk.1.1, hk.1.2⟩)⟩, ⟨by (with_reducible repeat (first | apply Kd.R_alloc | apply Kd.R_drewN | apply Kd.R_drew)); exact Kd.R_mono (Kd.R_far (p := ⟨gb172, 6, none⟩) (Kd.R_far (p := ⟨gb172, 5, none⟩) (Kd.R_far (p := ⟨gb172, 4, none⟩) (Kd.R_far (p := ⟨gb172, 3, none⟩) (Kd.R_far (p := ⟨gb172, 2, none⟩) (Kd.R_far (p := ⟨gb172, 1, none⟩) (Kd.R_far (p := ⟨gb172, 0, none⟩) (Kd.R_types HO170.out BK172.out (by decide)) (fun _ hk => hk.2) (.int .i64 t158)) (fun _ hk => hk.2) (.int .i64 t159)) (fun _ hk => hk.2) (.int .i64 t160)) (fun _ hk => hk.2) (.int .i64 t161)) (fun _ hk => hk.2) (.slice Ao9 t162.length co9)) (fun _ hk => hk.2) (.slice Ao10 t165.length co10)) (fun _ hk => hk.2) (.slice Ao11 t168.length co11)) (fun _ hk => ⟨hk.1.1, hk.1.2⟩)⟩, ⟨by (with_reducible repeat (first | refine blk_drewN ?_ _ | refine blk_drew ?_ | refine blk_alloc ?_ _)); refine blk_put (cs := #[.int .i64 t158, .int .i64 t159, .int .i64 t160, .int .i64 t161, .slice Ao9 t162.length co9, .slice Ao10 t165.length co10, .slice none 0 0]) ?_ 6 _ rfl; (with_reducible repeat (first | refine blk_drewN ?_ _ | refine blk_drew ?_ | refine blk_alloc ?_ _)); refine blk_put (cs := #[.int .i64 t158, .int .i64 t159, .int .i64 t160, .int .i64 t161, .slice Ao9 t162.length co9, .slice none 0 0, .slice none 0 0]) ?_ 5 _ rfl; (with_reducible repeat (first | refine blk_drewN ?_ _ | refine blk_drew ?_ | refine blk_alloc ?_ _)); refine blk_put (cs := #[.int .i64 t158, .int .i64 t159, .int .i64 t160, .int .i64 t161, .slice none 0 0, .slice none 0 0, .slice none 0 0]) ?_ 4 _ rfl; (with_reducible repeat (first | refine blk_drewN ?_ _ | refine blk_drew ?_ | refine blk_alloc ?_ _)); refine blk_put (cs := #[.int .i64 t158, .int .i64 t159, .int .i64 t160, .int .i64 0, .slice none 0 0, .slice none 0 0, .slice none 0 0]) ?_ 3 _ rfl; (with_reducible repeat (first | refine blk_drewN ?_ _ | refine blk_drew ?_ | refine blk_alloc ?_ _)); refine blk_put (cs := #[.int .i64 t158, .int .i64 t159, .int .i64 0, .int .i64 0, .slice none 0 0, .slice none 0 0, .slice none 0 0]) ?_ 2 _ rfl; (with_reducible repeat (first | refine blk_drewN ?_ _ | refine blk_drew ?_ | refine blk_alloc ?_ _)); refine blk_put (cs := #[.int .i64 t158, .int .i64 0, .int .i64 0, .int .i64 0, .slice none 0 0, .slice none 0 0, .slice none 0 0]) ?_ 1 _ rfl; (with_reducible repeat (first | refine blk_drewN ?_ _ | refine blk_drew ?_ | refine blk_alloc ?_ _)); refine blk_put (cs := #[.int .i64 0, .int .i64 0, .int .i64 0, .int .i64 0, .slice none 0 0, .slice none 0 0, .slice none 0 0]) ?_ 0 _ rfl; (with_reducible repeat (first | refine blk_drewN ?_ _ | refine blk_drew ?_ | refine blk_alloc ?_ _)); exact BK172.out⟩, ⟨by repeat (first | (with_reducible first | exact HB.out | apply below_alloc | apply pw_below_drewN | apply below_drew1 | refine below_set ?_ GE172.out) | exact HB.out)⟩⟩
  case rest =>
    clear HC5
    try clear c1
    try clear p2
    try clear c5
    try clear c12
    try clear c12b0
    try clear c12b1
    try clear hcz8_0
    try clear hcz8_1
    try clear hcz8_2
    try clear hcz8_3
    try clear hcz8_4
    try clear hcz8_5
    try clear hcz8_6
    try clear hfz8_0
    try clear hfz8_1
    try clear hfz8_2
    try clear hfz8_3
    try clear hfz8_4
    try clear hfz8_5
    try clear hfz8_6
    obtain ⟨kq, x25_4, rfl, HA, HJ4, HO_173004, HO_173005, HO_173006, BK172, HB⟩ := hcut
    cases kq with
    | zero => exact absurd HA.out (by simp [ndjqlaw18_AutomatonBytes.j0])
    | succ kj4 =>
      have H := HA.out
      clear HA
      simp only [ndjqlaw18_AutomatonBytes.j0] at H
      by_cases c13 : x25_4 = true
      · subst c13
        have H1 : ((ndjqlaw18_awake.f kj4).bind fun t173 => (some t173)) = some r := by rw [if_pos rfl] at H; exact H
        clear H
        have H := H1
        clear H1
        replace H := Option.bind_eq_some_iff.mp H
        obtain ⟨t173, A140, H⟩ := H
        replace H : (some t173) = some r := H
        have A14 := Aside0.mk A140
        clear A140
        obtain rfl := Option.some.inj H
        go_wp2_with (first | ((with_reducible refine gate_callee (f := 9) rfl ?_); refine goesL_ (some 26) rfl rfl Tryd.func9 (by kernel_rfl) rfl #[] rfl (by (try simp only [List.map_toArray, List.map_cons, List.map_nil]); first | done | rfl | (simp only [List.length_drop, List.length_take]; rfl)) ?_; (with_reducible refine (ndjqlaw18_awake.calls kj4  t173 _ ?side1 A14.out).mono ?_); (case side1 => exact GlbLaid.below HG.out (by repeat (first | (with_reducible first | exact HB.out | apply below_alloc | apply pw_below_drewN | apply below_drew1 | refine below_set ?_ GE172.out) | exact HB.out))); rintro e w15 ⟨rfl, hb⟩; refine ⟨_, rfl, ?_⟩; have n0_ := Aside0.mk (Kd.R_below (by (with_reducible repeat (first | apply Kd.R_alloc | apply Kd.R_drewN | apply Kd.R_drew)); exact HO_173004.out) hb); have n1_ := Aside0.mk (Kd.R_below (by (with_reducible repeat (first | apply Kd.R_alloc | apply Kd.R_drewN | apply Kd.R_drew)); exact HO_173005.out) hb); have n2_ := Aside0.mk (Kd.R_below (by (with_reducible repeat (first | apply Kd.R_alloc | apply Kd.R_drewN | apply Kd.R_drew)); exact HO_173006.out) hb); have n3_ := Aside0.mk (blk_below (g := gb172) (o := .cells #[.int .i64 t158, .int .i64 t159, .int .i64 t160, .int .i64 t161, .slice Ao9 t162.length co9, .slice Ao10 t165.length co10, .slice Ao11 t168.length co11] 29 (0, 0)) (by (with_reducible repeat (first | refine blk_drewN ?_ _ | refine blk_drew ?_ | refine blk_alloc ?_ _)); exact BK172.out) hb); have n4_ := Aside0.mk (below_step (by repeat (first | (with_reducible first | exact HB.out | apply below_alloc | apply pw_below_drewN | apply below_drew1 | refine below_set ?_ GE172.out) | exact HB.out)) hb); clear HO_173004; clear HO_173005; clear HO_173006; clear BK172; clear HB; have HO_173004 := n0_; have HO_173005 := n1_; have HO_173006 := n2_; have BK172 := n3_; have HB := n4_; clear n0_ n1_ n2_ n3_ n4_; (try clear hb); (try clear hb2); (try clear hk); (try clear hi)))
        go_ret
        exact ⟨by first | rfl | (simp [errW_none, errW_some] <;> rfl) | (simp [*, errW_none, errW_some] <;> rfl), by repeat (first | (with_reducible first | exact HB.out | apply below_alloc | apply pw_below_drewN | apply below_drew1 | refine below_set ?_ GE172.out) | exact HB.out)⟩
      · replace c13 := Bool.eq_false_iff.mpr c13
        subst c13
        have H1 : (ndjqlaw18_AutomatonBytes.l0 kj4 a0 t157 t157 ([] : List Int) 0 t158 t159 t160 t161 t162 t165 t168) = some r := by rw [if_neg (show ¬ (false = true) by decide)] at H; exact H
        clear H
        have H := H1
        clear H1
        have H' := Aside0.mk H
        clear H
        go_wp2
        go_loopg [7, 8, 9] kj4 (fun kq v7 v8 v9 w' => ∃ (x7_2 : Int) (x8_2 : List Int) (x9_2 : Int), v7 = .int .i64 x7_2 ∧ v9 = .int .i64 x9_2 ∧ Aside0 (ndjqlaw18_AutomatonBytes.l0 kq a0 t157 x7_2 x8_2 x9_2 t158 t159 t160 t161 t162 t165 t168 = some r) ∧ Aside0 (kq ≤ kj4) ∧ Aside0 (Kd.R (Kd.int .i64) 3 w' w.heap.size (fun k_ => some k_ ≠ ((.slice Ao9 t162.length co9) : Value).ownBlock ∧ some k_ ≠ ((.slice Ao10 t165.length co10) : Value).ownBlock ∧ some k_ ≠ ((.slice Ao11 t168.length co11) : Value).ownBlock) v8 x8_2) ∧ Aside0 (Kd.R (Kd.int .i64) 3 w' w.heap.size (fun k_ => some k_ ≠ (v8 : Value).ownBlock ∧ some k_ ≠ ((.slice Ao10 t165.length co10) : Value).ownBlock ∧ some k_ ≠ ((.slice Ao11 t168.length co11) : Value).ownBlock) (.slice Ao9 t162.length co9) t162) ∧ Aside0 (Kd.R (Kd.int .i64) 3 w' w.heap.size (fun k_ => some k_ ≠ (v8 : Value).ownBlock ∧ some k_ ≠ ((.slice Ao9 t162.length co9) : Value).ownBlock ∧ some k_ ≠ ((.slice Ao11 t168.length co11) : Value).ownBlock) (.slice Ao10 t165.length co10) t165) ∧ Aside0 (Kd.R (Kd.int .i64) 3 w' w.heap.size (fun k_ => some k_ ≠ (v8 : Value).ownBlock ∧ some k_ ≠ ((.slice Ao9 t162.length co9) : Value).ownBlock ∧ some k_ ≠ ((.slice Ao10 t165.length co10) : Value).ownBlock) (.slice Ao11 t168.length co11) t168) ∧ Aside0 (w'.heap[gb172]? = some (.cells #[.int .i64 t158, .int .i64 t159, .int .i64 t160, .int .i64 t161, (.slice Ao9 t162.length co9), (.slice Ao10 t165.length co10), (.slice Ao11 t168.length co11)] 29 (0, 0))) ∧ Aside0 (Below w.heap.size w w'))
        case atStart => exact ⟨(t157), (([] : List Int)), (0), (by first | rfl | (simp; done) | (simp [*]; done)), (by first | rfl | (simp; done) | (simp [*]; done)), H', ⟨Nat.le_refl _⟩, ⟨by first | exact Kd.R_nil _ _ _ _ _ | exact Kd.N_nil _ _ _ _ _ | exact Kd.V_nil _ _ _ _ _ | exact Kd.Q_nil _ _ _ _ _ | exact Kd.S_nil _ _ _ _ _⟩, ⟨by (with_reducible repeat (first | apply Kd.R_alloc | apply Kd.R_drewN | apply Kd.R_drew)); exact Kd.R_mono HO_173004.out (fun _ hk => ⟨(by simp [Value.ownBlock]), ⟨hk.1, hk.2⟩⟩)⟩, ⟨by (with_reducible repeat (first | apply Kd.R_alloc | apply Kd.R_drewN | apply Kd.R_drew)); exact Kd.R_mono HO_173005.out (fun _ hk => ⟨(by simp [Value.ownBlock]), ⟨hk.1, hk.2⟩⟩)⟩, ⟨by (with_reducible repeat (first | apply Kd.R_alloc | apply Kd.R_drewN | apply Kd.R_drew)); exact Kd.R_mono HO_173006.out (fun _ hk => ⟨(by simp [Value.ownBlock]), ⟨hk.1, hk.2⟩⟩)⟩, ⟨by (with_reducible repeat (first | refine blk_drewN ?_ _ | refine blk_drew ?_ | refine blk_alloc ?_ _)); exact BK172.out⟩, ⟨by repeat (first | (with_reducible first | exact HB.out | apply below_alloc | apply pw_below_drewN | apply below_drew1 | refine below_set ?_ GE172.out) | exact HB.out)⟩⟩
        case round =>
          clear H'
          try clear c1
          try clear p2
          try clear c5
          try clear c9
          try clear c12
          try clear c12b0
          try clear c12b1
          try clear c13
          try clear hcz8_0
          try clear hcz8_1
          try clear hcz8_2
          try clear hcz8_3
          try clear hcz8_4
          try clear hcz8_5
          try clear hcz8_6
          try clear hfz8_0
          try clear hfz8_1
          try clear hfz8_2
          try clear hfz8_3
          try clear hfz8_4
          try clear hfz8_5
          try clear hfz8_6
          try clear p2
          obtain ⟨x7_2, x8_2, x9_2, rfl, rfl, HA, HK2, HO_8, HO_173004, HO_173005, HO_173006, BK172, HB⟩ := hrel
          cases gk with
          | zero => exact absurd HA.out (by simp [ndjqlaw18_AutomatonBytes.l0])
          | succ k2 =>
            have H := HA.out
            clear HA
            simp only [ndjqlaw18_AutomatonBytes.l0] at H
            by_cases c16 : x9_2 < (a0.size : Int)
            · rw [if_pos c16] at H
              have c16b0 : decide (x9_2 < (a0.size : Int)) = true := decide_eq_true c16
              clear c16
              by_cases c17 : 0 ≤ x9_2
              · rw [if_pos c17] at H
                have c17b0 : decide (0 ≤ x9_2) = true := decide_eq_true c17
                clear c17
                replace H := Option.bind_eq_some_iff.mp H
                obtain ⟨⟨t180, t181⟩, A190, H⟩ := H
                replace H : (if t181 = true then (if x8_2.length < 17592186044416 then (if x7_2 = 0 then (if (t181 != ((bt a0 x9_2) == 10)) = true then (some false) else (if t180 < 0 then (some false) else (if t180 > 2 then (some false) else (ndjqlaw18_AutomatonBytes.l0 k2 a0 t157 t180 (x8_2 ++ [x9_2]) (wrap64 (x9_2 + 1)) t158 t159 t160 t161 t162 t165 t168)))) else (some false)) else (none)) else (if x7_2 = 0 then (if (t181 != ((bt a0 x9_2) == 10)) = true then (some false) else (if t180 < 0 then (some false) else (if t180 > 2 then (some false) else (ndjqlaw18_AutomatonBytes.l0 k2 a0 t157 t180 x8_2 (wrap64 (x9_2 + 1)) t158 t159 t160 t161 t162 t165 t168)))) else (if t180 < 0 then (some false) else (if t180 > 2 then (some false) else (ndjqlaw18_AutomatonBytes.l0 k2 a0 t157 t180 x8_2 (wrap64 (x9_2 + 1)) t158 t159 t160 t161 t162 t165 t168))))) = some r := H
                have A19 := Aside0.mk A190
                clear A190
                by_cases c20 : t181 = true
                · subst c20
                  have H1 : (if x8_2.length < 17592186044416 then (if x7_2 = 0 then (if (true != ((bt a0 x9_2) == 10)) = true then (some false) else (if t180 < 0 then (some false) else (if t180 > 2 then (some false) else (ndjqlaw18_AutomatonBytes.l0 k2 a0 t157 t180 (x8_2 ++ [x9_2]) (wrap64 (x9_2 + 1)) t158 t159 t160 t161 t162 t165 t168)))) else (some false)) else (none)) = some r := by rw [if_pos rfl] at H; exact H
                  clear H
                  have H := H1
                  clear H1
                  by_cases c21 : x8_2.length < 17592186044416
                  · rw [if_pos c21] at H
                    have LMc21 := Aside0.mk c21
                    clear c21
                    obtain ⟨y182, hy182⟩ : ∃ y_ : List Int, y_ = (x8_2 ++ [x9_2]) := ⟨_, rfl⟩
                    replace H : (if x7_2 = 0 then (if (true != ((bt a0 x9_2) == 10)) = true then (some false) else (if t180 < 0 then (some false) else (if t180 > 2 then (some false) else (ndjqlaw18_AutomatonBytes.l0 k2 a0 t157 t180 y182 (wrap64 (x9_2 + 1)) t158 t159 t160 t161 t162 t165 t168)))) else (some false)) = some r := by first | (rw [hy182]; with_reducible exact H) | (have H2_ := (Option.bind_some _ _).symm.trans H; rw [hy182]; with_reducible exact H2_) | (have H2_ := (Option.bind_some _ _).symm.trans H; with_reducible exact H2_) | with_reducible exact H | (rw [hy182]; exact H) | exact H
                    have Ny182 := Aside0.mk hy182
                    clear hy182
                    by_cases c22 : x7_2 = 0
                    · rw [if_pos c22] at H
                      have c22b0 : (x7_2 == 0) = true := beq_iff_eq.mpr c22
                      have c22b1 : (x7_2 != 0) = false := bne_eq_false_iff_eq.mpr c22
                      clear c22
                      by_cases c24 : (true != ((bt a0 x9_2) == 10)) = true
                      · rw [if_pos c24] at H
                        have c24b0 : (true != ((bt a0 x9_2) == 10)) = true := c24
                        (try (have c24b1 : decide (true = ((bt a0 x9_2) == 10)) = false := by simpa using c24))
                        (try (have c24b2 : (true == ((bt a0 x9_2) == 10)) = false := by simpa using c24))
                        (try (have c24b3 : ¬ (true = ((bt a0 x9_2) == 10)) := by simpa using c24))
                        clear c24
                        obtain rfl := Option.some.inj H
                        have p18 : 0 ≤ (x9_2 : Int) := of_decide_eq_true (by first | (with_reducible assumption) | assumption)
                        have q18 : x9_2 < (a0.size : Int) := of_decide_eq_true (by first | (with_reducible assumption) | assumption)
                        have hx18 := bt_at a0 x9_2
                        replace p18 := eq_true p18
                        replace q18 := eq_true q18
                        go_wp2_with (first | ((with_reducible refine gate_callee (f := 10) rfl ?_); refine goesL_ (some 39) rfl rfl Tryd.func10 (by kernel_rfl) rfl #[.int .i64 x7_2, .int .u8 (bt a0 x9_2)] rfl (by (try simp only [List.map_toArray, List.map_cons, List.map_nil]); first | done | rfl | (simp only [List.length_drop, List.length_take]; rfl)) ?_; (with_reducible refine (automaton_Step.calls x7_2 (bt a0 x9_2) t180 true _ ?side1 A19.out).mono ?_); (case side1 => exact GlbLaid.below HG.out (by repeat (first | (with_reducible first | exact HB.out | apply below_alloc | apply pw_below_drewN | apply below_drew1 | refine below_set ?_ GE172.out) | exact HB.out))); rintro e w25 ⟨rfl, hb⟩; refine ⟨_, rfl, ?_⟩; have n0_ := Aside0.mk (Kd.R_below (by (with_reducible repeat (first | apply Kd.R_alloc | apply Kd.R_drewN | apply Kd.R_drew)); exact HO_8.out) hb); have n1_ := Aside0.mk (Kd.R_below (by (with_reducible repeat (first | apply Kd.R_alloc | apply Kd.R_drewN | apply Kd.R_drew)); exact HO_173004.out) hb); have n2_ := Aside0.mk (Kd.R_below (by (with_reducible repeat (first | apply Kd.R_alloc | apply Kd.R_drewN | apply Kd.R_drew)); exact HO_173005.out) hb); have n3_ := Aside0.mk (Kd.R_below (by (with_reducible repeat (first | apply Kd.R_alloc | apply Kd.R_drewN | apply Kd.R_drew)); exact HO_173006.out) hb); have n4_ := Aside0.mk (blk_below (g := gb172) (o := .cells #[.int .i64 t158, .int .i64 t159, .int .i64 t160, .int .i64 t161, .slice Ao9 t162.length co9, .slice Ao10 t165.length co10, .slice Ao11 t168.length co11] 29 (0, 0)) (by (with_reducible repeat (first | refine blk_drewN ?_ _ | refine blk_drew ?_ | refine blk_alloc ?_ _)); exact BK172.out) hb); have n5_ := Aside0.mk (below_step (by repeat (first | (with_reducible first | exact HB.out | apply below_alloc | apply pw_below_drewN | apply below_drew1 | refine below_set ?_ GE172.out) | exact HB.out)) hb); clear HO_8; clear HO_173004; clear HO_173005; clear HO_173006; clear BK172; clear HB; have HO_8 := n0_; have HO_173004 := n1_; have HO_173005 := n2_; have HO_173006 := n3_; have BK172 := n4_; have HB := n5_; clear n0_ n1_ n2_ n3_ n4_ n5_; (try clear hb); (try clear hb2); (try clear hk); (try clear hi)) | ((with_reducible refine gate_builtin (b := .append) (xs := #[.tmp 43, .tmp 45]) rfl ?_); at_builtin; refine Kd.R_append (Kd.int .i64) (w0 := w) w.heap.size rfl (.tmp 43) (.tmp 45) 26 3 (.int .i64 0) 8 rfl Tryd.underlying26 info3 rfl (by decide) (by omega) u8 x8_2 x9_2 [.int .i64 x9_2] (fun k_ => some k_ ≠ (.slice Ao9 t162.length co9 : Value).ownBlock ∧ some k_ ≠ (.slice Ao10 t165.length co10 : Value).ownBlock ∧ some k_ ≠ (.slice Ao11 t168.length co11 : Value).ownBlock) (fun _ => False) rfl rfl ?aP (fun _ hk => hk.elim) ?aF ?aO ?aB ?aS ?aL ?_; (case aP => exact rfl); (case aB => exact (by repeat (first | (with_reducible first | exact HB.out | apply below_alloc | apply pw_below_drewN | apply below_drew1 | refine below_set ?_ GE172.out) | exact HB.out))); (case aF => exact (fun k_ hk => ⟨Kd.fresh' (Kd.R_lt (by (with_reducible repeat (first | apply Kd.R_alloc | apply Kd.R_drewN | apply Kd.R_drew)); exact HO_173004.out)) k_ hk, Kd.fresh' (Kd.R_lt (by (with_reducible repeat (first | apply Kd.R_alloc | apply Kd.R_drewN | apply Kd.R_drew)); exact HO_173005.out)) k_ hk, Kd.fresh' (Kd.R_lt (by (with_reducible repeat (first | apply Kd.R_alloc | apply Kd.R_drewN | apply Kd.R_drew)); exact HO_173006.out)) k_ hk⟩)); (case aO => exact (by (with_reducible repeat (first | apply Kd.R_alloc | apply Kd.R_drewN | apply Kd.R_drew)); exact HO_8.out)); (case aS => exact (below_size (by repeat (first | (with_reducible first | exact HB.out | apply below_alloc | apply pw_below_drewN | apply below_drew1 | refine below_set ?_ GE172.out) | exact HB.out)))); (case aL => have := LMc21.out; omega); intro v183 w26 ho hb hg hat; rw [← Ny182.out] at ho; have n0_ := Aside0.mk (Kd.R_after (ok := (fun k_ => some k_ ≠ (.slice Ao10 t165.length co10 : Value).ownBlock ∧ some k_ ≠ (.slice Ao11 t168.length co11 : Value).ownBlock)) (by (with_reducible repeat (first | apply Kd.R_alloc | apply Kd.R_drewN | apply Kd.R_drew)); exact Kd.R_mono HO_173004.out (fun _ hk => ⟨⟨hk.2.1, hk.2.2⟩, hk.1⟩)) hg hat); have n1_ := Aside0.mk (Kd.R_after (ok := (fun k_ => some k_ ≠ (.slice Ao9 t162.length co9 : Value).ownBlock ∧ some k_ ≠ (.slice Ao11 t168.length co11 : Value).ownBlock)) (by (with_reducible repeat (first | apply Kd.R_alloc | apply Kd.R_drewN | apply Kd.R_drew)); exact Kd.R_mono HO_173005.out (fun _ hk => ⟨⟨hk.2.1, hk.2.2⟩, hk.1⟩)) hg hat); have n2_ := Aside0.mk (Kd.R_after (ok := (fun k_ => some k_ ≠ (.slice Ao9 t162.length co9 : Value).ownBlock ∧ some k_ ≠ (.slice Ao10 t165.length co10 : Value).ownBlock)) (by (with_reducible repeat (first | apply Kd.R_alloc | apply Kd.R_drewN | apply Kd.R_drew)); exact Kd.R_mono HO_173006.out (fun _ hk => ⟨⟨hk.2.1, hk.2.2⟩, hk.1⟩)) hg hat); have n3_ := Aside0.mk (blk_grown (g := gb172) (o := .cells #[.int .i64 t158, .int .i64 t159, .int .i64 t160, .int .i64 t161, .slice Ao9 t162.length co9, .slice Ao10 t165.length co10, .slice Ao11 t168.length co11] 29 (0, 0)) (by (with_reducible repeat (first | refine blk_drewN ?_ _ | refine blk_drew ?_ | refine blk_alloc ?_ _)); exact BK172.out) hg (Kd.R_ne HO_8.out BK172.out (by decide))); have n4_ := Aside0.mk (hb); have n5_ := Aside0.mk (ho); clear HO_173004; clear HO_173005; clear HO_173006; clear BK172; clear HB; clear HO_8; have HO_173004 := n0_; have HO_173005 := n1_; have HO_173006 := n2_; have BK172 := n3_; have HB := n4_; have HO184 := n5_; clear n0_ n1_ n2_ n3_ n4_ n5_; clear ho hb hg hat; have p23 : 0 ≤ (x9_2 : Int) := of_decide_eq_true (by first | (with_reducible assumption) | assumption); have q23 : x9_2 < (a0.size : Int) := of_decide_eq_true (by first | (with_reducible assumption) | assumption); have hx23 := bt_at a0 x9_2; replace p23 := eq_true p23; replace q23 := eq_true q23))
                        go_ret
                        exact ⟨by first | rfl | (simp [errW_none, errW_some] <;> rfl) | (simp [*, errW_none, errW_some] <;> rfl), by repeat (first | (with_reducible first | exact HB.out | apply below_alloc | apply pw_below_drewN | apply below_drew1 | refine below_set ?_ GE172.out) | exact HB.out)⟩
                      · rw [if_neg c24] at H
                        have c24b0 : (true != ((bt a0 x9_2) == 10)) = false := by simpa using c24
                        (try (have c24b1 : decide (true = ((bt a0 x9_2) == 10)) = true := by simpa using c24))
                        (try (have c24b2 : (true == ((bt a0 x9_2) == 10)) = true := by simpa using c24))
                        clear c24
                        by_cases c27 : t180 < 0
                        · rw [if_pos c27] at H
                          have c27b0 : decide (t180 < 0) = true := decide_eq_true c27
                          clear c27
                          obtain rfl := Option.some.inj H
                          have p18 : 0 ≤ (x9_2 : Int) := of_decide_eq_true (by first | (with_reducible assumption) | assumption)
                          have q18 : x9_2 < (a0.size : Int) := of_decide_eq_true (by first | (with_reducible assumption) | assumption)
                          have hx18 := bt_at a0 x9_2
                          replace p18 := eq_true p18
                          replace q18 := eq_true q18
                          go_wp2_with (first | ((with_reducible refine gate_callee (f := 10) rfl ?_); refine goesL_ (some 39) rfl rfl Tryd.func10 (by kernel_rfl) rfl #[.int .i64 x7_2, .int .u8 (bt a0 x9_2)] rfl (by (try simp only [List.map_toArray, List.map_cons, List.map_nil]); first | done | rfl | (simp only [List.length_drop, List.length_take]; rfl)) ?_; (with_reducible refine (automaton_Step.calls x7_2 (bt a0 x9_2) t180 true _ ?side1 A19.out).mono ?_); (case side1 => exact GlbLaid.below HG.out (by repeat (first | (with_reducible first | exact HB.out | apply below_alloc | apply pw_below_drewN | apply below_drew1 | refine below_set ?_ GE172.out) | exact HB.out))); rintro e w28 ⟨rfl, hb⟩; refine ⟨_, rfl, ?_⟩; have n0_ := Aside0.mk (Kd.R_below (by (with_reducible repeat (first | apply Kd.R_alloc | apply Kd.R_drewN | apply Kd.R_drew)); exact HO_8.out) hb); have n1_ := Aside0.mk (Kd.R_below (by (with_reducible repeat (first | apply Kd.R_alloc | apply Kd.R_drewN | apply Kd.R_drew)); exact HO_173004.out) hb); have n2_ := Aside0.mk (Kd.R_below (by (with_reducible repeat (first | apply Kd.R_alloc | apply Kd.R_drewN | apply Kd.R_drew)); exact HO_173005.out) hb); have n3_ := Aside0.mk (Kd.R_below (by (with_reducible repeat (first | apply Kd.R_alloc | apply Kd.R_drewN | apply Kd.R_drew)); exact HO_173006.out) hb); have n4_ := Aside0.mk (blk_below (g := gb172) (o := .cells #[.int .i64 t158, .int .i64 t159, .int .i64 t160, .int .i64 t161, .slice Ao9 t162.length co9, .slice Ao10 t165.length co10, .slice Ao11 t168.length co11] 29 (0, 0)) (by (with_reducible repeat (first | refine blk_drewN ?_ _ | refine blk_drew ?_ | refine blk_alloc ?_ _)); exact BK172.out) hb); have n5_ := Aside0.mk (below_step (by repeat (first | (with_reducible first | exact HB.out | apply below_alloc | apply pw_below_drewN | apply below_drew1 | refine below_set ?_ GE172.out) | exact HB.out)) hb); clear HO_8; clear HO_173004; clear HO_173005; clear HO_173006; clear BK172; clear HB; have HO_8 := n0_; have HO_173004 := n1_; have HO_173005 := n2_; have HO_173006 := n3_; have BK172 := n4_; have HB := n5_; clear n0_ n1_ n2_ n3_ n4_ n5_; (try clear hb); (try clear hb2); (try clear hk); (try clear hi)) | ((with_reducible refine gate_builtin (b := .append) (xs := #[.tmp 43, .tmp 45]) rfl ?_); at_builtin; refine Kd.R_append (Kd.int .i64) (w0 := w) w.heap.size rfl (.tmp 43) (.tmp 45) 26 3 (.int .i64 0) 8 rfl Tryd.underlying26 info3 rfl (by decide) (by omega) u8 x8_2 x9_2 [.int .i64 x9_2] (fun k_ => some k_ ≠ (.slice Ao9 t162.length co9 : Value).ownBlock ∧ some k_ ≠ (.slice Ao10 t165.length co10 : Value).ownBlock ∧ some k_ ≠ (.slice Ao11 t168.length co11 : Value).ownBlock) (fun _ => False) rfl rfl ?aP (fun _ hk => hk.elim) ?aF ?aO ?aB ?aS ?aL ?_; (case aP => exact rfl); (case aB => exact (by repeat (first | (with_reducible first | exact HB.out | apply below_alloc | apply pw_below_drewN | apply below_drew1 | refine below_set ?_ GE172.out) | exact HB.out))); (case aF => exact (fun k_ hk => ⟨Kd.fresh' (Kd.R_lt (by (with_reducible repeat (first | apply Kd.R_alloc | apply Kd.R_drewN | apply Kd.R_drew)); exact HO_173004.out)) k_ hk, Kd.fresh' (Kd.R_lt (by (with_reducible repeat (first | apply Kd.R_alloc | apply Kd.R_drewN | apply Kd.R_drew)); exact HO_173005.out)) k_ hk, Kd.fresh' (Kd.R_lt (by (with_reducible repeat (first | apply Kd.R_alloc | apply Kd.R_drewN | apply Kd.R_drew)); exact HO_173006.out)) k_ hk⟩)); (case aO => exact (by (with_reducible repeat (first | apply Kd.R_alloc | apply Kd.R_drewN | apply Kd.R_drew)); exact HO_8.out)); (case aS => exact (below_size (by repeat (first | (with_reducible first | exact HB.out | apply below_alloc | apply pw_below_drewN | apply below_drew1 | refine below_set ?_ GE172.out) | exact HB.out)))); (case aL => have := LMc21.out; omega); intro v183 w29 ho hb hg hat; rw [← Ny182.out] at ho; have n0_ := Aside0.mk (Kd.R_after (ok := (fun k_ => some k_ ≠ (.slice Ao10 t165.length co10 : Value).ownBlock ∧ some k_ ≠ (.slice Ao11 t168.length co11 : Value).ownBlock)) (by (with_reducible repeat (first | apply Kd.R_alloc | apply Kd.R_drewN | apply Kd.R_drew)); exact Kd.R_mono HO_173004.out (fun _ hk => ⟨⟨hk.2.1, hk.2.2⟩, hk.1⟩)) hg hat); have n1_ := Aside0.mk (Kd.R_after (ok := (fun k_ => some k_ ≠ (.slice Ao9 t162.length co9 : Value).ownBlock ∧ some k_ ≠ (.slice Ao11 t168.length co11 : Value).ownBlock)) (by (with_reducible repeat (first | apply Kd.R_alloc | apply Kd.R_drewN | apply Kd.R_drew)); exact Kd.R_mono HO_173005.out (fun _ hk => ⟨⟨hk.2.1, hk.2.2⟩, hk.1⟩)) hg hat); have n2_ := Aside0.mk (Kd.R_after (ok := (fun k_ => some k_ ≠ (.slice Ao9 t162.length co9 : Value).ownBlock ∧ some k_ ≠ (.slice Ao10 t165.length co10 : Value).ownBlock)) (by (with_reducible repeat (first | apply Kd.R_alloc | apply Kd.R_drewN | apply Kd.R_drew)); exact Kd.R_mono HO_173006.out (fun _ hk => ⟨⟨hk.2.1, hk.2.2⟩, hk.1⟩)) hg hat); have n3_ := Aside0.mk (blk_grown (g := gb172) (o := .cells #[.int .i64 t158, .int .i64 t159, .int .i64 t160, .int .i64 t161, .slice Ao9 t162.length co9, .slice Ao10 t165.length co10, .slice Ao11 t168.length co11] 29 (0, 0)) (by (with_reducible repeat (first | refine blk_drewN ?_ _ | refine blk_drew ?_ | refine blk_alloc ?_ _)); exact BK172.out) hg (Kd.R_ne HO_8.out BK172.out (by decide))); have n4_ := Aside0.mk (hb); have n5_ := Aside0.mk (ho); clear HO_173004; clear HO_173005; clear HO_173006; clear BK172; clear HB; clear HO_8; have HO_173004 := n0_; have HO_173005 := n1_; have HO_173006 := n2_; have BK172 := n3_; have HB := n4_; have HO184 := n5_; clear n0_ n1_ n2_ n3_ n4_ n5_; clear ho hb hg hat; have p23 : 0 ≤ (x9_2 : Int) := of_decide_eq_true (by first | (with_reducible assumption) | assumption); have q23 : x9_2 < (a0.size : Int) := of_decide_eq_true (by first | (with_reducible assumption) | assumption); have hx23 := bt_at a0 x9_2; replace p23 := eq_true p23; replace q23 := eq_true q23))
                          go_ret
                          exact ⟨by first | rfl | (simp [errW_none, errW_some] <;> rfl) | (simp [*, errW_none, errW_some] <;> rfl), by repeat (first | (with_reducible first | exact HB.out | apply below_alloc | apply pw_below_drewN | apply below_drew1 | refine below_set ?_ GE172.out) | exact HB.out)⟩
                        · rw [if_neg c27] at H
                          have c27b0 : decide (t180 < 0) = false := decide_eq_false c27
                          clear c27
                          by_cases c30 : t180 > 2
                          · rw [if_pos c30] at H
                            have c30b0 : decide (2 < t180) = true := decide_eq_true c30
                            clear c30
                            obtain rfl := Option.some.inj H
                            have p18 : 0 ≤ (x9_2 : Int) := of_decide_eq_true (by first | (with_reducible assumption) | assumption)
                            have q18 : x9_2 < (a0.size : Int) := of_decide_eq_true (by first | (with_reducible assumption) | assumption)
                            have hx18 := bt_at a0 x9_2
                            replace p18 := eq_true p18
                            replace q18 := eq_true q18
                            go_wp2_with (first | ((with_reducible refine gate_callee (f := 10) rfl ?_); refine goesL_ (some 39) rfl rfl Tryd.func10 (by kernel_rfl) rfl #[.int .i64 x7_2, .int .u8 (bt a0 x9_2)] rfl (by (try simp only [List.map_toArray, List.map_cons, List.map_nil]); first | done | rfl | (simp only [List.length_drop, List.length_take]; rfl)) ?_; (with_reducible refine (automaton_Step.calls x7_2 (bt a0 x9_2) t180 true _ ?side1 A19.out).mono ?_); (case side1 => exact GlbLaid.below HG.out (by repeat (first | (with_reducible first | exact HB.out | apply below_alloc | apply pw_below_drewN | apply below_drew1 | refine below_set ?_ GE172.out) | exact HB.out))); rintro e w31 ⟨rfl, hb⟩; refine ⟨_, rfl, ?_⟩; have n0_ := Aside0.mk (Kd.R_below (by (with_reducible repeat (first | apply Kd.R_alloc | apply Kd.R_drewN | apply Kd.R_drew)); exact HO_8.out) hb); have n1_ := Aside0.mk (Kd.R_below (by (with_reducible repeat (first | apply Kd.R_alloc | apply Kd.R_drewN | apply Kd.R_drew)); exact HO_173004.out) hb); have n2_ := Aside0.mk (Kd.R_below (by (with_reducible repeat (first | apply Kd.R_alloc | apply Kd.R_drewN | apply Kd.R_drew)); exact HO_173005.out) hb); have n3_ := Aside0.mk (Kd.R_below (by (with_reducible repeat (first | apply Kd.R_alloc | apply Kd.R_drewN | apply Kd.R_drew)); exact HO_173006.out) hb); have n4_ := Aside0.mk (blk_below (g := gb172) (o := .cells #[.int .i64 t158, .int .i64 t159, .int .i64 t160, .int .i64 t161, .slice Ao9 t162.length co9, .slice Ao10 t165.length co10, .slice Ao11 t168.length co11] 29 (0, 0)) (by (with_reducible repeat (first | refine blk_drewN ?_ _ | refine blk_drew ?_ | refine blk_alloc ?_ _)); exact BK172.out) hb); have n5_ := Aside0.mk (below_step (by repeat (first | (with_reducible first | exact HB.out | apply below_alloc | apply pw_below_drewN | apply below_drew1 | refine below_set ?_ GE172.out) | exact HB.out)) hb); clear HO_8; clear HO_173004; clear HO_173005; clear HO_173006; clear BK172; clear HB; have HO_8 := n0_; have HO_173004 := n1_; have HO_173005 := n2_; have HO_173006 := n3_; have BK172 := n4_; have HB := n5_; clear n0_ n1_ n2_ n3_ n4_ n5_; (try clear hb); (try clear hb2); (try clear hk); (try clear hi)) | ((with_reducible refine gate_builtin (b := .append) (xs := #[.tmp 43, .tmp 45]) rfl ?_); at_builtin; refine Kd.R_append (Kd.int .i64) (w0 := w) w.heap.size rfl (.tmp 43) (.tmp 45) 26 3 (.int .i64 0) 8 rfl Tryd.underlying26 info3 rfl (by decide) (by omega) u8 x8_2 x9_2 [.int .i64 x9_2] (fun k_ => some k_ ≠ (.slice Ao9 t162.length co9 : Value).ownBlock ∧ some k_ ≠ (.slice Ao10 t165.length co10 : Value).ownBlock ∧ some k_ ≠ (.slice Ao11 t168.length co11 : Value).ownBlock) (fun _ => False) rfl rfl ?aP (fun _ hk => hk.elim) ?aF ?aO ?aB ?aS ?aL ?_; (case aP => exact rfl); (case aB => exact (by repeat (first | (with_reducible first | exact HB.out | apply below_alloc | apply pw_below_drewN | apply below_drew1 | refine below_set ?_ GE172.out) | exact HB.out))); (case aF => exact (fun k_ hk => ⟨Kd.fresh' (Kd.R_lt (by (with_reducible repeat (first | apply Kd.R_alloc | apply Kd.R_drewN | apply Kd.R_drew)); exact HO_173004.out)) k_ hk, Kd.fresh' (Kd.R_lt (by (with_reducible repeat (first | apply Kd.R_alloc | apply Kd.R_drewN | apply Kd.R_drew)); exact HO_173005.out)) k_ hk, Kd.fresh' (Kd.R_lt (by (with_reducible repeat (first | apply Kd.R_alloc | apply Kd.R_drewN | apply Kd.R_drew)); exact HO_173006.out)) k_ hk⟩)); (case aO => exact (by (with_reducible repeat (first | apply Kd.R_alloc | apply Kd.R_drewN | apply Kd.R_drew)); exact HO_8.out)); (case aS => exact (below_size (by repeat (first | (with_reducible first | exact HB.out | apply below_alloc | apply pw_below_drewN | apply below_drew1 | refine below_set ?_ GE172.out) | exact HB.out)))); (case aL => have := LMc21.out; omega); intro v183 w32 ho hb hg hat; rw [← Ny182.out] at ho; have n0_ := Aside0.mk (Kd.R_after (ok := (fun k_ => some k_ ≠ (.slice Ao10 t165.length co10 : Value).ownBlock ∧ some k_ ≠ (.slice Ao11 t168.length co11 : Value).ownBlock)) (by (with_reducible repeat (first | apply Kd.R_alloc | apply Kd.R_drewN | apply Kd.R_drew)); exact Kd.R_mono HO_173004.out (fun _ hk => ⟨⟨hk.2.1, hk.2.2⟩, hk.1⟩)) hg hat); have n1_ := Aside0.mk (Kd.R_after (ok := (fun k_ => some k_ ≠ (.slice Ao9 t162.length co9 : Value).ownBlock ∧ some k_ ≠ (.slice Ao11 t168.length co11 : Value).ownBlock)) (by (with_reducible repeat (first | apply Kd.R_alloc | apply Kd.R_drewN | apply Kd.R_drew)); exact Kd.R_mono HO_173005.out (fun _ hk => ⟨⟨hk.2.1, hk.2.2⟩, hk.1⟩)) hg hat); have n2_ := Aside0.mk (Kd.R_after (ok := (fun k_ => some k_ ≠ (.slice Ao9 t162.length co9 : Value).ownBlock ∧ some k_ ≠ (.slice Ao10 t165.length co10 : Value).ownBlock)) (by (with_reducible repeat (first | apply Kd.R_alloc | apply Kd.R_drewN | apply Kd.R_drew)); exact Kd.R_mono HO_173006.out (fun _ hk => ⟨⟨hk.2.1, hk.2.2⟩, hk.1⟩)) hg hat); have n3_ := Aside0.mk (blk_grown (g := gb172) (o := .cells #[.int .i64 t158, .int .i64 t159, .int .i64 t160, .int .i64 t161, .slice Ao9 t162.length co9, .slice Ao10 t165.length co10, .slice Ao11 t168.length co11] 29 (0, 0)) (by (with_reducible repeat (first | refine blk_drewN ?_ _ | refine blk_drew ?_ | refine blk_alloc ?_ _)); exact BK172.out) hg (Kd.R_ne HO_8.out BK172.out (by decide))); have n4_ := Aside0.mk (hb); have n5_ := Aside0.mk (ho); clear HO_173004; clear HO_173005; clear HO_173006; clear BK172; clear HB; clear HO_8; have HO_173004 := n0_; have HO_173005 := n1_; have HO_173006 := n2_; have BK172 := n3_; have HB := n4_; have HO184 := n5_; clear n0_ n1_ n2_ n3_ n4_ n5_; clear ho hb hg hat; have p23 : 0 ≤ (x9_2 : Int) := of_decide_eq_true (by first | (with_reducible assumption) | assumption); have q23 : x9_2 < (a0.size : Int) := of_decide_eq_true (by first | (with_reducible assumption) | assumption); have hx23 := bt_at a0 x9_2; replace p23 := eq_true p23; replace q23 := eq_true q23))
                            go_ret
                            exact ⟨by first | rfl | (simp [errW_none, errW_some] <;> rfl) | (simp [*, errW_none, errW_some] <;> rfl), by repeat (first | (with_reducible first | exact HB.out | apply below_alloc | apply pw_below_drewN | apply below_drew1 | refine below_set ?_ GE172.out) | exact HB.out)⟩
                          · rw [if_neg c30] at H
                            have c30b0 : decide (2 < t180) = false := decide_eq_false c30
                            clear c30
                            have H' := Aside0.mk H
                            clear H
                            have p18 : 0 ≤ (x9_2 : Int) := of_decide_eq_true (by first | (with_reducible assumption) | assumption)
                            have q18 : x9_2 < (a0.size : Int) := of_decide_eq_true (by first | (with_reducible assumption) | assumption)
                            have hx18 := bt_at a0 x9_2
                            replace p18 := eq_true p18
                            replace q18 := eq_true q18
                            go_wp2_with (first | ((with_reducible refine gate_callee (f := 10) rfl ?_); refine goesL_ (some 39) rfl rfl Tryd.func10 (by kernel_rfl) rfl #[.int .i64 x7_2, .int .u8 (bt a0 x9_2)] rfl (by (try simp only [List.map_toArray, List.map_cons, List.map_nil]); first | done | rfl | (simp only [List.length_drop, List.length_take]; rfl)) ?_; (with_reducible refine (automaton_Step.calls x7_2 (bt a0 x9_2) t180 true _ ?side1 A19.out).mono ?_); (case side1 => exact GlbLaid.below HG.out (by repeat (first | (with_reducible first | exact HB.out | apply below_alloc | apply pw_below_drewN | apply below_drew1 | refine below_set ?_ GE172.out) | exact HB.out))); rintro e w33 ⟨rfl, hb⟩; refine ⟨_, rfl, ?_⟩; have n0_ := Aside0.mk (Kd.R_below (by (with_reducible repeat (first | apply Kd.R_alloc | apply Kd.R_drewN | apply Kd.R_drew)); exact HO_8.out) hb); have n1_ := Aside0.mk (Kd.R_below (by (with_reducible repeat (first | apply Kd.R_alloc | apply Kd.R_drewN | apply Kd.R_drew)); exact HO_173004.out) hb); have n2_ := Aside0.mk (Kd.R_below (by (with_reducible repeat (first | apply Kd.R_alloc | apply Kd.R_drewN | apply Kd.R_drew)); exact HO_173005.out) hb); have n3_ := Aside0.mk (Kd.R_below (by (with_reducible repeat (first | apply Kd.R_alloc | apply Kd.R_drewN | apply Kd.R_drew)); exact HO_173006.out) hb); have n4_ := Aside0.mk (blk_below (g := gb172) (o := .cells #[.int .i64 t158, .int .i64 t159, .int .i64 t160, .int .i64 t161, .slice Ao9 t162.length co9, .slice Ao10 t165.length co10, .slice Ao11 t168.length co11] 29 (0, 0)) (by (with_reducible repeat (first | refine blk_drewN ?_ _ | refine blk_drew ?_ | refine blk_alloc ?_ _)); exact BK172.out) hb); have n5_ := Aside0.mk (below_step (by repeat (first | (with_reducible first | exact HB.out | apply below_alloc | apply pw_below_drewN | apply below_drew1 | refine below_set ?_ GE172.out) | exact HB.out)) hb); clear HO_8; clear HO_173004; clear HO_173005; clear HO_173006; clear BK172; clear HB; have HO_8 := n0_; have HO_173004 := n1_; have HO_173005 := n2_; have HO_173006 := n3_; have BK172 := n4_; have HB := n5_; clear n0_ n1_ n2_ n3_ n4_ n5_; (try clear hb); (try clear hb2); (try clear hk); (try clear hi)) | ((with_reducible refine gate_builtin (b := .append) (xs := #[.tmp 43, .tmp 45]) rfl ?_); at_builtin; refine Kd.R_append (Kd.int .i64) (w0 := w) w.heap.size rfl (.tmp 43) (.tmp 45) 26 3 (.int .i64 0) 8 rfl Tryd.underlying26 info3 rfl (by decide) (by omega) u8 x8_2 x9_2 [.int .i64 x9_2] (fun k_ => some k_ ≠ (.slice Ao9 t162.length co9 : Value).ownBlock ∧ some k_ ≠ (.slice Ao10 t165.length co10 : Value).ownBlock ∧ some k_ ≠ (.slice Ao11 t168.length co11 : Value).ownBlock) (fun _ => False) rfl rfl ?aP (fun _ hk => hk.elim) ?aF ?aO ?aB ?aS ?aL ?_; (case aP => exact rfl); (case aB => exact (by repeat (first | (with_reducible first | exact HB.out | apply below_alloc | apply pw_below_drewN | apply below_drew1 | refine below_set ?_ GE172.out) | exact HB.out))); (case aF => exact (fun k_ hk => ⟨Kd.fresh' (Kd.R_lt (by (with_reducible repeat (first | apply Kd.R_alloc | apply Kd.R_drewN | apply Kd.R_drew)); exact HO_173004.out)) k_ hk, Kd.fresh' (Kd.R_lt (by (with_reducible repeat (first | apply Kd.R_alloc | apply Kd.R_drewN | apply Kd.R_drew)); exact HO_173005.out)) k_ hk, Kd.fresh' (Kd.R_lt (by (with_reducible repeat (first | apply Kd.R_alloc | apply Kd.R_drewN | apply Kd.R_drew)); exact HO_173006.out)) k_ hk⟩)); (case aO => exact (by (with_reducible repeat (first | apply Kd.R_alloc | apply Kd.R_drewN | apply Kd.R_drew)); exact HO_8.out)); (case aS => exact (below_size (by repeat (first | (with_reducible first | exact HB.out | apply below_alloc | apply pw_below_drewN | apply below_drew1 | refine below_set ?_ GE172.out) | exact HB.out)))); (case aL => have := LMc21.out; omega); intro v183 w34 ho hb hg hat; rw [← Ny182.out] at ho; have n0_ := Aside0.mk (Kd.R_after (ok := (fun k_ => some k_ ≠ (.slice Ao10 t165.length co10 : Value).ownBlock ∧ some k_ ≠ (.slice Ao11 t168.length co11 : Value).ownBlock)) (by (with_reducible repeat (first | apply Kd.R_alloc | apply Kd.R_drewN | apply Kd.R_drew)); exact Kd.R_mono HO_173004.out (fun _ hk => ⟨⟨hk.2.1, hk.2.2⟩, hk.1⟩)) hg hat); have n1_ := Aside0.mk (Kd.R_after (ok := (fun k_ => some k_ ≠ (.slice Ao9 t162.length co9 : Value).ownBlock ∧ some k_ ≠ (.slice Ao11 t168.length co11 : Value).ownBlock)) (by (with_reducible repeat (first | apply Kd.R_alloc | apply Kd.R_drewN | apply Kd.R_drew)); exact Kd.R_mono HO_173005.out (fun _ hk => ⟨⟨hk.2.1, hk.2.2⟩, hk.1⟩)) hg hat); have n2_ := Aside0.mk (Kd.R_after (ok := (fun k_ => some k_ ≠ (.slice Ao9 t162.length co9 : Value).ownBlock ∧ some k_ ≠ (.slice Ao10 t165.length co10 : Value).ownBlock)) (by (with_reducible repeat (first | apply Kd.R_alloc | apply Kd.R_drewN | apply Kd.R_drew)); exact Kd.R_mono HO_173006.out (fun _ hk => ⟨⟨hk.2.1, hk.2.2⟩, hk.1⟩)) hg hat); have n3_ := Aside0.mk (blk_grown (g := gb172) (o := .cells #[.int .i64 t158, .int .i64 t159, .int .i64 t160, .int .i64 t161, .slice Ao9 t162.length co9, .slice Ao10 t165.length co10, .slice Ao11 t168.length co11] 29 (0, 0)) (by (with_reducible repeat (first | refine blk_drewN ?_ _ | refine blk_drew ?_ | refine blk_alloc ?_ _)); exact BK172.out) hg (Kd.R_ne HO_8.out BK172.out (by decide))); have n4_ := Aside0.mk (hb); have n5_ := Aside0.mk (ho); clear HO_173004; clear HO_173005; clear HO_173006; clear BK172; clear HB; clear HO_8; have HO_173004 := n0_; have HO_173005 := n1_; have HO_173006 := n2_; have BK172 := n3_; have HB := n4_; have HO184 := n5_; clear n0_ n1_ n2_ n3_ n4_ n5_; clear ho hb hg hat; have p23 : 0 ≤ (x9_2 : Int) := of_decide_eq_true (by first | (with_reducible assumption) | assumption); have q23 : x9_2 < (a0.size : Int) := of_decide_eq_true (by first | (with_reducible assumption) | assumption); have hx23 := bt_at a0 x9_2; replace p23 := eq_true p23; replace q23 := eq_true q23))
                            go_roundg k2
                            case measure => have := HJ4.out; have := HK2.out; omega
                            case rel => exact ⟨(t180), (y182), (wrap64 (x9_2 + 1)), (by first | rfl | (simp; done) | (simp [*]; done)), (by first | rfl | (simp; done) | (simp [*]; done)), H', ⟨by have := HJ4.out; have := HK2.out; omega⟩, ⟨by (with_reducible repeat (first | apply Kd.R_alloc | apply Kd.R_drewN | apply Kd.R_drew)); exact HO184.out⟩, ⟨by (with_reducible repeat (first | apply Kd.R_alloc | apply Kd.R_drewN | apply Kd.R_drew)); exact Kd.R_mono HO_173004.out (fun _ hk => ⟨hk.2, ⟨hk.1.1, hk.1.2⟩⟩)⟩, ⟨by (with_reducible repeat (first | apply Kd.R_alloc | apply Kd.R_drewN | apply Kd.R_drew)); exact Kd.R_mono HO_173005.out (fun _ hk => ⟨hk.2, ⟨hk.1.1, hk.1.2⟩⟩)⟩, ⟨by (with_reducible repeat (first | apply Kd.R_alloc | apply Kd.R_drewN | apply Kd.R_drew)); exact Kd.R_mono HO_173006.out (fun _ hk => ⟨hk.2, ⟨hk.1.1, hk.1.2⟩⟩)⟩, ⟨by (with_reducible repeat (first | refine blk_drewN ?_ _ | refine blk_drew ?_ | refine blk_alloc ?_ _)); exact BK172.out⟩, ⟨by repeat (first | (with_reducible first | exact HB.out | apply below_alloc | apply pw_below_drewN | apply below_drew1 | refine below_set ?_ GE172.out) | exact HB.out)⟩⟩
                    · rw [if_neg c22] at H
                      have c22b0 : (x7_2 == 0) = false := beq_eq_false_iff_ne.mpr c22
                      have c22b1 : (x7_2 != 0) = true := bne_iff_ne.mpr c22
                      obtain rfl := Option.some.inj H
                      have p18 : 0 ≤ (x9_2 : Int) := of_decide_eq_true (by first | (with_reducible assumption) | assumption)
                      have q18 : x9_2 < (a0.size : Int) := of_decide_eq_true (by first | (with_reducible assumption) | assumption)
                      have hx18 := bt_at a0 x9_2
                      replace p18 := eq_true p18
                      replace q18 := eq_true q18
                      go_wp2_with (first | ((with_reducible refine gate_callee (f := 10) rfl ?_); refine goesL_ (some 39) rfl rfl Tryd.func10 (by kernel_rfl) rfl #[.int .i64 x7_2, .int .u8 (bt a0 x9_2)] rfl (by (try simp only [List.map_toArray, List.map_cons, List.map_nil]); first | done | rfl | (simp only [List.length_drop, List.length_take]; rfl)) ?_; (with_reducible refine (automaton_Step.calls x7_2 (bt a0 x9_2) t180 true _ ?side1 A19.out).mono ?_); (case side1 => exact GlbLaid.below HG.out (by repeat (first | (with_reducible first | exact HB.out | apply below_alloc | apply pw_below_drewN | apply below_drew1 | refine below_set ?_ GE172.out) | exact HB.out))); rintro e w35 ⟨rfl, hb⟩; refine ⟨_, rfl, ?_⟩; have n0_ := Aside0.mk (Kd.R_below (by (with_reducible repeat (first | apply Kd.R_alloc | apply Kd.R_drewN | apply Kd.R_drew)); exact HO_8.out) hb); have n1_ := Aside0.mk (Kd.R_below (by (with_reducible repeat (first | apply Kd.R_alloc | apply Kd.R_drewN | apply Kd.R_drew)); exact HO_173004.out) hb); have n2_ := Aside0.mk (Kd.R_below (by (with_reducible repeat (first | apply Kd.R_alloc | apply Kd.R_drewN | apply Kd.R_drew)); exact HO_173005.out) hb); have n3_ := Aside0.mk (Kd.R_below (by (with_reducible repeat (first | apply Kd.R_alloc | apply Kd.R_drewN | apply Kd.R_drew)); exact HO_173006.out) hb); have n4_ := Aside0.mk (blk_below (g := gb172) (o := .cells #[.int .i64 t158, .int .i64 t159, .int .i64 t160, .int .i64 t161, .slice Ao9 t162.length co9, .slice Ao10 t165.length co10, .slice Ao11 t168.length co11] 29 (0, 0)) (by (with_reducible repeat (first | refine blk_drewN ?_ _ | refine blk_drew ?_ | refine blk_alloc ?_ _)); exact BK172.out) hb); have n5_ := Aside0.mk (below_step (by repeat (first | (with_reducible first | exact HB.out | apply below_alloc | apply pw_below_drewN | apply below_drew1 | refine below_set ?_ GE172.out) | exact HB.out)) hb); clear HO_8; clear HO_173004; clear HO_173005; clear HO_173006; clear BK172; clear HB; have HO_8 := n0_; have HO_173004 := n1_; have HO_173005 := n2_; have HO_173006 := n3_; have BK172 := n4_; have HB := n5_; clear n0_ n1_ n2_ n3_ n4_ n5_; (try clear hb); (try clear hb2); (try clear hk); (try clear hi)) | ((with_reducible refine gate_builtin (b := .append) (xs := #[.tmp 43, .tmp 45]) rfl ?_); at_builtin; refine Kd.R_append (Kd.int .i64) (w0 := w) w.heap.size rfl (.tmp 43) (.tmp 45) 26 3 (.int .i64 0) 8 rfl Tryd.underlying26 info3 rfl (by decide) (by omega) u8 x8_2 x9_2 [.int .i64 x9_2] (fun k_ => some k_ ≠ (.slice Ao9 t162.length co9 : Value).ownBlock ∧ some k_ ≠ (.slice Ao10 t165.length co10 : Value).ownBlock ∧ some k_ ≠ (.slice Ao11 t168.length co11 : Value).ownBlock) (fun _ => False) rfl rfl ?aP (fun _ hk => hk.elim) ?aF ?aO ?aB ?aS ?aL ?_; (case aP => exact rfl); (case aB => exact (by repeat (first | (with_reducible first | exact HB.out | apply below_alloc | apply pw_below_drewN | apply below_drew1 | refine below_set ?_ GE172.out) | exact HB.out))); (case aF => exact (fun k_ hk => ⟨Kd.fresh' (Kd.R_lt (by (with_reducible repeat (first | apply Kd.R_alloc | apply Kd.R_drewN | apply Kd.R_drew)); exact HO_173004.out)) k_ hk, Kd.fresh' (Kd.R_lt (by (with_reducible repeat (first | apply Kd.R_alloc | apply Kd.R_drewN | apply Kd.R_drew)); exact HO_173005.out)) k_ hk, Kd.fresh' (Kd.R_lt (by (with_reducible repeat (first | apply Kd.R_alloc | apply Kd.R_drewN | apply Kd.R_drew)); exact HO_173006.out)) k_ hk⟩)); (case aO => exact (by (with_reducible repeat (first | apply Kd.R_alloc | apply Kd.R_drewN | apply Kd.R_drew)); exact HO_8.out)); (case aS => exact (below_size (by repeat (first | (with_reducible first | exact HB.out | apply below_alloc | apply pw_below_drewN | apply below_drew1 | refine below_set ?_ GE172.out) | exact HB.out)))); (case aL => have := LMc21.out; omega); intro v183 w36 ho hb hg hat; rw [← Ny182.out] at ho; have n0_ := Aside0.mk (Kd.R_after (ok := (fun k_ => some k_ ≠ (.slice Ao10 t165.length co10 : Value).ownBlock ∧ some k_ ≠ (.slice Ao11 t168.length co11 : Value).ownBlock)) (by (with_reducible repeat (first | apply Kd.R_alloc | apply Kd.R_drewN | apply Kd.R_drew)); exact Kd.R_mono HO_173004.out (fun _ hk => ⟨⟨hk.2.1, hk.2.2⟩, hk.1⟩)) hg hat); have n1_ := Aside0.mk (Kd.R_after (ok := (fun k_ => some k_ ≠ (.slice Ao9 t162.length co9 : Value).ownBlock ∧ some k_ ≠ (.slice Ao11 t168.length co11 : Value).ownBlock)) (by (with_reducible repeat (first | apply Kd.R_alloc | apply Kd.R_drewN | apply Kd.R_drew)); exact Kd.R_mono HO_173005.out (fun _ hk => ⟨⟨hk.2.1, hk.2.2⟩, hk.1⟩)) hg hat); have n2_ := Aside0.mk (Kd.R_after (ok := (fun k_ => some k_ ≠ (.slice Ao9 t162.length co9 : Value).ownBlock ∧ some k_ ≠ (.slice Ao10 t165.length co10 : Value).ownBlock)) (by (with_reducible repeat (first | apply Kd.R_alloc | apply Kd.R_drewN | apply Kd.R_drew)); exact Kd.R_mono HO_173006.out (fun _ hk => ⟨⟨hk.2.1, hk.2.2⟩, hk.1⟩)) hg hat); have n3_ := Aside0.mk (blk_grown (g := gb172) (o := .cells #[.int .i64 t158, .int .i64 t159, .int .i64 t160, .int .i64 t161, .slice Ao9 t162.length co9, .slice Ao10 t165.length co10, .slice Ao11 t168.length co11] 29 (0, 0)) (by (with_reducible repeat (first | refine blk_drewN ?_ _ | refine blk_drew ?_ | refine blk_alloc ?_ _)); exact BK172.out) hg (Kd.R_ne HO_8.out BK172.out (by decide))); have n4_ := Aside0.mk (hb); have n5_ := Aside0.mk (ho); clear HO_173004; clear HO_173005; clear HO_173006; clear BK172; clear HB; clear HO_8; have HO_173004 := n0_; have HO_173005 := n1_; have HO_173006 := n2_; have BK172 := n3_; have HB := n4_; have HO184 := n5_; clear n0_ n1_ n2_ n3_ n4_ n5_; clear ho hb hg hat))
                      go_ret
                      exact ⟨by first | rfl | (simp [errW_none, errW_some] <;> rfl) | (simp [*, errW_none, errW_some] <;> rfl), by repeat (first | (with_reducible first | exact HB.out | apply below_alloc | apply pw_below_drewN | apply below_drew1 | refine below_set ?_ GE172.out) | exact HB.out)⟩
                  · rw [if_neg c21] at H
                    exact absurd H (by simp)
                · replace c20 := Bool.eq_false_iff.mpr c20
                  subst c20
                  have H1 : (if x7_2 = 0 then (if (false != ((bt a0 x9_2) == 10)) = true then (some false) else (if t180 < 0 then (some false) else (if t180 > 2 then (some false) else (ndjqlaw18_AutomatonBytes.l0 k2 a0 t157 t180 x8_2 (wrap64 (x9_2 + 1)) t158 t159 t160 t161 t162 t165 t168)))) else (if t180 < 0 then (some false) else (if t180 > 2 then (some false) else (ndjqlaw18_AutomatonBytes.l0 k2 a0 t157 t180 x8_2 (wrap64 (x9_2 + 1)) t158 t159 t160 t161 t162 t165 t168)))) = some r := by rw [if_neg (show ¬ (false = true) by decide)] at H; exact H
                  clear H
                  have H := H1
                  clear H1
                  by_cases c37 : x7_2 = 0
                  · rw [if_pos c37] at H
                    have c37b0 : (x7_2 == 0) = true := beq_iff_eq.mpr c37
                    have c37b1 : (x7_2 != 0) = false := bne_eq_false_iff_eq.mpr c37
                    clear c37
                    by_cases c39 : (false != ((bt a0 x9_2) == 10)) = true
                    · rw [if_pos c39] at H
                      have c39b0 : (false != ((bt a0 x9_2) == 10)) = true := c39
                      (try (have c39b1 : decide (false = ((bt a0 x9_2) == 10)) = false := by simpa using c39))
                      (try (have c39b2 : (false == ((bt a0 x9_2) == 10)) = false := by simpa using c39))
                      (try (have c39b3 : ¬ (false = ((bt a0 x9_2) == 10)) := by simpa using c39))
                      clear c39
                      obtain rfl := Option.some.inj H
                      have p18 : 0 ≤ (x9_2 : Int) := of_decide_eq_true (by first | (with_reducible assumption) | assumption)
                      have q18 : x9_2 < (a0.size : Int) := of_decide_eq_true (by first | (with_reducible assumption) | assumption)
                      have hx18 := bt_at a0 x9_2
                      replace p18 := eq_true p18
                      replace q18 := eq_true q18
                      go_wp2_with (first | ((with_reducible refine gate_callee (f := 10) rfl ?_); refine goesL_ (some 39) rfl rfl Tryd.func10 (by kernel_rfl) rfl #[.int .i64 x7_2, .int .u8 (bt a0 x9_2)] rfl (by (try simp only [List.map_toArray, List.map_cons, List.map_nil]); first | done | rfl | (simp only [List.length_drop, List.length_take]; rfl)) ?_; (with_reducible refine (automaton_Step.calls x7_2 (bt a0 x9_2) t180 false _ ?side1 A19.out).mono ?_); (case side1 => exact GlbLaid.below HG.out (by repeat (first | (with_reducible first | exact HB.out | apply below_alloc | apply pw_below_drewN | apply below_drew1 | refine below_set ?_ GE172.out) | exact HB.out))); rintro e w40 ⟨rfl, hb⟩; refine ⟨_, rfl, ?_⟩; have n0_ := Aside0.mk (Kd.R_below (by (with_reducible repeat (first | apply Kd.R_alloc | apply Kd.R_drewN | apply Kd.R_drew)); exact HO_8.out) hb); have n1_ := Aside0.mk (Kd.R_below (by (with_reducible repeat (first | apply Kd.R_alloc | apply Kd.R_drewN | apply Kd.R_drew)); exact HO_173004.out) hb); have n2_ := Aside0.mk (Kd.R_below (by (with_reducible repeat (first | apply Kd.R_alloc | apply Kd.R_drewN | apply Kd.R_drew)); exact HO_173005.out) hb); have n3_ := Aside0.mk (Kd.R_below (by (with_reducible repeat (first | apply Kd.R_alloc | apply Kd.R_drewN | apply Kd.R_drew)); exact HO_173006.out) hb); have n4_ := Aside0.mk (blk_below (g := gb172) (o := .cells #[.int .i64 t158, .int .i64 t159, .int .i64 t160, .int .i64 t161, .slice Ao9 t162.length co9, .slice Ao10 t165.length co10, .slice Ao11 t168.length co11] 29 (0, 0)) (by (with_reducible repeat (first | refine blk_drewN ?_ _ | refine blk_drew ?_ | refine blk_alloc ?_ _)); exact BK172.out) hb); have n5_ := Aside0.mk (below_step (by repeat (first | (with_reducible first | exact HB.out | apply below_alloc | apply pw_below_drewN | apply below_drew1 | refine below_set ?_ GE172.out) | exact HB.out)) hb); clear HO_8; clear HO_173004; clear HO_173005; clear HO_173006; clear BK172; clear HB; have HO_8 := n0_; have HO_173004 := n1_; have HO_173005 := n2_; have HO_173006 := n3_; have BK172 := n4_; have HB := n5_; clear n0_ n1_ n2_ n3_ n4_ n5_; (try clear hb); (try clear hb2); (try clear hk); (try clear hi); have p38 : 0 ≤ (x9_2 : Int) := of_decide_eq_true (by first | (with_reducible assumption) | assumption); have q38 : x9_2 < (a0.size : Int) := of_decide_eq_true (by first | (with_reducible assumption) | assumption); have hx38 := bt_at a0 x9_2; replace p38 := eq_true p38; replace q38 := eq_true q38))
                      go_ret
                      exact ⟨by first | rfl | (simp [errW_none, errW_some] <;> rfl) | (simp [*, errW_none, errW_some] <;> rfl), by repeat (first | (with_reducible first | exact HB.out | apply below_alloc | apply pw_below_drewN | apply below_drew1 | refine below_set ?_ GE172.out) | exact HB.out)⟩
                    · rw [if_neg c39] at H
                      have c39b0 : (false != ((bt a0 x9_2) == 10)) = false := by simpa using c39
                      (try (have c39b1 : decide (false = ((bt a0 x9_2) == 10)) = true := by simpa using c39))
                      (try (have c39b2 : (false == ((bt a0 x9_2) == 10)) = true := by simpa using c39))
                      clear c39
                      by_cases c41 : t180 < 0
                      · rw [if_pos c41] at H
                        have c41b0 : decide (t180 < 0) = true := decide_eq_true c41
                        clear c41
                        obtain rfl := Option.some.inj H
                        have p18 : 0 ≤ (x9_2 : Int) := of_decide_eq_true (by first | (with_reducible assumption) | assumption)
                        have q18 : x9_2 < (a0.size : Int) := of_decide_eq_true (by first | (with_reducible assumption) | assumption)
                        have hx18 := bt_at a0 x9_2
                        replace p18 := eq_true p18
                        replace q18 := eq_true q18
                        go_wp2_with (first | ((with_reducible refine gate_callee (f := 10) rfl ?_); refine goesL_ (some 39) rfl rfl Tryd.func10 (by kernel_rfl) rfl #[.int .i64 x7_2, .int .u8 (bt a0 x9_2)] rfl (by (try simp only [List.map_toArray, List.map_cons, List.map_nil]); first | done | rfl | (simp only [List.length_drop, List.length_take]; rfl)) ?_; (with_reducible refine (automaton_Step.calls x7_2 (bt a0 x9_2) t180 false _ ?side1 A19.out).mono ?_); (case side1 => exact GlbLaid.below HG.out (by repeat (first | (with_reducible first | exact HB.out | apply below_alloc | apply pw_below_drewN | apply below_drew1 | refine below_set ?_ GE172.out) | exact HB.out))); rintro e w42 ⟨rfl, hb⟩; refine ⟨_, rfl, ?_⟩; have n0_ := Aside0.mk (Kd.R_below (by (with_reducible repeat (first | apply Kd.R_alloc | apply Kd.R_drewN | apply Kd.R_drew)); exact HO_8.out) hb); have n1_ := Aside0.mk (Kd.R_below (by (with_reducible repeat (first | apply Kd.R_alloc | apply Kd.R_drewN | apply Kd.R_drew)); exact HO_173004.out) hb); have n2_ := Aside0.mk (Kd.R_below (by (with_reducible repeat (first | apply Kd.R_alloc | apply Kd.R_drewN | apply Kd.R_drew)); exact HO_173005.out) hb); have n3_ := Aside0.mk (Kd.R_below (by (with_reducible repeat (first | apply Kd.R_alloc | apply Kd.R_drewN | apply Kd.R_drew)); exact HO_173006.out) hb); have n4_ := Aside0.mk (blk_below (g := gb172) (o := .cells #[.int .i64 t158, .int .i64 t159, .int .i64 t160, .int .i64 t161, .slice Ao9 t162.length co9, .slice Ao10 t165.length co10, .slice Ao11 t168.length co11] 29 (0, 0)) (by (with_reducible repeat (first | refine blk_drewN ?_ _ | refine blk_drew ?_ | refine blk_alloc ?_ _)); exact BK172.out) hb); have n5_ := Aside0.mk (below_step (by repeat (first | (with_reducible first | exact HB.out | apply below_alloc | apply pw_below_drewN | apply below_drew1 | refine below_set ?_ GE172.out) | exact HB.out)) hb); clear HO_8; clear HO_173004; clear HO_173005; clear HO_173006; clear BK172; clear HB; have HO_8 := n0_; have HO_173004 := n1_; have HO_173005 := n2_; have HO_173006 := n3_; have BK172 := n4_; have HB := n5_; clear n0_ n1_ n2_ n3_ n4_ n5_; (try clear hb); (try clear hb2); (try clear hk); (try clear hi); have p38 : 0 ≤ (x9_2 : Int) := of_decide_eq_true (by first | (with_reducible assumption) | assumption); have q38 : x9_2 < (a0.size : Int) := of_decide_eq_true (by first | (with_reducible assumption) | assumption); have hx38 := bt_at a0 x9_2; replace p38 := eq_true p38; replace q38 := eq_true q38))
                        go_ret
                        exact ⟨by first | rfl | (simp [errW_none, errW_some] <;> rfl) | (simp [*, errW_none, errW_some] <;> rfl), by repeat (first | (with_reducible first | exact HB.out | apply below_alloc | apply pw_below_drewN | apply below_drew1 | refine below_set ?_ GE172.out) | exact HB.out)⟩
                      · rw [if_neg c41] at H
                        have c41b0 : decide (t180 < 0) = false := decide_eq_false c41
                        clear c41
                        by_cases c43 : t180 > 2
                        · rw [if_pos c43] at H
                          have c43b0 : decide (2 < t180) = true := decide_eq_true c43
                          clear c43
                          obtain rfl := Option.some.inj H
                          have p18 : 0 ≤ (x9_2 : Int) := of_decide_eq_true (by first | (with_reducible assumption) | assumption)
                          have q18 : x9_2 < (a0.size : Int) := of_decide_eq_true (by first | (with_reducible assumption) | assumption)
                          have hx18 := bt_at a0 x9_2
                          replace p18 := eq_true p18
                          replace q18 := eq_true q18
                          go_wp2_with (first | ((with_reducible refine gate_callee (f := 10) rfl ?_); refine goesL_ (some 39) rfl rfl Tryd.func10 (by kernel_rfl) rfl #[.int .i64 x7_2, .int .u8 (bt a0 x9_2)] rfl (by (try simp only [List.map_toArray, List.map_cons, List.map_nil]); first | done | rfl | (simp only [List.length_drop, List.length_take]; rfl)) ?_; (with_reducible refine (automaton_Step.calls x7_2 (bt a0 x9_2) t180 false _ ?side1 A19.out).mono ?_); (case side1 => exact GlbLaid.below HG.out (by repeat (first | (with_reducible first | exact HB.out | apply below_alloc | apply pw_below_drewN | apply below_drew1 | refine below_set ?_ GE172.out) | exact HB.out))); rintro e w44 ⟨rfl, hb⟩; refine ⟨_, rfl, ?_⟩; have n0_ := Aside0.mk (Kd.R_below (by (with_reducible repeat (first | apply Kd.R_alloc | apply Kd.R_drewN | apply Kd.R_drew)); exact HO_8.out) hb); have n1_ := Aside0.mk (Kd.R_below (by (with_reducible repeat (first | apply Kd.R_alloc | apply Kd.R_drewN | apply Kd.R_drew)); exact HO_173004.out) hb); have n2_ := Aside0.mk (Kd.R_below (by (with_reducible repeat (first | apply Kd.R_alloc | apply Kd.R_drewN | apply Kd.R_drew)); exact HO_173005.out) hb); have n3_ := Aside0.mk (Kd.R_below (by (with_reducible repeat (first | apply Kd.R_alloc | apply Kd.R_drewN | apply Kd.R_drew)); exact HO_173006.out) hb); have n4_ := Aside0.mk (blk_below (g := gb172) (o := .cells #[.int .i64 t158, .int .i64 t159, .int .i64 t160, .int .i64 t161, .slice Ao9 t162.length co9, .slice Ao10 t165.length co10, .slice Ao11 t168.length co11] 29 (0, 0)) (by (with_reducible repeat (first | refine blk_drewN ?_ _ | refine blk_drew ?_ | refine blk_alloc ?_ _)); exact BK172.out) hb); have n5_ := Aside0.mk (below_step (by repeat (first | (with_reducible first | exact HB.out | apply below_alloc | apply pw_below_drewN | apply below_drew1 | refine below_set ?_ GE172.out) | exact HB.out)) hb); clear HO_8; clear HO_173004; clear HO_173005; clear HO_173006; clear BK172; clear HB; have HO_8 := n0_; have HO_173004 := n1_; have HO_173005 := n2_; have HO_173006 := n3_; have BK172 := n4_; have HB := n5_; clear n0_ n1_ n2_ n3_ n4_ n5_; (try clear hb); (try clear hb2); (try clear hk); (try clear hi); have p38 : 0 ≤ (x9_2 : Int) := of_decide_eq_true (by first | (with_reducible assumption) | assumption); have q38 : x9_2 < (a0.size : Int) := of_decide_eq_true (by first | (with_reducible assumption) | assumption); have hx38 := bt_at a0 x9_2; replace p38 := eq_true p38; replace q38 := eq_true q38))
                          go_ret
                          exact ⟨by first | rfl | (simp [errW_none, errW_some] <;> rfl) | (simp [*, errW_none, errW_some] <;> rfl), by repeat (first | (with_reducible first | exact HB.out | apply below_alloc | apply pw_below_drewN | apply below_drew1 | refine below_set ?_ GE172.out) | exact HB.out)⟩
                        · rw [if_neg c43] at H
                          have c43b0 : decide (2 < t180) = false := decide_eq_false c43
                          clear c43
                          have H' := Aside0.mk H
                          clear H
                          have p18 : 0 ≤ (x9_2 : Int) := of_decide_eq_true (by first | (with_reducible assumption) | assumption)
                          have q18 : x9_2 < (a0.size : Int) := of_decide_eq_true (by first | (with_reducible assumption) | assumption)
                          have hx18 := bt_at a0 x9_2
                          replace p18 := eq_true p18
                          replace q18 := eq_true q18
                          go_wp2_with (first | ((with_reducible refine gate_callee (f := 10) rfl ?_); refine goesL_ (some 39) rfl rfl Tryd.func10 (by kernel_rfl) rfl #[.int .i64 x7_2, .int .u8 (bt a0 x9_2)] rfl (by (try simp only [List.map_toArray, List.map_cons, List.map_nil]); first | done | rfl | (simp only [List.length_drop, List.length_take]; rfl)) ?_; (with_reducible refine (automaton_Step.calls x7_2 (bt a0 x9_2) t180 false _ ?side1 A19.out).mono ?_); (case side1 => exact GlbLaid.below HG.out (by repeat (first | (with_reducible first | exact HB.out | apply below_alloc | apply pw_below_drewN | apply below_drew1 | refine below_set ?_ GE172.out) | exact HB.out))); rintro e w45 ⟨rfl, hb⟩; refine ⟨_, rfl, ?_⟩; have n0_ := Aside0.mk (Kd.R_below (by (with_reducible repeat (first | apply Kd.R_alloc | apply Kd.R_drewN | apply Kd.R_drew)); exact HO_8.out) hb); have n1_ := Aside0.mk (Kd.R_below (by (with_reducible repeat (first | apply Kd.R_alloc | apply Kd.R_drewN | apply Kd.R_drew)); exact HO_173004.out) hb); have n2_ := Aside0.mk (Kd.R_below (by (with_reducible repeat (first | apply Kd.R_alloc | apply Kd.R_drewN | apply Kd.R_drew)); exact HO_173005.out) hb); have n3_ := Aside0.mk (Kd.R_below (by (with_reducible repeat (first | apply Kd.R_alloc | apply Kd.R_drewN | apply Kd.R_drew)); exact HO_173006.out) hb); have n4_ := Aside0.mk (blk_below (g := gb172) (o := .cells #[.int .i64 t158, .int .i64 t159, .int .i64 t160, .int .i64 t161, .slice Ao9 t162.length co9, .slice Ao10 t165.length co10, .slice Ao11 t168.length co11] 29 (0, 0)) (by (with_reducible repeat (first | refine blk_drewN ?_ _ | refine blk_drew ?_ | refine blk_alloc ?_ _)); exact BK172.out) hb); have n5_ := Aside0.mk (below_step (by repeat (first | (with_reducible first | exact HB.out | apply below_alloc | apply pw_below_drewN | apply below_drew1 | refine below_set ?_ GE172.out) | exact HB.out)) hb); clear HO_8; clear HO_173004; clear HO_173005; clear HO_173006; clear BK172; clear HB; have HO_8 := n0_; have HO_173004 := n1_; have HO_173005 := n2_; have HO_173006 := n3_; have BK172 := n4_; have HB := n5_; clear n0_ n1_ n2_ n3_ n4_ n5_; (try clear hb); (try clear hb2); (try clear hk); (try clear hi); have p38 : 0 ≤ (x9_2 : Int) := of_decide_eq_true (by first | (with_reducible assumption) | assumption); have q38 : x9_2 < (a0.size : Int) := of_decide_eq_true (by first | (with_reducible assumption) | assumption); have hx38 := bt_at a0 x9_2; replace p38 := eq_true p38; replace q38 := eq_true q38))
                          go_roundg k2
                          case measure => have := HJ4.out; have := HK2.out; omega
                          case rel => exact ⟨(t180), (x8_2), (wrap64 (x9_2 + 1)), (by first | rfl | (simp; done) | (simp [*]; done)), (by first | rfl | (simp; done) | (simp [*]; done)), H', ⟨by have := HJ4.out; have := HK2.out; omega⟩, ⟨by (with_reducible repeat (first | apply Kd.R_alloc | apply Kd.R_drewN | apply Kd.R_drew)); exact HO_8.out⟩, ⟨by (with_reducible repeat (first | apply Kd.R_alloc | apply Kd.R_drewN | apply Kd.R_drew)); exact HO_173004.out⟩, ⟨by (with_reducible repeat (first | apply Kd.R_alloc | apply Kd.R_drewN | apply Kd.R_drew)); exact HO_173005.out⟩, ⟨by (with_reducible repeat (first | apply Kd.R_alloc | apply Kd.R_drewN | apply Kd.R_drew)); exact HO_173006.out⟩, ⟨by (with_reducible repeat (first | refine blk_drewN ?_ _ | refine blk_drew ?_ | refine blk_alloc ?_ _)); exact BK172.out⟩, ⟨by repeat (first | (with_reducible first | exact HB.out | apply below_alloc | apply pw_below_drewN | apply below_drew1 | refine below_set ?_ GE172.out) | exact HB.out)⟩⟩
                  · rw [if_neg c37] at H
                    have c37b0 : (x7_2 == 0) = false := beq_eq_false_iff_ne.mpr c37
                    have c37b1 : (x7_2 != 0) = true := bne_iff_ne.mpr c37
                    by_cases c46 : t180 < 0
                    · rw [if_pos c46] at H
                      have c46b0 : decide (t180 < 0) = true := decide_eq_true c46
                      clear c46
                      obtain rfl := Option.some.inj H
                      have p18 : 0 ≤ (x9_2 : Int) := of_decide_eq_true (by first | (with_reducible assumption) | assumption)
                      have q18 : x9_2 < (a0.size : Int) := of_decide_eq_true (by first | (with_reducible assumption) | assumption)
                      have hx18 := bt_at a0 x9_2
                      replace p18 := eq_true p18
                      replace q18 := eq_true q18
                      go_wp2_with (first | ((with_reducible refine gate_callee (f := 10) rfl ?_); refine goesL_ (some 39) rfl rfl Tryd.func10 (by kernel_rfl) rfl #[.int .i64 x7_2, .int .u8 (bt a0 x9_2)] rfl (by (try simp only [List.map_toArray, List.map_cons, List.map_nil]); first | done | rfl | (simp only [List.length_drop, List.length_take]; rfl)) ?_; (with_reducible refine (automaton_Step.calls x7_2 (bt a0 x9_2) t180 false _ ?side1 A19.out).mono ?_); (case side1 => exact GlbLaid.below HG.out (by repeat (first | (with_reducible first | exact HB.out | apply below_alloc | apply pw_below_drewN | apply below_drew1 | refine below_set ?_ GE172.out) | exact HB.out))); rintro e w47 ⟨rfl, hb⟩; refine ⟨_, rfl, ?_⟩; have n0_ := Aside0.mk (Kd.R_below (by (with_reducible repeat (first | apply Kd.R_alloc | apply Kd.R_drewN | apply Kd.R_drew)); exact HO_8.out) hb); have n1_ := Aside0.mk (Kd.R_below (by (with_reducible repeat (first | apply Kd.R_alloc | apply Kd.R_drewN | apply Kd.R_drew)); exact HO_173004.out) hb); have n2_ := Aside0.mk (Kd.R_below (by (with_reducible repeat (first | apply Kd.R_alloc | apply Kd.R_drewN | apply Kd.R_drew)); exact HO_173005.out) hb); have n3_ := Aside0.mk (Kd.R_below (by (with_reducible repeat (first | apply Kd.R_alloc | apply Kd.R_drewN | apply Kd.R_drew)); exact HO_173006.out) hb); have n4_ := Aside0.mk (blk_below (g := gb172) (o := .cells #[.int .i64 t158, .int .i64 t159, .int .i64 t160, .int .i64 t161, .slice Ao9 t162.length co9, .slice Ao10 t165.length co10, .slice Ao11 t168.length co11] 29 (0, 0)) (by (with_reducible repeat (first | refine blk_drewN ?_ _ | refine blk_drew ?_ | refine blk_alloc ?_ _)); exact BK172.out) hb); have n5_ := Aside0.mk (below_step (by repeat (first | (with_reducible first | exact HB.out | apply below_alloc | apply pw_below_drewN | apply below_drew1 | refine below_set ?_ GE172.out) | exact HB.out)) hb); clear HO_8; clear HO_173004; clear HO_173005; clear HO_173006; clear BK172; clear HB; have HO_8 := n0_; have HO_173004 := n1_; have HO_173005 := n2_; have HO_173006 := n3_; have BK172 := n4_; have HB := n5_; clear n0_ n1_ n2_ n3_ n4_ n5_; (try clear hb); (try clear hb2); (try clear hk); (try clear hi)))
                      go_ret
                      exact ⟨by first | rfl | (simp [errW_none, errW_some] <;> rfl) | (simp [*, errW_none, errW_some] <;> rfl), by repeat (first | (with_reducible first | exact HB.out | apply below_alloc | apply pw_below_drewN | apply below_drew1 | refine below_set ?_ GE172.out) | exact HB.out)⟩
                    · rw [if_neg c46] at H
                      have c46b0 : decide (t180 < 0) = false := decide_eq_false c46
                      clear c46
                      by_cases c48 : t180 > 2
                      · rw [if_pos c48] at H
                        have c48b0 : decide (2 < t180) = true := decide_eq_true c48
                        clear c48
                        obtain rfl := Option.some.inj H
                        have p18 : 0 ≤ (x9_2 : Int) := of_decide_eq_true (by first | (with_reducible assumption) | assumption)
                        have q18 : x9_2 < (a0.size : Int) := of_decide_eq_true (by first | (with_reducible assumption) | assumption)
                        have hx18 := bt_at a0 x9_2
                        replace p18 := eq_true p18
                        replace q18 := eq_true q18
                        go_wp2_with (first | ((with_reducible refine gate_callee (f := 10) rfl ?_); refine goesL_ (some 39) rfl rfl Tryd.func10 (by kernel_rfl) rfl #[.int .i64 x7_2, .int .u8 (bt a0 x9_2)] rfl (by (try simp only [List.map_toArray, List.map_cons, List.map_nil]); first | done | rfl | (simp only [List.length_drop, List.length_take]; rfl)) ?_; (with_reducible refine (automaton_Step.calls x7_2 (bt a0 x9_2) t180 false _ ?side1 A19.out).mono ?_); (case side1 => exact GlbLaid.below HG.out (by repeat (first | (with_reducible first | exact HB.out | apply below_alloc | apply pw_below_drewN | apply below_drew1 | refine below_set ?_ GE172.out) | exact HB.out))); rintro e w49 ⟨rfl, hb⟩; refine ⟨_, rfl, ?_⟩; have n0_ := Aside0.mk (Kd.R_below (by (with_reducible repeat (first | apply Kd.R_alloc | apply Kd.R_drewN | apply Kd.R_drew)); exact HO_8.out) hb); have n1_ := Aside0.mk (Kd.R_below (by (with_reducible repeat (first | apply Kd.R_alloc | apply Kd.R_drewN | apply Kd.R_drew)); exact HO_173004.out) hb); have n2_ := Aside0.mk (Kd.R_below (by (with_reducible repeat (first | apply Kd.R_alloc | apply Kd.R_drewN | apply Kd.R_drew)); exact HO_173005.out) hb); have n3_ := Aside0.mk (Kd.R_below (by (with_reducible repeat (first | apply Kd.R_alloc | apply Kd.R_drewN | apply Kd.R_drew)); exact HO_173006.out) hb); have n4_ := Aside0.mk (blk_below (g := gb172) (o := .cells #[.int .i64 t158, .int .i64 t159, .int .i64 t160, .int .i64 t161, .slice Ao9 t162.length co9, .slice Ao10 t165.length co10, .slice Ao11 t168.length co11] 29 (0, 0)) (by (with_reducible repeat (first | refine blk_drewN ?_ _ | refine blk_drew ?_ | refine blk_alloc ?_ _)); exact BK172.out) hb); have n5_ := Aside0.mk (below_step (by repeat (first | (with_reducible first | exact HB.out | apply below_alloc | apply pw_below_drewN | apply below_drew1 | refine below_set ?_ GE172.out) | exact HB.out)) hb); clear HO_8; clear HO_173004; clear HO_173005; clear HO_173006; clear BK172; clear HB; have HO_8 := n0_; have HO_173004 := n1_; have HO_173005 := n2_; have HO_173006 := n3_; have BK172 := n4_; have HB := n5_; clear n0_ n1_ n2_ n3_ n4_ n5_; (try clear hb); (try clear hb2); (try clear hk); (try clear hi)))
                        go_ret
                        exact ⟨by first | rfl | (simp [errW_none, errW_some] <;> rfl) | (simp [*, errW_none, errW_some] <;> rfl), by repeat (first | (with_reducible first | exact HB.out | apply below_alloc | apply pw_below_drewN | apply below_drew1 | refine below_set ?_ GE172.out) | exact HB.out)⟩
                      · rw [if_neg c48] at H
                        have c48b0 : decide (2 < t180) = false := decide_eq_false c48
                        clear c48
                        have H' := Aside0.mk H
                        clear H
                        have p18 : 0 ≤ (x9_2 : Int) := of_decide_eq_true (by first | (with_reducible assumption) | assumption)
                        have q18 : x9_2 < (a0.size : Int) := of_decide_eq_true (by first | (with_reducible assumption) | assumption)
                        have hx18 := bt_at a0 x9_2
                        replace p18 := eq_true p18
                        replace q18 := eq_true q18
                        go_wp2_with (first | ((with_reducible refine gate_callee (f := 10) rfl ?_); refine goesL_ (some 39) rfl rfl Tryd.func10 (by kernel_rfl) rfl #[.int .i64 x7_2, .int .u8 (bt a0 x9_2)] rfl (by (try simp only [List.map_toArray, List.map_cons, List.map_nil]); first | done | rfl | (simp only [List.length_drop, List.length_take]; rfl)) ?_; (with_reducible refine (automaton_Step.calls x7_2 (bt a0 x9_2) t180 false _ ?side1 A19.out).mono ?_); (case side1 => exact GlbLaid.below HG.out (by repeat (first | (with_reducible first | exact HB.out | apply below_alloc | apply pw_below_drewN | apply below_drew1 | refine below_set ?_ GE172.out) | exact HB.out))); rintro e w50 ⟨rfl, hb⟩; refine ⟨_, rfl, ?_⟩; have n0_ := Aside0.mk (Kd.R_below (by (with_reducible repeat (first | apply Kd.R_alloc | apply Kd.R_drewN | apply Kd.R_drew)); exact HO_8.out) hb); have n1_ := Aside0.mk (Kd.R_below (by (with_reducible repeat (first | apply Kd.R_alloc | apply Kd.R_drewN | apply Kd.R_drew)); exact HO_173004.out) hb); have n2_ := Aside0.mk (Kd.R_below (by (with_reducible repeat (first | apply Kd.R_alloc | apply Kd.R_drewN | apply Kd.R_drew)); exact HO_173005.out) hb); have n3_ := Aside0.mk (Kd.R_below (by (with_reducible repeat (first | apply Kd.R_alloc | apply Kd.R_drewN | apply Kd.R_drew)); exact HO_173006.out) hb); have n4_ := Aside0.mk (blk_below (g := gb172) (o := .cells #[.int .i64 t158, .int .i64 t159, .int .i64 t160, .int .i64 t161, .slice Ao9 t162.length co9, .slice Ao10 t165.length co10, .slice Ao11 t168.length co11] 29 (0, 0)) (by (with_reducible repeat (first | refine blk_drewN ?_ _ | refine blk_drew ?_ | refine blk_alloc ?_ _)); exact BK172.out) hb); have n5_ := Aside0.mk (below_step (by repeat (first | (with_reducible first | exact HB.out | apply below_alloc | apply pw_below_drewN | apply below_drew1 | refine below_set ?_ GE172.out) | exact HB.out)) hb); clear HO_8; clear HO_173004; clear HO_173005; clear HO_173006; clear BK172; clear HB; have HO_8 := n0_; have HO_173004 := n1_; have HO_173005 := n2_; have HO_173006 := n3_; have BK172 := n4_; have HB := n5_; clear n0_ n1_ n2_ n3_ n4_ n5_; (try clear hb); (try clear hb2); (try clear hk); (try clear hi)))
                        go_roundg k2
                        case measure => have := HJ4.out; have := HK2.out; omega
                        case rel => exact ⟨(t180), (x8_2), (wrap64 (x9_2 + 1)), (by first | rfl | (simp; done) | (simp [*]; done)), (by first | rfl | (simp; done) | (simp [*]; done)), H', ⟨by have := HJ4.out; have := HK2.out; omega⟩, ⟨by (with_reducible repeat (first | apply Kd.R_alloc | apply Kd.R_drewN | apply Kd.R_drew)); exact HO_8.out⟩, ⟨by (with_reducible repeat (first | apply Kd.R_alloc | apply Kd.R_drewN | apply Kd.R_drew)); exact HO_173004.out⟩, ⟨by (with_reducible repeat (first | apply Kd.R_alloc | apply Kd.R_drewN | apply Kd.R_drew)); exact HO_173005.out⟩, ⟨by (with_reducible repeat (first | apply Kd.R_alloc | apply Kd.R_drewN | apply Kd.R_drew)); exact HO_173006.out⟩, ⟨by (with_reducible repeat (first | refine blk_drewN ?_ _ | refine blk_drew ?_ | refine blk_alloc ?_ _)); exact BK172.out⟩, ⟨by repeat (first | (with_reducible first | exact HB.out | apply below_alloc | apply pw_below_drewN | apply below_drew1 | refine below_set ?_ GE172.out) | exact HB.out)⟩⟩
              · rw [if_neg c17] at H
                exact absurd H (by simp)
            · rw [if_neg c16] at H
              have c16b0 : decide (x9_2 < (a0.size : Int)) = false := decide_eq_false c16
              clear c16
              by_cases c51 : t158 = (a0.size : Int)
              · rw [if_pos c51] at H
                have c51b0 : (t158 == (a0.size : Int)) = true := beq_iff_eq.mpr c51
                have c51b1 : (t158 != (a0.size : Int)) = false := bne_eq_false_iff_eq.mpr c51
                clear c51
                by_cases c52 : t157 = 0
                · subst c52
                  have H1 : (if t159 = x7_2 then ((ndjqkeep_Ints.f k2 t162 x8_2).bind fun t174 => (if t174 = true then ((ndjqlaw18_awake.f k2).bind fun t175 => (some t175)) else (some false))) else (some false)) = some r := by rw [if_pos rfl] at H; exact H
                  clear H
                  have H := H1
                  clear H1
                  by_cases c53 : t159 = x7_2
                  · rw [if_pos c53] at H
                    have c53b0 : (t159 == x7_2) = true := beq_iff_eq.mpr c53
                    have c53b1 : (t159 != x7_2) = false := bne_eq_false_iff_eq.mpr c53
                    clear c53
                    replace H := Option.bind_eq_some_iff.mp H
                    obtain ⟨t174, A540, H⟩ := H
                    replace H : (if t174 = true then ((ndjqlaw18_awake.f k2).bind fun t175 => (some t175)) else (some false)) = some r := H
                    have A54 := Aside0.mk A540
                    clear A540
                    by_cases c55 : t174 = true
                    · subst c55
                      have H1 : ((ndjqlaw18_awake.f k2).bind fun t175 => (some t175)) = some r := by rw [if_pos rfl] at H; exact H
                      clear H
                      have H := H1
                      clear H1
                      replace H := Option.bind_eq_some_iff.mp H
                      obtain ⟨t175, A560, H⟩ := H
                      replace H : (some t175) = some r := H
                      have A56 := Aside0.mk A560
                      clear A560
                      obtain rfl := Option.some.inj H
                      have hcz57_0 : wr.cell? ⟨gb172, 0, none⟩ = some (.int .i64 t158) := (blk_cell BK172.out 0).trans rfl
                      have hcz57_1 : wr.cell? ⟨gb172, 1, none⟩ = some (.int .i64 t159) := (blk_cell BK172.out 1).trans rfl
                      have hcz57_2 : wr.cell? ⟨gb172, 2, none⟩ = some (.int .i64 t160) := (blk_cell BK172.out 2).trans rfl
                      have hcz57_3 : wr.cell? ⟨gb172, 3, none⟩ = some (.int .i64 t161) := (blk_cell BK172.out 3).trans rfl
                      have hcz57_4 : wr.cell? ⟨gb172, 4, none⟩ = some (.slice Ao9 t162.length co9) := (blk_cell BK172.out 4).trans rfl
                      have hcz57_5 : wr.cell? ⟨gb172, 5, none⟩ = some (.slice Ao10 t165.length co10) := (blk_cell BK172.out 5).trans rfl
                      have hcz57_6 : wr.cell? ⟨gb172, 6, none⟩ = some (.slice Ao11 t168.length co11) := (blk_cell BK172.out 6).trans rfl
                      have hfz57_0 := blk_frozen BK172.out 0
                      have hfz57_1 := blk_frozen BK172.out 1
                      have hfz57_2 := blk_frozen BK172.out 2
                      have hfz57_3 := blk_frozen BK172.out 3
                      have hfz57_4 := blk_frozen BK172.out 4
                      have hfz57_5 := blk_frozen BK172.out 5
                      have hfz57_6 := blk_frozen BK172.out 6
                      obtain ⟨Ao58, co58, eo58⟩ := Kd.R_slice HO_8.out
                      subst eo58
                      go_wp2_with (first | (go_at_call 18; (with_reducible refine (ndjqkeep_Ints.calls k2 _ _ t162 _ _ x8_2 true _ ?side1 ?side2 ?side3 ?side4 A54.out).mono ?_); (case side1 => repeat (first | exact (Kd.R_reads' HO_173004.out).2.2 | (with_reducible refine Kd.C_alloc ?_ _) | (with_reducible refine Kd.C_drewN ?_ _) | (with_reducible refine Kd.C_drew ?_))); (case side2 => exact (Kd.R_reads' HO_173004.out).2.1); (case side3 => repeat (first | exact (Kd.R_reads' HO_8.out).2.2 | (with_reducible refine Kd.C_alloc ?_ _) | (with_reducible refine Kd.C_drewN ?_ _) | (with_reducible refine Kd.C_drew ?_))); (case side4 => exact (Kd.R_reads' HO_8.out).2.1); rintro e w' ⟨rfl, ⟨nd, rfl⟩⟩) | (go_at_call 9; (with_reducible refine (ndjqlaw18_awake.calls k2  t175 _ ?side1 A56.out).mono ?_); (case side1 => exact GlbLaid.below HG.out (by repeat (first | (with_reducible first | exact HB.out | apply below_alloc | apply pw_below_drewN | apply below_drew1 | refine below_set ?_ GE172.out) | exact HB.out))); rintro e w59 ⟨rfl, hb⟩; have n0_ := Aside0.mk (Kd.R_below (by (with_reducible repeat (first | apply Kd.R_alloc | apply Kd.R_drewN | apply Kd.R_drew)); exact HO_8.out) hb); have n1_ := Aside0.mk (Kd.R_below (by (with_reducible repeat (first | apply Kd.R_alloc | apply Kd.R_drewN | apply Kd.R_drew)); exact HO_173004.out) hb); have n2_ := Aside0.mk (Kd.R_below (by (with_reducible repeat (first | apply Kd.R_alloc | apply Kd.R_drewN | apply Kd.R_drew)); exact HO_173005.out) hb); have n3_ := Aside0.mk (Kd.R_below (by (with_reducible repeat (first | apply Kd.R_alloc | apply Kd.R_drewN | apply Kd.R_drew)); exact HO_173006.out) hb); have n4_ := Aside0.mk (blk_below (g := gb172) (o := .cells #[.int .i64 t158, .int .i64 t159, .int .i64 t160, .int .i64 t161, .slice Ao9 t162.length co9, .slice Ao10 t165.length co10, .slice Ao11 t168.length co11] 29 (0, 0)) (by (with_reducible repeat (first | refine blk_drewN ?_ _ | refine blk_drew ?_ | refine blk_alloc ?_ _)); exact BK172.out) hb); have n5_ := Aside0.mk (below_step (by repeat (first | (with_reducible first | exact HB.out | apply below_alloc | apply pw_below_drewN | apply below_drew1 | refine below_set ?_ GE172.out) | exact HB.out)) hb); clear HO_8; clear HO_173004; clear HO_173005; clear HO_173006; clear BK172; clear HB; have HO_8 := n0_; have HO_173004 := n1_; have HO_173005 := n2_; have HO_173006 := n3_; have BK172 := n4_; have HB := n5_; clear n0_ n1_ n2_ n3_ n4_ n5_; (try clear hb); (try clear hb2); (try clear hk); (try clear hi)))
                      go_ret
                      exact ⟨by first | rfl | (simp [errW_none, errW_some] <;> rfl) | (simp [*, errW_none, errW_some] <;> rfl), by repeat (first | (with_reducible first | exact HB.out | apply below_alloc | apply pw_below_drewN | apply below_drew1 | refine below_set ?_ GE172.out) | exact HB.out)⟩
                    · replace c55 := Bool.eq_false_iff.mpr c55
                      subst c55
                      have H1 : (some false) = some r := by rw [if_neg (show ¬ (false = true) by decide)] at H; exact H
                      clear H
                      have H := H1
                      clear H1
                      obtain rfl := Option.some.inj H
                      have hcz60_0 : wr.cell? ⟨gb172, 0, none⟩ = some (.int .i64 t158) := (blk_cell BK172.out 0).trans rfl
                      have hcz60_1 : wr.cell? ⟨gb172, 1, none⟩ = some (.int .i64 t159) := (blk_cell BK172.out 1).trans rfl
                      have hcz60_2 : wr.cell? ⟨gb172, 2, none⟩ = some (.int .i64 t160) := (blk_cell BK172.out 2).trans rfl
                      have hcz60_3 : wr.cell? ⟨gb172, 3, none⟩ = some (.int .i64 t161) := (blk_cell BK172.out 3).trans rfl
                      have hcz60_4 : wr.cell? ⟨gb172, 4, none⟩ = some (.slice Ao9 t162.length co9) := (blk_cell BK172.out 4).trans rfl
                      have hcz60_5 : wr.cell? ⟨gb172, 5, none⟩ = some (.slice Ao10 t165.length co10) := (blk_cell BK172.out 5).trans rfl
                      have hcz60_6 : wr.cell? ⟨gb172, 6, none⟩ = some (.slice Ao11 t168.length co11) := (blk_cell BK172.out 6).trans rfl
                      have hfz60_0 := blk_frozen BK172.out 0
                      have hfz60_1 := blk_frozen BK172.out 1
                      have hfz60_2 := blk_frozen BK172.out 2
                      have hfz60_3 := blk_frozen BK172.out 3
                      have hfz60_4 := blk_frozen BK172.out 4
                      have hfz60_5 := blk_frozen BK172.out 5
                      have hfz60_6 := blk_frozen BK172.out 6
                      obtain ⟨Ao61, co61, eo61⟩ := Kd.R_slice HO_8.out
                      subst eo61
                      go_wp2_with (first | (go_at_call 18; (with_reducible refine (ndjqkeep_Ints.calls k2 _ _ t162 _ _ x8_2 false _ ?side1 ?side2 ?side3 ?side4 A54.out).mono ?_); (case side1 => repeat (first | exact (Kd.R_reads' HO_173004.out).2.2 | (with_reducible refine Kd.C_alloc ?_ _) | (with_reducible refine Kd.C_drewN ?_ _) | (with_reducible refine Kd.C_drew ?_))); (case side2 => exact (Kd.R_reads' HO_173004.out).2.1); (case side3 => repeat (first | exact (Kd.R_reads' HO_8.out).2.2 | (with_reducible refine Kd.C_alloc ?_ _) | (with_reducible refine Kd.C_drewN ?_ _) | (with_reducible refine Kd.C_drew ?_))); (case side4 => exact (Kd.R_reads' HO_8.out).2.1); rintro e w' ⟨rfl, ⟨nd, rfl⟩⟩))
                      go_ret
                      exact ⟨by first | rfl | (simp [errW_none, errW_some] <;> rfl) | (simp [*, errW_none, errW_some] <;> rfl), by repeat (first | (with_reducible first | exact HB.out | apply below_alloc | apply pw_below_drewN | apply below_drew1 | refine below_set ?_ GE172.out) | exact HB.out)⟩
                  · rw [if_neg c53] at H
                    have c53b0 : (t159 == x7_2) = false := beq_eq_false_iff_ne.mpr c53
                    have c53b1 : (t159 != x7_2) = true := bne_iff_ne.mpr c53
                    obtain rfl := Option.some.inj H
                    have hcz62_0 : wr.cell? ⟨gb172, 0, none⟩ = some (.int .i64 t158) := (blk_cell BK172.out 0).trans rfl
                    have hcz62_1 : wr.cell? ⟨gb172, 1, none⟩ = some (.int .i64 t159) := (blk_cell BK172.out 1).trans rfl
                    have hcz62_2 : wr.cell? ⟨gb172, 2, none⟩ = some (.int .i64 t160) := (blk_cell BK172.out 2).trans rfl
                    have hcz62_3 : wr.cell? ⟨gb172, 3, none⟩ = some (.int .i64 t161) := (blk_cell BK172.out 3).trans rfl
                    have hcz62_4 : wr.cell? ⟨gb172, 4, none⟩ = some (.slice Ao9 t162.length co9) := (blk_cell BK172.out 4).trans rfl
                    have hcz62_5 : wr.cell? ⟨gb172, 5, none⟩ = some (.slice Ao10 t165.length co10) := (blk_cell BK172.out 5).trans rfl
                    have hcz62_6 : wr.cell? ⟨gb172, 6, none⟩ = some (.slice Ao11 t168.length co11) := (blk_cell BK172.out 6).trans rfl
                    have hfz62_0 := blk_frozen BK172.out 0
                    have hfz62_1 := blk_frozen BK172.out 1
                    have hfz62_2 := blk_frozen BK172.out 2
                    have hfz62_3 := blk_frozen BK172.out 3
                    have hfz62_4 := blk_frozen BK172.out 4
                    have hfz62_5 := blk_frozen BK172.out 5
                    have hfz62_6 := blk_frozen BK172.out 6
                    go_wp2
                    go_ret
                    exact ⟨by first | rfl | (simp [errW_none, errW_some] <;> rfl) | (simp [*, errW_none, errW_some] <;> rfl), by repeat (first | (with_reducible first | exact HB.out | apply below_alloc | apply pw_below_drewN | apply below_drew1 | refine below_set ?_ GE172.out) | exact HB.out)⟩
                · rw [if_neg c52] at H
                  by_cases c63 : t157 = 1
                  · subst c63
                    have H1 : (if t160 = x7_2 then ((ndjqkeep_Ints.f k2 t165 x8_2).bind fun t176 => (if t176 = true then ((ndjqlaw18_awake.f k2).bind fun t177 => (some t177)) else (some false))) else (some false)) = some r := by rw [if_pos rfl] at H; exact H
                    clear H
                    have H := H1
                    clear H1
                    by_cases c64 : t160 = x7_2
                    · rw [if_pos c64] at H
                      have c64b0 : (t160 == x7_2) = true := beq_iff_eq.mpr c64
                      have c64b1 : (t160 != x7_2) = false := bne_eq_false_iff_eq.mpr c64
                      clear c64
                      replace H := Option.bind_eq_some_iff.mp H
                      obtain ⟨t176, A650, H⟩ := H
                      replace H : (if t176 = true then ((ndjqlaw18_awake.f k2).bind fun t177 => (some t177)) else (some false)) = some r := H
                      have A65 := Aside0.mk A650
                      clear A650
                      by_cases c66 : t176 = true
                      · subst c66
                        have H1 : ((ndjqlaw18_awake.f k2).bind fun t177 => (some t177)) = some r := by rw [if_pos rfl] at H; exact H
                        clear H
                        have H := H1
                        clear H1
                        replace H := Option.bind_eq_some_iff.mp H
                        obtain ⟨t177, A670, H⟩ := H
                        replace H : (some t177) = some r := H
                        have A67 := Aside0.mk A670
                        clear A670
                        obtain rfl := Option.some.inj H
                        have hcz68_0 : wr.cell? ⟨gb172, 0, none⟩ = some (.int .i64 t158) := (blk_cell BK172.out 0).trans rfl
                        have hcz68_1 : wr.cell? ⟨gb172, 1, none⟩ = some (.int .i64 t159) := (blk_cell BK172.out 1).trans rfl
                        have hcz68_2 : wr.cell? ⟨gb172, 2, none⟩ = some (.int .i64 t160) := (blk_cell BK172.out 2).trans rfl
                        have hcz68_3 : wr.cell? ⟨gb172, 3, none⟩ = some (.int .i64 t161) := (blk_cell BK172.out 3).trans rfl
                        have hcz68_4 : wr.cell? ⟨gb172, 4, none⟩ = some (.slice Ao9 t162.length co9) := (blk_cell BK172.out 4).trans rfl
                        have hcz68_5 : wr.cell? ⟨gb172, 5, none⟩ = some (.slice Ao10 t165.length co10) := (blk_cell BK172.out 5).trans rfl
                        have hcz68_6 : wr.cell? ⟨gb172, 6, none⟩ = some (.slice Ao11 t168.length co11) := (blk_cell BK172.out 6).trans rfl
                        have hfz68_0 := blk_frozen BK172.out 0
                        have hfz68_1 := blk_frozen BK172.out 1
                        have hfz68_2 := blk_frozen BK172.out 2
                        have hfz68_3 := blk_frozen BK172.out 3
                        have hfz68_4 := blk_frozen BK172.out 4
                        have hfz68_5 := blk_frozen BK172.out 5
                        have hfz68_6 := blk_frozen BK172.out 6
                        obtain ⟨Ao69, co69, eo69⟩ := Kd.R_slice HO_8.out
                        subst eo69
                        go_wp2_with (first | (go_at_call 18; (with_reducible refine (ndjqkeep_Ints.calls k2 _ _ t165 _ _ x8_2 true _ ?side1 ?side2 ?side3 ?side4 A65.out).mono ?_); (case side1 => repeat (first | exact (Kd.R_reads' HO_173005.out).2.2 | (with_reducible refine Kd.C_alloc ?_ _) | (with_reducible refine Kd.C_drewN ?_ _) | (with_reducible refine Kd.C_drew ?_))); (case side2 => exact (Kd.R_reads' HO_173005.out).2.1); (case side3 => repeat (first | exact (Kd.R_reads' HO_8.out).2.2 | (with_reducible refine Kd.C_alloc ?_ _) | (with_reducible refine Kd.C_drewN ?_ _) | (with_reducible refine Kd.C_drew ?_))); (case side4 => exact (Kd.R_reads' HO_8.out).2.1); rintro e w' ⟨rfl, ⟨nd, rfl⟩⟩) | (go_at_call 9; (with_reducible refine (ndjqlaw18_awake.calls k2  t177 _ ?side1 A67.out).mono ?_); (case side1 => exact GlbLaid.below HG.out (by repeat (first | (with_reducible first | exact HB.out | apply below_alloc | apply pw_below_drewN | apply below_drew1 | refine below_set ?_ GE172.out) | exact HB.out))); rintro e w70 ⟨rfl, hb⟩; have n0_ := Aside0.mk (Kd.R_below (by (with_reducible repeat (first | apply Kd.R_alloc | apply Kd.R_drewN | apply Kd.R_drew)); exact HO_8.out) hb); have n1_ := Aside0.mk (Kd.R_below (by (with_reducible repeat (first | apply Kd.R_alloc | apply Kd.R_drewN | apply Kd.R_drew)); exact HO_173004.out) hb); have n2_ := Aside0.mk (Kd.R_below (by (with_reducible repeat (first | apply Kd.R_alloc | apply Kd.R_drewN | apply Kd.R_drew)); exact HO_173005.out) hb); have n3_ := Aside0.mk (Kd.R_below (by (with_reducible repeat (first | apply Kd.R_alloc | apply Kd.R_drewN | apply Kd.R_drew)); exact HO_173006.out) hb); have n4_ := Aside0.mk (blk_below (g := gb172) (o := .cells #[.int .i64 t158, .int .i64 t159, .int .i64 t160, .int .i64 t161, .slice Ao9 t162.length co9, .slice Ao10 t165.length co10, .slice Ao11 t168.length co11] 29 (0, 0)) (by (with_reducible repeat (first | refine blk_drewN ?_ _ | refine blk_drew ?_ | refine blk_alloc ?_ _)); exact BK172.out) hb); have n5_ := Aside0.mk (below_step (by repeat (first | (with_reducible first | exact HB.out | apply below_alloc | apply pw_below_drewN | apply below_drew1 | refine below_set ?_ GE172.out) | exact HB.out)) hb); clear HO_8; clear HO_173004; clear HO_173005; clear HO_173006; clear BK172; clear HB; have HO_8 := n0_; have HO_173004 := n1_; have HO_173005 := n2_; have HO_173006 := n3_; have BK172 := n4_; have HB := n5_; clear n0_ n1_ n2_ n3_ n4_ n5_; (try clear hb); (try clear hb2); (try clear hk); (try clear hi)))
                        go_ret
                        exact ⟨by first | rfl | (simp [errW_none, errW_some] <;> rfl) | (simp [*, errW_none, errW_some] <;> rfl), by repeat (first | (with_reducible first | exact HB.out | apply below_alloc | apply pw_below_drewN | apply below_drew1 | refine below_set ?_ GE172.out) | exact HB.out)⟩
                      · replace c66 := Bool.eq_false_iff.mpr c66
                        subst c66
                        have H1 : (some false) = some r := by rw [if_neg (show ¬ (false = true) by decide)] at H; exact H
                        clear H
                        have H := H1
                        clear H1
                        obtain rfl := Option.some.inj H
                        have hcz71_0 : wr.cell? ⟨gb172, 0, none⟩ = some (.int .i64 t158) := (blk_cell BK172.out 0).trans rfl
                        have hcz71_1 : wr.cell? ⟨gb172, 1, none⟩ = some (.int .i64 t159) := (blk_cell BK172.out 1).trans rfl
                        have hcz71_2 : wr.cell? ⟨gb172, 2, none⟩ = some (.int .i64 t160) := (blk_cell BK172.out 2).trans rfl
                        have hcz71_3 : wr.cell? ⟨gb172, 3, none⟩ = some (.int .i64 t161) := (blk_cell BK172.out 3).trans rfl
                        have hcz71_4 : wr.cell? ⟨gb172, 4, none⟩ = some (.slice Ao9 t162.length co9) := (blk_cell BK172.out 4).trans rfl
                        have hcz71_5 : wr.cell? ⟨gb172, 5, none⟩ = some (.slice Ao10 t165.length co10) := (blk_cell BK172.out 5).trans rfl
                        have hcz71_6 : wr.cell? ⟨gb172, 6, none⟩ = some (.slice Ao11 t168.length co11) := (blk_cell BK172.out 6).trans rfl
                        have hfz71_0 := blk_frozen BK172.out 0
                        have hfz71_1 := blk_frozen BK172.out 1
                        have hfz71_2 := blk_frozen BK172.out 2
                        have hfz71_3 := blk_frozen BK172.out 3
                        have hfz71_4 := blk_frozen BK172.out 4
                        have hfz71_5 := blk_frozen BK172.out 5
                        have hfz71_6 := blk_frozen BK172.out 6
                        obtain ⟨Ao72, co72, eo72⟩ := Kd.R_slice HO_8.out
                        subst eo72
                        go_wp2_with (first | (go_at_call 18; (with_reducible refine (ndjqkeep_Ints.calls k2 _ _ t165 _ _ x8_2 false _ ?side1 ?side2 ?side3 ?side4 A65.out).mono ?_); (case side1 => repeat (first | exact (Kd.R_reads' HO_173005.out).2.2 | (with_reducible refine Kd.C_alloc ?_ _) | (with_reducible refine Kd.C_drewN ?_ _) | (with_reducible refine Kd.C_drew ?_))); (case side2 => exact (Kd.R_reads' HO_173005.out).2.1); (case side3 => repeat (first | exact (Kd.R_reads' HO_8.out).2.2 | (with_reducible refine Kd.C_alloc ?_ _) | (with_reducible refine Kd.C_drewN ?_ _) | (with_reducible refine Kd.C_drew ?_))); (case side4 => exact (Kd.R_reads' HO_8.out).2.1); rintro e w' ⟨rfl, ⟨nd, rfl⟩⟩))
                        go_ret
                        exact ⟨by first | rfl | (simp [errW_none, errW_some] <;> rfl) | (simp [*, errW_none, errW_some] <;> rfl), by repeat (first | (with_reducible first | exact HB.out | apply below_alloc | apply pw_below_drewN | apply below_drew1 | refine below_set ?_ GE172.out) | exact HB.out)⟩
                    · rw [if_neg c64] at H
                      have c64b0 : (t160 == x7_2) = false := beq_eq_false_iff_ne.mpr c64
                      have c64b1 : (t160 != x7_2) = true := bne_iff_ne.mpr c64
                      obtain rfl := Option.some.inj H
                      have hcz73_0 : wr.cell? ⟨gb172, 0, none⟩ = some (.int .i64 t158) := (blk_cell BK172.out 0).trans rfl
                      have hcz73_1 : wr.cell? ⟨gb172, 1, none⟩ = some (.int .i64 t159) := (blk_cell BK172.out 1).trans rfl
                      have hcz73_2 : wr.cell? ⟨gb172, 2, none⟩ = some (.int .i64 t160) := (blk_cell BK172.out 2).trans rfl
                      have hcz73_3 : wr.cell? ⟨gb172, 3, none⟩ = some (.int .i64 t161) := (blk_cell BK172.out 3).trans rfl
                      have hcz73_4 : wr.cell? ⟨gb172, 4, none⟩ = some (.slice Ao9 t162.length co9) := (blk_cell BK172.out 4).trans rfl
                      have hcz73_5 : wr.cell? ⟨gb172, 5, none⟩ = some (.slice Ao10 t165.length co10) := (blk_cell BK172.out 5).trans rfl
                      have hcz73_6 : wr.cell? ⟨gb172, 6, none⟩ = some (.slice Ao11 t168.length co11) := (blk_cell BK172.out 6).trans rfl
                      have hfz73_0 := blk_frozen BK172.out 0
                      have hfz73_1 := blk_frozen BK172.out 1
                      have hfz73_2 := blk_frozen BK172.out 2
                      have hfz73_3 := blk_frozen BK172.out 3
                      have hfz73_4 := blk_frozen BK172.out 4
                      have hfz73_5 := blk_frozen BK172.out 5
                      have hfz73_6 := blk_frozen BK172.out 6
                      go_wp2
                      go_ret
                      exact ⟨by first | rfl | (simp [errW_none, errW_some] <;> rfl) | (simp [*, errW_none, errW_some] <;> rfl), by repeat (first | (with_reducible first | exact HB.out | apply below_alloc | apply pw_below_drewN | apply below_drew1 | refine below_set ?_ GE172.out) | exact HB.out)⟩
                  · rw [if_neg c63] at H
                    by_cases c74 : t157 = 2
                    · subst c74
                      have H1 : (if t161 = x7_2 then ((ndjqkeep_Ints.f k2 t168 x8_2).bind fun t178 => (if t178 = true then ((ndjqlaw18_awake.f k2).bind fun t179 => (some t179)) else (some false))) else (some false)) = some r := by rw [if_pos rfl] at H; exact H
                      clear H
                      have H := H1
                      clear H1
                      by_cases c75 : t161 = x7_2
                      · rw [if_pos c75] at H
                        have c75b0 : (t161 == x7_2) = true := beq_iff_eq.mpr c75
                        have c75b1 : (t161 != x7_2) = false := bne_eq_false_iff_eq.mpr c75
                        clear c75
                        replace H := Option.bind_eq_some_iff.mp H
                        obtain ⟨t178, A760, H⟩ := H
                        replace H : (if t178 = true then ((ndjqlaw18_awake.f k2).bind fun t179 => (some t179)) else (some false)) = some r := H
                        have A76 := Aside0.mk A760
                        clear A760
                        by_cases c77 : t178 = true
                        · subst c77
                          have H1 : ((ndjqlaw18_awake.f k2).bind fun t179 => (some t179)) = some r := by rw [if_pos rfl] at H; exact H
                          clear H
                          have H := H1
                          clear H1
                          replace H := Option.bind_eq_some_iff.mp H
                          obtain ⟨t179, A780, H⟩ := H
                          replace H : (some t179) = some r := H
                          have A78 := Aside0.mk A780
                          clear A780
                          obtain rfl := Option.some.inj H
                          have hcz79_0 : wr.cell? ⟨gb172, 0, none⟩ = some (.int .i64 t158) := (blk_cell BK172.out 0).trans rfl
                          have hcz79_1 : wr.cell? ⟨gb172, 1, none⟩ = some (.int .i64 t159) := (blk_cell BK172.out 1).trans rfl
                          have hcz79_2 : wr.cell? ⟨gb172, 2, none⟩ = some (.int .i64 t160) := (blk_cell BK172.out 2).trans rfl
                          have hcz79_3 : wr.cell? ⟨gb172, 3, none⟩ = some (.int .i64 t161) := (blk_cell BK172.out 3).trans rfl
                          have hcz79_4 : wr.cell? ⟨gb172, 4, none⟩ = some (.slice Ao9 t162.length co9) := (blk_cell BK172.out 4).trans rfl
                          have hcz79_5 : wr.cell? ⟨gb172, 5, none⟩ = some (.slice Ao10 t165.length co10) := (blk_cell BK172.out 5).trans rfl
                          have hcz79_6 : wr.cell? ⟨gb172, 6, none⟩ = some (.slice Ao11 t168.length co11) := (blk_cell BK172.out 6).trans rfl
                          have hfz79_0 := blk_frozen BK172.out 0
                          have hfz79_1 := blk_frozen BK172.out 1
                          have hfz79_2 := blk_frozen BK172.out 2
                          have hfz79_3 := blk_frozen BK172.out 3
                          have hfz79_4 := blk_frozen BK172.out 4
                          have hfz79_5 := blk_frozen BK172.out 5
                          have hfz79_6 := blk_frozen BK172.out 6
                          obtain ⟨Ao80, co80, eo80⟩ := Kd.R_slice HO_8.out
                          subst eo80
                          go_wp2_with (first | (go_at_call 18; (with_reducible refine (ndjqkeep_Ints.calls k2 _ _ t168 _ _ x8_2 true _ ?side1 ?side2 ?side3 ?side4 A76.out).mono ?_); (case side1 => repeat (first | exact (Kd.R_reads' HO_173006.out).2.2 | (with_reducible refine Kd.C_alloc ?_ _) | (with_reducible refine Kd.C_drewN ?_ _) | (with_reducible refine Kd.C_drew ?_))); (case side2 => exact (Kd.R_reads' HO_173006.out).2.1); (case side3 => repeat (first | exact (Kd.R_reads' HO_8.out).2.2 | (with_reducible refine Kd.C_alloc ?_ _) | (with_reducible refine Kd.C_drewN ?_ _) | (with_reducible refine Kd.C_drew ?_))); (case side4 => exact (Kd.R_reads' HO_8.out).2.1); rintro e w' ⟨rfl, ⟨nd, rfl⟩⟩) | (go_at_call 9; (with_reducible refine (ndjqlaw18_awake.calls k2  t179 _ ?side1 A78.out).mono ?_); (case side1 => exact GlbLaid.below HG.out (by repeat (first | (with_reducible first | exact HB.out | apply below_alloc | apply pw_below_drewN | apply below_drew1 | refine below_set ?_ GE172.out) | exact HB.out))); rintro e w81 ⟨rfl, hb⟩; have n0_ := Aside0.mk (Kd.R_below (by (with_reducible repeat (first | apply Kd.R_alloc | apply Kd.R_drewN | apply Kd.R_drew)); exact HO_8.out) hb); have n1_ := Aside0.mk (Kd.R_below (by (with_reducible repeat (first | apply Kd.R_alloc | apply Kd.R_drewN | apply Kd.R_drew)); exact HO_173004.out) hb); have n2_ := Aside0.mk (Kd.R_below (by (with_reducible repeat (first | apply Kd.R_alloc | apply Kd.R_drewN | apply Kd.R_drew)); exact HO_173005.out) hb); have n3_ := Aside0.mk (Kd.R_below (by (with_reducible repeat (first | apply Kd.R_alloc | apply Kd.R_drewN | apply Kd.R_drew)); exact HO_173006.out) hb); have n4_ := Aside0.mk (blk_below (g := gb172) (o := .cells #[.int .i64 t158, .int .i64 t159, .int .i64 t160, .int .i64 t161, .slice Ao9 t162.length co9, .slice Ao10 t165.length co10, .slice Ao11 t168.length co11] 29 (0, 0)) (by (with_reducible repeat (first | refine blk_drewN ?_ _ | refine blk_drew ?_ | refine blk_alloc ?_ _)); exact BK172.out) hb); have n5_ := Aside0.mk (below_step (by repeat (first | (with_reducible first | exact HB.out | apply below_alloc | apply pw_below_drewN | apply below_drew1 | refine below_set ?_ GE172.out) | exact HB.out)) hb); clear HO_8; clear HO_173004; clear HO_173005; clear HO_173006; clear BK172; clear HB; have HO_8 := n0_; have HO_173004 := n1_; have HO_173005 := n2_; have HO_173006 := n3_; have BK172 := n4_; have HB := n5_; clear n0_ n1_ n2_ n3_ n4_ n5_; (try clear hb); (try clear hb2); (try clear hk); (try clear hi)))
                          go_ret
                          exact ⟨by first | rfl | (simp [errW_none, errW_some] <;> rfl) | (simp [*, errW_none, errW_some] <;> rfl), by repeat (first | (with_reducible first | exact HB.out | apply below_alloc | apply pw_below_drewN | apply below_drew1 | refine below_set ?_ GE172.out) | exact HB.out)⟩
                        · replace c77 := Bool.eq_false_iff.mpr c77
                          subst c77
                          have H1 : (some false) = some r := by rw [if_neg (show ¬ (false = true) by decide)] at H; exact H
                          clear H
                          have H := H1
                          clear H1
                          obtain rfl := Option.some.inj H
                          have hcz82_0 : wr.cell? ⟨gb172, 0, none⟩ = some (.int .i64 t158) := (blk_cell BK172.out 0).trans rfl
                          have hcz82_1 : wr.cell? ⟨gb172, 1, none⟩ = some (.int .i64 t159) := (blk_cell BK172.out 1).trans rfl
                          have hcz82_2 : wr.cell? ⟨gb172, 2, none⟩ = some (.int .i64 t160) := (blk_cell BK172.out 2).trans rfl
                          have hcz82_3 : wr.cell? ⟨gb172, 3, none⟩ = some (.int .i64 t161) := (blk_cell BK172.out 3).trans rfl
                          have hcz82_4 : wr.cell? ⟨gb172, 4, none⟩ = some (.slice Ao9 t162.length co9) := (blk_cell BK172.out 4).trans rfl
                          have hcz82_5 : wr.cell? ⟨gb172, 5, none⟩ = some (.slice Ao10 t165.length co10) := (blk_cell BK172.out 5).trans rfl
                          have hcz82_6 : wr.cell? ⟨gb172, 6, none⟩ = some (.slice Ao11 t168.length co11) := (blk_cell BK172.out 6).trans rfl
                          have hfz82_0 := blk_frozen BK172.out 0
                          have hfz82_1 := blk_frozen BK172.out 1
                          have hfz82_2 := blk_frozen BK172.out 2
                          have hfz82_3 := blk_frozen BK172.out 3
                          have hfz82_4 := blk_frozen BK172.out 4
                          have hfz82_5 := blk_frozen BK172.out 5
                          have hfz82_6 := blk_frozen BK172.out 6
                          obtain ⟨Ao83, co83, eo83⟩ := Kd.R_slice HO_8.out
                          subst eo83
                          go_wp2_with (first | (go_at_call 18; (with_reducible refine (ndjqkeep_Ints.calls k2 _ _ t168 _ _ x8_2 false _ ?side1 ?side2 ?side3 ?side4 A76.out).mono ?_); (case side1 => repeat (first | exact (Kd.R_reads' HO_173006.out).2.2 | (with_reducible refine Kd.C_alloc ?_ _) | (with_reducible refine Kd.C_drewN ?_ _) | (with_reducible refine Kd.C_drew ?_))); (case side2 => exact (Kd.R_reads' HO_173006.out).2.1); (case side3 => repeat (first | exact (Kd.R_reads' HO_8.out).2.2 | (with_reducible refine Kd.C_alloc ?_ _) | (with_reducible refine Kd.C_drewN ?_ _) | (with_reducible refine Kd.C_drew ?_))); (case side4 => exact (Kd.R_reads' HO_8.out).2.1); rintro e w' ⟨rfl, ⟨nd, rfl⟩⟩))
                          go_ret
                          exact ⟨by first | rfl | (simp [errW_none, errW_some] <;> rfl) | (simp [*, errW_none, errW_some] <;> rfl), by repeat (first | (with_reducible first | exact HB.out | apply below_alloc | apply pw_below_drewN | apply below_drew1 | refine below_set ?_ GE172.out) | exact HB.out)⟩
                      · rw [if_neg c75] at H
                        have c75b0 : (t161 == x7_2) = false := beq_eq_false_iff_ne.mpr c75
                        have c75b1 : (t161 != x7_2) = true := bne_iff_ne.mpr c75
                        obtain rfl := Option.some.inj H
                        have hcz84_0 : wr.cell? ⟨gb172, 0, none⟩ = some (.int .i64 t158) := (blk_cell BK172.out 0).trans rfl
                        have hcz84_1 : wr.cell? ⟨gb172, 1, none⟩ = some (.int .i64 t159) := (blk_cell BK172.out 1).trans rfl
                        have hcz84_2 : wr.cell? ⟨gb172, 2, none⟩ = some (.int .i64 t160) := (blk_cell BK172.out 2).trans rfl
                        have hcz84_3 : wr.cell? ⟨gb172, 3, none⟩ = some (.int .i64 t161) := (blk_cell BK172.out 3).trans rfl
                        have hcz84_4 : wr.cell? ⟨gb172, 4, none⟩ = some (.slice Ao9 t162.length co9) := (blk_cell BK172.out 4).trans rfl
                        have hcz84_5 : wr.cell? ⟨gb172, 5, none⟩ = some (.slice Ao10 t165.length co10) := (blk_cell BK172.out 5).trans rfl
                        have hcz84_6 : wr.cell? ⟨gb172, 6, none⟩ = some (.slice Ao11 t168.length co11) := (blk_cell BK172.out 6).trans rfl
                        have hfz84_0 := blk_frozen BK172.out 0
                        have hfz84_1 := blk_frozen BK172.out 1
                        have hfz84_2 := blk_frozen BK172.out 2
                        have hfz84_3 := blk_frozen BK172.out 3
                        have hfz84_4 := blk_frozen BK172.out 4
                        have hfz84_5 := blk_frozen BK172.out 5
                        have hfz84_6 := blk_frozen BK172.out 6
                        go_wp2
                        go_ret
                        exact ⟨by first | rfl | (simp [errW_none, errW_some] <;> rfl) | (simp [*, errW_none, errW_some] <;> rfl), by repeat (first | (with_reducible first | exact HB.out | apply below_alloc | apply pw_below_drewN | apply below_drew1 | refine below_set ?_ GE172.out) | exact HB.out)⟩
                    · rw [if_neg c74] at H
                      exact absurd H (by simp)
              · rw [if_neg c51] at H
                have c51b0 : (t158 == (a0.size : Int)) = false := beq_eq_false_iff_ne.mpr c51
                have c51b1 : (t158 != (a0.size : Int)) = true := bne_iff_ne.mpr c51
                obtain rfl := Option.some.inj H
                have hcz85_0 : wr.cell? ⟨gb172, 0, none⟩ = some (.int .i64 t158) := (blk_cell BK172.out 0).trans rfl
                have hcz85_1 : wr.cell? ⟨gb172, 1, none⟩ = some (.int .i64 t159) := (blk_cell BK172.out 1).trans rfl
                have hcz85_2 : wr.cell? ⟨gb172, 2, none⟩ = some (.int .i64 t160) := (blk_cell BK172.out 2).trans rfl
                have hcz85_3 : wr.cell? ⟨gb172, 3, none⟩ = some (.int .i64 t161) := (blk_cell BK172.out 3).trans rfl
                have hcz85_4 : wr.cell? ⟨gb172, 4, none⟩ = some (.slice Ao9 t162.length co9) := (blk_cell BK172.out 4).trans rfl
                have hcz85_5 : wr.cell? ⟨gb172, 5, none⟩ = some (.slice Ao10 t165.length co10) := (blk_cell BK172.out 5).trans rfl
                have hcz85_6 : wr.cell? ⟨gb172, 6, none⟩ = some (.slice Ao11 t168.length co11) := (blk_cell BK172.out 6).trans rfl
                have hfz85_0 := blk_frozen BK172.out 0
                have hfz85_1 := blk_frozen BK172.out 1
                have hfz85_2 := blk_frozen BK172.out 2
                have hfz85_3 := blk_frozen BK172.out 3
                have hfz85_4 := blk_frozen BK172.out 4
                have hfz85_5 := blk_frozen BK172.out 5
                have hfz85_6 := blk_frozen BK172.out 6
                go_wp2
                go_ret
                exact ⟨by first | rfl | (simp [errW_none, errW_some] <;> rfl) | (simp [*, errW_none, errW_some] <;> rfl), by repeat (first | (with_reducible first | exact HB.out | apply below_alloc | apply pw_below_drewN | apply below_drew1 | refine below_set ?_ GE172.out) | exact HB.out)⟩

/-- THE ONE PURE STATEMENT of ndjqlaw18_AutomatonBytes: yours. -/
def ndjqlaw18_AutomatonBytes.Pure : Prop := ∀ (a0 : ByteArray) (a1 : Int), a0.size ≤ 140737488351232 → (Lit.int .i64 a1).wf = true → ∃ k, ndjqlaw18_AutomatonBytes.f k a0 a1 = some true
theorem ndjqlaw18_AutomatonBytes.walk (P : ndjqlaw18_AutomatonBytes.Pure) (a0 : ByteArray) (a1 : Int) (w : World) (w0 : a0.size ≤ 140737488351232) (w1 : (Lit.int .i64 a1).wf = true) (hG : GlbLaid w) :
    Calls Tryd.prog 5 #[.string a0, .int .i64 a1] w fun e w' => e = .returned (.bool true) ∧ Below w.heap.size w w' := by
  obtain ⟨k, h⟩ := P a0 a1 w0 w1
  refine (ndjqlaw18_AutomatonBytes.calls k a0 a1 true w hG h).mono ?_
  rintro e w' ⟨rfl, hd⟩
  exact ⟨rfl, hd⟩

end Go.Proofs.YtjejjhpmiinanaaDoor.QAutomatonBytes
