-- by a program of this session (print2.py): the machine's side of one law; Lean checks it.
import Derived.Test.YtcnojfoiolbnaaaQJsonlexCoverx0
import Derived.Test.YtcnojfoiolbnaaaQJsonlexCoverx1
import Derived.Test.YtcnojfoiolbnaaaQJsonlexCoverx2
import Derived.Test.YtcnojfoiolbnaaaQJsonlexCoverx7
namespace Go.Proofs.Ytcnojfoiolbnaaa.QJsonlexCover
open Go.RowKit Go.Proofs.YtcnojfoiolbnaaaW.PrintWords Go.Proofs.YtcnojfoiolbnaaaW.PrintLast Go.Proofs.YtcnojfoiolbnaaaW.PrintMore
attribute [local go_sem] max2_int min2_int max_two min_two max_three min_three max_four min_four   -- for this text's walks alone
set_option linter.unusedVariables false
set_option linter.unusedSimpArgs false

attribute [local go_sem high] eqA24
/-! ### ndjqlaw03_awake: function 8 -/
def ndjqlaw03_awake.f (k : Nat)  : Option (Bool) := (jsonlex_Next.f k (⟨#[32, 45, 49, 50, 44]⟩ : ByteArray) 0).bind fun bt172 => (if bt172.2.2.2.2.2.2.2 = 0 then (if bt172.2.2.2.2.2.2.1 = 4 then (some (bt172.1 == 3 && (bt172.2.1 == 1 && (bt172.2.2.1 == 4 && (bt172.2.2.2.1 == 0 && (bt172.2.2.2.2.1 == (-12) && (bt172.2.2.2.2.2.1.toList == ([] : List UInt8)))))))) else (some false)) else (some false))
theorem ndjqlaw03_awake.mono : ∀ k, LeO (ndjqlaw03_awake.f k ) (ndjqlaw03_awake.f (k + 1) ) := by
  intro  k
  unfold ndjqlaw03_awake.f
  repeat' first
      | (with_reducible exact jsonlex_Next.mono _ _ _)
      | (with_reducible exact LeO.refl _)
      | (with_reducible exact LeO.none _)
      | (with_reducible refine LeO.ite ?_ ?_)
      | (with_reducible refine LeO.bind ?_ (fun _ => ?_))
      | exact jsonlex_Next.mono _ _ _
      | exact LeO.none _
      | refine LeO.ite ?_ ?_
      | refine LeO.bind ?_ (fun _ => ?_)
set_option maxHeartbeats 8000000 in
set_option maxRecDepth 100000 in
theorem ndjqlaw03_awake.calls (k : Nat)  (r : Bool) (w : World) (h : ndjqlaw03_awake.f k  = some r) :
    Calls Try.prog 8 #[] w fun e w' => e = .returned (.bool r) ∧ Below w.heap.size w w' := by
  have hu24 := Try.underlying24
  have HB := Aside0.mk (Below.refl w.heap.size w)
  have H : ((jsonlex_Next.f k (⟨#[32, 45, 49, 50, 44]⟩ : ByteArray) 0).bind fun bt172 => (if bt172.2.2.2.2.2.2.2 = 0 then (if bt172.2.2.2.2.2.2.1 = 4 then (some (bt172.1 == 3 && (bt172.2.1 == 1 && (bt172.2.2.1 == 4 && (bt172.2.2.2.1 == 0 && (bt172.2.2.2.2.1 == (-12) && (bt172.2.2.2.2.2.1.toList == ([] : List UInt8)))))))) else (some false)) else (some false))) = some r := h
  clear h
  replace H := Option.bind_eq_some_iff.mp H
  obtain ⟨⟨t172, t173, t174, t175, t176, t177, t178, t179⟩, A10, H⟩ := H
  replace H : (if t179 = 0 then (if t178 = 4 then (some (t172 == 3 && (t173 == 1 && (t174 == 4 && (t175 == 0 && (t176 == (-12) && (t177.toList == ([] : List UInt8)))))))) else (some false)) else (some false)) = some r := H
  have A1 := Aside0.mk A10
  clear A10
  by_cases c2 : t179 = 0
  · rw [if_pos c2] at H
    have c2b0 : (t179 == 0) = true := beq_iff_eq.mpr c2
    have c2b1 : (t179 != 0) = false := bne_eq_false_iff_eq.mpr c2
    clear c2
    by_cases c3 : t178 = 4
    · rw [if_pos c3] at H
      have c3b0 : (t178 == 4) = true := beq_iff_eq.mpr c3
      have c3b1 : (t178 != 4) = false := bne_eq_false_iff_eq.mpr c3
      clear c3
      obtain rfl := Option.some.inj H
      go_enter Try.func8, Try.ntmps8
      go_wp2_with (first | ((with_reducible refine gate_callee (f := 9) rfl ?_); refine goesL_ (some 5) rfl rfl Try.func9 (by kernel_rfl) rfl #[.string (⟨#[32, 45, 49, 50, 44]⟩ : ByteArray), .int .i64 0] rfl (by (try simp only [List.map_toArray, List.map_cons, List.map_nil]); first | done | rfl | (simp only [List.length_drop, List.length_take]; rfl)) ?_; (with_reducible refine (jsonlex_Next.calls k (⟨#[32, 45, 49, 50, 44]⟩ : ByteArray) 0 t172 t173 t174 t175 t176 t177 t178 t179 _ A1.out).mono ?_); rintro e w4 ⟨rfl, hb⟩; refine ⟨_, rfl, ?_⟩; have n0_ := Aside0.mk (below_step (by repeat (first | (with_reducible first | exact HB.out | apply below_alloc | apply pw_below_drewN | apply below_drew1) | exact HB.out)) hb); clear HB; have HB := n0_; clear n0_; (try clear hb); (try clear hb2); (try clear hk); (try clear hi)) | ((with_reducible refine gate_dst (N := 1) rfl ?_); refine box_event ?hg (N := 1) ?hd (cs := #[.int .i64 0, .int .i64 0, .int .i64 0, .int .u8 0, .int .i64 0, .string (⟨#[]⟩ : ByteArray)]) (t := 24) ?hr ?_; (case hd => rfl); (case hg => rfl); (case hr => first | (go_simp; done) | (go_simp; rfl)); intro gb180 hg w5 hbox hb; have n0_ := Aside0.mk (below_step (by repeat (first | (with_reducible first | exact HB.out | apply below_alloc | apply pw_below_drewN | apply below_drew1) | exact HB.out)) hb); have n1_ := Aside0.mk (hbox); have n2_ := Aside0.mk ((by rw [hg]; exact (below_size (by repeat (first | (with_reducible first | exact HB.out | apply below_alloc | apply pw_below_drewN | apply below_drew1) | exact HB.out))) : w.heap.size ≤ gb180)); have n3_ := n2_; clear HB; have HB := n0_; have BK180 := n1_; have GW180 := n2_; have GE180 := n3_; clear n0_ n1_ n2_ n3_; clear hb hbox hg; have hcz6_0 : w5.cell? ⟨gb180, 0, none⟩ = some (.int .i64 0) := (blk_cell BK180.out 0).trans rfl; have hcz6_1 : w5.cell? ⟨gb180, 1, none⟩ = some (.int .i64 0) := (blk_cell BK180.out 1).trans rfl; have hcz6_2 : w5.cell? ⟨gb180, 2, none⟩ = some (.int .i64 0) := (blk_cell BK180.out 2).trans rfl; have hcz6_3 : w5.cell? ⟨gb180, 3, none⟩ = some (.int .u8 0) := (blk_cell BK180.out 3).trans rfl; have hcz6_4 : w5.cell? ⟨gb180, 4, none⟩ = some (.int .i64 0) := (blk_cell BK180.out 4).trans rfl; have hcz6_5 : w5.cell? ⟨gb180, 5, none⟩ = some (.string (⟨#[]⟩ : ByteArray)) := (blk_cell BK180.out 5).trans rfl; have hfz6_0 := blk_frozen BK180.out 0; have hfz6_1 := blk_frozen BK180.out 1; have hfz6_2 := blk_frozen BK180.out 2; have hfz6_3 := blk_frozen BK180.out 3; have hfz6_4 := blk_frozen BK180.out 4; have hfz6_5 := blk_frozen BK180.out 5))
      go_ret
      exact ⟨by first | rfl | (simp [errW_none, errW_some] <;> rfl) | (simp [*, errW_none, errW_some] <;> rfl), by repeat (first | (with_reducible first | exact HB.out | apply below_alloc | apply pw_below_drewN | apply below_drew1 | refine below_set ?_ GE180.out) | exact HB.out)⟩
    · rw [if_neg c3] at H
      have c3b0 : (t178 == 4) = false := beq_eq_false_iff_ne.mpr c3
      have c3b1 : (t178 != 4) = true := bne_iff_ne.mpr c3
      obtain rfl := Option.some.inj H
      go_enter Try.func8, Try.ntmps8
      go_wp2_with (first | ((with_reducible refine gate_callee (f := 9) rfl ?_); refine goesL_ (some 5) rfl rfl Try.func9 (by kernel_rfl) rfl #[.string (⟨#[32, 45, 49, 50, 44]⟩ : ByteArray), .int .i64 0] rfl (by (try simp only [List.map_toArray, List.map_cons, List.map_nil]); first | done | rfl | (simp only [List.length_drop, List.length_take]; rfl)) ?_; (with_reducible refine (jsonlex_Next.calls k (⟨#[32, 45, 49, 50, 44]⟩ : ByteArray) 0 t172 t173 t174 t175 t176 t177 t178 t179 _ A1.out).mono ?_); rintro e w7 ⟨rfl, hb⟩; refine ⟨_, rfl, ?_⟩; have n0_ := Aside0.mk (below_step (by repeat (first | (with_reducible first | exact HB.out | apply below_alloc | apply pw_below_drewN | apply below_drew1) | exact HB.out)) hb); clear HB; have HB := n0_; clear n0_; (try clear hb); (try clear hb2); (try clear hk); (try clear hi)) | ((with_reducible refine gate_dst (N := 1) rfl ?_); refine box_event ?hg (N := 1) ?hd (cs := #[.int .i64 0, .int .i64 0, .int .i64 0, .int .u8 0, .int .i64 0, .string (⟨#[]⟩ : ByteArray)]) (t := 24) ?hr ?_; (case hd => rfl); (case hg => rfl); (case hr => first | (go_simp; done) | (go_simp; rfl)); intro gb180 hg w8 hbox hb; have n0_ := Aside0.mk (below_step (by repeat (first | (with_reducible first | exact HB.out | apply below_alloc | apply pw_below_drewN | apply below_drew1) | exact HB.out)) hb); have n1_ := Aside0.mk (hbox); have n2_ := Aside0.mk ((by rw [hg]; exact (below_size (by repeat (first | (with_reducible first | exact HB.out | apply below_alloc | apply pw_below_drewN | apply below_drew1) | exact HB.out))) : w.heap.size ≤ gb180)); have n3_ := n2_; clear HB; have HB := n0_; have BK180 := n1_; have GW180 := n2_; have GE180 := n3_; clear n0_ n1_ n2_ n3_; clear hb hbox hg; have hcz9_0 : w8.cell? ⟨gb180, 0, none⟩ = some (.int .i64 0) := (blk_cell BK180.out 0).trans rfl; have hcz9_1 : w8.cell? ⟨gb180, 1, none⟩ = some (.int .i64 0) := (blk_cell BK180.out 1).trans rfl; have hcz9_2 : w8.cell? ⟨gb180, 2, none⟩ = some (.int .i64 0) := (blk_cell BK180.out 2).trans rfl; have hcz9_3 : w8.cell? ⟨gb180, 3, none⟩ = some (.int .u8 0) := (blk_cell BK180.out 3).trans rfl; have hcz9_4 : w8.cell? ⟨gb180, 4, none⟩ = some (.int .i64 0) := (blk_cell BK180.out 4).trans rfl; have hcz9_5 : w8.cell? ⟨gb180, 5, none⟩ = some (.string (⟨#[]⟩ : ByteArray)) := (blk_cell BK180.out 5).trans rfl; have hfz9_0 := blk_frozen BK180.out 0; have hfz9_1 := blk_frozen BK180.out 1; have hfz9_2 := blk_frozen BK180.out 2; have hfz9_3 := blk_frozen BK180.out 3; have hfz9_4 := blk_frozen BK180.out 4; have hfz9_5 := blk_frozen BK180.out 5))
      go_ret
      exact ⟨by first | rfl | (simp [errW_none, errW_some] <;> rfl) | (simp [*, errW_none, errW_some] <;> rfl), by repeat (first | (with_reducible first | exact HB.out | apply below_alloc | apply pw_below_drewN | apply below_drew1 | refine below_set ?_ GE180.out) | exact HB.out)⟩
  · rw [if_neg c2] at H
    have c2b0 : (t179 == 0) = false := beq_eq_false_iff_ne.mpr c2
    have c2b1 : (t179 != 0) = true := bne_iff_ne.mpr c2
    obtain rfl := Option.some.inj H
    go_enter Try.func8, Try.ntmps8
    go_wp2_with (first | ((with_reducible refine gate_callee (f := 9) rfl ?_); refine goesL_ (some 5) rfl rfl Try.func9 (by kernel_rfl) rfl #[.string (⟨#[32, 45, 49, 50, 44]⟩ : ByteArray), .int .i64 0] rfl (by (try simp only [List.map_toArray, List.map_cons, List.map_nil]); first | done | rfl | (simp only [List.length_drop, List.length_take]; rfl)) ?_; (with_reducible refine (jsonlex_Next.calls k (⟨#[32, 45, 49, 50, 44]⟩ : ByteArray) 0 t172 t173 t174 t175 t176 t177 t178 t179 _ A1.out).mono ?_); rintro e w10 ⟨rfl, hb⟩; refine ⟨_, rfl, ?_⟩; have n0_ := Aside0.mk (below_step (by repeat (first | (with_reducible first | exact HB.out | apply below_alloc | apply pw_below_drewN | apply below_drew1) | exact HB.out)) hb); clear HB; have HB := n0_; clear n0_; (try clear hb); (try clear hb2); (try clear hk); (try clear hi)) | ((with_reducible refine gate_dst (N := 1) rfl ?_); refine box_event ?hg (N := 1) ?hd (cs := #[.int .i64 0, .int .i64 0, .int .i64 0, .int .u8 0, .int .i64 0, .string (⟨#[]⟩ : ByteArray)]) (t := 24) ?hr ?_; (case hd => rfl); (case hg => rfl); (case hr => first | (go_simp; done) | (go_simp; rfl)); intro gb180 hg w11 hbox hb; have n0_ := Aside0.mk (below_step (by repeat (first | (with_reducible first | exact HB.out | apply below_alloc | apply pw_below_drewN | apply below_drew1) | exact HB.out)) hb); have n1_ := Aside0.mk (hbox); have n2_ := Aside0.mk ((by rw [hg]; exact (below_size (by repeat (first | (with_reducible first | exact HB.out | apply below_alloc | apply pw_below_drewN | apply below_drew1) | exact HB.out))) : w.heap.size ≤ gb180)); have n3_ := n2_; clear HB; have HB := n0_; have BK180 := n1_; have GW180 := n2_; have GE180 := n3_; clear n0_ n1_ n2_ n3_; clear hb hbox hg; have hcz12_0 : w11.cell? ⟨gb180, 0, none⟩ = some (.int .i64 0) := (blk_cell BK180.out 0).trans rfl; have hcz12_1 : w11.cell? ⟨gb180, 1, none⟩ = some (.int .i64 0) := (blk_cell BK180.out 1).trans rfl; have hcz12_2 : w11.cell? ⟨gb180, 2, none⟩ = some (.int .i64 0) := (blk_cell BK180.out 2).trans rfl; have hcz12_3 : w11.cell? ⟨gb180, 3, none⟩ = some (.int .u8 0) := (blk_cell BK180.out 3).trans rfl; have hcz12_4 : w11.cell? ⟨gb180, 4, none⟩ = some (.int .i64 0) := (blk_cell BK180.out 4).trans rfl; have hcz12_5 : w11.cell? ⟨gb180, 5, none⟩ = some (.string (⟨#[]⟩ : ByteArray)) := (blk_cell BK180.out 5).trans rfl; have hfz12_0 := blk_frozen BK180.out 0; have hfz12_1 := blk_frozen BK180.out 1; have hfz12_2 := blk_frozen BK180.out 2; have hfz12_3 := blk_frozen BK180.out 3; have hfz12_4 := blk_frozen BK180.out 4; have hfz12_5 := blk_frozen BK180.out 5))
    go_ret
    exact ⟨by first | rfl | (simp [errW_none, errW_some] <;> rfl) | (simp [*, errW_none, errW_some] <;> rfl), by repeat (first | (with_reducible first | exact HB.out | apply below_alloc | apply pw_below_drewN | apply below_drew1 | refine below_set ?_ GE180.out) | exact HB.out)⟩

/-! ### ndjqlaw03_JsonlexCover: function 6 -/
mutual
def ndjqlaw03_JsonlexCover.l0 : Nat → ByteArray → Int → Int → Option (Bool)
 | 0, _, _, _ => none
 | k + 1, x0, x3, x4 => if x4 ≤ (wrap64 ((x0.size : Int) + 1)) then ((jsonlex_Next.f k x0 x3).bind fun bt182 => (if bt182.2.2.2.2.2.2.2 = 0 then (if bt182.2.1 < x3 then (ndjqlaw03_JsonlexCover.j1 k x0 x3 x4 bt182.2.2.2.2.2.2.1 true bt182.1 bt182.2.1 bt182.2.2.1 bt182.2.2.2.1 bt182.2.2.2.2.1 bt182.2.2.2.2.2.1) else (if bt182.2.2.1 < bt182.2.1 then (ndjqlaw03_JsonlexCover.j1 k x0 x3 x4 bt182.2.2.2.2.2.2.1 true bt182.1 bt182.2.1 bt182.2.2.1 bt182.2.2.2.1 bt182.2.2.2.2.1 bt182.2.2.2.2.2.1) else (if bt182.2.2.1 > (x0.size : Int) then (ndjqlaw03_JsonlexCover.j1 k x0 x3 x4 bt182.2.2.2.2.2.2.1 true bt182.1 bt182.2.1 bt182.2.2.1 bt182.2.2.2.1 bt182.2.2.2.2.1 bt182.2.2.2.2.2.1) else (ndjqlaw03_JsonlexCover.j1 k x0 x3 x4 bt182.2.2.2.2.2.2.1 (bt182.2.2.2.2.2.2.1 != bt182.2.2.1) bt182.1 bt182.2.1 bt182.2.2.1 bt182.2.2.2.1 bt182.2.2.2.2.1 bt182.2.2.2.2.2.1)))) else ((ndjqlaw03_awake.f k).bind fun t191 => (some t191)))) else (some false)
def ndjqlaw03_JsonlexCover.j1 : Nat → ByteArray → Int → Int → Int → Bool → Int → Int → Int → Int → Int → ByteArray → Option (Bool)
 | 0, _, _, _, _, _, _, _, _, _, _, _ => none
 | k + 1, x0, x3, x4, x6, x53, x191000, x191001, x191002, x191003, x191004, x191005 => if x53 = true then (some false) else (ndjqlaw03_JsonlexCover.l1 k x0 x4 x6 x3 x191000 x191001 x191002 x191003 x191004 x191005)
def ndjqlaw03_JsonlexCover.l1 : Nat → ByteArray → Int → Int → Int → Int → Int → Int → Int → Int → ByteArray → Option (Bool)
 | 0, _, _, _, _, _, _, _, _, _, _ => none
 | k + 1, x0, x4, x6, x8, x191000, x191001, x191002, x191003, x191004, x191005 => if x8 < x191001 then (if 0 ≤ x8 then (if x8 < (x0.size : Int) then ((jsonlex_Blank.f (bt x0 x8)).bind fun t192 => (if t192 = true then (ndjqlaw03_JsonlexCover.l1 k x0 x4 x6 (wrap64 (x8 + 1)) x191000 x191001 x191002 x191003 x191004 x191005) else (some false))) else (none)) else (none)) else (if x191000 = 0 then (if x191001 = (x0.size : Int) then (if x191002 = (x0.size : Int) then ((ndjqlaw03_awake.f k).bind fun t193 => (some t193)) else (some false)) else (some false)) else (if x191002 = x191001 then (some false) else (ndjqlaw03_JsonlexCover.l0 k x0 x6 (wrap64 (x4 + 1)))))
end
def ndjqlaw03_JsonlexCover.f (k : Nat) (a0 : ByteArray) : Option (Bool) := if (a0.size : Int) > 200 then ((ndjqlaw03_awake.f k).bind fun t181 => (some t181)) else (ndjqlaw03_JsonlexCover.l0 k a0 0 0)
theorem ndjqlaw03_JsonlexCover.mono_l : ∀ k, (∀ y0 y1 y2, LeO (ndjqlaw03_JsonlexCover.l0 k y0 y1 y2) (ndjqlaw03_JsonlexCover.l0 (k + 1) y0 y1 y2)) ∧ (∀ y0 y1 y2 y3 y4 y5 y6 y7 y8 y9 y10, LeO (ndjqlaw03_JsonlexCover.j1 k y0 y1 y2 y3 y4 y5 y6 y7 y8 y9 y10) (ndjqlaw03_JsonlexCover.j1 (k + 1) y0 y1 y2 y3 y4 y5 y6 y7 y8 y9 y10)) ∧ (∀ y0 y1 y2 y3 y4 y5 y6 y7 y8 y9, LeO (ndjqlaw03_JsonlexCover.l1 k y0 y1 y2 y3 y4 y5 y6 y7 y8 y9) (ndjqlaw03_JsonlexCover.l1 (k + 1) y0 y1 y2 y3 y4 y5 y6 y7 y8 y9))
 | 0 => ⟨fun _ _ _ r h => by simp [ndjqlaw03_JsonlexCover.l0] at h, fun _ _ _ _ _ _ _ _ _ _ _ r h => by simp [ndjqlaw03_JsonlexCover.j1] at h, fun _ _ _ _ _ _ _ _ _ _ r h => by simp [ndjqlaw03_JsonlexCover.l1] at h⟩
 | k + 1 => by
  obtain ⟨ih0, ih1, ih2⟩ := ndjqlaw03_JsonlexCover.mono_l k
  refine ⟨?_, ?_, ?_⟩
  ·intro y0 y1 y2
   unfold ndjqlaw03_JsonlexCover.l0
   repeat' first
   | (with_reducible exact ih0 _ _ _)
   | (with_reducible exact ih1 _ _ _ _ _ _ _ _ _ _ _)
   | (with_reducible exact ih2 _ _ _ _ _ _ _ _ _ _)
   | (with_reducible exact jsonlex_Next.mono _ _ _)
   | (with_reducible exact ndjqlaw03_awake.mono _)
   | (with_reducible exact LeO.refl _)
   | (with_reducible exact LeO.none _)
   | (with_reducible refine LeO.ite ?_ ?_)
   | (with_reducible refine LeO.bind ?_ (fun _ => ?_))
   | exact ih0 _ _ _
   | exact ih1 _ _ _ _ _ _ _ _ _ _ _
   | exact ih2 _ _ _ _ _ _ _ _ _ _
   | exact jsonlex_Next.mono _ _ _
   | exact ndjqlaw03_awake.mono _
   | exact LeO.none _
   | refine LeO.ite ?_ ?_
   | refine LeO.bind ?_ (fun _ => ?_)
  ·intro y0 y1 y2 y3 y4 y5 y6 y7 y8 y9 y10
   unfold ndjqlaw03_JsonlexCover.j1
   repeat' first
   | (with_reducible exact ih0 _ _ _)
   | (with_reducible exact ih1 _ _ _ _ _ _ _ _ _ _ _)
   | (with_reducible exact ih2 _ _ _ _ _ _ _ _ _ _)
   | (with_reducible exact jsonlex_Next.mono _ _ _)
   | (with_reducible exact ndjqlaw03_awake.mono _)
   | (with_reducible exact LeO.refl _)
   | (with_reducible exact LeO.none _)
   | (with_reducible refine LeO.ite ?_ ?_)
   | (with_reducible refine LeO.bind ?_ (fun _ => ?_))
   | exact ih0 _ _ _
   | exact ih1 _ _ _ _ _ _ _ _ _ _ _
   | exact ih2 _ _ _ _ _ _ _ _ _ _
   | exact jsonlex_Next.mono _ _ _
   | exact ndjqlaw03_awake.mono _
   | exact LeO.none _
   | refine LeO.ite ?_ ?_
   | refine LeO.bind ?_ (fun _ => ?_)
  ·intro y0 y1 y2 y3 y4 y5 y6 y7 y8 y9
   unfold ndjqlaw03_JsonlexCover.l1
   repeat' first
   | (with_reducible exact ih0 _ _ _)
   | (with_reducible exact ih1 _ _ _ _ _ _ _ _ _ _ _)
   | (with_reducible exact ih2 _ _ _ _ _ _ _ _ _ _)
   | (with_reducible exact jsonlex_Next.mono _ _ _)
   | (with_reducible exact ndjqlaw03_awake.mono _)
   | (with_reducible exact LeO.refl _)
   | (with_reducible exact LeO.none _)
   | (with_reducible refine LeO.ite ?_ ?_)
   | (with_reducible refine LeO.bind ?_ (fun _ => ?_))
   | exact ih0 _ _ _
   | exact ih1 _ _ _ _ _ _ _ _ _ _ _
   | exact ih2 _ _ _ _ _ _ _ _ _ _
   | exact jsonlex_Next.mono _ _ _
   | exact ndjqlaw03_awake.mono _
   | exact LeO.none _
   | refine LeO.ite ?_ ?_
   | refine LeO.bind ?_ (fun _ => ?_)
theorem ndjqlaw03_JsonlexCover.mono : ∀ a0 k, LeO (ndjqlaw03_JsonlexCover.f k a0) (ndjqlaw03_JsonlexCover.f (k + 1) a0) := by
 intro a0 k
 obtain ⟨ih0, ih1, ih2⟩ := ndjqlaw03_JsonlexCover.mono_l k
 unfold ndjqlaw03_JsonlexCover.f
 repeat' first
   | (with_reducible exact ih0 _ _ _)
   | (with_reducible exact ih1 _ _ _ _ _ _ _ _ _ _ _)
   | (with_reducible exact ih2 _ _ _ _ _ _ _ _ _ _)
   | (with_reducible exact jsonlex_Next.mono _ _ _)
   | (with_reducible exact ndjqlaw03_awake.mono _)
   | (with_reducible exact LeO.refl _)
   | (with_reducible exact LeO.none _)
   | (with_reducible refine LeO.ite ?_ ?_)
   | (with_reducible refine LeO.bind ?_ (fun _ => ?_))
   | exact ih0 _ _ _
   | exact ih1 _ _ _ _ _ _ _ _ _ _ _
   | exact ih2 _ _ _ _ _ _ _ _ _ _
   | exact jsonlex_Next.mono _ _ _
   | exact ndjqlaw03_awake.mono _
   | exact LeO.none _
   | refine LeO.ite ?_ ?_
   | refine LeO.bind ?_ (fun _ => ?_)
set_option maxHeartbeats 8000000 in
set_option maxRecDepth 100000 in
theorem ndjqlaw03_JsonlexCover.calls (k : Nat) (a0 : ByteArray) (r : Bool) (w : World) (h : ndjqlaw03_JsonlexCover.f k a0 = some r) :
  Calls Try.prog 6 #[.string a0] w fun e w' => e = .returned (.bool r) ∧ Below w.heap.size w w' := by
 have hu24 := Try.underlying24
 have HB := Aside0.mk (Below.refl w.heap.size w)
 have H : (if (a0.size : Int) > 200 then ((ndjqlaw03_awake.f k).bind fun t181 => (some t181)) else (ndjqlaw03_JsonlexCover.l0 k a0 0 0)) = some r := h
 clear h
 by_cases c2 : (a0.size : Int) > 200
 ·rw [if_pos c2] at H
  have c2b0 : decide (200 < (a0.size : Int)) = true := decide_eq_true c2
  have c2b1 : decide (200 < a0.size) = true := decide_eq_true (by omega)
  clear c2
  replace H := Option.bind_eq_some_iff.mp H
  obtain ⟨t181, A30, H⟩ := H
  replace H : (some t181) = some r := H
  have A3 := Aside0.mk A30
  clear A30
  obtain rfl := Option.some.inj H
  go_enter Try.func6, Try.ntmps6
  go_wp2_with (first | ((with_reducible refine gate_callee (f := 8) rfl ?_); refine goesL_ (some 12) rfl rfl Try.func8 (by kernel_rfl) rfl #[] rfl (by (try simp only [List.map_toArray, List.map_cons, List.map_nil]); first | done | rfl | (simp only [List.length_drop, List.length_take]; rfl)) ?_; (with_reducible refine (ndjqlaw03_awake.calls k  t181 _ A3.out).mono ?_); rintro e w4 ⟨rfl, hb⟩; refine ⟨_, rfl, ?_⟩; have n0_ := Aside0.mk (below_step (by repeat (first | (with_reducible first | exact HB.out | apply wA | apply wN | apply wD) | exact HB.out)) hb); clear HB; have HB := n0_; clear n0_; (try clear hb); (try clear hb2); (try clear hk); (try clear hi)))
  go_ret
  exact ⟨by first | rfl | (simp [errW_none, errW_some] <;> rfl) | (simp [*, errW_none, errW_some] <;> rfl), by repeat (first | (with_reducible first | exact HB.out | apply wA | apply wN | apply wD) | exact HB.out)⟩
 ·rw [if_neg c2] at H
  have c2b0 : decide (200 < (a0.size : Int)) = false := decide_eq_false c2
  have c2b1 : decide (200 < a0.size) = false := decide_eq_false (by omega)
  clear c2
  have H' := Aside0.mk H
  clear H
  go_enter Try.func6, Try.ntmps6
  go_wp2
  go_loopg [3, 4] k (fun kq v3 v4 w' => ∃ (x3_1 : Int) (x4_1 : Int), v3 = .int .i64 x3_1 ∧ v4 = .int .i64 x4_1 ∧ Aside0 (ndjqlaw03_JsonlexCover.l0 kq a0 x3_1 x4_1 = some r) ∧ Aside0 (kq ≤ k) ∧ Aside0 (Below w.heap.size w w'))
  case atStart => exact ⟨(0), (0), (by first | rfl | (simp; done) | (simp [*]; done)), (by first | rfl | (simp; done) | (simp [*]; done)), H', ⟨Nat.le_refl _⟩, ⟨by repeat (first | (with_reducible first | exact HB.out | apply wA | apply wN | apply wD) | exact HB.out)⟩⟩
  case round =>
   clear H'
   (try clear c2); (try clear c2b0); (try clear c2b1); (try clear p2)
   obtain ⟨x3_1, x4_1, rfl, rfl, HA, HK1, HB⟩ := hrel
   cases gk with
   | zero => exact absurd HA.out (by simp [ndjqlaw03_JsonlexCover.l0])
   | succ k1 =>
    have H := HA.out
    clear HA
    simp only [ndjqlaw03_JsonlexCover.l0] at H
    by_cases c5 : x4_1 ≤ (wrap64 ((a0.size : Int) + 1))
    ·rw [if_pos c5] at H
     have c5b0 : decide (x4_1 ≤ (wrap64 ((a0.size : Int) + 1))) = true := decide_eq_true c5
     clear c5
     replace H := Option.bind_eq_some_iff.mp H
     obtain ⟨⟨t182, t183, t184, t185, t186, t187, t188, t189⟩, A60, H⟩ := H
     replace H : (if t189 = 0 then (if t183 < x3_1 then (ndjqlaw03_JsonlexCover.j1 k1 a0 x3_1 x4_1 t188 true t182 t183 t184 t185 t186 t187) else (if t184 < t183 then (ndjqlaw03_JsonlexCover.j1 k1 a0 x3_1 x4_1 t188 true t182 t183 t184 t185 t186 t187) else (if t184 > (a0.size : Int) then (ndjqlaw03_JsonlexCover.j1 k1 a0 x3_1 x4_1 t188 true t182 t183 t184 t185 t186 t187) else (ndjqlaw03_JsonlexCover.j1 k1 a0 x3_1 x4_1 t188 (t188 != t184) t182 t183 t184 t185 t186 t187)))) else ((ndjqlaw03_awake.f k1).bind fun t191 => (some t191))) = some r := H
     have A6 := Aside0.mk A60
     clear A60
     by_cases c7 : t189 = 0
     ·rw [if_pos c7] at H
      have c7b0 : (t189 == 0) = true := beq_iff_eq.mpr c7
      have c7b1 : (t189 != 0) = false := bne_eq_false_iff_eq.mpr c7
      clear c7
      have HC8 := Aside0.mk H
      clear H
      go_upto_region 10 with (first | ((with_reducible refine gate_callee (f := 9) rfl ?_); refine goesL_ (some 23) rfl rfl Try.func9 (by kernel_rfl) rfl #[.string a0, .int .i64 x3_1] rfl (by (try simp only [List.map_toArray, List.map_cons, List.map_nil]); first | done | rfl | (simp only [List.length_drop, List.length_take]; rfl)) ?_; (with_reducible refine (jsonlex_Next.calls k1 a0 x3_1 t182 t183 t184 t185 t186 t187 t188 t189 _ A6.out).mono ?_); rintro e w9 ⟨rfl, hb⟩; refine ⟨_, rfl, ?_⟩; have n0_ := Aside0.mk (below_step (by repeat (first | (with_reducible first | exact HB.out | apply wA | apply wN | apply wD) | exact HB.out)) hb); clear HB; have HB := n0_; clear n0_; (try clear hb); (try clear hb2); (try clear hk); (try clear hi)) | ((with_reducible refine gate_dst (N := 5) rfl ?_); (try (refine gate_guard (by rfl) ?_; dsimp only)); refine box_event ?hg (N := 5) ?hd (cs := #[.int .i64 0, .int .i64 0, .int .i64 0, .int .u8 0, .int .i64 0, .string (⟨#[]⟩ : ByteArray)]) (t := 24) ?hr ?_; (case hd => rfl); (case hg => rfl); (case hr => first | (go_simp; done) | (go_simp; rfl)); intro gb190 hg w10 hbox hb; have n0_ := Aside0.mk (below_step (by repeat (first | (with_reducible first | exact HB.out | apply wA | apply wN | apply wD) | exact HB.out)) hb); have n1_ := Aside0.mk (hbox); have n2_ := Aside0.mk ((by rw [hg]; exact (below_size (by repeat (first | (with_reducible first | exact HB.out | apply wA | apply wN | apply wD) | exact HB.out))) : w.heap.size ≤ gb190)); have n3_ := n2_; clear HB; have HB := n0_; have BK190 := n1_; have GW190 := n2_; have GE190 := n3_; clear n0_ n1_ n2_ n3_; clear hb hbox hg; have hcz11_0 : w10.cell? ⟨gb190, 0, none⟩ = some (.int .i64 0) := (blk_cell BK190.out 0).trans rfl; have hcz11_1 : w10.cell? ⟨gb190, 1, none⟩ = some (.int .i64 0) := (blk_cell BK190.out 1).trans rfl; have hcz11_2 : w10.cell? ⟨gb190, 2, none⟩ = some (.int .i64 0) := (blk_cell BK190.out 2).trans rfl; have hcz11_3 : w10.cell? ⟨gb190, 3, none⟩ = some (.int .u8 0) := (blk_cell BK190.out 3).trans rfl; have hcz11_4 : w10.cell? ⟨gb190, 4, none⟩ = some (.int .i64 0) := (blk_cell BK190.out 4).trans rfl; have hcz11_5 : w10.cell? ⟨gb190, 5, none⟩ = some (.string (⟨#[]⟩ : ByteArray)) := (blk_cell BK190.out 5).trans rfl; have hfz11_0 := blk_frozen BK190.out 0; have hfz11_1 := blk_frozen BK190.out 1; have hfz11_2 := blk_frozen BK190.out 2; have hfz11_3 := blk_frozen BK190.out 3; have hfz11_4 := blk_frozen BK190.out 4; have hfz11_5 := blk_frozen BK190.out 5))
      (try simp only [Act.put, List.setIfInBounds_toArray, List.set_cons_zero, List.set_cons_succ])
      go_cut [53] (fun v53 wc => ∃ (kq : Nat) (x53_7 : Bool), v53 = .bool x53_7 ∧ Aside0 (ndjqlaw03_JsonlexCover.j1 kq a0 x3_1 x4_1 t188 x53_7 t182 t183 t184 t185 t186 t187 = some r) ∧ Aside0 (kq ≤ k1) ∧ Aside0 (wc.heap[gb190]? = some (.cells #[.int .i64 t182, .int .i64 t183, .int .i64 t184, .int .u8 t185, .int .i64 t186, .string t187] 24 (0, 0))) ∧ Aside0 (Below w.heap.size w wc))
      case first =>
       have H := HC8.out
       clear HC8
       by_cases c12 : t183 < x3_1
       ·rw [if_pos c12] at H
        have c12b0 : decide (t183 < x3_1) = true := decide_eq_true c12
        clear c12
        (first | rw [c12b0] | (simp only [i64_w, i32_w]; rw [c12b0]) | skip)
        have H' := Aside0.mk H
        clear H; have hcz13_0 : w10.cell? ⟨gb190, 0, none⟩ = some (.int .i64 0) := (blk_cell BK190.out 0).trans rfl; have hcz13_1 : w10.cell? ⟨gb190, 1, none⟩ = some (.int .i64 0) := (blk_cell BK190.out 1).trans rfl; have hcz13_2 : w10.cell? ⟨gb190, 2, none⟩ = some (.int .i64 0) := (blk_cell BK190.out 2).trans rfl; have hcz13_3 : w10.cell? ⟨gb190, 3, none⟩ = some (.int .u8 0) := (blk_cell BK190.out 3).trans rfl; have hcz13_4 : w10.cell? ⟨gb190, 4, none⟩ = some (.int .i64 0) := (blk_cell BK190.out 4).trans rfl; have hcz13_5 : w10.cell? ⟨gb190, 5, none⟩ = some (.string (⟨#[]⟩ : ByteArray)) := (blk_cell BK190.out 5).trans rfl; have hfz13_0 := blk_frozen BK190.out 0; have hfz13_1 := blk_frozen BK190.out 1; have hfz13_2 := blk_frozen BK190.out 2; have hfz13_3 := blk_frozen BK190.out 3; have hfz13_4 := blk_frozen BK190.out 4; have hfz13_5 := blk_frozen BK190.out 5
        go_wp2
        go_meet
        case rel => exact ⟨_, (true), (by first | rfl | (simp; done) | (simp [*]; done)), H', ⟨by have := HK1.out; first | omega | exact Nat.le_refl _⟩, ⟨by (with_reducible repeat (first | refine bN ?_ _ | refine bD ?_ | refine bA ?_ _)); refine blk_put (cs := #[.int .i64 t182, .int .i64 t183, .int .i64 t184, .int .u8 t185, .int .i64 t186, .string (⟨#[]⟩ : ByteArray)]) ?_ 5 _ rfl; (with_reducible repeat (first | refine bN ?_ _ | refine bD ?_ | refine bA ?_ _)); refine blk_put (cs := #[.int .i64 t182, .int .i64 t183, .int .i64 t184, .int .u8 t185, .int .i64 0, .string (⟨#[]⟩ : ByteArray)]) ?_ 4 _ rfl; (with_reducible repeat (first | refine bN ?_ _ | refine bD ?_ | refine bA ?_ _)); refine blk_put (cs := #[.int .i64 t182, .int .i64 t183, .int .i64 t184, .int .u8 0, .int .i64 0, .string (⟨#[]⟩ : ByteArray)]) ?_ 3 _ rfl; (with_reducible repeat (first | refine bN ?_ _ | refine bD ?_ | refine bA ?_ _)); refine blk_put (cs := #[.int .i64 t182, .int .i64 t183, .int .i64 0, .int .u8 0, .int .i64 0, .string (⟨#[]⟩ : ByteArray)]) ?_ 2 _ rfl; (with_reducible repeat (first | refine bN ?_ _ | refine bD ?_ | refine bA ?_ _)); refine blk_put (cs := #[.int .i64 t182, .int .i64 0, .int .i64 0, .int .u8 0, .int .i64 0, .string (⟨#[]⟩ : ByteArray)]) ?_ 1 _ rfl; (with_reducible repeat (first | refine bN ?_ _ | refine bD ?_ | refine bA ?_ _)); refine blk_put (cs := #[.int .i64 0, .int .i64 0, .int .i64 0, .int .u8 0, .int .i64 0, .string (⟨#[]⟩ : ByteArray)]) ?_ 0 _ rfl; (with_reducible repeat (first | refine bN ?_ _ | refine bD ?_ | refine bA ?_ _)); exact BK190.out⟩, ⟨by repeat (first | (with_reducible first | exact HB.out | apply wA | apply wN | apply wD | refine wS ?_ GE190.out) | exact HB.out)⟩⟩
       ·rw [if_neg c12] at H
        have c12b0 : decide (t183 < x3_1) = false := decide_eq_false c12
        clear c12
        (first | rw [c12b0] | (simp only [i64_w, i32_w]; rw [c12b0]) | skip)
        by_cases c14 : t184 < t183
        ·rw [if_pos c14] at H
         have c14b0 : decide (t184 < t183) = true := decide_eq_true c14
         clear c14
         have H' := Aside0.mk H
         clear H; have hcz15_0 : w10.cell? ⟨gb190, 0, none⟩ = some (.int .i64 0) := (blk_cell BK190.out 0).trans rfl; have hcz15_1 : w10.cell? ⟨gb190, 1, none⟩ = some (.int .i64 0) := (blk_cell BK190.out 1).trans rfl; have hcz15_2 : w10.cell? ⟨gb190, 2, none⟩ = some (.int .i64 0) := (blk_cell BK190.out 2).trans rfl; have hcz15_3 : w10.cell? ⟨gb190, 3, none⟩ = some (.int .u8 0) := (blk_cell BK190.out 3).trans rfl; have hcz15_4 : w10.cell? ⟨gb190, 4, none⟩ = some (.int .i64 0) := (blk_cell BK190.out 4).trans rfl; have hcz15_5 : w10.cell? ⟨gb190, 5, none⟩ = some (.string (⟨#[]⟩ : ByteArray)) := (blk_cell BK190.out 5).trans rfl; have hfz15_0 := blk_frozen BK190.out 0; have hfz15_1 := blk_frozen BK190.out 1; have hfz15_2 := blk_frozen BK190.out 2; have hfz15_3 := blk_frozen BK190.out 3; have hfz15_4 := blk_frozen BK190.out 4; have hfz15_5 := blk_frozen BK190.out 5
         go_wp2
         go_meet
         case rel => exact ⟨_, (true), (by first | rfl | (simp; done) | (simp [*]; done)), H', ⟨by have := HK1.out; first | omega | exact Nat.le_refl _⟩, ⟨by (with_reducible repeat (first | refine bN ?_ _ | refine bD ?_ | refine bA ?_ _)); refine blk_put (cs := #[.int .i64 t182, .int .i64 t183, .int .i64 t184, .int .u8 t185, .int .i64 t186, .string (⟨#[]⟩ : ByteArray)]) ?_ 5 _ rfl; (with_reducible repeat (first | refine bN ?_ _ | refine bD ?_ | refine bA ?_ _)); refine blk_put (cs := #[.int .i64 t182, .int .i64 t183, .int .i64 t184, .int .u8 t185, .int .i64 0, .string (⟨#[]⟩ : ByteArray)]) ?_ 4 _ rfl; (with_reducible repeat (first | refine bN ?_ _ | refine bD ?_ | refine bA ?_ _)); refine blk_put (cs := #[.int .i64 t182, .int .i64 t183, .int .i64 t184, .int .u8 0, .int .i64 0, .string (⟨#[]⟩ : ByteArray)]) ?_ 3 _ rfl; (with_reducible repeat (first | refine bN ?_ _ | refine bD ?_ | refine bA ?_ _)); refine blk_put (cs := #[.int .i64 t182, .int .i64 t183, .int .i64 0, .int .u8 0, .int .i64 0, .string (⟨#[]⟩ : ByteArray)]) ?_ 2 _ rfl; (with_reducible repeat (first | refine bN ?_ _ | refine bD ?_ | refine bA ?_ _)); refine blk_put (cs := #[.int .i64 t182, .int .i64 0, .int .i64 0, .int .u8 0, .int .i64 0, .string (⟨#[]⟩ : ByteArray)]) ?_ 1 _ rfl; (with_reducible repeat (first | refine bN ?_ _ | refine bD ?_ | refine bA ?_ _)); refine blk_put (cs := #[.int .i64 0, .int .i64 0, .int .i64 0, .int .u8 0, .int .i64 0, .string (⟨#[]⟩ : ByteArray)]) ?_ 0 _ rfl; (with_reducible repeat (first | refine bN ?_ _ | refine bD ?_ | refine bA ?_ _)); exact BK190.out⟩, ⟨by repeat (first | (with_reducible first | exact HB.out | apply wA | apply wN | apply wD | refine wS ?_ GE190.out) | exact HB.out)⟩⟩
        ·rw [if_neg c14] at H
         have c14b0 : decide (t184 < t183) = false := decide_eq_false c14
         clear c14
         by_cases c16 : t184 > (a0.size : Int)
         ·rw [if_pos c16] at H
          have c16b0 : decide ((a0.size : Int) < t184) = true := decide_eq_true c16
          clear c16
          have H' := Aside0.mk H
          clear H; have hcz17_0 : w10.cell? ⟨gb190, 0, none⟩ = some (.int .i64 0) := (blk_cell BK190.out 0).trans rfl; have hcz17_1 : w10.cell? ⟨gb190, 1, none⟩ = some (.int .i64 0) := (blk_cell BK190.out 1).trans rfl; have hcz17_2 : w10.cell? ⟨gb190, 2, none⟩ = some (.int .i64 0) := (blk_cell BK190.out 2).trans rfl; have hcz17_3 : w10.cell? ⟨gb190, 3, none⟩ = some (.int .u8 0) := (blk_cell BK190.out 3).trans rfl; have hcz17_4 : w10.cell? ⟨gb190, 4, none⟩ = some (.int .i64 0) := (blk_cell BK190.out 4).trans rfl; have hcz17_5 : w10.cell? ⟨gb190, 5, none⟩ = some (.string (⟨#[]⟩ : ByteArray)) := (blk_cell BK190.out 5).trans rfl; have hfz17_0 := blk_frozen BK190.out 0; have hfz17_1 := blk_frozen BK190.out 1; have hfz17_2 := blk_frozen BK190.out 2; have hfz17_3 := blk_frozen BK190.out 3; have hfz17_4 := blk_frozen BK190.out 4; have hfz17_5 := blk_frozen BK190.out 5
          go_wp2
          go_meet
          case rel => exact ⟨_, (true), (by first | rfl | (simp; done) | (simp [*]; done)), H', ⟨by have := HK1.out; first | omega | exact Nat.le_refl _⟩, ⟨by (with_reducible repeat (first | refine bN ?_ _ | refine bD ?_ | refine bA ?_ _)); refine blk_put (cs := #[.int .i64 t182, .int .i64 t183, .int .i64 t184, .int .u8 t185, .int .i64 t186, .string (⟨#[]⟩ : ByteArray)]) ?_ 5 _ rfl; (with_reducible repeat (first | refine bN ?_ _ | refine bD ?_ | refine bA ?_ _)); refine blk_put (cs := #[.int .i64 t182, .int .i64 t183, .int .i64 t184, .int .u8 t185, .int .i64 0, .string (⟨#[]⟩ : ByteArray)]) ?_ 4 _ rfl; (with_reducible repeat (first | refine bN ?_ _ | refine bD ?_ | refine bA ?_ _)); refine blk_put (cs := #[.int .i64 t182, .int .i64 t183, .int .i64 t184, .int .u8 0, .int .i64 0, .string (⟨#[]⟩ : ByteArray)]) ?_ 3 _ rfl; (with_reducible repeat (first | refine bN ?_ _ | refine bD ?_ | refine bA ?_ _)); refine blk_put (cs := #[.int .i64 t182, .int .i64 t183, .int .i64 0, .int .u8 0, .int .i64 0, .string (⟨#[]⟩ : ByteArray)]) ?_ 2 _ rfl; (with_reducible repeat (first | refine bN ?_ _ | refine bD ?_ | refine bA ?_ _)); refine blk_put (cs := #[.int .i64 t182, .int .i64 0, .int .i64 0, .int .u8 0, .int .i64 0, .string (⟨#[]⟩ : ByteArray)]) ?_ 1 _ rfl; (with_reducible repeat (first | refine bN ?_ _ | refine bD ?_ | refine bA ?_ _)); refine blk_put (cs := #[.int .i64 0, .int .i64 0, .int .i64 0, .int .u8 0, .int .i64 0, .string (⟨#[]⟩ : ByteArray)]) ?_ 0 _ rfl; (with_reducible repeat (first | refine bN ?_ _ | refine bD ?_ | refine bA ?_ _)); exact BK190.out⟩, ⟨by repeat (first | (with_reducible first | exact HB.out | apply wA | apply wN | apply wD | refine wS ?_ GE190.out) | exact HB.out)⟩⟩
         ·rw [if_neg c16] at H
          have c16b0 : decide ((a0.size : Int) < t184) = false := decide_eq_false c16
          clear c16
          have H' := Aside0.mk H
          clear H; have hcz18_0 : w10.cell? ⟨gb190, 0, none⟩ = some (.int .i64 0) := (blk_cell BK190.out 0).trans rfl; have hcz18_1 : w10.cell? ⟨gb190, 1, none⟩ = some (.int .i64 0) := (blk_cell BK190.out 1).trans rfl; have hcz18_2 : w10.cell? ⟨gb190, 2, none⟩ = some (.int .i64 0) := (blk_cell BK190.out 2).trans rfl; have hcz18_3 : w10.cell? ⟨gb190, 3, none⟩ = some (.int .u8 0) := (blk_cell BK190.out 3).trans rfl; have hcz18_4 : w10.cell? ⟨gb190, 4, none⟩ = some (.int .i64 0) := (blk_cell BK190.out 4).trans rfl; have hcz18_5 : w10.cell? ⟨gb190, 5, none⟩ = some (.string (⟨#[]⟩ : ByteArray)) := (blk_cell BK190.out 5).trans rfl; have hfz18_0 := blk_frozen BK190.out 0; have hfz18_1 := blk_frozen BK190.out 1; have hfz18_2 := blk_frozen BK190.out 2; have hfz18_3 := blk_frozen BK190.out 3; have hfz18_4 := blk_frozen BK190.out 4; have hfz18_5 := blk_frozen BK190.out 5
          go_wp2
          go_meet
          case rel => exact ⟨_, ((t188 != t184)), (by first | rfl | (simp; done) | (simp [*]; done)), H', ⟨by have := HK1.out; first | omega | exact Nat.le_refl _⟩, ⟨by (with_reducible repeat (first | refine bN ?_ _ | refine bD ?_ | refine bA ?_ _)); refine blk_put (cs := #[.int .i64 t182, .int .i64 t183, .int .i64 t184, .int .u8 t185, .int .i64 t186, .string (⟨#[]⟩ : ByteArray)]) ?_ 5 _ rfl; (with_reducible repeat (first | refine bN ?_ _ | refine bD ?_ | refine bA ?_ _)); refine blk_put (cs := #[.int .i64 t182, .int .i64 t183, .int .i64 t184, .int .u8 t185, .int .i64 0, .string (⟨#[]⟩ : ByteArray)]) ?_ 4 _ rfl; (with_reducible repeat (first | refine bN ?_ _ | refine bD ?_ | refine bA ?_ _)); refine blk_put (cs := #[.int .i64 t182, .int .i64 t183, .int .i64 t184, .int .u8 0, .int .i64 0, .string (⟨#[]⟩ : ByteArray)]) ?_ 3 _ rfl; (with_reducible repeat (first | refine bN ?_ _ | refine bD ?_ | refine bA ?_ _)); refine blk_put (cs := #[.int .i64 t182, .int .i64 t183, .int .i64 0, .int .u8 0, .int .i64 0, .string (⟨#[]⟩ : ByteArray)]) ?_ 2 _ rfl; (with_reducible repeat (first | refine bN ?_ _ | refine bD ?_ | refine bA ?_ _)); refine blk_put (cs := #[.int .i64 t182, .int .i64 0, .int .i64 0, .int .u8 0, .int .i64 0, .string (⟨#[]⟩ : ByteArray)]) ?_ 1 _ rfl; (with_reducible repeat (first | refine bN ?_ _ | refine bD ?_ | refine bA ?_ _)); refine blk_put (cs := #[.int .i64 0, .int .i64 0, .int .i64 0, .int .u8 0, .int .i64 0, .string (⟨#[]⟩ : ByteArray)]) ?_ 0 _ rfl; (with_reducible repeat (first | refine bN ?_ _ | refine bD ?_ | refine bA ?_ _)); exact BK190.out⟩, ⟨by repeat (first | (with_reducible first | exact HB.out | apply wA | apply wN | apply wD | refine wS ?_ GE190.out) | exact HB.out)⟩⟩
      case rest =>
       clear HC8
       (try clear c1); (try clear c5); (try clear c5b0); (try clear c6); (try clear p6); (try clear c7); (try clear c7b0); (try clear c7b1); (try clear c8); (try clear c9); (try clear c12); (try clear c12b0); (try clear c14); (try clear c14b0); (try clear c16); (try clear c16b0); (try clear hcz11_0); (try clear hcz11_1); (try clear hcz11_2); (try clear hcz11_3); (try clear hcz11_4); (try clear hcz11_5); (try clear hcz13_0); (try clear hcz13_1); (try clear hcz13_2); (try clear hcz13_3); (try clear hcz13_4); (try clear hcz13_5); (try clear hcz15_0); (try clear hcz15_1); (try clear hcz15_2); (try clear hcz15_3); (try clear hcz15_4); (try clear hcz15_5); (try clear hcz17_0); (try clear hcz17_1); (try clear hcz17_2); (try clear hcz17_3); (try clear hcz17_4); (try clear hcz17_5); (try clear hcz18_0); (try clear hcz18_1); (try clear hcz18_2); (try clear hcz18_3); (try clear hcz18_4); (try clear hcz18_5); (try clear hfz11_0); (try clear hfz11_1); (try clear hfz11_2); (try clear hfz11_3); (try clear hfz11_4); (try clear hfz11_5); (try clear hfz13_0); (try clear hfz13_1); (try clear hfz13_2); (try clear hfz13_3); (try clear hfz13_4); (try clear hfz13_5); (try clear hfz15_0); (try clear hfz15_1); (try clear hfz15_2); (try clear hfz15_3); (try clear hfz15_4); (try clear hfz15_5); (try clear hfz17_0); (try clear hfz17_1); (try clear hfz17_2); (try clear hfz17_3); (try clear hfz17_4); (try clear hfz17_5); (try clear hfz18_0); (try clear hfz18_1); (try clear hfz18_2); (try clear hfz18_3); (try clear hfz18_4); (try clear hfz18_5)
       obtain ⟨kq, x53_7, rfl, HA, HJ7, BK190, HB⟩ := hcut
       cases kq with
       | zero => exact absurd HA.out (by simp [ndjqlaw03_JsonlexCover.j1])
       | succ kj7 =>
        have H := HA.out
        clear HA
        simp only [ndjqlaw03_JsonlexCover.j1] at H
        by_cases c19 : x53_7 = true
        ·subst c19
         have H1 : (some false) = some r := by rw [if_pos rfl] at H; exact H
         clear H; have H := H1; clear H1
         obtain rfl := Option.some.inj H
         go_wp2
         go_ret
         exact ⟨by first | rfl | (simp [errW_none, errW_some] <;> rfl) | (simp [*, errW_none, errW_some] <;> rfl), by repeat (first | (with_reducible first | exact HB.out | apply wA | apply wN | apply wD | refine wS ?_ GE190.out) | exact HB.out)⟩
        ·replace c19 := Bool.eq_false_iff.mpr c19
         subst c19
         have H1 : (ndjqlaw03_JsonlexCover.l1 kj7 a0 x4_1 t188 x3_1 t182 t183 t184 t185 t186 t187) = some r := by rw [if_neg (show ¬ (false = true) by decide)] at H; exact H
         clear H; have H := H1; clear H1
         have H' := Aside0.mk H
         clear H
         go_wp2
         go_loopg [8] kj7 (fun kq v8 w' => ∃ (x8_3 : Int), v8 = .int .i64 x8_3 ∧ Aside0 (ndjqlaw03_JsonlexCover.l1 kq a0 x4_1 t188 x8_3 t182 t183 t184 t185 t186 t187 = some r) ∧ Aside0 (kq ≤ kj7) ∧ Aside0 (w'.heap[gb190]? = some (.cells #[.int .i64 t182, .int .i64 t183, .int .i64 t184, .int .u8 t185, .int .i64 t186, .string t187] 24 (0, 0))) ∧ Aside0 (Below w.heap.size w w'))
         case atStart => exact ⟨(x3_1), (by first | rfl | (simp; done) | (simp [*]; done)), H', ⟨Nat.le_refl _⟩, ⟨by (with_reducible repeat (first | refine bN ?_ _ | refine bD ?_ | refine bA ?_ _)); exact BK190.out⟩, ⟨by repeat (first | (with_reducible first | exact HB.out | apply wA | apply wN | apply wD | refine wS ?_ GE190.out) | exact HB.out)⟩⟩
         case round =>
          clear H'
          (try clear c19)
          obtain ⟨x8_3, rfl, HA, HK3, BK190, HB⟩ := hrel
          cases gk with
          | zero => exact absurd HA.out (by simp [ndjqlaw03_JsonlexCover.l1])
          | succ k3 =>
           have H := HA.out
           clear HA
           simp only [ndjqlaw03_JsonlexCover.l1] at H
           by_cases c20 : x8_3 < t183
           ·rw [if_pos c20] at H
            have c20b0 : decide (x8_3 < t183) = true := decide_eq_true c20
            clear c20
            by_cases c21 : 0 ≤ x8_3
            ·rw [if_pos c21] at H
             have c21b0 : decide (0 ≤ x8_3) = true := decide_eq_true c21
             clear c21
             by_cases c22 : x8_3 < (a0.size : Int)
             ·rw [if_pos c22] at H
              have c22b0 : decide (x8_3 < (a0.size : Int)) = true := decide_eq_true c22
              clear c22
              replace H := Option.bind_eq_some_iff.mp H
              obtain ⟨t192, A240, H⟩ := H
              replace H : (if t192 = true then (ndjqlaw03_JsonlexCover.l1 k3 a0 x4_1 t188 (wrap64 (x8_3 + 1)) t182 t183 t184 t185 t186 t187) else (some false)) = some r := H
              have A24 := Aside0.mk A240
              clear A240
              by_cases c25 : t192 = true
              ·subst c25
               have H1 : (ndjqlaw03_JsonlexCover.l1 k3 a0 x4_1 t188 (wrap64 (x8_3 + 1)) t182 t183 t184 t185 t186 t187) = some r := by rw [if_pos rfl] at H; exact H
               clear H; have H := H1; clear H1
               have H' := Aside0.mk H
               clear H; have hcz26_0 : wr.cell? ⟨gb190, 0, none⟩ = some (.int .i64 t182) := (blk_cell BK190.out 0).trans rfl; have hcz26_1 : wr.cell? ⟨gb190, 1, none⟩ = some (.int .i64 t183) := (blk_cell BK190.out 1).trans rfl; have hcz26_2 : wr.cell? ⟨gb190, 2, none⟩ = some (.int .i64 t184) := (blk_cell BK190.out 2).trans rfl; have hcz26_3 : wr.cell? ⟨gb190, 3, none⟩ = some (.int .u8 t185) := (blk_cell BK190.out 3).trans rfl; have hcz26_4 : wr.cell? ⟨gb190, 4, none⟩ = some (.int .i64 t186) := (blk_cell BK190.out 4).trans rfl; have hcz26_5 : wr.cell? ⟨gb190, 5, none⟩ = some (.string t187) := (blk_cell BK190.out 5).trans rfl; have hfz26_0 := blk_frozen BK190.out 0; have hfz26_1 := blk_frozen BK190.out 1; have hfz26_2 := blk_frozen BK190.out 2; have hfz26_3 := blk_frozen BK190.out 3; have hfz26_4 := blk_frozen BK190.out 4; have hfz26_5 := blk_frozen BK190.out 5
               have p23 : 0 ≤ (x8_3 : Int) := of_decide_eq_true (by first | (with_reducible assumption) | assumption)
               have q23 : x8_3 < (a0.size : Int) := of_decide_eq_true (by first | (with_reducible assumption) | assumption)
               have hx23 := bt_at a0 x8_3
               replace p23 := eq_true p23; replace q23 := eq_true q23
               go_wp2_with (first | ((with_reducible refine gate_callee (f := 11) rfl ?_); refine goesL_ (some 64) rfl rfl Try.func11 (by kernel_rfl) rfl #[.int .u8 (bt a0 x8_3)] rfl (by (try simp only [List.map_toArray, List.map_cons, List.map_nil]); first | done | rfl | (simp only [List.length_drop, List.length_take]; rfl)) ?_; (with_reducible refine (jsonlex_Blank.calls (bt a0 x8_3) true _ A24.out).mono ?_); rintro e w' ⟨rfl, ⟨nd, rfl⟩⟩; refine ⟨_, rfl, ?_⟩))
               go_roundg k3
               case measure => have := HK1.out; have := HJ7.out; have := HK3.out; omega
               case rel => exact ⟨(wrap64 (x8_3 + 1)), (by first | rfl | (simp; done) | (simp [*]; done)), H', ⟨by have := HK1.out; have := HJ7.out; have := HK3.out; omega⟩, ⟨by (with_reducible repeat (first | refine bN ?_ _ | refine bD ?_ | refine bA ?_ _)); exact BK190.out⟩, ⟨by repeat (first | (with_reducible first | exact HB.out | apply wA | apply wN | apply wD | refine wS ?_ GE190.out) | exact HB.out)⟩⟩
              ·replace c25 := Bool.eq_false_iff.mpr c25
               subst c25
               have H1 : (some false) = some r := by rw [if_neg (show ¬ (false = true) by decide)] at H; exact H
               clear H; have H := H1; clear H1
               obtain rfl := Option.some.inj H
               have hcz27_0 : wr.cell? ⟨gb190, 0, none⟩ = some (.int .i64 t182) := (blk_cell BK190.out 0).trans rfl; have hcz27_1 : wr.cell? ⟨gb190, 1, none⟩ = some (.int .i64 t183) := (blk_cell BK190.out 1).trans rfl; have hcz27_2 : wr.cell? ⟨gb190, 2, none⟩ = some (.int .i64 t184) := (blk_cell BK190.out 2).trans rfl; have hcz27_3 : wr.cell? ⟨gb190, 3, none⟩ = some (.int .u8 t185) := (blk_cell BK190.out 3).trans rfl; have hcz27_4 : wr.cell? ⟨gb190, 4, none⟩ = some (.int .i64 t186) := (blk_cell BK190.out 4).trans rfl; have hcz27_5 : wr.cell? ⟨gb190, 5, none⟩ = some (.string t187) := (blk_cell BK190.out 5).trans rfl; have hfz27_0 := blk_frozen BK190.out 0; have hfz27_1 := blk_frozen BK190.out 1; have hfz27_2 := blk_frozen BK190.out 2; have hfz27_3 := blk_frozen BK190.out 3; have hfz27_4 := blk_frozen BK190.out 4; have hfz27_5 := blk_frozen BK190.out 5
               have p23 : 0 ≤ (x8_3 : Int) := of_decide_eq_true (by first | (with_reducible assumption) | assumption)
               have q23 : x8_3 < (a0.size : Int) := of_decide_eq_true (by first | (with_reducible assumption) | assumption)
               have hx23 := bt_at a0 x8_3
               replace p23 := eq_true p23; replace q23 := eq_true q23
               go_wp2_with (first | ((with_reducible refine gate_callee (f := 11) rfl ?_); refine goesL_ (some 64) rfl rfl Try.func11 (by kernel_rfl) rfl #[.int .u8 (bt a0 x8_3)] rfl (by (try simp only [List.map_toArray, List.map_cons, List.map_nil]); first | done | rfl | (simp only [List.length_drop, List.length_take]; rfl)) ?_; (with_reducible refine (jsonlex_Blank.calls (bt a0 x8_3) false _ A24.out).mono ?_); rintro e w' ⟨rfl, ⟨nd, rfl⟩⟩; refine ⟨_, rfl, ?_⟩))
               go_ret
               exact ⟨by first | rfl | (simp [errW_none, errW_some] <;> rfl) | (simp [*, errW_none, errW_some] <;> rfl), by repeat (first | (with_reducible first | exact HB.out | apply wA | apply wN | apply wD | refine wS ?_ GE190.out) | exact HB.out)⟩
             ·rw [if_neg c22] at H
              exact absurd H (by simp)
            ·rw [if_neg c21] at H
             exact absurd H (by simp)
           ·rw [if_neg c20] at H
            have c20b0 : decide (x8_3 < t183) = false := decide_eq_false c20
            clear c20
            by_cases c28 : t182 = 0
            ·rw [if_pos c28] at H
             have c28b0 : (t182 == 0) = true := beq_iff_eq.mpr c28
             have c28b1 : (t182 != 0) = false := bne_eq_false_iff_eq.mpr c28
             clear c28
             by_cases c29 : t183 = (a0.size : Int)
             ·rw [if_pos c29] at H
              have c29b0 : (t183 == (a0.size : Int)) = true := beq_iff_eq.mpr c29
              have c29b1 : (t183 != (a0.size : Int)) = false := bne_eq_false_iff_eq.mpr c29
              clear c29
              by_cases c30 : t184 = (a0.size : Int)
              ·rw [if_pos c30] at H
               have c30b0 : (t184 == (a0.size : Int)) = true := beq_iff_eq.mpr c30
               have c30b1 : (t184 != (a0.size : Int)) = false := bne_eq_false_iff_eq.mpr c30
               clear c30
               replace H := Option.bind_eq_some_iff.mp H
               obtain ⟨t193, A310, H⟩ := H
               replace H : (some t193) = some r := H
               have A31 := Aside0.mk A310
               clear A310
               obtain rfl := Option.some.inj H
               have hcz32_0 : wr.cell? ⟨gb190, 0, none⟩ = some (.int .i64 t182) := (blk_cell BK190.out 0).trans rfl; have hcz32_1 : wr.cell? ⟨gb190, 1, none⟩ = some (.int .i64 t183) := (blk_cell BK190.out 1).trans rfl; have hcz32_2 : wr.cell? ⟨gb190, 2, none⟩ = some (.int .i64 t184) := (blk_cell BK190.out 2).trans rfl; have hcz32_3 : wr.cell? ⟨gb190, 3, none⟩ = some (.int .u8 t185) := (blk_cell BK190.out 3).trans rfl; have hcz32_4 : wr.cell? ⟨gb190, 4, none⟩ = some (.int .i64 t186) := (blk_cell BK190.out 4).trans rfl; have hcz32_5 : wr.cell? ⟨gb190, 5, none⟩ = some (.string t187) := (blk_cell BK190.out 5).trans rfl; have hfz32_0 := blk_frozen BK190.out 0; have hfz32_1 := blk_frozen BK190.out 1; have hfz32_2 := blk_frozen BK190.out 2; have hfz32_3 := blk_frozen BK190.out 3; have hfz32_4 := blk_frozen BK190.out 4; have hfz32_5 := blk_frozen BK190.out 5
               go_wp2_with (first | (go_at_call 8; (with_reducible refine (ndjqlaw03_awake.calls k3  t193 _ A31.out).mono ?_); rintro e w33 ⟨rfl, hb⟩; have n0_ := Aside0.mk (blk_below (g := gb190) (o := .cells #[.int .i64 t182, .int .i64 t183, .int .i64 t184, .int .u8 t185, .int .i64 t186, .string t187] 24 (0, 0)) (by (with_reducible repeat (first | refine bN ?_ _ | refine bD ?_ | refine bA ?_ _)); exact BK190.out) hb); have n1_ := Aside0.mk (below_step (by repeat (first | (with_reducible first | exact HB.out | apply wA | apply wN | apply wD | refine wS ?_ GE190.out) | exact HB.out)) hb); clear BK190; clear HB; have BK190 := n0_; have HB := n1_; clear n0_ n1_; (try clear hb); (try clear hb2); (try clear hk); (try clear hi)))
               go_ret
               exact ⟨by first | rfl | (simp [errW_none, errW_some] <;> rfl) | (simp [*, errW_none, errW_some] <;> rfl), by repeat (first | (with_reducible first | exact HB.out | apply wA | apply wN | apply wD | refine wS ?_ GE190.out) | exact HB.out)⟩
              ·rw [if_neg c30] at H
               have c30b0 : (t184 == (a0.size : Int)) = false := beq_eq_false_iff_ne.mpr c30
               have c30b1 : (t184 != (a0.size : Int)) = true := bne_iff_ne.mpr c30
               obtain rfl := Option.some.inj H
               have hcz34_0 : wr.cell? ⟨gb190, 0, none⟩ = some (.int .i64 t182) := (blk_cell BK190.out 0).trans rfl; have hcz34_1 : wr.cell? ⟨gb190, 1, none⟩ = some (.int .i64 t183) := (blk_cell BK190.out 1).trans rfl; have hcz34_2 : wr.cell? ⟨gb190, 2, none⟩ = some (.int .i64 t184) := (blk_cell BK190.out 2).trans rfl; have hcz34_3 : wr.cell? ⟨gb190, 3, none⟩ = some (.int .u8 t185) := (blk_cell BK190.out 3).trans rfl; have hcz34_4 : wr.cell? ⟨gb190, 4, none⟩ = some (.int .i64 t186) := (blk_cell BK190.out 4).trans rfl; have hcz34_5 : wr.cell? ⟨gb190, 5, none⟩ = some (.string t187) := (blk_cell BK190.out 5).trans rfl; have hfz34_0 := blk_frozen BK190.out 0; have hfz34_1 := blk_frozen BK190.out 1; have hfz34_2 := blk_frozen BK190.out 2; have hfz34_3 := blk_frozen BK190.out 3; have hfz34_4 := blk_frozen BK190.out 4; have hfz34_5 := blk_frozen BK190.out 5
               go_wp2
               go_ret
               exact ⟨by first | rfl | (simp [errW_none, errW_some] <;> rfl) | (simp [*, errW_none, errW_some] <;> rfl), by repeat (first | (with_reducible first | exact HB.out | apply wA | apply wN | apply wD | refine wS ?_ GE190.out) | exact HB.out)⟩
             ·rw [if_neg c29] at H
              have c29b0 : (t183 == (a0.size : Int)) = false := beq_eq_false_iff_ne.mpr c29
              have c29b1 : (t183 != (a0.size : Int)) = true := bne_iff_ne.mpr c29
              obtain rfl := Option.some.inj H
              have hcz35_0 : wr.cell? ⟨gb190, 0, none⟩ = some (.int .i64 t182) := (blk_cell BK190.out 0).trans rfl; have hcz35_1 : wr.cell? ⟨gb190, 1, none⟩ = some (.int .i64 t183) := (blk_cell BK190.out 1).trans rfl; have hcz35_2 : wr.cell? ⟨gb190, 2, none⟩ = some (.int .i64 t184) := (blk_cell BK190.out 2).trans rfl; have hcz35_3 : wr.cell? ⟨gb190, 3, none⟩ = some (.int .u8 t185) := (blk_cell BK190.out 3).trans rfl; have hcz35_4 : wr.cell? ⟨gb190, 4, none⟩ = some (.int .i64 t186) := (blk_cell BK190.out 4).trans rfl; have hcz35_5 : wr.cell? ⟨gb190, 5, none⟩ = some (.string t187) := (blk_cell BK190.out 5).trans rfl; have hfz35_0 := blk_frozen BK190.out 0; have hfz35_1 := blk_frozen BK190.out 1; have hfz35_2 := blk_frozen BK190.out 2; have hfz35_3 := blk_frozen BK190.out 3; have hfz35_4 := blk_frozen BK190.out 4; have hfz35_5 := blk_frozen BK190.out 5
              go_wp2
              go_ret
              exact ⟨by first | rfl | (simp [errW_none, errW_some] <;> rfl) | (simp [*, errW_none, errW_some] <;> rfl), by repeat (first | (with_reducible first | exact HB.out | apply wA | apply wN | apply wD | refine wS ?_ GE190.out) | exact HB.out)⟩
            ·rw [if_neg c28] at H
             have c28b0 : (t182 == 0) = false := beq_eq_false_iff_ne.mpr c28
             have c28b1 : (t182 != 0) = true := bne_iff_ne.mpr c28
             by_cases c36 : t184 = t183
             ·rw [if_pos c36] at H
              have c36b0 : (t184 == t183) = true := beq_iff_eq.mpr c36
              have c36b1 : (t184 != t183) = false := bne_eq_false_iff_eq.mpr c36
              clear c36
              obtain rfl := Option.some.inj H
              have hcz37_0 : wr.cell? ⟨gb190, 0, none⟩ = some (.int .i64 t182) := (blk_cell BK190.out 0).trans rfl; have hcz37_1 : wr.cell? ⟨gb190, 1, none⟩ = some (.int .i64 t183) := (blk_cell BK190.out 1).trans rfl; have hcz37_2 : wr.cell? ⟨gb190, 2, none⟩ = some (.int .i64 t184) := (blk_cell BK190.out 2).trans rfl; have hcz37_3 : wr.cell? ⟨gb190, 3, none⟩ = some (.int .u8 t185) := (blk_cell BK190.out 3).trans rfl; have hcz37_4 : wr.cell? ⟨gb190, 4, none⟩ = some (.int .i64 t186) := (blk_cell BK190.out 4).trans rfl; have hcz37_5 : wr.cell? ⟨gb190, 5, none⟩ = some (.string t187) := (blk_cell BK190.out 5).trans rfl; have hfz37_0 := blk_frozen BK190.out 0; have hfz37_1 := blk_frozen BK190.out 1; have hfz37_2 := blk_frozen BK190.out 2; have hfz37_3 := blk_frozen BK190.out 3; have hfz37_4 := blk_frozen BK190.out 4; have hfz37_5 := blk_frozen BK190.out 5
              go_wp2
              go_ret
              exact ⟨by first | rfl | (simp [errW_none, errW_some] <;> rfl) | (simp [*, errW_none, errW_some] <;> rfl), by repeat (first | (with_reducible first | exact HB.out | apply wA | apply wN | apply wD | refine wS ?_ GE190.out) | exact HB.out)⟩
             ·rw [if_neg c36] at H
              have c36b0 : (t184 == t183) = false := beq_eq_false_iff_ne.mpr c36
              have c36b1 : (t184 != t183) = true := bne_iff_ne.mpr c36
              have H' := Aside0.mk H
              clear H; have hcz38_0 : wr.cell? ⟨gb190, 0, none⟩ = some (.int .i64 t182) := (blk_cell BK190.out 0).trans rfl; have hcz38_1 : wr.cell? ⟨gb190, 1, none⟩ = some (.int .i64 t183) := (blk_cell BK190.out 1).trans rfl; have hcz38_2 : wr.cell? ⟨gb190, 2, none⟩ = some (.int .i64 t184) := (blk_cell BK190.out 2).trans rfl; have hcz38_3 : wr.cell? ⟨gb190, 3, none⟩ = some (.int .u8 t185) := (blk_cell BK190.out 3).trans rfl; have hcz38_4 : wr.cell? ⟨gb190, 4, none⟩ = some (.int .i64 t186) := (blk_cell BK190.out 4).trans rfl; have hcz38_5 : wr.cell? ⟨gb190, 5, none⟩ = some (.string t187) := (blk_cell BK190.out 5).trans rfl; have hfz38_0 := blk_frozen BK190.out 0; have hfz38_1 := blk_frozen BK190.out 1; have hfz38_2 := blk_frozen BK190.out 2; have hfz38_3 := blk_frozen BK190.out 3; have hfz38_4 := blk_frozen BK190.out 4; have hfz38_5 := blk_frozen BK190.out 5
              go_wp2
              go_roundg k3
              case measure => have := HK1.out; have := HJ7.out; have := HK3.out; omega
              case rel => exact ⟨(t188), (wrap64 (x4_1 + 1)), (by first | rfl | (simp; done) | (simp [*]; done)), (by first | rfl | (simp; done) | (simp [*]; done)), H', ⟨by have := HK1.out; have := HJ7.out; have := HK3.out; omega⟩, ⟨by repeat (first | (with_reducible first | exact HB.out | apply wA | apply wN | apply wD | refine wS ?_ GE190.out) | exact HB.out)⟩⟩
     ·rw [if_neg c7] at H
      have c7b0 : (t189 == 0) = false := beq_eq_false_iff_ne.mpr c7
      have c7b1 : (t189 != 0) = true := bne_iff_ne.mpr c7
      replace H := Option.bind_eq_some_iff.mp H
      obtain ⟨t191, A390, H⟩ := H
      replace H : (some t191) = some r := H
      have A39 := Aside0.mk A390
      clear A390
      obtain rfl := Option.some.inj H
      go_wp2_with (first | ((with_reducible refine gate_callee (f := 9) rfl ?_); refine goesL_ (some 23) rfl rfl Try.func9 (by kernel_rfl) rfl #[.string a0, .int .i64 x3_1] rfl (by (try simp only [List.map_toArray, List.map_cons, List.map_nil]); first | done | rfl | (simp only [List.length_drop, List.length_take]; rfl)) ?_; (with_reducible refine (jsonlex_Next.calls k1 a0 x3_1 t182 t183 t184 t185 t186 t187 t188 t189 _ A6.out).mono ?_); rintro e w40 ⟨rfl, hb⟩; refine ⟨_, rfl, ?_⟩; have n0_ := Aside0.mk (below_step (by repeat (first | (with_reducible first | exact HB.out | apply wA | apply wN | apply wD) | exact HB.out)) hb); clear HB; have HB := n0_; clear n0_; (try clear hb); (try clear hb2); (try clear hk); (try clear hi)) | ((with_reducible refine gate_dst (N := 5) rfl ?_); (try (refine gate_guard (by rfl) ?_; dsimp only)); refine box_event ?hg (N := 5) ?hd (cs := #[.int .i64 0, .int .i64 0, .int .i64 0, .int .u8 0, .int .i64 0, .string (⟨#[]⟩ : ByteArray)]) (t := 24) ?hr ?_; (case hd => rfl); (case hg => rfl); (case hr => first | (go_simp; done) | (go_simp; rfl)); intro gb190 hg w41 hbox hb; have n0_ := Aside0.mk (below_step (by repeat (first | (with_reducible first | exact HB.out | apply wA | apply wN | apply wD) | exact HB.out)) hb); have n1_ := Aside0.mk (hbox); have n2_ := Aside0.mk ((by rw [hg]; exact (below_size (by repeat (first | (with_reducible first | exact HB.out | apply wA | apply wN | apply wD) | exact HB.out))) : w.heap.size ≤ gb190)); have n3_ := n2_; clear HB; have HB := n0_; have BK190 := n1_; have GW190 := n2_; have GE190 := n3_; clear n0_ n1_ n2_ n3_; clear hb hbox hg; have hcz42_0 : w41.cell? ⟨gb190, 0, none⟩ = some (.int .i64 0) := (blk_cell BK190.out 0).trans rfl; have hcz42_1 : w41.cell? ⟨gb190, 1, none⟩ = some (.int .i64 0) := (blk_cell BK190.out 1).trans rfl; have hcz42_2 : w41.cell? ⟨gb190, 2, none⟩ = some (.int .i64 0) := (blk_cell BK190.out 2).trans rfl; have hcz42_3 : w41.cell? ⟨gb190, 3, none⟩ = some (.int .u8 0) := (blk_cell BK190.out 3).trans rfl; have hcz42_4 : w41.cell? ⟨gb190, 4, none⟩ = some (.int .i64 0) := (blk_cell BK190.out 4).trans rfl; have hcz42_5 : w41.cell? ⟨gb190, 5, none⟩ = some (.string (⟨#[]⟩ : ByteArray)) := (blk_cell BK190.out 5).trans rfl; have hfz42_0 := blk_frozen BK190.out 0; have hfz42_1 := blk_frozen BK190.out 1; have hfz42_2 := blk_frozen BK190.out 2; have hfz42_3 := blk_frozen BK190.out 3; have hfz42_4 := blk_frozen BK190.out 4; have hfz42_5 := blk_frozen BK190.out 5) | ((with_reducible refine gate_callee (f := 8) rfl ?_); refine goesL_ (some 29) rfl rfl Try.func8 (by kernel_rfl) rfl #[] rfl (by (try simp only [List.map_toArray, List.map_cons, List.map_nil]); first | done | rfl | (simp only [List.length_drop, List.length_take]; rfl)) ?_; (with_reducible refine (ndjqlaw03_awake.calls k1  t191 _ A39.out).mono ?_); rintro e w43 ⟨rfl, hb⟩; refine ⟨_, rfl, ?_⟩; have n0_ := Aside0.mk (blk_below (g := gb190) (o := .cells #[.int .i64 t182, .int .i64 t183, .int .i64 t184, .int .u8 t185, .int .i64 t186, .string t187] 24 (0, 0)) (by (with_reducible repeat (first | refine bN ?_ _ | refine bD ?_ | refine bA ?_ _)); refine blk_put (cs := #[.int .i64 t182, .int .i64 t183, .int .i64 t184, .int .u8 t185, .int .i64 t186, .string (⟨#[]⟩ : ByteArray)]) ?_ 5 _ rfl; (with_reducible repeat (first | refine bN ?_ _ | refine bD ?_ | refine bA ?_ _)); refine blk_put (cs := #[.int .i64 t182, .int .i64 t183, .int .i64 t184, .int .u8 t185, .int .i64 0, .string (⟨#[]⟩ : ByteArray)]) ?_ 4 _ rfl; (with_reducible repeat (first | refine bN ?_ _ | refine bD ?_ | refine bA ?_ _)); refine blk_put (cs := #[.int .i64 t182, .int .i64 t183, .int .i64 t184, .int .u8 0, .int .i64 0, .string (⟨#[]⟩ : ByteArray)]) ?_ 3 _ rfl; (with_reducible repeat (first | refine bN ?_ _ | refine bD ?_ | refine bA ?_ _)); refine blk_put (cs := #[.int .i64 t182, .int .i64 t183, .int .i64 0, .int .u8 0, .int .i64 0, .string (⟨#[]⟩ : ByteArray)]) ?_ 2 _ rfl; (with_reducible repeat (first | refine bN ?_ _ | refine bD ?_ | refine bA ?_ _)); refine blk_put (cs := #[.int .i64 t182, .int .i64 0, .int .i64 0, .int .u8 0, .int .i64 0, .string (⟨#[]⟩ : ByteArray)]) ?_ 1 _ rfl; (with_reducible repeat (first | refine bN ?_ _ | refine bD ?_ | refine bA ?_ _)); refine blk_put (cs := #[.int .i64 0, .int .i64 0, .int .i64 0, .int .u8 0, .int .i64 0, .string (⟨#[]⟩ : ByteArray)]) ?_ 0 _ rfl; (with_reducible repeat (first | refine bN ?_ _ | refine bD ?_ | refine bA ?_ _)); exact BK190.out) hb); have n1_ := Aside0.mk (below_step (by repeat (first | (with_reducible first | exact HB.out | apply wA | apply wN | apply wD | refine wS ?_ GE190.out) | exact HB.out)) hb); clear BK190; clear HB; have BK190 := n0_; have HB := n1_; clear n0_ n1_; (try clear hb); (try clear hb2); (try clear hk); (try clear hi)))
      go_ret
      exact ⟨by first | rfl | (simp [errW_none, errW_some] <;> rfl) | (simp [*, errW_none, errW_some] <;> rfl), by repeat (first | (with_reducible first | exact HB.out | apply wA | apply wN | apply wD | refine wS ?_ GE190.out) | exact HB.out)⟩
    ·rw [if_neg c5] at H
     have c5b0 : decide (x4_1 ≤ (wrap64 ((a0.size : Int) + 1))) = false := decide_eq_false c5
     clear c5
     obtain rfl := Option.some.inj H
     go_wp2
     go_ret
     exact ⟨by first | rfl | (simp [errW_none, errW_some] <;> rfl) | (simp [*, errW_none, errW_some] <;> rfl), by repeat (first | (with_reducible first | exact HB.out | apply wA | apply wN | apply wD) | exact HB.out)⟩

/-- THE ONE PURE STATEMENT of ndjqlaw03_JsonlexCover: yours. -/
def ndjqlaw03_JsonlexCover.Pure : Prop := ∀ (a0 : ByteArray), a0.size ≤ 140737488351232 → ∃ k, ndjqlaw03_JsonlexCover.f k a0 = some true
theorem ndjqlaw03_JsonlexCover.walk (P : ndjqlaw03_JsonlexCover.Pure) (a0 : ByteArray) (w : World) (w0 : a0.size ≤ 140737488351232) :
  Calls Try.prog 6 #[.string a0] w fun e w' => e = .returned (.bool true) ∧ Below w.heap.size w w' := by
 obtain ⟨k, h⟩ := P a0 w0
 refine (ndjqlaw03_JsonlexCover.calls k a0 true w h).mono ?_
 rintro e w' ⟨rfl, hd⟩
 exact ⟨rfl, hd⟩

end Go.Proofs.Ytcnojfoiolbnaaa.QJsonlexCover
