-- by a program of this session (print2.py): the machine's side of one law; Lean checks it.
import Derived.Test.YtcnojfoiolbnaaaQJsonlexQuotedx0
import Derived.Test.YtcnojfoiolbnaaaQJsonlexQuotedx7
import Derived.Test.YtcnojfoiolbnaaaQJsonlexQuotedx8
import Derived.Test.YtcnojfoiolbnaaaQJsonlexQuotedx9
namespace Go.Proofs.Ytcnojfoiolbnaaa.QJsonlexQuoted
open Go.RowKit Go.Proofs.YtcnojfoiolbnaaaW.PrintWords Go.Proofs.YtcnojfoiolbnaaaW.PrintLast Go.Proofs.YtcnojfoiolbnaaaW.PrintMore
attribute [local go_sem] max2_int min2_int max_two min_two max_three min_three max_four min_four   -- for this text's walks alone
set_option linter.unusedVariables false
set_option linter.unusedSimpArgs false

/-! ### ndjqlaw03_JsonlexQuoted: function 7 -/
mutual
def ndjqlaw03_JsonlexQuoted.j0 : Nat → ByteArray → Int → Bool → Option (Bool)
 | 0, _, _, _ => none
 | k + 1, x0, x1, x17 => if x17 = true then ((ndjqlaw03_awake.f k).bind fun t232 => (some t232)) else ((ndjqref05_Quote.f k x0).bind fun t233 => ((jsonlex_Next.f k t233 0).bind fun bt234 => (if bt234.2.2.2.2.2.2.2 = 0 then (if bt234.2.2.2.2.2.2.1 = (t233.size : Int) then (if bt234.1 = 4 then (if bt234.2.2.2.2.2.1.toList = x0.toList then (ndjqlaw03_JsonlexQuoted.j1 k x1 t233 (decide ((t233.size : Int) < 2))) else (ndjqlaw03_JsonlexQuoted.j1 k x1 t233 true)) else (ndjqlaw03_JsonlexQuoted.j1 k x1 t233 true)) else (ndjqlaw03_JsonlexQuoted.j1 k x1 t233 true)) else (ndjqlaw03_JsonlexQuoted.j1 k x1 t233 true))))
def ndjqlaw03_JsonlexQuoted.j1 : Nat → Int → ByteArray → Bool → Option (Bool)
 | 0, _, _, _ => none
 | k + 1, x1, x5, x50 => if x50 = true then (some false) else ((ndjqkeep_Mod.f x1 (wrap64 ((x5.size : Int) - 1))).bind fun t243 => (if 0 ≤ (wrap64 (t243 + 1)) then (if (wrap64 (t243 + 1)) ≤ (x5.size : Int) then ((jsonlex_Next.f k (x5.extract 0 ((wrap64 (t243 + 1)) : Int).toNat) 0).bind fun bt244 => (if bt244.2.2.2.2.2.2.2 = 5 then (if bt244.2.2.2.2.2.2.1 = (wrap64 (t243 + 1)) then ((ndjqlaw03_awake.f k).bind fun t252 => (some t252)) else (if bt244.2.2.2.2.2.2.2 = 6 then ((ndjqref01_Valid.f k (x5.extract 0 ((wrap64 (t243 + 1)) : Int).toNat)).bind fun t253 => (if t253 = true then (some false) else ((ndjqlaw03_awake.f k).bind fun t254 => (some t254)))) else (some false))) else (if bt244.2.2.2.2.2.2.2 = 6 then ((ndjqref01_Valid.f k (x5.extract 0 ((wrap64 (t243 + 1)) : Int).toNat)).bind fun t255 => (if t255 = true then (some false) else ((ndjqlaw03_awake.f k).bind fun t256 => (some t256)))) else (some false)))) else (none)) else (none)))
end
def ndjqlaw03_JsonlexQuoted.f (k : Nat) (a0 : ByteArray) (a1 : Int) : Option (Bool) := if (a0.size : Int) > 100 then (ndjqlaw03_JsonlexQuoted.j0 k a0 a1 true) else ((ndjqref01_Valid.f k a0).bind fun t231 => (ndjqlaw03_JsonlexQuoted.j0 k a0 a1 (!t231)))
theorem ndjqlaw03_JsonlexQuoted.mono_l : ∀ k, (∀ y0 y1 y2, LeO (ndjqlaw03_JsonlexQuoted.j0 k y0 y1 y2) (ndjqlaw03_JsonlexQuoted.j0 (k + 1) y0 y1 y2)) ∧ (∀ y0 y1 y2, LeO (ndjqlaw03_JsonlexQuoted.j1 k y0 y1 y2) (ndjqlaw03_JsonlexQuoted.j1 (k + 1) y0 y1 y2))
 | 0 => ⟨fun _ _ _ r h => by simp [ndjqlaw03_JsonlexQuoted.j0] at h, fun _ _ _ r h => by simp [ndjqlaw03_JsonlexQuoted.j1] at h⟩
 | k + 1 => by
  obtain ⟨ih0, ih1⟩ := ndjqlaw03_JsonlexQuoted.mono_l k
  refine ⟨?_, ?_⟩
  ·intro y0 y1 y2
   unfold ndjqlaw03_JsonlexQuoted.j0
   repeat' first
   | (with_reducible exact ih0 _ _ _)
   | (with_reducible exact ih1 _ _ _)
   | (with_reducible exact jsonlex_Next.mono _ _ _)
   | (with_reducible exact ndjqlaw03_awake.mono _)
   | (with_reducible exact ndjqref01_Valid.mono _ _)
   | (with_reducible exact ndjqref05_Quote.mono _ _)
   | (with_reducible exact LeO.refl _)
   | (with_reducible exact LeO.none _)
   | (with_reducible refine LeO.ite ?_ ?_)
   | (with_reducible refine LeO.bind ?_ (fun _ => ?_))
   | exact ih0 _ _ _
   | exact ih1 _ _ _
   | exact jsonlex_Next.mono _ _ _
   | exact ndjqlaw03_awake.mono _
   | exact ndjqref01_Valid.mono _ _
   | exact ndjqref05_Quote.mono _ _
   | exact LeO.none _
   | refine LeO.ite ?_ ?_
   | refine LeO.bind ?_ (fun _ => ?_)
  ·intro y0 y1 y2
   unfold ndjqlaw03_JsonlexQuoted.j1
   repeat' first
   | (with_reducible exact ih0 _ _ _)
   | (with_reducible exact ih1 _ _ _)
   | (with_reducible exact jsonlex_Next.mono _ _ _)
   | (with_reducible exact ndjqlaw03_awake.mono _)
   | (with_reducible exact ndjqref01_Valid.mono _ _)
   | (with_reducible exact ndjqref05_Quote.mono _ _)
   | (with_reducible exact LeO.refl _)
   | (with_reducible exact LeO.none _)
   | (with_reducible refine LeO.ite ?_ ?_)
   | (with_reducible refine LeO.bind ?_ (fun _ => ?_))
   | exact ih0 _ _ _
   | exact ih1 _ _ _
   | exact jsonlex_Next.mono _ _ _
   | exact ndjqlaw03_awake.mono _
   | exact ndjqref01_Valid.mono _ _
   | exact ndjqref05_Quote.mono _ _
   | exact LeO.none _
   | refine LeO.ite ?_ ?_
   | refine LeO.bind ?_ (fun _ => ?_)
theorem ndjqlaw03_JsonlexQuoted.mono : ∀ a0 a1 k, LeO (ndjqlaw03_JsonlexQuoted.f k a0 a1) (ndjqlaw03_JsonlexQuoted.f (k + 1) a0 a1) := by
 intro a0 a1 k
 obtain ⟨ih0, ih1⟩ := ndjqlaw03_JsonlexQuoted.mono_l k
 unfold ndjqlaw03_JsonlexQuoted.f
 repeat' first
   | (with_reducible exact ih0 _ _ _)
   | (with_reducible exact ih1 _ _ _)
   | (with_reducible exact jsonlex_Next.mono _ _ _)
   | (with_reducible exact ndjqlaw03_awake.mono _)
   | (with_reducible exact ndjqref01_Valid.mono _ _)
   | (with_reducible exact ndjqref05_Quote.mono _ _)
   | (with_reducible exact LeO.refl _)
   | (with_reducible exact LeO.none _)
   | (with_reducible refine LeO.ite ?_ ?_)
   | (with_reducible refine LeO.bind ?_ (fun _ => ?_))
   | exact ih0 _ _ _
   | exact ih1 _ _ _
   | exact jsonlex_Next.mono _ _ _
   | exact ndjqlaw03_awake.mono _
   | exact ndjqref01_Valid.mono _ _
   | exact ndjqref05_Quote.mono _ _
   | exact LeO.none _
   | refine LeO.ite ?_ ?_
   | refine LeO.bind ?_ (fun _ => ?_)
set_option maxHeartbeats 8000000 in
set_option maxRecDepth 100000 in
theorem ndjqlaw03_JsonlexQuoted.calls (k : Nat) (a0 : ByteArray) (a1 : Int) (r : Bool) (w : World) (h : ndjqlaw03_JsonlexQuoted.f k a0 a1 = some r) :
  Calls Try.prog 7 #[.string a0, .int .i64 a1] w fun e w' => e = .returned (.bool r) ∧ Below w.heap.size w w' := by
 have hu24 := Try.underlying24
 have HB := Aside0.mk (Below.refl w.heap.size w)
 have H : (if (a0.size : Int) > 100 then (ndjqlaw03_JsonlexQuoted.j0 k a0 a1 true) else ((ndjqref01_Valid.f k a0).bind fun t231 => (ndjqlaw03_JsonlexQuoted.j0 k a0 a1 (!t231)))) = some r := h
 clear h
 have HC3 := Aside0.mk H
 clear H
 go_enter Try.func7, Try.ntmps7
 go_upto_region 1 with (fail)
 go_cut [17] (fun v17 wc => ∃ (kq : Nat) (x17_2 : Bool), v17 = .bool x17_2 ∧ Aside0 (ndjqlaw03_JsonlexQuoted.j0 kq a0 a1 x17_2 = some r) ∧ Aside0 (kq ≤ k) ∧ Aside0 (Below w.heap.size w wc))
 case first =>
  have H := HC3.out
  clear HC3
  by_cases c4 : (a0.size : Int) > 100
  ·rw [if_pos c4] at H
   have c4b0 : decide (100 < (a0.size : Int)) = true := decide_eq_true c4
   have c4b1 : decide (100 < a0.size) = true := decide_eq_true (by omega)
   clear c4
   (first | rw [c4b0] | (simp only [i64_w, i32_w]; rw [c4b0]) | skip)
   have H' := Aside0.mk H
   clear H
   go_wp2
   go_meet
   case rel => exact ⟨_, (true), (by first | rfl | (simp; done) | (simp [*]; done)), H', ⟨by first | omega | exact Nat.le_refl _⟩, ⟨by repeat (first | (with_reducible first | exact HB.out | apply wA | apply wN | apply wD) | exact HB.out)⟩⟩
  ·rw [if_neg c4] at H
   have c4b0 : decide (100 < (a0.size : Int)) = false := decide_eq_false c4
   have c4b1 : decide (100 < a0.size) = false := decide_eq_false (by omega)
   clear c4
   (first | rw [c4b0] | (simp only [i64_w, i32_w]; rw [c4b0]) | skip)
   replace H := Option.bind_eq_some_iff.mp H
   obtain ⟨t231, A50, H⟩ := H
   replace H : (ndjqlaw03_JsonlexQuoted.j0 k a0 a1 (!t231)) = some r := H
   have A5 := Aside0.mk A50
   clear A50
   have H' := Aside0.mk H
   clear H
   go_wp2_with (first | (go_at_call 17; (with_reducible refine (ndjqref01_Valid.calls k a0 t231 _ A5.out).mono ?_); rintro e w6 ⟨rfl, hb⟩; have n0_ := Aside0.mk (below_step (by repeat (first | (with_reducible first | exact HB.out | apply wA | apply wN | apply wD) | exact HB.out)) hb); clear HB; have HB := n0_; clear n0_; (try clear hb); (try clear hb2); (try clear hk); (try clear hi)))
   go_meet
   case rel => exact ⟨_, (!t231), (by first | rfl | (simp; done) | (simp [*]; done)), H', ⟨by first | omega | exact Nat.le_refl _⟩, ⟨by repeat (first | (with_reducible first | exact HB.out | apply wA | apply wN | apply wD) | exact HB.out)⟩⟩
 case rest =>
  clear HC3
  (try clear p2); (try clear c4); (try clear c4b0); (try clear c4b1)
  obtain ⟨kq, x17_2, rfl, HA, HJ2, HB⟩ := hcut
  cases kq with
  | zero => exact absurd HA.out (by simp [ndjqlaw03_JsonlexQuoted.j0])
  | succ kj2 =>
   have H := HA.out
   clear HA
   simp only [ndjqlaw03_JsonlexQuoted.j0] at H
   by_cases c7 : x17_2 = true
   ·subst c7
    have H1 : ((ndjqlaw03_awake.f kj2).bind fun t232 => (some t232)) = some r := by rw [if_pos rfl] at H; exact H
    clear H; have H := H1; clear H1
    replace H := Option.bind_eq_some_iff.mp H
    obtain ⟨t232, A80, H⟩ := H
    replace H : (some t232) = some r := H
    have A8 := Aside0.mk A80
    clear A80
    obtain rfl := Option.some.inj H
    go_wp2_with (first | ((with_reducible refine gate_callee (f := 8) rfl ?_); refine goesL_ (some 18) rfl rfl Try.func8 (by kernel_rfl) rfl #[] rfl (by (try simp only [List.map_toArray, List.map_cons, List.map_nil]); first | done | rfl | (simp only [List.length_drop, List.length_take]; rfl)) ?_; (with_reducible refine (ndjqlaw03_awake.calls kj2  t232 _ A8.out).mono ?_); rintro e w9 ⟨rfl, hb⟩; refine ⟨_, rfl, ?_⟩; have n0_ := Aside0.mk (below_step (by repeat (first | (with_reducible first | exact HB.out | apply wA | apply wN | apply wD) | exact HB.out)) hb); clear HB; have HB := n0_; clear n0_; (try clear hb); (try clear hb2); (try clear hk); (try clear hi)))
    go_ret
    exact ⟨by first | rfl | (simp [errW_none, errW_some] <;> rfl) | (simp [*, errW_none, errW_some] <;> rfl), by repeat (first | (with_reducible first | exact HB.out | apply wA | apply wN | apply wD) | exact HB.out)⟩
   ·replace c7 := Bool.eq_false_iff.mpr c7
    subst c7
    have H1 : ((ndjqref05_Quote.f kj2 a0).bind fun t233 => ((jsonlex_Next.f kj2 t233 0).bind fun bt234 => (if bt234.2.2.2.2.2.2.2 = 0 then (if bt234.2.2.2.2.2.2.1 = (t233.size : Int) then (if bt234.1 = 4 then (if bt234.2.2.2.2.2.1.toList = a0.toList then (ndjqlaw03_JsonlexQuoted.j1 kj2 a1 t233 (decide ((t233.size : Int) < 2))) else (ndjqlaw03_JsonlexQuoted.j1 kj2 a1 t233 true)) else (ndjqlaw03_JsonlexQuoted.j1 kj2 a1 t233 true)) else (ndjqlaw03_JsonlexQuoted.j1 kj2 a1 t233 true)) else (ndjqlaw03_JsonlexQuoted.j1 kj2 a1 t233 true)))) = some r := by rw [if_neg (show ¬ (false = true) by decide)] at H; exact H
    clear H; have H := H1; clear H1
    replace H := Option.bind_eq_some_iff.mp H
    obtain ⟨t233, A100, H⟩ := H
    replace H : ((jsonlex_Next.f kj2 t233 0).bind fun bt234 => (if bt234.2.2.2.2.2.2.2 = 0 then (if bt234.2.2.2.2.2.2.1 = (t233.size : Int) then (if bt234.1 = 4 then (if bt234.2.2.2.2.2.1.toList = a0.toList then (ndjqlaw03_JsonlexQuoted.j1 kj2 a1 t233 (decide ((t233.size : Int) < 2))) else (ndjqlaw03_JsonlexQuoted.j1 kj2 a1 t233 true)) else (ndjqlaw03_JsonlexQuoted.j1 kj2 a1 t233 true)) else (ndjqlaw03_JsonlexQuoted.j1 kj2 a1 t233 true)) else (ndjqlaw03_JsonlexQuoted.j1 kj2 a1 t233 true))) = some r := H
    have A10 := Aside0.mk A100
    clear A100
    replace H := Option.bind_eq_some_iff.mp H
    obtain ⟨⟨t234, t235, t236, t237, t238, t239, t240, t241⟩, A110, H⟩ := H
    replace H : (if t241 = 0 then (if t240 = (t233.size : Int) then (if t234 = 4 then (if t239.toList = a0.toList then (ndjqlaw03_JsonlexQuoted.j1 kj2 a1 t233 (decide ((t233.size : Int) < 2))) else (ndjqlaw03_JsonlexQuoted.j1 kj2 a1 t233 true)) else (ndjqlaw03_JsonlexQuoted.j1 kj2 a1 t233 true)) else (ndjqlaw03_JsonlexQuoted.j1 kj2 a1 t233 true)) else (ndjqlaw03_JsonlexQuoted.j1 kj2 a1 t233 true)) = some r := H
    have A11 := Aside0.mk A110
    clear A110
    have HC12 := Aside0.mk H
    clear H
    go_upto_region 5 with (first | ((with_reducible refine gate_callee (f := 18) rfl ?_); refine goesL_ (some 20) rfl rfl Try.func18 (by kernel_rfl) rfl #[.string a0] rfl (by (try simp only [List.map_toArray, List.map_cons, List.map_nil]); first | done | rfl | (simp only [List.length_drop, List.length_take]; rfl)) ?_; (with_reducible refine (ndjqref05_Quote.calls kj2 a0 t233 _ A10.out).mono ?_); rintro e w13 ⟨rfl, hb⟩; refine ⟨_, rfl, ?_⟩; have n0_ := Aside0.mk (below_step (by repeat (first | (with_reducible first | exact HB.out | apply wA | apply wN | apply wD) | exact HB.out)) hb); clear HB; have HB := n0_; clear n0_; (try clear hb); (try clear hb2); (try clear hk); (try clear hi)) | ((with_reducible refine gate_callee (f := 9) rfl ?_); refine goesL_ (some 23) rfl rfl Try.func9 (by kernel_rfl) rfl #[.string t233, .int .i64 0] rfl (by (try simp only [List.map_toArray, List.map_cons, List.map_nil]); first | done | rfl | (simp only [List.length_drop, List.length_take]; rfl)) ?_; (with_reducible refine (jsonlex_Next.calls kj2 t233 0 t234 t235 t236 t237 t238 t239 t240 t241 _ A11.out).mono ?_); rintro e w14 ⟨rfl, hb⟩; refine ⟨_, rfl, ?_⟩; have n0_ := Aside0.mk (below_step (by repeat (first | (with_reducible first | exact HB.out | apply wA | apply wN | apply wD) | exact HB.out)) hb); clear HB; have HB := n0_; clear n0_; (try clear hb); (try clear hb2); (try clear hk); (try clear hi)) | ((with_reducible refine gate_dst (N := 6) rfl ?_); (try (refine gate_guard (by rfl) ?_; dsimp only)); refine box_event ?hg (N := 6) ?hd (cs := #[.int .i64 0, .int .i64 0, .int .i64 0, .int .u8 0, .int .i64 0, .string (⟨#[]⟩ : ByteArray)]) (t := 24) ?hr ?_; (case hd => rfl); (case hg => rfl); (case hr => first | (go_simp; done) | (go_simp; rfl)); intro gb242 hg w15 hbox hb; have n0_ := Aside0.mk (below_step (by repeat (first | (with_reducible first | exact HB.out | apply wA | apply wN | apply wD) | exact HB.out)) hb); have n1_ := Aside0.mk (hbox); have n2_ := Aside0.mk ((by rw [hg]; exact (below_size (by repeat (first | (with_reducible first | exact HB.out | apply wA | apply wN | apply wD) | exact HB.out))) : w.heap.size ≤ gb242)); have n3_ := n2_; clear HB; have HB := n0_; have BK242 := n1_; have GW242 := n2_; have GE242 := n3_; clear n0_ n1_ n2_ n3_; clear hb hbox hg; have hcz16_0 : w15.cell? ⟨gb242, 0, none⟩ = some (.int .i64 0) := (blk_cell BK242.out 0).trans rfl; have hcz16_1 : w15.cell? ⟨gb242, 1, none⟩ = some (.int .i64 0) := (blk_cell BK242.out 1).trans rfl; have hcz16_2 : w15.cell? ⟨gb242, 2, none⟩ = some (.int .i64 0) := (blk_cell BK242.out 2).trans rfl; have hcz16_3 : w15.cell? ⟨gb242, 3, none⟩ = some (.int .u8 0) := (blk_cell BK242.out 3).trans rfl; have hcz16_4 : w15.cell? ⟨gb242, 4, none⟩ = some (.int .i64 0) := (blk_cell BK242.out 4).trans rfl; have hcz16_5 : w15.cell? ⟨gb242, 5, none⟩ = some (.string (⟨#[]⟩ : ByteArray)) := (blk_cell BK242.out 5).trans rfl; have hfz16_0 := blk_frozen BK242.out 0; have hfz16_1 := blk_frozen BK242.out 1; have hfz16_2 := blk_frozen BK242.out 2; have hfz16_3 := blk_frozen BK242.out 3; have hfz16_4 := blk_frozen BK242.out 4; have hfz16_5 := blk_frozen BK242.out 5))
    (try simp only [Act.put, List.setIfInBounds_toArray, List.set_cons_zero, List.set_cons_succ])
    go_cut [50] (fun v50 wc => ∃ (kq : Nat) (x50_11 : Bool), v50 = .bool x50_11 ∧ Aside0 (ndjqlaw03_JsonlexQuoted.j1 kq a1 t233 x50_11 = some r) ∧ Aside0 (kq ≤ kj2) ∧ Aside0 (wc.heap[gb242]? = some (.cells #[.int .i64 t234, .int .i64 t235, .int .i64 t236, .int .u8 t237, .int .i64 t238, .string t239] 24 (0, 0))) ∧ Aside0 (Below w.heap.size w wc))
    case first =>
     have H := HC12.out
     clear HC12
     by_cases c17 : t241 = 0
     ·rw [if_pos c17] at H
      have c17b0 : (t241 == 0) = true := beq_iff_eq.mpr c17
      have c17b1 : (t241 != 0) = false := bne_eq_false_iff_eq.mpr c17
      clear c17
      (first | rw [c17b0] | (simp only [i64_w, i32_w]; rw [c17b0]) | skip)
      by_cases c18 : t240 = (t233.size : Int)
      ·rw [if_pos c18] at H
       have c18b0 : (t240 == (t233.size : Int)) = true := beq_iff_eq.mpr c18
       have c18b1 : (t240 != (t233.size : Int)) = false := bne_eq_false_iff_eq.mpr c18
       clear c18
       by_cases c19 : t234 = 4
       ·rw [if_pos c19] at H
        have c19b0 : (t234 == 4) = true := beq_iff_eq.mpr c19
        have c19b1 : (t234 != 4) = false := bne_eq_false_iff_eq.mpr c19
        clear c19
        by_cases c20 : t239.toList = a0.toList
        ·rw [if_pos c20] at H
         have c20b0 : (t239.toList == a0.toList) = true := beq_iff_eq.mpr c20
         have c20b1 : (t239.toList != a0.toList) = false := bne_eq_false_iff_eq.mpr c20
         clear c20
         have H' := Aside0.mk H
         clear H; have hcz21_0 : w15.cell? ⟨gb242, 0, none⟩ = some (.int .i64 0) := (blk_cell BK242.out 0).trans rfl; have hcz21_1 : w15.cell? ⟨gb242, 1, none⟩ = some (.int .i64 0) := (blk_cell BK242.out 1).trans rfl; have hcz21_2 : w15.cell? ⟨gb242, 2, none⟩ = some (.int .i64 0) := (blk_cell BK242.out 2).trans rfl; have hcz21_3 : w15.cell? ⟨gb242, 3, none⟩ = some (.int .u8 0) := (blk_cell BK242.out 3).trans rfl; have hcz21_4 : w15.cell? ⟨gb242, 4, none⟩ = some (.int .i64 0) := (blk_cell BK242.out 4).trans rfl; have hcz21_5 : w15.cell? ⟨gb242, 5, none⟩ = some (.string (⟨#[]⟩ : ByteArray)) := (blk_cell BK242.out 5).trans rfl; have hfz21_0 := blk_frozen BK242.out 0; have hfz21_1 := blk_frozen BK242.out 1; have hfz21_2 := blk_frozen BK242.out 2; have hfz21_3 := blk_frozen BK242.out 3; have hfz21_4 := blk_frozen BK242.out 4; have hfz21_5 := blk_frozen BK242.out 5
         go_wp2
         go_meet
         case rel => exact ⟨_, (decide ((t233.size : Int) < 2)), (by first | rfl | (simp; done) | (simp [*]; done)), H', ⟨by have := HJ2.out; first | omega | exact Nat.le_refl _⟩, ⟨by (with_reducible repeat (first | refine bN ?_ _ | refine bD ?_ | refine bA ?_ _)); refine blk_put (cs := #[.int .i64 t234, .int .i64 t235, .int .i64 t236, .int .u8 t237, .int .i64 t238, .string (⟨#[]⟩ : ByteArray)]) ?_ 5 _ rfl; (with_reducible repeat (first | refine bN ?_ _ | refine bD ?_ | refine bA ?_ _)); refine blk_put (cs := #[.int .i64 t234, .int .i64 t235, .int .i64 t236, .int .u8 t237, .int .i64 0, .string (⟨#[]⟩ : ByteArray)]) ?_ 4 _ rfl; (with_reducible repeat (first | refine bN ?_ _ | refine bD ?_ | refine bA ?_ _)); refine blk_put (cs := #[.int .i64 t234, .int .i64 t235, .int .i64 t236, .int .u8 0, .int .i64 0, .string (⟨#[]⟩ : ByteArray)]) ?_ 3 _ rfl; (with_reducible repeat (first | refine bN ?_ _ | refine bD ?_ | refine bA ?_ _)); refine blk_put (cs := #[.int .i64 t234, .int .i64 t235, .int .i64 0, .int .u8 0, .int .i64 0, .string (⟨#[]⟩ : ByteArray)]) ?_ 2 _ rfl; (with_reducible repeat (first | refine bN ?_ _ | refine bD ?_ | refine bA ?_ _)); refine blk_put (cs := #[.int .i64 t234, .int .i64 0, .int .i64 0, .int .u8 0, .int .i64 0, .string (⟨#[]⟩ : ByteArray)]) ?_ 1 _ rfl; (with_reducible repeat (first | refine bN ?_ _ | refine bD ?_ | refine bA ?_ _)); refine blk_put (cs := #[.int .i64 0, .int .i64 0, .int .i64 0, .int .u8 0, .int .i64 0, .string (⟨#[]⟩ : ByteArray)]) ?_ 0 _ rfl; (with_reducible repeat (first | refine bN ?_ _ | refine bD ?_ | refine bA ?_ _)); exact BK242.out⟩, ⟨by repeat (first | (with_reducible first | exact HB.out | apply wA | apply wN | apply wD | refine wS ?_ GE242.out) | exact HB.out)⟩⟩
        ·rw [if_neg c20] at H
         have c20b0 : (t239.toList == a0.toList) = false := beq_eq_false_iff_ne.mpr c20
         have c20b1 : (t239.toList != a0.toList) = true := bne_iff_ne.mpr c20
         have H' := Aside0.mk H
         clear H; have hcz22_0 : w15.cell? ⟨gb242, 0, none⟩ = some (.int .i64 0) := (blk_cell BK242.out 0).trans rfl; have hcz22_1 : w15.cell? ⟨gb242, 1, none⟩ = some (.int .i64 0) := (blk_cell BK242.out 1).trans rfl; have hcz22_2 : w15.cell? ⟨gb242, 2, none⟩ = some (.int .i64 0) := (blk_cell BK242.out 2).trans rfl; have hcz22_3 : w15.cell? ⟨gb242, 3, none⟩ = some (.int .u8 0) := (blk_cell BK242.out 3).trans rfl; have hcz22_4 : w15.cell? ⟨gb242, 4, none⟩ = some (.int .i64 0) := (blk_cell BK242.out 4).trans rfl; have hcz22_5 : w15.cell? ⟨gb242, 5, none⟩ = some (.string (⟨#[]⟩ : ByteArray)) := (blk_cell BK242.out 5).trans rfl; have hfz22_0 := blk_frozen BK242.out 0; have hfz22_1 := blk_frozen BK242.out 1; have hfz22_2 := blk_frozen BK242.out 2; have hfz22_3 := blk_frozen BK242.out 3; have hfz22_4 := blk_frozen BK242.out 4; have hfz22_5 := blk_frozen BK242.out 5
         go_wp2
         go_meet
         case rel => exact ⟨_, (true), (by first | rfl | (simp; done) | (simp [*]; done)), H', ⟨by have := HJ2.out; first | omega | exact Nat.le_refl _⟩, ⟨by (with_reducible repeat (first | refine bN ?_ _ | refine bD ?_ | refine bA ?_ _)); refine blk_put (cs := #[.int .i64 t234, .int .i64 t235, .int .i64 t236, .int .u8 t237, .int .i64 t238, .string (⟨#[]⟩ : ByteArray)]) ?_ 5 _ rfl; (with_reducible repeat (first | refine bN ?_ _ | refine bD ?_ | refine bA ?_ _)); refine blk_put (cs := #[.int .i64 t234, .int .i64 t235, .int .i64 t236, .int .u8 t237, .int .i64 0, .string (⟨#[]⟩ : ByteArray)]) ?_ 4 _ rfl; (with_reducible repeat (first | refine bN ?_ _ | refine bD ?_ | refine bA ?_ _)); refine blk_put (cs := #[.int .i64 t234, .int .i64 t235, .int .i64 t236, .int .u8 0, .int .i64 0, .string (⟨#[]⟩ : ByteArray)]) ?_ 3 _ rfl; (with_reducible repeat (first | refine bN ?_ _ | refine bD ?_ | refine bA ?_ _)); refine blk_put (cs := #[.int .i64 t234, .int .i64 t235, .int .i64 0, .int .u8 0, .int .i64 0, .string (⟨#[]⟩ : ByteArray)]) ?_ 2 _ rfl; (with_reducible repeat (first | refine bN ?_ _ | refine bD ?_ | refine bA ?_ _)); refine blk_put (cs := #[.int .i64 t234, .int .i64 0, .int .i64 0, .int .u8 0, .int .i64 0, .string (⟨#[]⟩ : ByteArray)]) ?_ 1 _ rfl; (with_reducible repeat (first | refine bN ?_ _ | refine bD ?_ | refine bA ?_ _)); refine blk_put (cs := #[.int .i64 0, .int .i64 0, .int .i64 0, .int .u8 0, .int .i64 0, .string (⟨#[]⟩ : ByteArray)]) ?_ 0 _ rfl; (with_reducible repeat (first | refine bN ?_ _ | refine bD ?_ | refine bA ?_ _)); exact BK242.out⟩, ⟨by repeat (first | (with_reducible first | exact HB.out | apply wA | apply wN | apply wD | refine wS ?_ GE242.out) | exact HB.out)⟩⟩
       ·rw [if_neg c19] at H
        have c19b0 : (t234 == 4) = false := beq_eq_false_iff_ne.mpr c19
        have c19b1 : (t234 != 4) = true := bne_iff_ne.mpr c19
        have H' := Aside0.mk H
        clear H; have hcz23_0 : w15.cell? ⟨gb242, 0, none⟩ = some (.int .i64 0) := (blk_cell BK242.out 0).trans rfl; have hcz23_1 : w15.cell? ⟨gb242, 1, none⟩ = some (.int .i64 0) := (blk_cell BK242.out 1).trans rfl; have hcz23_2 : w15.cell? ⟨gb242, 2, none⟩ = some (.int .i64 0) := (blk_cell BK242.out 2).trans rfl; have hcz23_3 : w15.cell? ⟨gb242, 3, none⟩ = some (.int .u8 0) := (blk_cell BK242.out 3).trans rfl; have hcz23_4 : w15.cell? ⟨gb242, 4, none⟩ = some (.int .i64 0) := (blk_cell BK242.out 4).trans rfl; have hcz23_5 : w15.cell? ⟨gb242, 5, none⟩ = some (.string (⟨#[]⟩ : ByteArray)) := (blk_cell BK242.out 5).trans rfl; have hfz23_0 := blk_frozen BK242.out 0; have hfz23_1 := blk_frozen BK242.out 1; have hfz23_2 := blk_frozen BK242.out 2; have hfz23_3 := blk_frozen BK242.out 3; have hfz23_4 := blk_frozen BK242.out 4; have hfz23_5 := blk_frozen BK242.out 5
        go_wp2
        go_meet
        case rel => exact ⟨_, (true), (by first | rfl | (simp; done) | (simp [*]; done)), H', ⟨by have := HJ2.out; first | omega | exact Nat.le_refl _⟩, ⟨by (with_reducible repeat (first | refine bN ?_ _ | refine bD ?_ | refine bA ?_ _)); refine blk_put (cs := #[.int .i64 t234, .int .i64 t235, .int .i64 t236, .int .u8 t237, .int .i64 t238, .string (⟨#[]⟩ : ByteArray)]) ?_ 5 _ rfl; (with_reducible repeat (first | refine bN ?_ _ | refine bD ?_ | refine bA ?_ _)); refine blk_put (cs := #[.int .i64 t234, .int .i64 t235, .int .i64 t236, .int .u8 t237, .int .i64 0, .string (⟨#[]⟩ : ByteArray)]) ?_ 4 _ rfl; (with_reducible repeat (first | refine bN ?_ _ | refine bD ?_ | refine bA ?_ _)); refine blk_put (cs := #[.int .i64 t234, .int .i64 t235, .int .i64 t236, .int .u8 0, .int .i64 0, .string (⟨#[]⟩ : ByteArray)]) ?_ 3 _ rfl; (with_reducible repeat (first | refine bN ?_ _ | refine bD ?_ | refine bA ?_ _)); refine blk_put (cs := #[.int .i64 t234, .int .i64 t235, .int .i64 0, .int .u8 0, .int .i64 0, .string (⟨#[]⟩ : ByteArray)]) ?_ 2 _ rfl; (with_reducible repeat (first | refine bN ?_ _ | refine bD ?_ | refine bA ?_ _)); refine blk_put (cs := #[.int .i64 t234, .int .i64 0, .int .i64 0, .int .u8 0, .int .i64 0, .string (⟨#[]⟩ : ByteArray)]) ?_ 1 _ rfl; (with_reducible repeat (first | refine bN ?_ _ | refine bD ?_ | refine bA ?_ _)); refine blk_put (cs := #[.int .i64 0, .int .i64 0, .int .i64 0, .int .u8 0, .int .i64 0, .string (⟨#[]⟩ : ByteArray)]) ?_ 0 _ rfl; (with_reducible repeat (first | refine bN ?_ _ | refine bD ?_ | refine bA ?_ _)); exact BK242.out⟩, ⟨by repeat (first | (with_reducible first | exact HB.out | apply wA | apply wN | apply wD | refine wS ?_ GE242.out) | exact HB.out)⟩⟩
      ·rw [if_neg c18] at H
       have c18b0 : (t240 == (t233.size : Int)) = false := beq_eq_false_iff_ne.mpr c18
       have c18b1 : (t240 != (t233.size : Int)) = true := bne_iff_ne.mpr c18
       have H' := Aside0.mk H
       clear H
       go_wp2
       go_meet
       case rel => exact ⟨_, (true), (by first | rfl | (simp; done) | (simp [*]; done)), H', ⟨by have := HJ2.out; first | omega | exact Nat.le_refl _⟩, ⟨by (with_reducible repeat (first | refine bN ?_ _ | refine bD ?_ | refine bA ?_ _)); refine blk_put (cs := #[.int .i64 t234, .int .i64 t235, .int .i64 t236, .int .u8 t237, .int .i64 t238, .string (⟨#[]⟩ : ByteArray)]) ?_ 5 _ rfl; (with_reducible repeat (first | refine bN ?_ _ | refine bD ?_ | refine bA ?_ _)); refine blk_put (cs := #[.int .i64 t234, .int .i64 t235, .int .i64 t236, .int .u8 t237, .int .i64 0, .string (⟨#[]⟩ : ByteArray)]) ?_ 4 _ rfl; (with_reducible repeat (first | refine bN ?_ _ | refine bD ?_ | refine bA ?_ _)); refine blk_put (cs := #[.int .i64 t234, .int .i64 t235, .int .i64 t236, .int .u8 0, .int .i64 0, .string (⟨#[]⟩ : ByteArray)]) ?_ 3 _ rfl; (with_reducible repeat (first | refine bN ?_ _ | refine bD ?_ | refine bA ?_ _)); refine blk_put (cs := #[.int .i64 t234, .int .i64 t235, .int .i64 0, .int .u8 0, .int .i64 0, .string (⟨#[]⟩ : ByteArray)]) ?_ 2 _ rfl; (with_reducible repeat (first | refine bN ?_ _ | refine bD ?_ | refine bA ?_ _)); refine blk_put (cs := #[.int .i64 t234, .int .i64 0, .int .i64 0, .int .u8 0, .int .i64 0, .string (⟨#[]⟩ : ByteArray)]) ?_ 1 _ rfl; (with_reducible repeat (first | refine bN ?_ _ | refine bD ?_ | refine bA ?_ _)); refine blk_put (cs := #[.int .i64 0, .int .i64 0, .int .i64 0, .int .u8 0, .int .i64 0, .string (⟨#[]⟩ : ByteArray)]) ?_ 0 _ rfl; (with_reducible repeat (first | refine bN ?_ _ | refine bD ?_ | refine bA ?_ _)); exact BK242.out⟩, ⟨by repeat (first | (with_reducible first | exact HB.out | apply wA | apply wN | apply wD | refine wS ?_ GE242.out) | exact HB.out)⟩⟩
     ·rw [if_neg c17] at H
      have c17b0 : (t241 == 0) = false := beq_eq_false_iff_ne.mpr c17
      have c17b1 : (t241 != 0) = true := bne_iff_ne.mpr c17
      (first | rw [c17b0] | (simp only [i64_w, i32_w]; rw [c17b0]) | skip)
      have H' := Aside0.mk H
      clear H
      go_wp2
      go_meet
      case rel => exact ⟨_, (true), (by first | rfl | (simp; done) | (simp [*]; done)), H', ⟨by have := HJ2.out; first | omega | exact Nat.le_refl _⟩, ⟨by (with_reducible repeat (first | refine bN ?_ _ | refine bD ?_ | refine bA ?_ _)); refine blk_put (cs := #[.int .i64 t234, .int .i64 t235, .int .i64 t236, .int .u8 t237, .int .i64 t238, .string (⟨#[]⟩ : ByteArray)]) ?_ 5 _ rfl; (with_reducible repeat (first | refine bN ?_ _ | refine bD ?_ | refine bA ?_ _)); refine blk_put (cs := #[.int .i64 t234, .int .i64 t235, .int .i64 t236, .int .u8 t237, .int .i64 0, .string (⟨#[]⟩ : ByteArray)]) ?_ 4 _ rfl; (with_reducible repeat (first | refine bN ?_ _ | refine bD ?_ | refine bA ?_ _)); refine blk_put (cs := #[.int .i64 t234, .int .i64 t235, .int .i64 t236, .int .u8 0, .int .i64 0, .string (⟨#[]⟩ : ByteArray)]) ?_ 3 _ rfl; (with_reducible repeat (first | refine bN ?_ _ | refine bD ?_ | refine bA ?_ _)); refine blk_put (cs := #[.int .i64 t234, .int .i64 t235, .int .i64 0, .int .u8 0, .int .i64 0, .string (⟨#[]⟩ : ByteArray)]) ?_ 2 _ rfl; (with_reducible repeat (first | refine bN ?_ _ | refine bD ?_ | refine bA ?_ _)); refine blk_put (cs := #[.int .i64 t234, .int .i64 0, .int .i64 0, .int .u8 0, .int .i64 0, .string (⟨#[]⟩ : ByteArray)]) ?_ 1 _ rfl; (with_reducible repeat (first | refine bN ?_ _ | refine bD ?_ | refine bA ?_ _)); refine blk_put (cs := #[.int .i64 0, .int .i64 0, .int .i64 0, .int .u8 0, .int .i64 0, .string (⟨#[]⟩ : ByteArray)]) ?_ 0 _ rfl; (with_reducible repeat (first | refine bN ?_ _ | refine bD ?_ | refine bA ?_ _)); exact BK242.out⟩, ⟨by repeat (first | (with_reducible first | exact HB.out | apply wA | apply wN | apply wD | refine wS ?_ GE242.out) | exact HB.out)⟩⟩
    case rest =>
     clear HC12
     (try clear c1); (try clear c2); (try clear c7); (try clear c8); (try clear c9); (try clear c17); (try clear c17b0); (try clear c17b1); (try clear c18); (try clear c18b0); (try clear c18b1); (try clear c19); (try clear c19b0); (try clear c19b1); (try clear c20); (try clear c20b0); (try clear c20b1); (try clear hcz16_0); (try clear hcz16_1); (try clear hcz16_2); (try clear hcz16_3); (try clear hcz16_4); (try clear hcz16_5); (try clear hcz21_0); (try clear hcz21_1); (try clear hcz21_2); (try clear hcz21_3); (try clear hcz21_4); (try clear hcz21_5); (try clear hcz22_0); (try clear hcz22_1); (try clear hcz22_2); (try clear hcz22_3); (try clear hcz22_4); (try clear hcz22_5); (try clear hcz23_0); (try clear hcz23_1); (try clear hcz23_2); (try clear hcz23_3); (try clear hcz23_4); (try clear hcz23_5); (try clear hfz16_0); (try clear hfz16_1); (try clear hfz16_2); (try clear hfz16_3); (try clear hfz16_4); (try clear hfz16_5); (try clear hfz21_0); (try clear hfz21_1); (try clear hfz21_2); (try clear hfz21_3); (try clear hfz21_4); (try clear hfz21_5); (try clear hfz22_0); (try clear hfz22_1); (try clear hfz22_2); (try clear hfz22_3); (try clear hfz22_4); (try clear hfz22_5); (try clear hfz23_0); (try clear hfz23_1); (try clear hfz23_2); (try clear hfz23_3); (try clear hfz23_4); (try clear hfz23_5)
     obtain ⟨kq, x50_11, rfl, HA, HJ11, BK242, HB⟩ := hcut
     cases kq with
     | zero => exact absurd HA.out (by simp [ndjqlaw03_JsonlexQuoted.j1])
     | succ kj11 =>
      have H := HA.out
      clear HA
      simp only [ndjqlaw03_JsonlexQuoted.j1] at H
      by_cases c24 : x50_11 = true
      ·subst c24
       have H1 : (some false) = some r := by rw [if_pos rfl] at H; exact H
       clear H; have H := H1; clear H1
       obtain rfl := Option.some.inj H
       go_wp2
       go_ret
       exact ⟨by first | rfl | (simp [errW_none, errW_some] <;> rfl) | (simp [*, errW_none, errW_some] <;> rfl), by repeat (first | (with_reducible first | exact HB.out | apply wA | apply wN | apply wD | refine wS ?_ GE242.out) | exact HB.out)⟩
      ·replace c24 := Bool.eq_false_iff.mpr c24
       subst c24
       have H1 : ((ndjqkeep_Mod.f a1 (wrap64 ((t233.size : Int) - 1))).bind fun t243 => (if 0 ≤ (wrap64 (t243 + 1)) then (if (wrap64 (t243 + 1)) ≤ (t233.size : Int) then ((jsonlex_Next.f kj11 (t233.extract 0 ((wrap64 (t243 + 1)) : Int).toNat) 0).bind fun bt244 => (if bt244.2.2.2.2.2.2.2 = 5 then (if bt244.2.2.2.2.2.2.1 = (wrap64 (t243 + 1)) then ((ndjqlaw03_awake.f kj11).bind fun t252 => (some t252)) else (if bt244.2.2.2.2.2.2.2 = 6 then ((ndjqref01_Valid.f kj11 (t233.extract 0 ((wrap64 (t243 + 1)) : Int).toNat)).bind fun t253 => (if t253 = true then (some false) else ((ndjqlaw03_awake.f kj11).bind fun t254 => (some t254)))) else (some false))) else (if bt244.2.2.2.2.2.2.2 = 6 then ((ndjqref01_Valid.f kj11 (t233.extract 0 ((wrap64 (t243 + 1)) : Int).toNat)).bind fun t255 => (if t255 = true then (some false) else ((ndjqlaw03_awake.f kj11).bind fun t256 => (some t256)))) else (some false)))) else (none)) else (none))) = some r := by rw [if_neg (show ¬ (false = true) by decide)] at H; exact H
       clear H; have H := H1; clear H1
       replace H := Option.bind_eq_some_iff.mp H
       obtain ⟨t243, A250, H⟩ := H
       replace H : (if 0 ≤ (wrap64 (t243 + 1)) then (if (wrap64 (t243 + 1)) ≤ (t233.size : Int) then ((jsonlex_Next.f kj11 (t233.extract 0 ((wrap64 (t243 + 1)) : Int).toNat) 0).bind fun bt244 => (if bt244.2.2.2.2.2.2.2 = 5 then (if bt244.2.2.2.2.2.2.1 = (wrap64 (t243 + 1)) then ((ndjqlaw03_awake.f kj11).bind fun t252 => (some t252)) else (if bt244.2.2.2.2.2.2.2 = 6 then ((ndjqref01_Valid.f kj11 (t233.extract 0 ((wrap64 (t243 + 1)) : Int).toNat)).bind fun t253 => (if t253 = true then (some false) else ((ndjqlaw03_awake.f kj11).bind fun t254 => (some t254)))) else (some false))) else (if bt244.2.2.2.2.2.2.2 = 6 then ((ndjqref01_Valid.f kj11 (t233.extract 0 ((wrap64 (t243 + 1)) : Int).toNat)).bind fun t255 => (if t255 = true then (some false) else ((ndjqlaw03_awake.f kj11).bind fun t256 => (some t256)))) else (some false)))) else (none)) else (none)) = some r := H
       have A25 := Aside0.mk A250
       clear A250
       obtain ⟨ji26, hji26⟩ : ∃ j_ : Int, (wrap64 (t243 + 1)) = j_ := ⟨_, rfl⟩
       replace H : (if 0 ≤ (ji26) then (if (ji26) ≤ (t233.size : Int) then ((jsonlex_Next.f kj11 (t233.extract 0 ((ji26) : Int).toNat) 0).bind fun bt244 => (if bt244.2.2.2.2.2.2.2 = 5 then (if bt244.2.2.2.2.2.2.1 = (ji26) then ((ndjqlaw03_awake.f kj11).bind fun t252 => (some t252)) else (if bt244.2.2.2.2.2.2.2 = 6 then ((ndjqref01_Valid.f kj11 (t233.extract 0 ((ji26) : Int).toNat)).bind fun t253 => (if t253 = true then (some false) else ((ndjqlaw03_awake.f kj11).bind fun t254 => (some t254)))) else (some false))) else (if bt244.2.2.2.2.2.2.2 = 6 then ((ndjqref01_Valid.f kj11 (t233.extract 0 ((ji26) : Int).toNat)).bind fun t255 => (if t255 = true then (some false) else ((ndjqlaw03_awake.f kj11).bind fun t256 => (some t256)))) else (some false)))) else (none)) else (none)) = some r := by first | (rw [hji26] at H; exact H) | (simp only [hji26] at H ⊢; exact H)
       (try rw [hji26] at A25)
       have hji26w : (IntKind.i64.wrap (t243 + 1)) = ji26 := (i64_w _).trans hji26
       by_cases c27 : 0 ≤ (ji26)
       ·rw [if_pos c27] at H
        have c27b0 := eq_true c27
        have c27b1 : decide (0 ≤ (ji26)) = true := decide_eq_true c27
        clear c27
        by_cases c28 : (ji26) ≤ (t233.size : Int)
        ·rw [if_pos c28] at H
         have c28b0 := eq_true c28
         have c28b1 : decide ((ji26) ≤ (t233.size : Int)) = true := decide_eq_true c28
         clear c28
         replace H := Option.bind_eq_some_iff.mp H
         obtain ⟨⟨t244, t245, t246, t247, t248, t249, t250, t251⟩, A290, H⟩ := H
         replace H : (if t251 = 5 then (if t250 = (ji26) then ((ndjqlaw03_awake.f kj11).bind fun t252 => (some t252)) else (if t251 = 6 then ((ndjqref01_Valid.f kj11 (t233.extract 0 ((ji26) : Int).toNat)).bind fun t253 => (if t253 = true then (some false) else ((ndjqlaw03_awake.f kj11).bind fun t254 => (some t254)))) else (some false))) else (if t251 = 6 then ((ndjqref01_Valid.f kj11 (t233.extract 0 ((ji26) : Int).toNat)).bind fun t255 => (if t255 = true then (some false) else ((ndjqlaw03_awake.f kj11).bind fun t256 => (some t256)))) else (some false))) = some r := H
         have A29 := Aside0.mk A290
         clear A290
         have HF30 := Aside0.mk H
         clear H
         go_wp2_with (first | ((with_reducible refine gate_callee (f := 15) rfl ?_); refine goesL_ (some 55) rfl rfl Try.func15 (by kernel_rfl) rfl #[.int .i64 a1, .int .i64 (wrap64 ((t233.size : Int) - 1))] rfl (by (try simp only [List.map_toArray, List.map_cons, List.map_nil]); first | done | rfl | (simp only [List.length_drop, List.length_take]; rfl)) ?_; (with_reducible refine (ndjqkeep_Mod.calls a1 (wrap64 ((t233.size : Int) - 1)) t243 _ A25.out).mono ?_); rintro e w' ⟨rfl, ⟨nd, rfl⟩⟩; refine ⟨_, rfl, ?_⟩))
         have H := HF30.out
         clear HF30
         by_cases c31 : t251 = 5
         ·rw [if_pos c31] at H
          have c31b0 : (t251 == 5) = true := beq_iff_eq.mpr c31
          have c31b1 : (t251 != 5) = false := bne_eq_false_iff_eq.mpr c31
          clear c31
          by_cases c32 : t250 = (ji26)
          ·rw [if_pos c32] at H
           have c32b0 : (t250 == (ji26)) = true := beq_iff_eq.mpr c32
           have c32b1 : (t250 != (ji26)) = false := bne_eq_false_iff_eq.mpr c32
           clear c32
           replace H := Option.bind_eq_some_iff.mp H
           obtain ⟨t252, A330, H⟩ := H
           replace H : (some t252) = some r := H
           have A33 := Aside0.mk A330
           clear A330
           obtain rfl := Option.some.inj H
           go_wp2_with (first | (go_at_call 9; (with_reducible refine (jsonlex_Next.calls kj11 (t233.extract 0 ((ji26) : Int).toNat) 0 t244 t245 t246 t247 t248 t249 t250 t251 _ A29.out).mono ?_); rintro e w34 ⟨rfl, hb⟩; have n0_ := Aside0.mk (blk_below (g := gb242) (o := .cells #[.int .i64 t234, .int .i64 t235, .int .i64 t236, .int .u8 t237, .int .i64 t238, .string t239] 24 (0, 0)) (by (with_reducible repeat (first | refine bN ?_ _ | refine bD ?_ | refine bA ?_ _)); exact BK242.out) hb); have n1_ := Aside0.mk (below_step (by repeat (first | (with_reducible first | exact HB.out | apply wA | apply wN | apply wD | refine wS ?_ GE242.out) | exact HB.out)) hb); clear BK242; clear HB; have BK242 := n0_; have HB := n1_; clear n0_ n1_; (try clear hb); (try clear hb2); (try clear hk); (try clear hi)) | (go_at_call 8; (with_reducible refine (ndjqlaw03_awake.calls kj11  t252 _ A33.out).mono ?_); rintro e w35 ⟨rfl, hb⟩; have n0_ := Aside0.mk (blk_below (g := gb242) (o := .cells #[.int .i64 t234, .int .i64 t235, .int .i64 t236, .int .u8 t237, .int .i64 t238, .string t239] 24 (0, 0)) (by (with_reducible repeat (first | refine bN ?_ _ | refine bD ?_ | refine bA ?_ _)); exact BK242.out) hb); have n1_ := Aside0.mk (below_step (by repeat (first | (with_reducible first | exact HB.out | apply wA | apply wN | apply wD | refine wS ?_ GE242.out) | exact HB.out)) hb); clear BK242; clear HB; have BK242 := n0_; have HB := n1_; clear n0_ n1_; (try clear hb); (try clear hb2); (try clear hk); (try clear hi)))
           go_ret
           exact ⟨by first | rfl | (simp [errW_none, errW_some] <;> rfl) | (simp only [← hji26]; first | rfl | (simp [errW_none, errW_some] <;> rfl)) | (simp [*, errW_none, errW_some] <;> rfl), by repeat (first | (with_reducible first | exact HB.out | apply wA | apply wN | apply wD | refine wS ?_ GE242.out) | exact HB.out)⟩
          ·rw [if_neg c32] at H
           have c32b0 : (t250 == (ji26)) = false := beq_eq_false_iff_ne.mpr c32
           have c32b1 : (t250 != (ji26)) = true := bne_iff_ne.mpr c32
           by_cases c36 : t251 = 6
           ·rw [if_pos c36] at H
            have c36b0 : (t251 == 6) = true := beq_iff_eq.mpr c36
            have c36b1 : (t251 != 6) = false := bne_eq_false_iff_eq.mpr c36
            clear c36
            have c37b0 := eq_true (of_decide_eq_true (by first | (with_reducible assumption) | assumption) : 0 ≤ (ji26))
            have c38b0 := eq_true (of_decide_eq_true (by first | (with_reducible assumption) | assumption) : (ji26) ≤ (t233.size : Int))
            replace H := Option.bind_eq_some_iff.mp H
            obtain ⟨t253, A390, H⟩ := H
            replace H : (if t253 = true then (some false) else ((ndjqlaw03_awake.f kj11).bind fun t254 => (some t254))) = some r := H
            have A39 := Aside0.mk A390
            clear A390
            have HF40 := Aside0.mk H
            clear H
            go_wp2_with (first | (go_at_call 9; (with_reducible refine (jsonlex_Next.calls kj11 (t233.extract 0 ((ji26) : Int).toNat) 0 t244 t245 t246 t247 t248 t249 t250 t251 _ A29.out).mono ?_); rintro e w41 ⟨rfl, hb⟩; have n0_ := Aside0.mk (blk_below (g := gb242) (o := .cells #[.int .i64 t234, .int .i64 t235, .int .i64 t236, .int .u8 t237, .int .i64 t238, .string t239] 24 (0, 0)) (by (with_reducible repeat (first | refine bN ?_ _ | refine bD ?_ | refine bA ?_ _)); exact BK242.out) hb); have n1_ := Aside0.mk (below_step (by repeat (first | (with_reducible first | exact HB.out | apply wA | apply wN | apply wD | refine wS ?_ GE242.out) | exact HB.out)) hb); clear BK242; clear HB; have BK242 := n0_; have HB := n1_; clear n0_ n1_; (try clear hb); (try clear hb2); (try clear hk); (try clear hi)))
            have H := HF40.out
            clear HF40
            by_cases c42 : t253 = true
            ·subst c42
             have H1 : (some false) = some r := by rw [if_pos rfl] at H; exact H
             clear H; have H := H1; clear H1
             obtain rfl := Option.some.inj H
             go_wp2_with (first | (go_at_call 17; (with_reducible refine (ndjqref01_Valid.calls kj11 (t233.extract 0 ((ji26) : Int).toNat) true _ A39.out).mono ?_); rintro e w43 ⟨rfl, hb⟩; have n0_ := Aside0.mk (blk_below (g := gb242) (o := .cells #[.int .i64 t234, .int .i64 t235, .int .i64 t236, .int .u8 t237, .int .i64 t238, .string t239] 24 (0, 0)) (by (with_reducible repeat (first | refine bN ?_ _ | refine bD ?_ | refine bA ?_ _)); exact BK242.out) hb); have n1_ := Aside0.mk (below_step (by repeat (first | (with_reducible first | exact HB.out | apply wA | apply wN | apply wD | refine wS ?_ GE242.out) | exact HB.out)) hb); clear BK242; clear HB; have BK242 := n0_; have HB := n1_; clear n0_ n1_; (try clear hb); (try clear hb2); (try clear hk); (try clear hi)))
             go_ret
             exact ⟨by first | rfl | (simp [errW_none, errW_some] <;> rfl) | (simp only [← hji26]; first | rfl | (simp [errW_none, errW_some] <;> rfl)) | (simp [*, errW_none, errW_some] <;> rfl), by repeat (first | (with_reducible first | exact HB.out | apply wA | apply wN | apply wD | refine wS ?_ GE242.out) | exact HB.out)⟩
            ·replace c42 := Bool.eq_false_iff.mpr c42
             subst c42
             have H1 : ((ndjqlaw03_awake.f kj11).bind fun t254 => (some t254)) = some r := by rw [if_neg (show ¬ (false = true) by decide)] at H; exact H
             clear H; have H := H1; clear H1
             replace H := Option.bind_eq_some_iff.mp H
             obtain ⟨t254, A440, H⟩ := H
             replace H : (some t254) = some r := H
             have A44 := Aside0.mk A440
             clear A440
             obtain rfl := Option.some.inj H
             go_wp2_with (first | (go_at_call 17; (with_reducible refine (ndjqref01_Valid.calls kj11 (t233.extract 0 ((ji26) : Int).toNat) false _ A39.out).mono ?_); rintro e w45 ⟨rfl, hb⟩; have n0_ := Aside0.mk (blk_below (g := gb242) (o := .cells #[.int .i64 t234, .int .i64 t235, .int .i64 t236, .int .u8 t237, .int .i64 t238, .string t239] 24 (0, 0)) (by (with_reducible repeat (first | refine bN ?_ _ | refine bD ?_ | refine bA ?_ _)); exact BK242.out) hb); have n1_ := Aside0.mk (below_step (by repeat (first | (with_reducible first | exact HB.out | apply wA | apply wN | apply wD | refine wS ?_ GE242.out) | exact HB.out)) hb); clear BK242; clear HB; have BK242 := n0_; have HB := n1_; clear n0_ n1_; (try clear hb); (try clear hb2); (try clear hk); (try clear hi)) | (go_at_call 8; (with_reducible refine (ndjqlaw03_awake.calls kj11  t254 _ A44.out).mono ?_); rintro e w46 ⟨rfl, hb⟩; have n0_ := Aside0.mk (blk_below (g := gb242) (o := .cells #[.int .i64 t234, .int .i64 t235, .int .i64 t236, .int .u8 t237, .int .i64 t238, .string t239] 24 (0, 0)) (by (with_reducible repeat (first | refine bN ?_ _ | refine bD ?_ | refine bA ?_ _)); exact BK242.out) hb); have n1_ := Aside0.mk (below_step (by repeat (first | (with_reducible first | exact HB.out | apply wA | apply wN | apply wD | refine wS ?_ GE242.out) | exact HB.out)) hb); clear BK242; clear HB; have BK242 := n0_; have HB := n1_; clear n0_ n1_; (try clear hb); (try clear hb2); (try clear hk); (try clear hi)))
             go_ret
             exact ⟨by first | rfl | (simp [errW_none, errW_some] <;> rfl) | (simp only [← hji26]; first | rfl | (simp [errW_none, errW_some] <;> rfl)) | (simp [*, errW_none, errW_some] <;> rfl), by repeat (first | (with_reducible first | exact HB.out | apply wA | apply wN | apply wD | refine wS ?_ GE242.out) | exact HB.out)⟩
           ·rw [if_neg c36] at H
            have c36b0 : (t251 == 6) = false := beq_eq_false_iff_ne.mpr c36
            have c36b1 : (t251 != 6) = true := bne_iff_ne.mpr c36
            obtain rfl := Option.some.inj H
            go_wp2_with (first | (go_at_call 9; (with_reducible refine (jsonlex_Next.calls kj11 (t233.extract 0 ((ji26) : Int).toNat) 0 t244 t245 t246 t247 t248 t249 t250 t251 _ A29.out).mono ?_); rintro e w47 ⟨rfl, hb⟩; have n0_ := Aside0.mk (blk_below (g := gb242) (o := .cells #[.int .i64 t234, .int .i64 t235, .int .i64 t236, .int .u8 t237, .int .i64 t238, .string t239] 24 (0, 0)) (by (with_reducible repeat (first | refine bN ?_ _ | refine bD ?_ | refine bA ?_ _)); exact BK242.out) hb); have n1_ := Aside0.mk (below_step (by repeat (first | (with_reducible first | exact HB.out | apply wA | apply wN | apply wD | refine wS ?_ GE242.out) | exact HB.out)) hb); clear BK242; clear HB; have BK242 := n0_; have HB := n1_; clear n0_ n1_; (try clear hb); (try clear hb2); (try clear hk); (try clear hi)))
            go_ret
            exact ⟨by first | rfl | (simp [errW_none, errW_some] <;> rfl) | (simp only [← hji26]; first | rfl | (simp [errW_none, errW_some] <;> rfl)) | (simp [*, errW_none, errW_some] <;> rfl), by repeat (first | (with_reducible first | exact HB.out | apply wA | apply wN | apply wD | refine wS ?_ GE242.out) | exact HB.out)⟩
         ·rw [if_neg c31] at H
          have c31b0 : (t251 == 5) = false := beq_eq_false_iff_ne.mpr c31
          have c31b1 : (t251 != 5) = true := bne_iff_ne.mpr c31
          by_cases c48 : t251 = 6
          ·rw [if_pos c48] at H
           have c48b0 : (t251 == 6) = true := beq_iff_eq.mpr c48
           have c48b1 : (t251 != 6) = false := bne_eq_false_iff_eq.mpr c48
           clear c48
           have c49b0 := eq_true (of_decide_eq_true (by first | (with_reducible assumption) | assumption) : 0 ≤ (ji26))
           have c50b0 := eq_true (of_decide_eq_true (by first | (with_reducible assumption) | assumption) : (ji26) ≤ (t233.size : Int))
           replace H := Option.bind_eq_some_iff.mp H
           obtain ⟨t255, A510, H⟩ := H
           replace H : (if t255 = true then (some false) else ((ndjqlaw03_awake.f kj11).bind fun t256 => (some t256))) = some r := H
           have A51 := Aside0.mk A510
           clear A510
           have HF52 := Aside0.mk H
           clear H
           go_wp2_with (first | (go_at_call 9; (with_reducible refine (jsonlex_Next.calls kj11 (t233.extract 0 ((ji26) : Int).toNat) 0 t244 t245 t246 t247 t248 t249 t250 t251 _ A29.out).mono ?_); rintro e w53 ⟨rfl, hb⟩; have n0_ := Aside0.mk (blk_below (g := gb242) (o := .cells #[.int .i64 t234, .int .i64 t235, .int .i64 t236, .int .u8 t237, .int .i64 t238, .string t239] 24 (0, 0)) (by (with_reducible repeat (first | refine bN ?_ _ | refine bD ?_ | refine bA ?_ _)); exact BK242.out) hb); have n1_ := Aside0.mk (below_step (by repeat (first | (with_reducible first | exact HB.out | apply wA | apply wN | apply wD | refine wS ?_ GE242.out) | exact HB.out)) hb); clear BK242; clear HB; have BK242 := n0_; have HB := n1_; clear n0_ n1_; (try clear hb); (try clear hb2); (try clear hk); (try clear hi)))
           have H := HF52.out
           clear HF52
           by_cases c54 : t255 = true
           ·subst c54
            have H1 : (some false) = some r := by rw [if_pos rfl] at H; exact H
            clear H; have H := H1; clear H1
            obtain rfl := Option.some.inj H
            go_wp2_with (first | (go_at_call 17; (with_reducible refine (ndjqref01_Valid.calls kj11 (t233.extract 0 ((ji26) : Int).toNat) true _ A51.out).mono ?_); rintro e w55 ⟨rfl, hb⟩; have n0_ := Aside0.mk (blk_below (g := gb242) (o := .cells #[.int .i64 t234, .int .i64 t235, .int .i64 t236, .int .u8 t237, .int .i64 t238, .string t239] 24 (0, 0)) (by (with_reducible repeat (first | refine bN ?_ _ | refine bD ?_ | refine bA ?_ _)); exact BK242.out) hb); have n1_ := Aside0.mk (below_step (by repeat (first | (with_reducible first | exact HB.out | apply wA | apply wN | apply wD | refine wS ?_ GE242.out) | exact HB.out)) hb); clear BK242; clear HB; have BK242 := n0_; have HB := n1_; clear n0_ n1_; (try clear hb); (try clear hb2); (try clear hk); (try clear hi)))
            go_ret
            exact ⟨by first | rfl | (simp [errW_none, errW_some] <;> rfl) | (simp only [← hji26]; first | rfl | (simp [errW_none, errW_some] <;> rfl)) | (simp [*, errW_none, errW_some] <;> rfl), by repeat (first | (with_reducible first | exact HB.out | apply wA | apply wN | apply wD | refine wS ?_ GE242.out) | exact HB.out)⟩
           ·replace c54 := Bool.eq_false_iff.mpr c54
            subst c54
            have H1 : ((ndjqlaw03_awake.f kj11).bind fun t256 => (some t256)) = some r := by rw [if_neg (show ¬ (false = true) by decide)] at H; exact H
            clear H; have H := H1; clear H1
            replace H := Option.bind_eq_some_iff.mp H
            obtain ⟨t256, A560, H⟩ := H
            replace H : (some t256) = some r := H
            have A56 := Aside0.mk A560
            clear A560
            obtain rfl := Option.some.inj H
            go_wp2_with (first | (go_at_call 17; (with_reducible refine (ndjqref01_Valid.calls kj11 (t233.extract 0 ((ji26) : Int).toNat) false _ A51.out).mono ?_); rintro e w57 ⟨rfl, hb⟩; have n0_ := Aside0.mk (blk_below (g := gb242) (o := .cells #[.int .i64 t234, .int .i64 t235, .int .i64 t236, .int .u8 t237, .int .i64 t238, .string t239] 24 (0, 0)) (by (with_reducible repeat (first | refine bN ?_ _ | refine bD ?_ | refine bA ?_ _)); exact BK242.out) hb); have n1_ := Aside0.mk (below_step (by repeat (first | (with_reducible first | exact HB.out | apply wA | apply wN | apply wD | refine wS ?_ GE242.out) | exact HB.out)) hb); clear BK242; clear HB; have BK242 := n0_; have HB := n1_; clear n0_ n1_; (try clear hb); (try clear hb2); (try clear hk); (try clear hi)) | (go_at_call 8; (with_reducible refine (ndjqlaw03_awake.calls kj11  t256 _ A56.out).mono ?_); rintro e w58 ⟨rfl, hb⟩; have n0_ := Aside0.mk (blk_below (g := gb242) (o := .cells #[.int .i64 t234, .int .i64 t235, .int .i64 t236, .int .u8 t237, .int .i64 t238, .string t239] 24 (0, 0)) (by (with_reducible repeat (first | refine bN ?_ _ | refine bD ?_ | refine bA ?_ _)); exact BK242.out) hb); have n1_ := Aside0.mk (below_step (by repeat (first | (with_reducible first | exact HB.out | apply wA | apply wN | apply wD | refine wS ?_ GE242.out) | exact HB.out)) hb); clear BK242; clear HB; have BK242 := n0_; have HB := n1_; clear n0_ n1_; (try clear hb); (try clear hb2); (try clear hk); (try clear hi)))
            go_ret
            exact ⟨by first | rfl | (simp [errW_none, errW_some] <;> rfl) | (simp only [← hji26]; first | rfl | (simp [errW_none, errW_some] <;> rfl)) | (simp [*, errW_none, errW_some] <;> rfl), by repeat (first | (with_reducible first | exact HB.out | apply wA | apply wN | apply wD | refine wS ?_ GE242.out) | exact HB.out)⟩
          ·rw [if_neg c48] at H
           have c48b0 : (t251 == 6) = false := beq_eq_false_iff_ne.mpr c48
           have c48b1 : (t251 != 6) = true := bne_iff_ne.mpr c48
           obtain rfl := Option.some.inj H
           go_wp2_with (first | (go_at_call 9; (with_reducible refine (jsonlex_Next.calls kj11 (t233.extract 0 ((ji26) : Int).toNat) 0 t244 t245 t246 t247 t248 t249 t250 t251 _ A29.out).mono ?_); rintro e w59 ⟨rfl, hb⟩; have n0_ := Aside0.mk (blk_below (g := gb242) (o := .cells #[.int .i64 t234, .int .i64 t235, .int .i64 t236, .int .u8 t237, .int .i64 t238, .string t239] 24 (0, 0)) (by (with_reducible repeat (first | refine bN ?_ _ | refine bD ?_ | refine bA ?_ _)); exact BK242.out) hb); have n1_ := Aside0.mk (below_step (by repeat (first | (with_reducible first | exact HB.out | apply wA | apply wN | apply wD | refine wS ?_ GE242.out) | exact HB.out)) hb); clear BK242; clear HB; have BK242 := n0_; have HB := n1_; clear n0_ n1_; (try clear hb); (try clear hb2); (try clear hk); (try clear hi)))
           go_ret
           exact ⟨by first | rfl | (simp [errW_none, errW_some] <;> rfl) | (simp only [← hji26]; first | rfl | (simp [errW_none, errW_some] <;> rfl)) | (simp [*, errW_none, errW_some] <;> rfl), by repeat (first | (with_reducible first | exact HB.out | apply wA | apply wN | apply wD | refine wS ?_ GE242.out) | exact HB.out)⟩
        ·rw [if_neg c28] at H
         exact absurd H (by simp)
       ·rw [if_neg c27] at H
        exact absurd H (by simp)

/-- THE ONE PURE STATEMENT of ndjqlaw03_JsonlexQuoted: yours. -/
def ndjqlaw03_JsonlexQuoted.Pure : Prop := ∀ (a0 : ByteArray) (a1 : Int), a0.size ≤ 140737488351232 → (Lit.int .i64 a1).wf = true → ∃ k, ndjqlaw03_JsonlexQuoted.f k a0 a1 = some true
theorem ndjqlaw03_JsonlexQuoted.walk (P : ndjqlaw03_JsonlexQuoted.Pure) (a0 : ByteArray) (a1 : Int) (w : World) (w0 : a0.size ≤ 140737488351232) (w1 : (Lit.int .i64 a1).wf = true) :
  Calls Try.prog 7 #[.string a0, .int .i64 a1] w fun e w' => e = .returned (.bool true) ∧ Below w.heap.size w w' := by
 obtain ⟨k, h⟩ := P a0 a1 w0 w1
 refine (ndjqlaw03_JsonlexQuoted.calls k a0 a1 true w h).mono ?_
 rintro e w' ⟨rfl, hd⟩
 exact ⟨rfl, hd⟩

end Go.Proofs.Ytcnojfoiolbnaaa.QJsonlexQuoted
