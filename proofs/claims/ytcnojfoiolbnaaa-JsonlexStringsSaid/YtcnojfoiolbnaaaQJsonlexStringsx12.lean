-- by a program of this session (print2.py): the machine's side of one law; Lean checks it.
import Derived.Test.YtcnojfoiolbnaaaQJsonlexStringsx0
import Derived.Test.YtcnojfoiolbnaaaQJsonlexStringsx8
import Derived.Test.YtcnojfoiolbnaaaQJsonlexStringsx9
import Derived.Test.YtcnojfoiolbnaaaQJsonlexStringsx10
import Derived.Test.YtcnojfoiolbnaaaQJsonlexStringsx11
namespace Go.Proofs.Ytcnojfoiolbnaaa.QJsonlexStrings
open Go.RowKit Go.Proofs.YtcnojfoiolbnaaaW.PrintWords Go.Proofs.YtcnojfoiolbnaaaW.PrintLast Go.Proofs.YtcnojfoiolbnaaaW.PrintMore
attribute [local go_sem] max2_int min2_int max_two min_two max_three min_three max_four min_four   -- for this text's walks alone
set_option linter.unusedVariables false
set_option linter.unusedSimpArgs false

/-! ### ndjqref03_text: function 26 -/
def ndjqref03_text.l0 : Nat → ByteArray → Int → List Int → Int → Option (Int × Int × Int × Int × Int × ByteArray × Int × Int)
 | 0, _, _, _, _ => none
 | k + 1, x0, x1, x7, x8 => if x8 ≥ (x0.size : Int) then (some (0, 0, 0, 0, 0, (⟨#[]⟩ : ByteArray), (x0.size : Int), 5)) else (if 0 ≤ x8 then (if x8 < (x0.size : Int) then (if (bt x0 x8) = 34 then (if (x7.length : Int) > 4096 then (some (0, 0, 0, 0, 0, (⟨#[]⟩ : ByteArray), x1, 2)) else (some (4, x1, wrap64 (x8 + 1), 0, 0, strOfNums x7, wrap64 (x8 + 1), 0))) else (if (bt x0 x8) < 32 then (some (0, 0, 0, 0, 0, (⟨#[]⟩ : ByteArray), x8, 4)) else (if (bt x0 x8) = 92 then ((ndjqref03_escape.f k x0 x8).bind fun bt216 => (if bt216.2 = 0 then (some (0, 0, 0, 0, 0, (⟨#[]⟩ : ByteArray), (x0.size : Int), 5)) else (if bt216.2 < 0 then (some (0, 0, 0, 0, 0, (⟨#[]⟩ : ByteArray), x8, 4)) else ((ndjqref01_Encode.f k bt216.1).bind fun bt218 => (if x7.length + bt218.1.length < 140737488355328 then (ndjqref03_text.l0 k x0 x1 (x7 ++ bt218.1) (wrap64 (x8 + bt216.2))) else (none)))))) else ((ndjqref01_Decode.f k x0 x8).bind fun bt225 => (if bt225.2.2 = true then ((ndjqref01_Encode.f k bt225.1).bind fun bt228 => (if x7.length + bt228.1.length < 140737488355328 then (ndjqref03_text.l0 k x0 x1 (x7 ++ bt228.1) (wrap64 (x8 + bt225.2.1))) else (none))) else (some (0, 0, 0, 0, 0, (⟨#[]⟩ : ByteArray), x8, 6))))))) else (none)) else (none))
def ndjqref03_text.f (k : Nat) (a0 : ByteArray) (a1 : Int) : Option (Int × Int × Int × Int × Int × ByteArray × Int × Int) := ndjqref03_text.l0 k a0 a1 ([] : List Int) (wrap64 (a1 + 1))
theorem ndjqref03_text.mono_l : ∀ k, (∀ y0 y1 y2 y3, LeO (ndjqref03_text.l0 k y0 y1 y2 y3) (ndjqref03_text.l0 (k + 1) y0 y1 y2 y3))
 | 0 => fun _ _ _ _ r h => by simp [ndjqref03_text.l0] at h
 | k + 1 => by
  have ih0 := ndjqref03_text.mono_l k
  ·intro y0 y1 y2 y3
   unfold ndjqref03_text.l0
   repeat' first
   | (with_reducible exact ih0 _ _ _ _)
   | (with_reducible exact ndjqref01_Decode.mono _ _ _)
   | (with_reducible exact ndjqref01_Encode.mono _ _)
   | (with_reducible exact ndjqref03_escape.mono _ _ _)
   | (with_reducible exact LeO.refl _)
   | (with_reducible exact LeO.none _)
   | (with_reducible refine LeO.ite ?_ ?_)
   | (with_reducible refine LeO.bind ?_ (fun _ => ?_))
   | exact ih0 _ _ _ _
   | exact ndjqref01_Decode.mono _ _ _
   | exact ndjqref01_Encode.mono _ _
   | exact ndjqref03_escape.mono _ _ _
   | exact LeO.none _
   | refine LeO.ite ?_ ?_
   | refine LeO.bind ?_ (fun _ => ?_)
theorem ndjqref03_text.mono : ∀ a0 a1 k, LeO (ndjqref03_text.f k a0 a1) (ndjqref03_text.f (k + 1) a0 a1) := by
 intro a0 a1 k
 have ih0 := ndjqref03_text.mono_l k
 unfold ndjqref03_text.f
 repeat' first
   | (with_reducible exact ih0 _ _ _ _)
   | (with_reducible exact ndjqref01_Decode.mono _ _ _)
   | (with_reducible exact ndjqref01_Encode.mono _ _)
   | (with_reducible exact ndjqref03_escape.mono _ _ _)
   | (with_reducible exact LeO.refl _)
   | (with_reducible exact LeO.none _)
   | (with_reducible refine LeO.ite ?_ ?_)
   | (with_reducible refine LeO.bind ?_ (fun _ => ?_))
   | exact ih0 _ _ _ _
   | exact ndjqref01_Decode.mono _ _ _
   | exact ndjqref01_Encode.mono _ _
   | exact ndjqref03_escape.mono _ _ _
   | exact LeO.none _
   | refine LeO.ite ?_ ?_
   | refine LeO.bind ?_ (fun _ => ?_)
set_option maxHeartbeats 8000000 in
set_option maxRecDepth 100000 in
theorem ndjqref03_text.calls (k : Nat) (a0 : ByteArray) (a1 : Int) (r1 : Int) (r2 : Int) (r3 : Int) (r4 : Int) (r5 : Int) (r6 : ByteArray) (r7 : Int) (r8 : Int) (w : World) (h : ndjqref03_text.f k a0 a1 = some (r1, r2, r3, r4, r5, r6, r7, r8)) :
  Calls Try.prog 26 #[.string a0, .int .i64 a1] w fun e w' => e = .returned (.tuple #[.agg #[.int .i64 r1, .int .i64 r2, .int .i64 r3, .int .u8 r4, .int .i64 r5, .string r6], .int .i64 r7, .int .i64 r8]) ∧ Below w.heap.size w w' := by
 have hu24 := Try.underlying24
 have HB := Aside0.mk (Below.refl w.heap.size w)
 have H : (ndjqref03_text.l0 k a0 a1 ([] : List Int) (wrap64 (a1 + 1))) = some (r1, r2, r3, r4, r5, r6, r7, r8) := h
 clear h
 have H' := Aside0.mk H
 clear H
 go_enter Try.func26, Try.ntmps26
 go_wp2_with (first | ((with_reducible refine gate_dst (N := 4) rfl ?_); refine box_event ?hg (N := 4) ?hd (cs := #[.int .i64 0, .int .i64 0, .int .i64 0, .int .u8 0, .int .i64 0, .string (⟨#[]⟩ : ByteArray)]) (t := 24) ?hr ?_; (case hd => rfl); (case hg => rfl); (case hr => first | (go_simp; done) | (go_simp; rfl)); intro gb215 hg w3 hbox hb; have n0_ := Aside0.mk (below_step (by repeat (first | (with_reducible first | exact HB.out | apply wA | apply wN | apply wD) | exact HB.out)) hb); have n1_ := Aside0.mk (hbox); have n2_ := Aside0.mk ((by rw [hg]; exact (below_size (by repeat (first | (with_reducible first | exact HB.out | apply wA | apply wN | apply wD) | exact HB.out))) : w.heap.size ≤ gb215)); have n3_ := n2_; clear HB; have HB := n0_; have BK215 := n1_; have GW215 := n2_; have GE215 := n3_; clear n0_ n1_ n2_ n3_; clear hb hbox hg))
 go_loopg [7, 8] k (fun kq v7 v8 w' => ∃ (x7_1 : List Int) (x8_1 : Int) (x216000_1 : Int) (x216001_1 : Int) (x216002_1 : Int) (x216003_1 : Int) (x216004_1 : Int) (x216005_1 : ByteArray), v8 = .int .i64 x8_1 ∧ Aside0 (ndjqref03_text.l0 kq a0 a1 x7_1 x8_1 = some (r1, r2, r3, r4, r5, r6, r7, r8)) ∧ Aside0 (kq ≤ k) ∧ Aside0 (Kd.R (Kd.int .u8) 5 w' w.heap.size (fun _ => True) v7 x7_1) ∧ Aside0 (w'.heap[gb215]? = some (.cells #[.int .i64 x216000_1, .int .i64 x216001_1, .int .i64 x216002_1, .int .u8 x216003_1, .int .i64 x216004_1, .string x216005_1] 24 (0, 0))) ∧ Aside0 (Below w.heap.size w w'))
 case atStart => exact ⟨(([] : List Int)), (wrap64 (a1 + 1)), (0), (0), (0), (0), (0), ((⟨#[]⟩ : ByteArray)), (by first | rfl | (simp; done) | (simp [*]; done)), H', ⟨Nat.le_refl _⟩, ⟨by first | exact Kd.R_nil _ _ _ _ _ | exact Kd.N_nil _ _ _ _ _ | exact Kd.V_nil _ _ _ _ _ | exact Kd.Q_nil _ _ _ _ _ | exact Kd.S_nil _ _ _ _ _⟩, ⟨by (with_reducible repeat (first | refine bN ?_ _ | refine bD ?_ | refine bA ?_ _)); exact BK215.out⟩, ⟨by repeat (first | (with_reducible first | exact HB.out | apply wA | apply wN | apply wD | refine wS ?_ GE215.out) | exact HB.out)⟩⟩
 case round =>
  clear H'
  (try clear c2); (try clear p2)
  obtain ⟨x7_1, x8_1, x216000_1, x216001_1, x216002_1, x216003_1, x216004_1, x216005_1, rfl, HA, HK1, HO_7, BK215, HB⟩ := hrel
  cases gk with
  | zero => exact absurd HA.out (by simp [ndjqref03_text.l0])
  | succ k1 =>
   have H := HA.out
   clear HA
   simp only [ndjqref03_text.l0] at H
   by_cases c4 : x8_1 ≥ (a0.size : Int)
   ·rw [if_pos c4] at H
    have c4b0 : decide ((a0.size : Int) ≤ x8_1) = true := decide_eq_true c4
    clear c4
    simp only [Option.some.injEq, Prod.mk.injEq] at H
    obtain ⟨rfl, rfl, rfl, rfl, rfl, rfl, rfl, rfl⟩ := H
    have hcz5_0 : wr.cell? ⟨gb215, 0, none⟩ = some (.int .i64 x216000_1) := (blk_cell BK215.out 0).trans rfl; have hcz5_1 : wr.cell? ⟨gb215, 1, none⟩ = some (.int .i64 x216001_1) := (blk_cell BK215.out 1).trans rfl; have hcz5_2 : wr.cell? ⟨gb215, 2, none⟩ = some (.int .i64 x216002_1) := (blk_cell BK215.out 2).trans rfl; have hcz5_3 : wr.cell? ⟨gb215, 3, none⟩ = some (.int .u8 x216003_1) := (blk_cell BK215.out 3).trans rfl; have hcz5_4 : wr.cell? ⟨gb215, 4, none⟩ = some (.int .i64 x216004_1) := (blk_cell BK215.out 4).trans rfl; have hcz5_5 : wr.cell? ⟨gb215, 5, none⟩ = some (.string x216005_1) := (blk_cell BK215.out 5).trans rfl; have hfz5_0 := blk_frozen BK215.out 0; have hfz5_1 := blk_frozen BK215.out 1; have hfz5_2 := blk_frozen BK215.out 2; have hfz5_3 := blk_frozen BK215.out 3; have hfz5_4 := blk_frozen BK215.out 4; have hfz5_5 := blk_frozen BK215.out 5
    go_wp2
    refine bodyPost_ret (results_ctt rfl _ _ gb215 24 #[.int .i64 0, .int .i64 0, .int .i64 0, .int .u8 0, .int .i64 0, .string (⟨#[]⟩ : ByteArray)] (0, 0) _ rfl (by (with_reducible repeat (first | refine bN ?_ _ | refine bD ?_ | refine bA ?_ _)); refine blk_put (cs := #[.int .i64 0, .int .i64 0, .int .i64 0, .int .u8 0, .int .i64 0, .string x216005_1]) ?_ 5 _ rfl; (with_reducible repeat (first | refine bN ?_ _ | refine bD ?_ | refine bA ?_ _)); refine blk_put (cs := #[.int .i64 0, .int .i64 0, .int .i64 0, .int .u8 0, .int .i64 x216004_1, .string x216005_1]) ?_ 4 _ rfl; (with_reducible repeat (first | refine bN ?_ _ | refine bD ?_ | refine bA ?_ _)); refine blk_put (cs := #[.int .i64 0, .int .i64 0, .int .i64 0, .int .u8 x216003_1, .int .i64 x216004_1, .string x216005_1]) ?_ 3 _ rfl; (with_reducible repeat (first | refine bN ?_ _ | refine bD ?_ | refine bA ?_ _)); refine blk_put (cs := #[.int .i64 0, .int .i64 0, .int .i64 x216002_1, .int .u8 x216003_1, .int .i64 x216004_1, .string x216005_1]) ?_ 2 _ rfl; (with_reducible repeat (first | refine bN ?_ _ | refine bD ?_ | refine bA ?_ _)); refine blk_put (cs := #[.int .i64 0, .int .i64 x216001_1, .int .i64 x216002_1, .int .u8 x216003_1, .int .i64 x216004_1, .string x216005_1]) ?_ 1 _ rfl; (with_reducible repeat (first | refine bN ?_ _ | refine bD ?_ | refine bA ?_ _)); refine blk_put (cs := #[.int .i64 x216000_1, .int .i64 x216001_1, .int .i64 x216002_1, .int .u8 x216003_1, .int .i64 x216004_1, .string x216005_1]) ?_ 0 _ rfl; (with_reducible repeat (first | refine bN ?_ _ | refine bD ?_ | refine bA ?_ _)); exact BK215.out) Try.underlying24 rfl (by kernel_rfl)) rfl ?_
    exact ⟨by first | rfl | (simp [errW_none, errW_some] <;> rfl) | (simp [*, errW_none, errW_some] <;> rfl), by repeat (first | (with_reducible first | exact HB.out | apply wA | apply wN | apply wD | refine wS ?_ GE215.out) | exact HB.out)⟩
   ·rw [if_neg c4] at H
    have c4b0 : decide ((a0.size : Int) ≤ x8_1) = false := decide_eq_false c4
    clear c4
    by_cases c6 : 0 ≤ x8_1
    ·rw [if_pos c6] at H
     have c6b0 : decide (0 ≤ x8_1) = true := decide_eq_true c6
     clear c6
     by_cases c7 : x8_1 < (a0.size : Int)
     ·rw [if_pos c7] at H
      have c7b0 : decide (x8_1 < (a0.size : Int)) = true := decide_eq_true c7
      clear c7
      by_cases c9 : (bt a0 x8_1) = 34
      ·rw [if_pos c9] at H
       have c9b0 : ((bt a0 x8_1) == 34) = true := beq_iff_eq.mpr c9
       have c9b1 : ((bt a0 x8_1) != 34) = false := bne_eq_false_iff_eq.mpr c9
       clear c9
       by_cases c10 : (x7_1.length : Int) > 4096
       ·rw [if_pos c10] at H
        have c10b0 : decide (4096 < (x7_1.length : Int)) = true := decide_eq_true c10
        have c10b1 : decide (4096 < x7_1.length) = true := decide_eq_true (by omega)
        clear c10
        simp only [Option.some.injEq, Prod.mk.injEq] at H
        obtain ⟨rfl, rfl, rfl, rfl, rfl, rfl, rfl, rfl⟩ := H
        have p8 : 0 ≤ (x8_1 : Int) := of_decide_eq_true (by first | (with_reducible assumption) | assumption)
        have q8 : x8_1 < (a0.size : Int) := of_decide_eq_true (by first | (with_reducible assumption) | assumption)
        have hx8 := bt_at a0 x8_1
        replace p8 := eq_true p8; replace q8 := eq_true q8
        obtain ⟨Ao11, co11, eo11⟩ := Kd.R_slice HO_7.out
        subst eo11; have hcz12_0 : wr.cell? ⟨gb215, 0, none⟩ = some (.int .i64 x216000_1) := (blk_cell BK215.out 0).trans rfl; have hcz12_1 : wr.cell? ⟨gb215, 1, none⟩ = some (.int .i64 x216001_1) := (blk_cell BK215.out 1).trans rfl; have hcz12_2 : wr.cell? ⟨gb215, 2, none⟩ = some (.int .i64 x216002_1) := (blk_cell BK215.out 2).trans rfl; have hcz12_3 : wr.cell? ⟨gb215, 3, none⟩ = some (.int .u8 x216003_1) := (blk_cell BK215.out 3).trans rfl; have hcz12_4 : wr.cell? ⟨gb215, 4, none⟩ = some (.int .i64 x216004_1) := (blk_cell BK215.out 4).trans rfl; have hcz12_5 : wr.cell? ⟨gb215, 5, none⟩ = some (.string x216005_1) := (blk_cell BK215.out 5).trans rfl; have hfz12_0 := blk_frozen BK215.out 0; have hfz12_1 := blk_frozen BK215.out 1; have hfz12_2 := blk_frozen BK215.out 2; have hfz12_3 := blk_frozen BK215.out 3; have hfz12_4 := blk_frozen BK215.out 4; have hfz12_5 := blk_frozen BK215.out 5
        go_wp2
        refine bodyPost_ret (results_ctt rfl _ _ gb215 24 #[.int .i64 0, .int .i64 0, .int .i64 0, .int .u8 0, .int .i64 0, .string (⟨#[]⟩ : ByteArray)] (0, 0) _ rfl (by (with_reducible repeat (first | refine bN ?_ _ | refine bD ?_ | refine bA ?_ _)); refine blk_put (cs := #[.int .i64 0, .int .i64 0, .int .i64 0, .int .u8 0, .int .i64 0, .string x216005_1]) ?_ 5 _ rfl; (with_reducible repeat (first | refine bN ?_ _ | refine bD ?_ | refine bA ?_ _)); refine blk_put (cs := #[.int .i64 0, .int .i64 0, .int .i64 0, .int .u8 0, .int .i64 x216004_1, .string x216005_1]) ?_ 4 _ rfl; (with_reducible repeat (first | refine bN ?_ _ | refine bD ?_ | refine bA ?_ _)); refine blk_put (cs := #[.int .i64 0, .int .i64 0, .int .i64 0, .int .u8 x216003_1, .int .i64 x216004_1, .string x216005_1]) ?_ 3 _ rfl; (with_reducible repeat (first | refine bN ?_ _ | refine bD ?_ | refine bA ?_ _)); refine blk_put (cs := #[.int .i64 0, .int .i64 0, .int .i64 x216002_1, .int .u8 x216003_1, .int .i64 x216004_1, .string x216005_1]) ?_ 2 _ rfl; (with_reducible repeat (first | refine bN ?_ _ | refine bD ?_ | refine bA ?_ _)); refine blk_put (cs := #[.int .i64 0, .int .i64 x216001_1, .int .i64 x216002_1, .int .u8 x216003_1, .int .i64 x216004_1, .string x216005_1]) ?_ 1 _ rfl; (with_reducible repeat (first | refine bN ?_ _ | refine bD ?_ | refine bA ?_ _)); refine blk_put (cs := #[.int .i64 x216000_1, .int .i64 x216001_1, .int .i64 x216002_1, .int .u8 x216003_1, .int .i64 x216004_1, .string x216005_1]) ?_ 0 _ rfl; (with_reducible repeat (first | refine bN ?_ _ | refine bD ?_ | refine bA ?_ _)); exact BK215.out) Try.underlying24 rfl (by kernel_rfl)) rfl ?_
        exact ⟨by first | rfl | (simp [errW_none, errW_some] <;> rfl) | (simp [*, errW_none, errW_some] <;> rfl), by repeat (first | (with_reducible first | exact HB.out | apply wA | apply wN | apply wD | refine wS ?_ GE215.out) | exact HB.out)⟩
       ·rw [if_neg c10] at H
        have c10b0 : decide (4096 < (x7_1.length : Int)) = false := decide_eq_false c10
        have c10b1 : decide (4096 < x7_1.length) = false := decide_eq_false (by omega)
        clear c10
        simp only [Option.some.injEq, Prod.mk.injEq] at H
        obtain ⟨rfl, rfl, rfl, rfl, rfl, rfl, rfl, rfl⟩ := H
        have p8 : 0 ≤ (x8_1 : Int) := of_decide_eq_true (by first | (with_reducible assumption) | assumption)
        have q8 : x8_1 < (a0.size : Int) := of_decide_eq_true (by first | (with_reducible assumption) | assumption)
        have hx8 := bt_at a0 x8_1
        replace p8 := eq_true p8; replace q8 := eq_true q8
        obtain ⟨Ao13, co13, eo13⟩ := Kd.R_slice HO_7.out
        subst eo13
        have hcv14 := own_string (P := Try.prog) Try.underlying48 Try.underlying5 Try.underlying9 (Kd.own_of_R HO_7.out)
        have hcz15_0 : wr.cell? ⟨gb215, 0, none⟩ = some (.int .i64 x216000_1) := (blk_cell BK215.out 0).trans rfl; have hcz15_1 : wr.cell? ⟨gb215, 1, none⟩ = some (.int .i64 x216001_1) := (blk_cell BK215.out 1).trans rfl; have hcz15_2 : wr.cell? ⟨gb215, 2, none⟩ = some (.int .i64 x216002_1) := (blk_cell BK215.out 2).trans rfl; have hcz15_3 : wr.cell? ⟨gb215, 3, none⟩ = some (.int .u8 x216003_1) := (blk_cell BK215.out 3).trans rfl; have hcz15_4 : wr.cell? ⟨gb215, 4, none⟩ = some (.int .i64 x216004_1) := (blk_cell BK215.out 4).trans rfl; have hcz15_5 : wr.cell? ⟨gb215, 5, none⟩ = some (.string x216005_1) := (blk_cell BK215.out 5).trans rfl; have hfz15_0 := blk_frozen BK215.out 0; have hfz15_1 := blk_frozen BK215.out 1; have hfz15_2 := blk_frozen BK215.out 2; have hfz15_3 := blk_frozen BK215.out 3; have hfz15_4 := blk_frozen BK215.out 4; have hfz15_5 := blk_frozen BK215.out 5
        go_wp2
        refine bodyPost_ret (results_ctt rfl _ _ gb215 24 #[.int .i64 4, .int .i64 a1, .int .i64 (wrap64 (x8_1 + 1)), .int .u8 0, .int .i64 0, .string (strOfNums x7_1)] (0, 0) _ rfl (by (with_reducible repeat (first | refine bN ?_ _ | refine bD ?_ | refine bA ?_ _)); refine blk_put (cs := #[.int .i64 4, .int .i64 a1, .int .i64 (wrap64 (x8_1 + 1)), .int .u8 0, .int .i64 0, .string x216005_1]) ?_ 5 _ rfl; (with_reducible repeat (first | refine bN ?_ _ | refine bD ?_ | refine bA ?_ _)); refine blk_put (cs := #[.int .i64 4, .int .i64 a1, .int .i64 (wrap64 (x8_1 + 1)), .int .u8 0, .int .i64 x216004_1, .string x216005_1]) ?_ 4 _ rfl; (with_reducible repeat (first | refine bN ?_ _ | refine bD ?_ | refine bA ?_ _)); refine blk_put (cs := #[.int .i64 4, .int .i64 a1, .int .i64 (wrap64 (x8_1 + 1)), .int .u8 x216003_1, .int .i64 x216004_1, .string x216005_1]) ?_ 3 _ rfl; (with_reducible repeat (first | refine bN ?_ _ | refine bD ?_ | refine bA ?_ _)); refine blk_put (cs := #[.int .i64 4, .int .i64 a1, .int .i64 x216002_1, .int .u8 x216003_1, .int .i64 x216004_1, .string x216005_1]) ?_ 2 _ rfl; (with_reducible repeat (first | refine bN ?_ _ | refine bD ?_ | refine bA ?_ _)); refine blk_put (cs := #[.int .i64 4, .int .i64 x216001_1, .int .i64 x216002_1, .int .u8 x216003_1, .int .i64 x216004_1, .string x216005_1]) ?_ 1 _ rfl; (with_reducible repeat (first | refine bN ?_ _ | refine bD ?_ | refine bA ?_ _)); refine blk_put (cs := #[.int .i64 x216000_1, .int .i64 x216001_1, .int .i64 x216002_1, .int .u8 x216003_1, .int .i64 x216004_1, .string x216005_1]) ?_ 0 _ rfl; (with_reducible repeat (first | refine bN ?_ _ | refine bD ?_ | refine bA ?_ _)); exact BK215.out) Try.underlying24 rfl (by kernel_rfl)) rfl ?_
        exact ⟨by first | rfl | (simp [errW_none, errW_some] <;> rfl) | (simp [*, errW_none, errW_some] <;> rfl), by repeat (first | (with_reducible first | exact HB.out | apply wA | apply wN | apply wD | refine wS ?_ GE215.out) | exact HB.out)⟩
      ·rw [if_neg c9] at H
       have c9b0 : ((bt a0 x8_1) == 34) = false := beq_eq_false_iff_ne.mpr c9
       have c9b1 : ((bt a0 x8_1) != 34) = true := bne_iff_ne.mpr c9
       by_cases c17 : (bt a0 x8_1) < 32
       ·rw [if_pos c17] at H
        have c17b0 : decide ((bt a0 x8_1) < 32) = true := decide_eq_true c17
        clear c17
        simp only [Option.some.injEq, Prod.mk.injEq] at H
        obtain ⟨rfl, rfl, rfl, rfl, rfl, rfl, rfl, rfl⟩ := H
        have p8 : 0 ≤ (x8_1 : Int) := of_decide_eq_true (by first | (with_reducible assumption) | assumption)
        have q8 : x8_1 < (a0.size : Int) := of_decide_eq_true (by first | (with_reducible assumption) | assumption)
        have hx8 := bt_at a0 x8_1
        replace p8 := eq_true p8; replace q8 := eq_true q8
        have p16 : 0 ≤ (x8_1 : Int) := of_decide_eq_true (by first | (with_reducible assumption) | assumption)
        have q16 : x8_1 < (a0.size : Int) := of_decide_eq_true (by first | (with_reducible assumption) | assumption)
        have hx16 := bt_at a0 x8_1
        replace p16 := eq_true p16; replace q16 := eq_true q16; have hcz18_0 : wr.cell? ⟨gb215, 0, none⟩ = some (.int .i64 x216000_1) := (blk_cell BK215.out 0).trans rfl; have hcz18_1 : wr.cell? ⟨gb215, 1, none⟩ = some (.int .i64 x216001_1) := (blk_cell BK215.out 1).trans rfl; have hcz18_2 : wr.cell? ⟨gb215, 2, none⟩ = some (.int .i64 x216002_1) := (blk_cell BK215.out 2).trans rfl; have hcz18_3 : wr.cell? ⟨gb215, 3, none⟩ = some (.int .u8 x216003_1) := (blk_cell BK215.out 3).trans rfl; have hcz18_4 : wr.cell? ⟨gb215, 4, none⟩ = some (.int .i64 x216004_1) := (blk_cell BK215.out 4).trans rfl; have hcz18_5 : wr.cell? ⟨gb215, 5, none⟩ = some (.string x216005_1) := (blk_cell BK215.out 5).trans rfl; have hfz18_0 := blk_frozen BK215.out 0; have hfz18_1 := blk_frozen BK215.out 1; have hfz18_2 := blk_frozen BK215.out 2; have hfz18_3 := blk_frozen BK215.out 3; have hfz18_4 := blk_frozen BK215.out 4; have hfz18_5 := blk_frozen BK215.out 5
        go_wp2
        refine bodyPost_ret (results_ctt rfl _ _ gb215 24 #[.int .i64 0, .int .i64 0, .int .i64 0, .int .u8 0, .int .i64 0, .string (⟨#[]⟩ : ByteArray)] (0, 0) _ rfl (by (with_reducible repeat (first | refine bN ?_ _ | refine bD ?_ | refine bA ?_ _)); refine blk_put (cs := #[.int .i64 0, .int .i64 0, .int .i64 0, .int .u8 0, .int .i64 0, .string x216005_1]) ?_ 5 _ rfl; (with_reducible repeat (first | refine bN ?_ _ | refine bD ?_ | refine bA ?_ _)); refine blk_put (cs := #[.int .i64 0, .int .i64 0, .int .i64 0, .int .u8 0, .int .i64 x216004_1, .string x216005_1]) ?_ 4 _ rfl; (with_reducible repeat (first | refine bN ?_ _ | refine bD ?_ | refine bA ?_ _)); refine blk_put (cs := #[.int .i64 0, .int .i64 0, .int .i64 0, .int .u8 x216003_1, .int .i64 x216004_1, .string x216005_1]) ?_ 3 _ rfl; (with_reducible repeat (first | refine bN ?_ _ | refine bD ?_ | refine bA ?_ _)); refine blk_put (cs := #[.int .i64 0, .int .i64 0, .int .i64 x216002_1, .int .u8 x216003_1, .int .i64 x216004_1, .string x216005_1]) ?_ 2 _ rfl; (with_reducible repeat (first | refine bN ?_ _ | refine bD ?_ | refine bA ?_ _)); refine blk_put (cs := #[.int .i64 0, .int .i64 x216001_1, .int .i64 x216002_1, .int .u8 x216003_1, .int .i64 x216004_1, .string x216005_1]) ?_ 1 _ rfl; (with_reducible repeat (first | refine bN ?_ _ | refine bD ?_ | refine bA ?_ _)); refine blk_put (cs := #[.int .i64 x216000_1, .int .i64 x216001_1, .int .i64 x216002_1, .int .u8 x216003_1, .int .i64 x216004_1, .string x216005_1]) ?_ 0 _ rfl; (with_reducible repeat (first | refine bN ?_ _ | refine bD ?_ | refine bA ?_ _)); exact BK215.out) Try.underlying24 rfl (by kernel_rfl)) rfl ?_
        exact ⟨by first | rfl | (simp [errW_none, errW_some] <;> rfl) | (simp [*, errW_none, errW_some] <;> rfl), by repeat (first | (with_reducible first | exact HB.out | apply wA | apply wN | apply wD | refine wS ?_ GE215.out) | exact HB.out)⟩
       ·rw [if_neg c17] at H
        have c17b0 : decide ((bt a0 x8_1) < 32) = false := decide_eq_false c17
        clear c17
        by_cases c20 : (bt a0 x8_1) = 92
        ·rw [if_pos c20] at H
         have c20b0 : ((bt a0 x8_1) == 92) = true := beq_iff_eq.mpr c20
         have c20b1 : ((bt a0 x8_1) != 92) = false := bne_eq_false_iff_eq.mpr c20
         clear c20
         replace H := Option.bind_eq_some_iff.mp H
         obtain ⟨⟨t216, t217⟩, A210, H⟩ := H
         replace H : (if t217 = 0 then (some (0, 0, 0, 0, 0, (⟨#[]⟩ : ByteArray), (a0.size : Int), 5)) else (if t217 < 0 then (some (0, 0, 0, 0, 0, (⟨#[]⟩ : ByteArray), x8_1, 4)) else ((ndjqref01_Encode.f k1 t216).bind fun bt218 => (if x7_1.length + bt218.1.length < 140737488355328 then (ndjqref03_text.l0 k1 a0 a1 (x7_1 ++ bt218.1) (wrap64 (x8_1 + t217))) else (none))))) = some (r1, r2, r3, r4, r5, r6, r7, r8) := H
         have A21 := Aside0.mk A210
         clear A210
         by_cases c22 : t217 = 0
         ·rw [if_pos c22] at H
          have c22b0 : (t217 == 0) = true := beq_iff_eq.mpr c22
          have c22b1 : (t217 != 0) = false := bne_eq_false_iff_eq.mpr c22
          clear c22
          simp only [Option.some.injEq, Prod.mk.injEq] at H
          obtain ⟨rfl, rfl, rfl, rfl, rfl, rfl, rfl, rfl⟩ := H
          have p8 : 0 ≤ (x8_1 : Int) := of_decide_eq_true (by first | (with_reducible assumption) | assumption)
          have q8 : x8_1 < (a0.size : Int) := of_decide_eq_true (by first | (with_reducible assumption) | assumption)
          have hx8 := bt_at a0 x8_1
          replace p8 := eq_true p8; replace q8 := eq_true q8
          have p16 : 0 ≤ (x8_1 : Int) := of_decide_eq_true (by first | (with_reducible assumption) | assumption)
          have q16 : x8_1 < (a0.size : Int) := of_decide_eq_true (by first | (with_reducible assumption) | assumption)
          have hx16 := bt_at a0 x8_1
          replace p16 := eq_true p16; replace q16 := eq_true q16
          have p19 : 0 ≤ (x8_1 : Int) := of_decide_eq_true (by first | (with_reducible assumption) | assumption)
          have q19 : x8_1 < (a0.size : Int) := of_decide_eq_true (by first | (with_reducible assumption) | assumption)
          have hx19 := bt_at a0 x8_1
          replace p19 := eq_true p19; replace q19 := eq_true q19
          go_wp2_with (first | ((with_reducible refine gate_callee (f := 35) rfl ?_); refine goesL_ (some 83) rfl rfl Try.func35 (by kernel_rfl) rfl #[.string a0, .int .i64 x8_1] rfl (by (try simp only [List.map_toArray, List.map_cons, List.map_nil]); first | done | rfl | (simp only [List.length_drop, List.length_take]; rfl)) ?_; (with_reducible refine (ndjqref03_escape.calls k1 a0 x8_1 t216 t217 _ A21.out).mono ?_); rintro e w' ⟨rfl, ⟨nd, rfl⟩⟩; refine ⟨_, rfl, ?_⟩; (try (rw [drewN_self wr]; generalize hq_ : World.drewN wr _ = wr; have n0_ : Aside0 (Kd.R (Kd.int .u8) 5 wr w.heap.size (fun _ => True) u7 x7_1) := ⟨by rw [← hq_]; exact (by (with_reducible repeat (first | apply rA | apply rN | apply rD)); exact HO_7.out)⟩; have n1_ : Aside0 (wr.heap[gb215]? = some (.cells #[.int .i64 x216000_1, .int .i64 x216001_1, .int .i64 x216002_1, .int .u8 x216003_1, .int .i64 x216004_1, .string x216005_1] 24 (0, 0))) := ⟨by rw [← hq_]; exact (by (with_reducible repeat (first | refine bN ?_ _ | refine bD ?_ | refine bA ?_ _)); exact BK215.out)⟩; have n2_ : Aside0 (Below w.heap.size w wr) := ⟨by rw [← hq_]; exact (by repeat (first | (with_reducible first | exact HB.out | apply wA | apply wN | apply wD | refine wS ?_ GE215.out) | exact HB.out))⟩; clear HO_7 BK215 HB hq_; have HO_7 := n0_; have BK215 := n1_; have HB := n2_; clear n0_ n1_ n2_)); have hcz23_0 : wr.cell? ⟨gb215, 0, none⟩ = some (.int .i64 x216000_1) := (blk_cell BK215.out 0).trans rfl; have hcz23_1 : wr.cell? ⟨gb215, 1, none⟩ = some (.int .i64 x216001_1) := (blk_cell BK215.out 1).trans rfl; have hcz23_2 : wr.cell? ⟨gb215, 2, none⟩ = some (.int .i64 x216002_1) := (blk_cell BK215.out 2).trans rfl; have hcz23_3 : wr.cell? ⟨gb215, 3, none⟩ = some (.int .u8 x216003_1) := (blk_cell BK215.out 3).trans rfl; have hcz23_4 : wr.cell? ⟨gb215, 4, none⟩ = some (.int .i64 x216004_1) := (blk_cell BK215.out 4).trans rfl; have hcz23_5 : wr.cell? ⟨gb215, 5, none⟩ = some (.string x216005_1) := (blk_cell BK215.out 5).trans rfl; have hfz23_0 := blk_frozen BK215.out 0; have hfz23_1 := blk_frozen BK215.out 1; have hfz23_2 := blk_frozen BK215.out 2; have hfz23_3 := blk_frozen BK215.out 3; have hfz23_4 := blk_frozen BK215.out 4; have hfz23_5 := blk_frozen BK215.out 5))
          refine bodyPost_ret (results_ctt rfl _ _ gb215 24 #[.int .i64 0, .int .i64 0, .int .i64 0, .int .u8 0, .int .i64 0, .string (⟨#[]⟩ : ByteArray)] (0, 0) _ rfl (by (with_reducible repeat (first | refine bN ?_ _ | refine bD ?_ | refine bA ?_ _)); refine blk_put (cs := #[.int .i64 0, .int .i64 0, .int .i64 0, .int .u8 0, .int .i64 0, .string x216005_1]) ?_ 5 _ rfl; (with_reducible repeat (first | refine bN ?_ _ | refine bD ?_ | refine bA ?_ _)); refine blk_put (cs := #[.int .i64 0, .int .i64 0, .int .i64 0, .int .u8 0, .int .i64 x216004_1, .string x216005_1]) ?_ 4 _ rfl; (with_reducible repeat (first | refine bN ?_ _ | refine bD ?_ | refine bA ?_ _)); refine blk_put (cs := #[.int .i64 0, .int .i64 0, .int .i64 0, .int .u8 x216003_1, .int .i64 x216004_1, .string x216005_1]) ?_ 3 _ rfl; (with_reducible repeat (first | refine bN ?_ _ | refine bD ?_ | refine bA ?_ _)); refine blk_put (cs := #[.int .i64 0, .int .i64 0, .int .i64 x216002_1, .int .u8 x216003_1, .int .i64 x216004_1, .string x216005_1]) ?_ 2 _ rfl; (with_reducible repeat (first | refine bN ?_ _ | refine bD ?_ | refine bA ?_ _)); refine blk_put (cs := #[.int .i64 0, .int .i64 x216001_1, .int .i64 x216002_1, .int .u8 x216003_1, .int .i64 x216004_1, .string x216005_1]) ?_ 1 _ rfl; (with_reducible repeat (first | refine bN ?_ _ | refine bD ?_ | refine bA ?_ _)); refine blk_put (cs := #[.int .i64 x216000_1, .int .i64 x216001_1, .int .i64 x216002_1, .int .u8 x216003_1, .int .i64 x216004_1, .string x216005_1]) ?_ 0 _ rfl; (with_reducible repeat (first | refine bN ?_ _ | refine bD ?_ | refine bA ?_ _)); exact BK215.out) Try.underlying24 rfl (by kernel_rfl)) rfl ?_
          exact ⟨by first | rfl | (simp [errW_none, errW_some] <;> rfl) | (simp [*, errW_none, errW_some] <;> rfl), by repeat (first | (with_reducible first | exact HB.out | apply wA | apply wN | apply wD | refine wS ?_ GE215.out) | exact HB.out)⟩
         ·rw [if_neg c22] at H
          have c22b0 : (t217 == 0) = false := beq_eq_false_iff_ne.mpr c22
          have c22b1 : (t217 != 0) = true := bne_iff_ne.mpr c22
          by_cases c24 : t217 < 0
          ·rw [if_pos c24] at H
           have c24b0 : decide (t217 < 0) = true := decide_eq_true c24
           clear c24
           simp only [Option.some.injEq, Prod.mk.injEq] at H
           obtain ⟨rfl, rfl, rfl, rfl, rfl, rfl, rfl, rfl⟩ := H
           have p8 : 0 ≤ (x8_1 : Int) := of_decide_eq_true (by first | (with_reducible assumption) | assumption)
           have q8 : x8_1 < (a0.size : Int) := of_decide_eq_true (by first | (with_reducible assumption) | assumption)
           have hx8 := bt_at a0 x8_1
           replace p8 := eq_true p8; replace q8 := eq_true q8
           have p16 : 0 ≤ (x8_1 : Int) := of_decide_eq_true (by first | (with_reducible assumption) | assumption)
           have q16 : x8_1 < (a0.size : Int) := of_decide_eq_true (by first | (with_reducible assumption) | assumption)
           have hx16 := bt_at a0 x8_1
           replace p16 := eq_true p16; replace q16 := eq_true q16
           have p19 : 0 ≤ (x8_1 : Int) := of_decide_eq_true (by first | (with_reducible assumption) | assumption)
           have q19 : x8_1 < (a0.size : Int) := of_decide_eq_true (by first | (with_reducible assumption) | assumption)
           have hx19 := bt_at a0 x8_1
           replace p19 := eq_true p19; replace q19 := eq_true q19
           go_wp2_with (first | ((with_reducible refine gate_callee (f := 35) rfl ?_); refine goesL_ (some 83) rfl rfl Try.func35 (by kernel_rfl) rfl #[.string a0, .int .i64 x8_1] rfl (by (try simp only [List.map_toArray, List.map_cons, List.map_nil]); first | done | rfl | (simp only [List.length_drop, List.length_take]; rfl)) ?_; (with_reducible refine (ndjqref03_escape.calls k1 a0 x8_1 t216 t217 _ A21.out).mono ?_); rintro e w' ⟨rfl, ⟨nd, rfl⟩⟩; refine ⟨_, rfl, ?_⟩; (try (rw [drewN_self wr]; generalize hq_ : World.drewN wr _ = wr; have n0_ : Aside0 (Kd.R (Kd.int .u8) 5 wr w.heap.size (fun _ => True) u7 x7_1) := ⟨by rw [← hq_]; exact (by (with_reducible repeat (first | apply rA | apply rN | apply rD)); exact HO_7.out)⟩; have n1_ : Aside0 (wr.heap[gb215]? = some (.cells #[.int .i64 x216000_1, .int .i64 x216001_1, .int .i64 x216002_1, .int .u8 x216003_1, .int .i64 x216004_1, .string x216005_1] 24 (0, 0))) := ⟨by rw [← hq_]; exact (by (with_reducible repeat (first | refine bN ?_ _ | refine bD ?_ | refine bA ?_ _)); exact BK215.out)⟩; have n2_ : Aside0 (Below w.heap.size w wr) := ⟨by rw [← hq_]; exact (by repeat (first | (with_reducible first | exact HB.out | apply wA | apply wN | apply wD | refine wS ?_ GE215.out) | exact HB.out))⟩; clear HO_7 BK215 HB hq_; have HO_7 := n0_; have BK215 := n1_; have HB := n2_; clear n0_ n1_ n2_)); have hcz25_0 : wr.cell? ⟨gb215, 0, none⟩ = some (.int .i64 x216000_1) := (blk_cell BK215.out 0).trans rfl; have hcz25_1 : wr.cell? ⟨gb215, 1, none⟩ = some (.int .i64 x216001_1) := (blk_cell BK215.out 1).trans rfl; have hcz25_2 : wr.cell? ⟨gb215, 2, none⟩ = some (.int .i64 x216002_1) := (blk_cell BK215.out 2).trans rfl; have hcz25_3 : wr.cell? ⟨gb215, 3, none⟩ = some (.int .u8 x216003_1) := (blk_cell BK215.out 3).trans rfl; have hcz25_4 : wr.cell? ⟨gb215, 4, none⟩ = some (.int .i64 x216004_1) := (blk_cell BK215.out 4).trans rfl; have hcz25_5 : wr.cell? ⟨gb215, 5, none⟩ = some (.string x216005_1) := (blk_cell BK215.out 5).trans rfl; have hfz25_0 := blk_frozen BK215.out 0; have hfz25_1 := blk_frozen BK215.out 1; have hfz25_2 := blk_frozen BK215.out 2; have hfz25_3 := blk_frozen BK215.out 3; have hfz25_4 := blk_frozen BK215.out 4; have hfz25_5 := blk_frozen BK215.out 5))
           refine bodyPost_ret (results_ctt rfl _ _ gb215 24 #[.int .i64 0, .int .i64 0, .int .i64 0, .int .u8 0, .int .i64 0, .string (⟨#[]⟩ : ByteArray)] (0, 0) _ rfl (by (with_reducible repeat (first | refine bN ?_ _ | refine bD ?_ | refine bA ?_ _)); refine blk_put (cs := #[.int .i64 0, .int .i64 0, .int .i64 0, .int .u8 0, .int .i64 0, .string x216005_1]) ?_ 5 _ rfl; (with_reducible repeat (first | refine bN ?_ _ | refine bD ?_ | refine bA ?_ _)); refine blk_put (cs := #[.int .i64 0, .int .i64 0, .int .i64 0, .int .u8 0, .int .i64 x216004_1, .string x216005_1]) ?_ 4 _ rfl; (with_reducible repeat (first | refine bN ?_ _ | refine bD ?_ | refine bA ?_ _)); refine blk_put (cs := #[.int .i64 0, .int .i64 0, .int .i64 0, .int .u8 x216003_1, .int .i64 x216004_1, .string x216005_1]) ?_ 3 _ rfl; (with_reducible repeat (first | refine bN ?_ _ | refine bD ?_ | refine bA ?_ _)); refine blk_put (cs := #[.int .i64 0, .int .i64 0, .int .i64 x216002_1, .int .u8 x216003_1, .int .i64 x216004_1, .string x216005_1]) ?_ 2 _ rfl; (with_reducible repeat (first | refine bN ?_ _ | refine bD ?_ | refine bA ?_ _)); refine blk_put (cs := #[.int .i64 0, .int .i64 x216001_1, .int .i64 x216002_1, .int .u8 x216003_1, .int .i64 x216004_1, .string x216005_1]) ?_ 1 _ rfl; (with_reducible repeat (first | refine bN ?_ _ | refine bD ?_ | refine bA ?_ _)); refine blk_put (cs := #[.int .i64 x216000_1, .int .i64 x216001_1, .int .i64 x216002_1, .int .u8 x216003_1, .int .i64 x216004_1, .string x216005_1]) ?_ 0 _ rfl; (with_reducible repeat (first | refine bN ?_ _ | refine bD ?_ | refine bA ?_ _)); exact BK215.out) Try.underlying24 rfl (by kernel_rfl)) rfl ?_
           exact ⟨by first | rfl | (simp [errW_none, errW_some] <;> rfl) | (simp [*, errW_none, errW_some] <;> rfl), by repeat (first | (with_reducible first | exact HB.out | apply wA | apply wN | apply wD | refine wS ?_ GE215.out) | exact HB.out)⟩
          ·rw [if_neg c24] at H
           have c24b0 : decide (t217 < 0) = false := decide_eq_false c24
           clear c24
           replace H := Option.bind_eq_some_iff.mp H
           obtain ⟨⟨t218, t219⟩, A260, H⟩ := H
           replace H : (if x7_1.length + t218.length < 140737488355328 then (ndjqref03_text.l0 k1 a0 a1 (x7_1 ++ t218) (wrap64 (x8_1 + t217))) else (none)) = some (r1, r2, r3, r4, r5, r6, r7, r8) := H
           have A26 := Aside0.mk A260
           clear A260
           by_cases c27 : x7_1.length + t218.length < 140737488355328
           ·rw [if_pos c27] at H
            have LMc27 := Aside0.mk c27
            clear c27
            obtain ⟨y222, hy222⟩ : ∃ y_ : List Int, y_ = (x7_1 ++ t218) := ⟨_, rfl⟩
            replace H : (ndjqref03_text.l0 k1 a0 a1 y222 (wrap64 (x8_1 + t217))) = some (r1, r2, r3, r4, r5, r6, r7, r8) := by first | (rw [hy222]; with_reducible exact H) | (have H2_ := (Option.bind_some _ _).symm.trans H; rw [hy222]; with_reducible exact H2_) | (have H2_ := (Option.bind_some _ _).symm.trans H; with_reducible exact H2_) | with_reducible exact H | (rw [hy222]; exact H) | exact H
            have Ny222 := Aside0.mk hy222
            clear hy222
            have H' := Aside0.mk H
            clear H
            have p8 : 0 ≤ (x8_1 : Int) := of_decide_eq_true (by first | (with_reducible assumption) | assumption)
            have q8 : x8_1 < (a0.size : Int) := of_decide_eq_true (by first | (with_reducible assumption) | assumption)
            have hx8 := bt_at a0 x8_1
            replace p8 := eq_true p8; replace q8 := eq_true q8
            have p16 : 0 ≤ (x8_1 : Int) := of_decide_eq_true (by first | (with_reducible assumption) | assumption)
            have q16 : x8_1 < (a0.size : Int) := of_decide_eq_true (by first | (with_reducible assumption) | assumption)
            have hx16 := bt_at a0 x8_1
            replace p16 := eq_true p16; replace q16 := eq_true q16
            have p19 : 0 ≤ (x8_1 : Int) := of_decide_eq_true (by first | (with_reducible assumption) | assumption)
            have q19 : x8_1 < (a0.size : Int) := of_decide_eq_true (by first | (with_reducible assumption) | assumption)
            have hx19 := bt_at a0 x8_1
            replace p19 := eq_true p19; replace q19 := eq_true q19
            go_wp2_with (first | ((with_reducible refine gate_callee (f := 35) rfl ?_); refine goesL_ (some 83) rfl rfl Try.func35 (by kernel_rfl) rfl #[.string a0, .int .i64 x8_1] rfl (by (try simp only [List.map_toArray, List.map_cons, List.map_nil]); first | done | rfl | (simp only [List.length_drop, List.length_take]; rfl)) ?_; (with_reducible refine (ndjqref03_escape.calls k1 a0 x8_1 t216 t217 _ A21.out).mono ?_); rintro e w' ⟨rfl, ⟨nd, rfl⟩⟩; refine ⟨_, rfl, ?_⟩) | ((with_reducible refine gate_callee (f := 36) rfl ?_); refine goesL_ (some 97) rfl rfl Try.func36 (by kernel_rfl) rfl #[.int .i64 t216] rfl (by (try simp only [List.map_toArray, List.map_cons, List.map_nil]); first | done | rfl | (simp only [List.length_drop, List.length_take]; rfl)) ?_; (with_reducible refine (ndjqref01_Encode.calls k1 t216 t218 t219 _ A26.out).mono ?_); rintro e w28 ⟨v220, rfl, ho0, hb⟩; refine ⟨_, rfl, ?_⟩; have n0_ := Aside0.mk (Kd.R_elder' (by (with_reducible repeat (first | apply rA | apply rN | apply rD)); exact HO_7.out) (Kd.R_base ho0) hb); have n1_ := Aside0.mk (Kd.R_lower (Kd.R_new' ho0 (Kd.R_lt (by (with_reducible repeat (first | apply rA | apply rN | apply rD)); exact HO_7.out))) (below_size (by repeat (first | (with_reducible first | exact HB.out | apply wA | apply wN | apply wD | refine wS ?_ GE215.out) | exact HB.out)))); have n2_ := Aside0.mk (blk_below (g := gb215) (o := .cells #[.int .i64 x216000_1, .int .i64 x216001_1, .int .i64 x216002_1, .int .u8 x216003_1, .int .i64 x216004_1, .string x216005_1] 24 (0, 0)) (by (with_reducible repeat (first | refine bN ?_ _ | refine bD ?_ | refine bA ?_ _)); exact BK215.out) hb); have n3_ := Aside0.mk (below_step (by repeat (first | (with_reducible first | exact HB.out | apply wA | apply wN | apply wD | refine wS ?_ GE215.out) | exact HB.out)) hb); clear HO_7; clear BK215; clear HB; have HO_7 := n0_; have HO221 := n1_; have BK215 := n2_; have HB := n3_; clear n0_ n1_ n2_ n3_; (try clear hb); (try clear hb2); (try clear hk); (try clear hi); (try clear ho0); obtain ⟨Ao30, co30, eo30⟩ := Kd.R_slice HO221.out; subst eo30) | ((with_reducible refine gate_builtin (b := .append) (xs := #[.tmp 100, .tmp 101]) rfl ?_); at_builtin; refine Kd.R_append_rows (Kd.int .u8) (w0 := w) w.heap.size rfl (.tmp 100) (.tmp 101) 48 5 (.int .u8 0) 1 rfl Try.underlying48 info5 rfl (by decide) (by omega) u7 x7_1 t218 _ _ _ (fun k_ => some k_ ≠ (.slice Ao30 t218.length co30 : Value).ownBlock) (fun _ => False) rfl rfl ?aO ?aR (fun _ _ h => h) (fun _ h => h.elim) ?aF ?aB ?aS ?aL ?_; (case aR => repeat (first | exact (Kd.R_reads' HO221.out).2.2 | (with_reducible refine Kd.C_alloc ?_ _) | (with_reducible refine Kd.C_drewN ?_ _) | (with_reducible refine Kd.C_drew ?_))); (case aB => exact (by repeat (first | (with_reducible first | exact HB.out | apply wA | apply wN | apply wD | refine wS ?_ GE215.out) | exact HB.out))); (case aF => exact (fun k_ hk => Kd.fresh' (Kd.R_lt (by (with_reducible repeat (first | apply rA | apply rN | apply rD)); exact HO221.out)) k_ hk)); (case aO => exact (by (with_reducible repeat (first | apply rA | apply rN | apply rD)); exact Kd.R_mono HO_7.out (fun _ hk => hk.2))); (case aS => exact (below_size (by repeat (first | (with_reducible first | exact HB.out | apply wA | apply wN | apply wD | refine wS ?_ GE215.out) | exact HB.out)))); (case aL => have := LMc27.out; omega); intro v223 w29 ho hb hg hat; rw [← Ny222.out] at ho; have n0_ := Aside0.mk (blk_grown (g := gb215) (o := .cells #[.int .i64 x216000_1, .int .i64 x216001_1, .int .i64 x216002_1, .int .u8 x216003_1, .int .i64 x216004_1, .string x216005_1] 24 (0, 0)) (by (with_reducible repeat (first | refine bN ?_ _ | refine bD ?_ | refine bA ?_ _)); exact BK215.out) hg (Kd.R_ne HO_7.out BK215.out (by decide))); have n1_ := Aside0.mk (Kd.R_after (ok := (fun _ => True)) (by (with_reducible repeat (first | apply rA | apply rN | apply rD)); exact HO221.out) hg hat); have n2_ := Aside0.mk (hb); have n3_ := Aside0.mk (ho); clear BK215; clear HO221; clear HB; clear HO_7; have BK215 := n0_; have HO221 := n1_; have HB := n2_; have HO224 := n3_; clear n0_ n1_ n2_ n3_; clear ho hb hg hat))
            go_roundg k1
            case measure => have := HK1.out; omega
            case rel => exact ⟨(y222), (wrap64 (x8_1 + t217)), (x216000_1), (x216001_1), (x216002_1), (x216003_1), (x216004_1), (x216005_1), (by first | rfl | (simp; done) | (simp [*]; done)), H', ⟨by have := HK1.out; omega⟩, ⟨by (with_reducible repeat (first | apply rA | apply rN | apply rD)); exact Kd.R_mono HO224.out (fun _ hk => trivial)⟩, ⟨by (with_reducible repeat (first | refine bN ?_ _ | refine bD ?_ | refine bA ?_ _)); exact BK215.out⟩, ⟨by repeat (first | (with_reducible first | exact HB.out | apply wA | apply wN | apply wD | refine wS ?_ GE215.out) | exact HB.out)⟩⟩
           ·rw [if_neg c27] at H
            exact absurd H (by simp)
        ·rw [if_neg c20] at H
         have c20b0 : ((bt a0 x8_1) == 92) = false := beq_eq_false_iff_ne.mpr c20
         have c20b1 : ((bt a0 x8_1) != 92) = true := bne_iff_ne.mpr c20
         replace H := Option.bind_eq_some_iff.mp H
         obtain ⟨⟨t225, t226, t227⟩, A310, H⟩ := H
         replace H : (if t227 = true then ((ndjqref01_Encode.f k1 t225).bind fun bt228 => (if x7_1.length + bt228.1.length < 140737488355328 then (ndjqref03_text.l0 k1 a0 a1 (x7_1 ++ bt228.1) (wrap64 (x8_1 + t226))) else (none))) else (some (0, 0, 0, 0, 0, (⟨#[]⟩ : ByteArray), x8_1, 6))) = some (r1, r2, r3, r4, r5, r6, r7, r8) := H
         have A31 := Aside0.mk A310
         clear A310
         by_cases c32 : t227 = true
         ·subst c32
          have H1 : ((ndjqref01_Encode.f k1 t225).bind fun bt228 => (if x7_1.length + bt228.1.length < 140737488355328 then (ndjqref03_text.l0 k1 a0 a1 (x7_1 ++ bt228.1) (wrap64 (x8_1 + t226))) else (none))) = some (r1, r2, r3, r4, r5, r6, r7, r8) := by rw [if_pos rfl] at H; exact H
          clear H; have H := H1; clear H1
          replace H := Option.bind_eq_some_iff.mp H
          obtain ⟨⟨t228, t229⟩, A330, H⟩ := H
          replace H : (if x7_1.length + t228.length < 140737488355328 then (ndjqref03_text.l0 k1 a0 a1 (x7_1 ++ t228) (wrap64 (x8_1 + t226))) else (none)) = some (r1, r2, r3, r4, r5, r6, r7, r8) := H
          have A33 := Aside0.mk A330
          clear A330
          by_cases c34 : x7_1.length + t228.length < 140737488355328
          ·rw [if_pos c34] at H
           have LMc34 := Aside0.mk c34
           clear c34
           obtain ⟨y232, hy232⟩ : ∃ y_ : List Int, y_ = (x7_1 ++ t228) := ⟨_, rfl⟩
           replace H : (ndjqref03_text.l0 k1 a0 a1 y232 (wrap64 (x8_1 + t226))) = some (r1, r2, r3, r4, r5, r6, r7, r8) := by first | (rw [hy232]; with_reducible exact H) | (have H2_ := (Option.bind_some _ _).symm.trans H; rw [hy232]; with_reducible exact H2_) | (have H2_ := (Option.bind_some _ _).symm.trans H; with_reducible exact H2_) | with_reducible exact H | (rw [hy232]; exact H) | exact H
           have Ny232 := Aside0.mk hy232
           clear hy232
           have H' := Aside0.mk H
           clear H
           have p8 : 0 ≤ (x8_1 : Int) := of_decide_eq_true (by first | (with_reducible assumption) | assumption)
           have q8 : x8_1 < (a0.size : Int) := of_decide_eq_true (by first | (with_reducible assumption) | assumption)
           have hx8 := bt_at a0 x8_1
           replace p8 := eq_true p8; replace q8 := eq_true q8
           have p16 : 0 ≤ (x8_1 : Int) := of_decide_eq_true (by first | (with_reducible assumption) | assumption)
           have q16 : x8_1 < (a0.size : Int) := of_decide_eq_true (by first | (with_reducible assumption) | assumption)
           have hx16 := bt_at a0 x8_1
           replace p16 := eq_true p16; replace q16 := eq_true q16
           have p19 : 0 ≤ (x8_1 : Int) := of_decide_eq_true (by first | (with_reducible assumption) | assumption)
           have q19 : x8_1 < (a0.size : Int) := of_decide_eq_true (by first | (with_reducible assumption) | assumption)
           have hx19 := bt_at a0 x8_1
           replace p19 := eq_true p19; replace q19 := eq_true q19
           go_wp2_with (first | ((with_reducible refine gate_callee (f := 37) rfl ?_); refine goesL_ (some 23) rfl rfl Try.func37 (by kernel_rfl) rfl #[.string a0, .int .i64 x8_1] rfl (by (try simp only [List.map_toArray, List.map_cons, List.map_nil]); first | done | rfl | (simp only [List.length_drop, List.length_take]; rfl)) ?_; (with_reducible refine (ndjqref01_Decode.calls k1 a0 x8_1 t225 t226 true _ A31.out).mono ?_); rintro e w' ⟨rfl, ⟨nd, rfl⟩⟩; refine ⟨_, rfl, ?_⟩) | ((with_reducible refine gate_callee (f := 36) rfl ?_); refine goesL_ (some 33) rfl rfl Try.func36 (by kernel_rfl) rfl #[.int .i64 t225] rfl (by (try simp only [List.map_toArray, List.map_cons, List.map_nil]); first | done | rfl | (simp only [List.length_drop, List.length_take]; rfl)) ?_; (with_reducible refine (ndjqref01_Encode.calls k1 t225 t228 t229 _ A33.out).mono ?_); rintro e w35 ⟨v230, rfl, ho0, hb⟩; refine ⟨_, rfl, ?_⟩; have n0_ := Aside0.mk (Kd.R_elder' (by (with_reducible repeat (first | apply rA | apply rN | apply rD)); exact HO_7.out) (Kd.R_base ho0) hb); have n1_ := Aside0.mk (Kd.R_lower (Kd.R_new' ho0 (Kd.R_lt (by (with_reducible repeat (first | apply rA | apply rN | apply rD)); exact HO_7.out))) (below_size (by repeat (first | (with_reducible first | exact HB.out | apply wA | apply wN | apply wD | refine wS ?_ GE215.out) | exact HB.out)))); have n2_ := Aside0.mk (blk_below (g := gb215) (o := .cells #[.int .i64 x216000_1, .int .i64 x216001_1, .int .i64 x216002_1, .int .u8 x216003_1, .int .i64 x216004_1, .string x216005_1] 24 (0, 0)) (by (with_reducible repeat (first | refine bN ?_ _ | refine bD ?_ | refine bA ?_ _)); exact BK215.out) hb); have n3_ := Aside0.mk (below_step (by repeat (first | (with_reducible first | exact HB.out | apply wA | apply wN | apply wD | refine wS ?_ GE215.out) | exact HB.out)) hb); clear HO_7; clear BK215; clear HB; have HO_7 := n0_; have HO231 := n1_; have BK215 := n2_; have HB := n3_; clear n0_ n1_ n2_ n3_; (try clear hb); (try clear hb2); (try clear hk); (try clear hi); (try clear ho0); obtain ⟨Ao37, co37, eo37⟩ := Kd.R_slice HO231.out; subst eo37) | ((with_reducible refine gate_builtin (b := .append) (xs := #[.tmp 36, .tmp 37]) rfl ?_); at_builtin; refine Kd.R_append_rows (Kd.int .u8) (w0 := w) w.heap.size rfl (.tmp 36) (.tmp 37) 48 5 (.int .u8 0) 1 rfl Try.underlying48 info5 rfl (by decide) (by omega) u7 x7_1 t228 _ _ _ (fun k_ => some k_ ≠ (.slice Ao37 t228.length co37 : Value).ownBlock) (fun _ => False) rfl rfl ?aO ?aR (fun _ _ h => h) (fun _ h => h.elim) ?aF ?aB ?aS ?aL ?_; (case aR => repeat (first | exact (Kd.R_reads' HO231.out).2.2 | (with_reducible refine Kd.C_alloc ?_ _) | (with_reducible refine Kd.C_drewN ?_ _) | (with_reducible refine Kd.C_drew ?_))); (case aB => exact (by repeat (first | (with_reducible first | exact HB.out | apply wA | apply wN | apply wD | refine wS ?_ GE215.out) | exact HB.out))); (case aF => exact (fun k_ hk => Kd.fresh' (Kd.R_lt (by (with_reducible repeat (first | apply rA | apply rN | apply rD)); exact HO231.out)) k_ hk)); (case aO => exact (by (with_reducible repeat (first | apply rA | apply rN | apply rD)); exact Kd.R_mono HO_7.out (fun _ hk => hk.2))); (case aS => exact (below_size (by repeat (first | (with_reducible first | exact HB.out | apply wA | apply wN | apply wD | refine wS ?_ GE215.out) | exact HB.out)))); (case aL => have := LMc34.out; omega); intro v233 w36 ho hb hg hat; rw [← Ny232.out] at ho; have n0_ := Aside0.mk (blk_grown (g := gb215) (o := .cells #[.int .i64 x216000_1, .int .i64 x216001_1, .int .i64 x216002_1, .int .u8 x216003_1, .int .i64 x216004_1, .string x216005_1] 24 (0, 0)) (by (with_reducible repeat (first | refine bN ?_ _ | refine bD ?_ | refine bA ?_ _)); exact BK215.out) hg (Kd.R_ne HO_7.out BK215.out (by decide))); have n1_ := Aside0.mk (Kd.R_after (ok := (fun _ => True)) (by (with_reducible repeat (first | apply rA | apply rN | apply rD)); exact HO231.out) hg hat); have n2_ := Aside0.mk (hb); have n3_ := Aside0.mk (ho); clear BK215; clear HO231; clear HB; clear HO_7; have BK215 := n0_; have HO231 := n1_; have HB := n2_; have HO234 := n3_; clear n0_ n1_ n2_ n3_; clear ho hb hg hat))
           go_roundg k1
           case measure => have := HK1.out; omega
           case rel => exact ⟨(y232), (wrap64 (x8_1 + t226)), (x216000_1), (x216001_1), (x216002_1), (x216003_1), (x216004_1), (x216005_1), (by first | rfl | (simp; done) | (simp [*]; done)), H', ⟨by have := HK1.out; omega⟩, ⟨by (with_reducible repeat (first | apply rA | apply rN | apply rD)); exact Kd.R_mono HO234.out (fun _ hk => trivial)⟩, ⟨by (with_reducible repeat (first | refine bN ?_ _ | refine bD ?_ | refine bA ?_ _)); exact BK215.out⟩, ⟨by repeat (first | (with_reducible first | exact HB.out | apply wA | apply wN | apply wD | refine wS ?_ GE215.out) | exact HB.out)⟩⟩
          ·rw [if_neg c34] at H
           exact absurd H (by simp)
         ·replace c32 := Bool.eq_false_iff.mpr c32
          subst c32
          have H1 : (some (0, 0, 0, 0, 0, (⟨#[]⟩ : ByteArray), x8_1, 6)) = some (r1, r2, r3, r4, r5, r6, r7, r8) := by rw [if_neg (show ¬ (false = true) by decide)] at H; exact H
          clear H; have H := H1; clear H1
          simp only [Option.some.injEq, Prod.mk.injEq] at H
          obtain ⟨rfl, rfl, rfl, rfl, rfl, rfl, rfl, rfl⟩ := H
          have p8 : 0 ≤ (x8_1 : Int) := of_decide_eq_true (by first | (with_reducible assumption) | assumption)
          have q8 : x8_1 < (a0.size : Int) := of_decide_eq_true (by first | (with_reducible assumption) | assumption)
          have hx8 := bt_at a0 x8_1
          replace p8 := eq_true p8; replace q8 := eq_true q8
          have p16 : 0 ≤ (x8_1 : Int) := of_decide_eq_true (by first | (with_reducible assumption) | assumption)
          have q16 : x8_1 < (a0.size : Int) := of_decide_eq_true (by first | (with_reducible assumption) | assumption)
          have hx16 := bt_at a0 x8_1
          replace p16 := eq_true p16; replace q16 := eq_true q16
          have p19 : 0 ≤ (x8_1 : Int) := of_decide_eq_true (by first | (with_reducible assumption) | assumption)
          have q19 : x8_1 < (a0.size : Int) := of_decide_eq_true (by first | (with_reducible assumption) | assumption)
          have hx19 := bt_at a0 x8_1
          replace p19 := eq_true p19; replace q19 := eq_true q19
          go_wp2_with (first | ((with_reducible refine gate_callee (f := 37) rfl ?_); refine goesL_ (some 23) rfl rfl Try.func37 (by kernel_rfl) rfl #[.string a0, .int .i64 x8_1] rfl (by (try simp only [List.map_toArray, List.map_cons, List.map_nil]); first | done | rfl | (simp only [List.length_drop, List.length_take]; rfl)) ?_; (with_reducible refine (ndjqref01_Decode.calls k1 a0 x8_1 t225 t226 false _ A31.out).mono ?_); rintro e w' ⟨rfl, ⟨nd, rfl⟩⟩; refine ⟨_, rfl, ?_⟩; (try (rw [drewN_self wr]; generalize hq_ : World.drewN wr _ = wr; have n0_ : Aside0 (Kd.R (Kd.int .u8) 5 wr w.heap.size (fun _ => True) u7 x7_1) := ⟨by rw [← hq_]; exact (by (with_reducible repeat (first | apply rA | apply rN | apply rD)); exact HO_7.out)⟩; have n1_ : Aside0 (wr.heap[gb215]? = some (.cells #[.int .i64 x216000_1, .int .i64 x216001_1, .int .i64 x216002_1, .int .u8 x216003_1, .int .i64 x216004_1, .string x216005_1] 24 (0, 0))) := ⟨by rw [← hq_]; exact (by (with_reducible repeat (first | refine bN ?_ _ | refine bD ?_ | refine bA ?_ _)); exact BK215.out)⟩; have n2_ : Aside0 (Below w.heap.size w wr) := ⟨by rw [← hq_]; exact (by repeat (first | (with_reducible first | exact HB.out | apply wA | apply wN | apply wD | refine wS ?_ GE215.out) | exact HB.out))⟩; clear HO_7 BK215 HB hq_; have HO_7 := n0_; have BK215 := n1_; have HB := n2_; clear n0_ n1_ n2_)); have hcz38_0 : wr.cell? ⟨gb215, 0, none⟩ = some (.int .i64 x216000_1) := (blk_cell BK215.out 0).trans rfl; have hcz38_1 : wr.cell? ⟨gb215, 1, none⟩ = some (.int .i64 x216001_1) := (blk_cell BK215.out 1).trans rfl; have hcz38_2 : wr.cell? ⟨gb215, 2, none⟩ = some (.int .i64 x216002_1) := (blk_cell BK215.out 2).trans rfl; have hcz38_3 : wr.cell? ⟨gb215, 3, none⟩ = some (.int .u8 x216003_1) := (blk_cell BK215.out 3).trans rfl; have hcz38_4 : wr.cell? ⟨gb215, 4, none⟩ = some (.int .i64 x216004_1) := (blk_cell BK215.out 4).trans rfl; have hcz38_5 : wr.cell? ⟨gb215, 5, none⟩ = some (.string x216005_1) := (blk_cell BK215.out 5).trans rfl; have hfz38_0 := blk_frozen BK215.out 0; have hfz38_1 := blk_frozen BK215.out 1; have hfz38_2 := blk_frozen BK215.out 2; have hfz38_3 := blk_frozen BK215.out 3; have hfz38_4 := blk_frozen BK215.out 4; have hfz38_5 := blk_frozen BK215.out 5))
          refine bodyPost_ret (results_ctt rfl _ _ gb215 24 #[.int .i64 0, .int .i64 0, .int .i64 0, .int .u8 0, .int .i64 0, .string (⟨#[]⟩ : ByteArray)] (0, 0) _ rfl (by (with_reducible repeat (first | refine bN ?_ _ | refine bD ?_ | refine bA ?_ _)); refine blk_put (cs := #[.int .i64 0, .int .i64 0, .int .i64 0, .int .u8 0, .int .i64 0, .string x216005_1]) ?_ 5 _ rfl; (with_reducible repeat (first | refine bN ?_ _ | refine bD ?_ | refine bA ?_ _)); refine blk_put (cs := #[.int .i64 0, .int .i64 0, .int .i64 0, .int .u8 0, .int .i64 x216004_1, .string x216005_1]) ?_ 4 _ rfl; (with_reducible repeat (first | refine bN ?_ _ | refine bD ?_ | refine bA ?_ _)); refine blk_put (cs := #[.int .i64 0, .int .i64 0, .int .i64 0, .int .u8 x216003_1, .int .i64 x216004_1, .string x216005_1]) ?_ 3 _ rfl; (with_reducible repeat (first | refine bN ?_ _ | refine bD ?_ | refine bA ?_ _)); refine blk_put (cs := #[.int .i64 0, .int .i64 0, .int .i64 x216002_1, .int .u8 x216003_1, .int .i64 x216004_1, .string x216005_1]) ?_ 2 _ rfl; (with_reducible repeat (first | refine bN ?_ _ | refine bD ?_ | refine bA ?_ _)); refine blk_put (cs := #[.int .i64 0, .int .i64 x216001_1, .int .i64 x216002_1, .int .u8 x216003_1, .int .i64 x216004_1, .string x216005_1]) ?_ 1 _ rfl; (with_reducible repeat (first | refine bN ?_ _ | refine bD ?_ | refine bA ?_ _)); refine blk_put (cs := #[.int .i64 x216000_1, .int .i64 x216001_1, .int .i64 x216002_1, .int .u8 x216003_1, .int .i64 x216004_1, .string x216005_1]) ?_ 0 _ rfl; (with_reducible repeat (first | refine bN ?_ _ | refine bD ?_ | refine bA ?_ _)); exact BK215.out) Try.underlying24 rfl (by kernel_rfl)) rfl ?_
          exact ⟨by first | rfl | (simp [errW_none, errW_some] <;> rfl) | (simp [*, errW_none, errW_some] <;> rfl), by repeat (first | (with_reducible first | exact HB.out | apply wA | apply wN | apply wD | refine wS ?_ GE215.out) | exact HB.out)⟩
     ·rw [if_neg c7] at H
      exact absurd H (by simp)
    ·rw [if_neg c6] at H
     exact absurd H (by simp)

/-! ### ndjqref03_Next: function 10 -/
mutual
def ndjqref03_Next.j0 : Nat → ByteArray → Int → Bool → Option (Int × Int × Int × Int × Int × ByteArray × Int × Int)
 | 0, _, _, _ => none
 | k + 1, x0, x1, x15 => if x15 = true then (some (0, 0, 0, 0, 0, (⟨#[]⟩ : ByteArray), 0, 3)) else ((ndjqref03_Skip.f k x0 x1).bind fun t236 => (if t236 = (x0.size : Int) then (some (0, t236, t236, 0, 0, (⟨#[]⟩ : ByteArray), t236, 0)) else (if 0 ≤ t236 then (if t236 < (x0.size : Int) then (if (bt x0 t236) = 91 then (ndjqref03_Next.j1 k x0 t236 (bt x0 t236) true) else (if (bt x0 t236) = 93 then (ndjqref03_Next.j1 k x0 t236 (bt x0 t236) true) else (if (bt x0 t236) = 123 then (ndjqref03_Next.j1 k x0 t236 (bt x0 t236) true) else (if (bt x0 t236) = 125 then (ndjqref03_Next.j1 k x0 t236 (bt x0 t236) true) else (if (bt x0 t236) = 44 then (ndjqref03_Next.j1 k x0 t236 (bt x0 t236) true) else (ndjqref03_Next.j1 k x0 t236 (bt x0 t236) ((bt x0 t236) == 58))))))) else (none)) else (none))))
def ndjqref03_Next.j1 : Nat → ByteArray → Int → Int → Bool → Option (Int × Int × Int × Int × Int × ByteArray × Int × Int)
 | 0, _, _, _, _ => none
 | k + 1, x0, x1, x7, x31 => if x31 = true then (some (1, x1, wrap64 (x1 + 1), x7, 0, (⟨#[]⟩ : ByteArray), wrap64 (x1 + 1), 0)) else ((ndjqref03_letter.f x0 x1).bind fun t237 => (if t237 = true then ((ndjqref03_word.f k x0 x1).bind fun bt238 => (some (bt238.1, bt238.2.1, bt238.2.2.1, bt238.2.2.2.1, bt238.2.2.2.2.1, bt238.2.2.2.2.2.1, bt238.2.2.2.2.2.2.1, bt238.2.2.2.2.2.2.2))) else (if x7 = 45 then (ndjqref03_Next.j2 k x0 x1 x7 true) else ((ndjqref03_digit.f x0 x1).bind fun t246 => (ndjqref03_Next.j2 k x0 x1 x7 t246)))))
def ndjqref03_Next.j2 : Nat → ByteArray → Int → Int → Bool → Option (Int × Int × Int × Int × Int × ByteArray × Int × Int)
 | 0, _, _, _, _ => none
 | k + 1, x0, x1, x7, x71 => if x71 = true then ((ndjqref03_number.f k x0 x1).bind fun bt247 => (some (bt247.1, bt247.2.1, bt247.2.2.1, bt247.2.2.2.1, bt247.2.2.2.2.1, bt247.2.2.2.2.2.1, bt247.2.2.2.2.2.2.1, bt247.2.2.2.2.2.2.2))) else (if x7 = 34 then ((ndjqref03_text.f k x0 x1).bind fun bt255 => (some (bt255.1, bt255.2.1, bt255.2.2.1, bt255.2.2.2.1, bt255.2.2.2.2.1, bt255.2.2.2.2.2.1, bt255.2.2.2.2.2.2.1, bt255.2.2.2.2.2.2.2))) else (some (0, 0, 0, 0, 0, (⟨#[]⟩ : ByteArray), x1, 4)))
end
def ndjqref03_Next.f (k : Nat) (a0 : ByteArray) (a1 : Int) : Option (Int × Int × Int × Int × Int × ByteArray × Int × Int) := if a1 < 0 then (ndjqref03_Next.j0 k a0 a1 true) else (ndjqref03_Next.j0 k a0 a1 (decide (a1 > (a0.size : Int))))
theorem ndjqref03_Next.mono_l : ∀ k, (∀ y0 y1 y2, LeO (ndjqref03_Next.j0 k y0 y1 y2) (ndjqref03_Next.j0 (k + 1) y0 y1 y2)) ∧ (∀ y0 y1 y2 y3, LeO (ndjqref03_Next.j1 k y0 y1 y2 y3) (ndjqref03_Next.j1 (k + 1) y0 y1 y2 y3)) ∧ (∀ y0 y1 y2 y3, LeO (ndjqref03_Next.j2 k y0 y1 y2 y3) (ndjqref03_Next.j2 (k + 1) y0 y1 y2 y3))
 | 0 => ⟨fun _ _ _ r h => by simp [ndjqref03_Next.j0] at h, fun _ _ _ _ r h => by simp [ndjqref03_Next.j1] at h, fun _ _ _ _ r h => by simp [ndjqref03_Next.j2] at h⟩
 | k + 1 => by
  obtain ⟨ih0, ih1, ih2⟩ := ndjqref03_Next.mono_l k
  refine ⟨?_, ?_, ?_⟩
  ·intro y0 y1 y2
   unfold ndjqref03_Next.j0
   repeat' first
   | (with_reducible exact ih0 _ _ _)
   | (with_reducible exact ih1 _ _ _ _)
   | (with_reducible exact ih2 _ _ _ _)
   | (with_reducible exact ndjqref03_Skip.mono _ _ _)
   | (with_reducible exact ndjqref03_number.mono _ _ _)
   | (with_reducible exact ndjqref03_text.mono _ _ _)
   | (with_reducible exact ndjqref03_word.mono _ _ _)
   | (with_reducible exact LeO.refl _)
   | (with_reducible exact LeO.none _)
   | (with_reducible refine LeO.ite ?_ ?_)
   | (with_reducible refine LeO.bind ?_ (fun _ => ?_))
   | exact ih0 _ _ _
   | exact ih1 _ _ _ _
   | exact ih2 _ _ _ _
   | exact ndjqref03_Skip.mono _ _ _
   | exact ndjqref03_number.mono _ _ _
   | exact ndjqref03_text.mono _ _ _
   | exact ndjqref03_word.mono _ _ _
   | exact LeO.none _
   | refine LeO.ite ?_ ?_
   | refine LeO.bind ?_ (fun _ => ?_)
  ·intro y0 y1 y2 y3
   unfold ndjqref03_Next.j1
   repeat' first
   | (with_reducible exact ih0 _ _ _)
   | (with_reducible exact ih1 _ _ _ _)
   | (with_reducible exact ih2 _ _ _ _)
   | (with_reducible exact ndjqref03_Skip.mono _ _ _)
   | (with_reducible exact ndjqref03_number.mono _ _ _)
   | (with_reducible exact ndjqref03_text.mono _ _ _)
   | (with_reducible exact ndjqref03_word.mono _ _ _)
   | (with_reducible exact LeO.refl _)
   | (with_reducible exact LeO.none _)
   | (with_reducible refine LeO.ite ?_ ?_)
   | (with_reducible refine LeO.bind ?_ (fun _ => ?_))
   | exact ih0 _ _ _
   | exact ih1 _ _ _ _
   | exact ih2 _ _ _ _
   | exact ndjqref03_Skip.mono _ _ _
   | exact ndjqref03_number.mono _ _ _
   | exact ndjqref03_text.mono _ _ _
   | exact ndjqref03_word.mono _ _ _
   | exact LeO.none _
   | refine LeO.ite ?_ ?_
   | refine LeO.bind ?_ (fun _ => ?_)
  ·intro y0 y1 y2 y3
   unfold ndjqref03_Next.j2
   repeat' first
   | (with_reducible exact ih0 _ _ _)
   | (with_reducible exact ih1 _ _ _ _)
   | (with_reducible exact ih2 _ _ _ _)
   | (with_reducible exact ndjqref03_Skip.mono _ _ _)
   | (with_reducible exact ndjqref03_number.mono _ _ _)
   | (with_reducible exact ndjqref03_text.mono _ _ _)
   | (with_reducible exact ndjqref03_word.mono _ _ _)
   | (with_reducible exact LeO.refl _)
   | (with_reducible exact LeO.none _)
   | (with_reducible refine LeO.ite ?_ ?_)
   | (with_reducible refine LeO.bind ?_ (fun _ => ?_))
   | exact ih0 _ _ _
   | exact ih1 _ _ _ _
   | exact ih2 _ _ _ _
   | exact ndjqref03_Skip.mono _ _ _
   | exact ndjqref03_number.mono _ _ _
   | exact ndjqref03_text.mono _ _ _
   | exact ndjqref03_word.mono _ _ _
   | exact LeO.none _
   | refine LeO.ite ?_ ?_
   | refine LeO.bind ?_ (fun _ => ?_)
theorem ndjqref03_Next.mono : ∀ a0 a1 k, LeO (ndjqref03_Next.f k a0 a1) (ndjqref03_Next.f (k + 1) a0 a1) := by
 intro a0 a1 k
 obtain ⟨ih0, ih1, ih2⟩ := ndjqref03_Next.mono_l k
 unfold ndjqref03_Next.f
 repeat' first
   | (with_reducible exact ih0 _ _ _)
   | (with_reducible exact ih1 _ _ _ _)
   | (with_reducible exact ih2 _ _ _ _)
   | (with_reducible exact ndjqref03_Skip.mono _ _ _)
   | (with_reducible exact ndjqref03_number.mono _ _ _)
   | (with_reducible exact ndjqref03_text.mono _ _ _)
   | (with_reducible exact ndjqref03_word.mono _ _ _)
   | (with_reducible exact LeO.refl _)
   | (with_reducible exact LeO.none _)
   | (with_reducible refine LeO.ite ?_ ?_)
   | (with_reducible refine LeO.bind ?_ (fun _ => ?_))
   | exact ih0 _ _ _
   | exact ih1 _ _ _ _
   | exact ih2 _ _ _ _
   | exact ndjqref03_Skip.mono _ _ _
   | exact ndjqref03_number.mono _ _ _
   | exact ndjqref03_text.mono _ _ _
   | exact ndjqref03_word.mono _ _ _
   | exact LeO.none _
   | refine LeO.ite ?_ ?_
   | refine LeO.bind ?_ (fun _ => ?_)
set_option maxHeartbeats 8000000 in
set_option maxRecDepth 100000 in
theorem ndjqref03_Next.calls (k : Nat) (a0 : ByteArray) (a1 : Int) (r1 : Int) (r2 : Int) (r3 : Int) (r4 : Int) (r5 : Int) (r6 : ByteArray) (r7 : Int) (r8 : Int) (w : World) (h : ndjqref03_Next.f k a0 a1 = some (r1, r2, r3, r4, r5, r6, r7, r8)) :
  Calls Try.prog 10 #[.string a0, .int .i64 a1] w fun e w' => e = .returned (.tuple #[.agg #[.int .i64 r1, .int .i64 r2, .int .i64 r3, .int .u8 r4, .int .i64 r5, .string r6], .int .i64 r7, .int .i64 r8]) ∧ Below w.heap.size w w' := by
 have hu24 := Try.underlying24
 have HB := Aside0.mk (Below.refl w.heap.size w)
 have H : (if a1 < 0 then (ndjqref03_Next.j0 k a0 a1 true) else (ndjqref03_Next.j0 k a0 a1 (decide (a1 > (a0.size : Int))))) = some (r1, r2, r3, r4, r5, r6, r7, r8) := h
 clear h
 have HC3 := Aside0.mk H
 clear H
 go_enter Try.func10, Try.ntmps10
 go_upto_region 1 with (first | ((with_reducible refine gate_dst (N := 4) rfl ?_); (try (refine gate_guard (by rfl) ?_; dsimp only)); refine box_event ?hg (N := 4) ?hd (cs := #[.int .i64 0, .int .i64 0, .int .i64 0, .int .u8 0, .int .i64 0, .string (⟨#[]⟩ : ByteArray)]) (t := 24) ?hr ?_; (case hd => rfl); (case hg => rfl); (case hr => first | (go_simp; done) | (go_simp; rfl)); intro gb235 hg w4 hbox hb; have n0_ := Aside0.mk (below_step (by repeat (first | (with_reducible first | exact HB.out | apply wA | apply wN | apply wD) | exact HB.out)) hb); have n1_ := Aside0.mk (hbox); have n2_ := Aside0.mk ((by rw [hg]; exact (below_size (by repeat (first | (with_reducible first | exact HB.out | apply wA | apply wN | apply wD) | exact HB.out))) : w.heap.size ≤ gb235)); have n3_ := n2_; clear HB; have HB := n0_; have BK235 := n1_; have GW235 := n2_; have GE235 := n3_; clear n0_ n1_ n2_ n3_; clear hb hbox hg))
 (try simp only [Act.put, List.setIfInBounds_toArray, List.set_cons_zero, List.set_cons_succ])
 go_cut [15] (fun v15 wc => ∃ (kq : Nat) (x15_2 : Bool), v15 = .bool x15_2 ∧ Aside0 (ndjqref03_Next.j0 kq a0 a1 x15_2 = some (r1, r2, r3, r4, r5, r6, r7, r8)) ∧ Aside0 (kq ≤ k) ∧ Aside0 (wc.heap[gb235]? = some (.cells #[.int .i64 0, .int .i64 0, .int .i64 0, .int .u8 0, .int .i64 0, .string (⟨#[]⟩ : ByteArray)] 24 (0, 0))) ∧ Aside0 (Below w.heap.size w wc))
 case first =>
  have H := HC3.out
  clear HC3
  by_cases c5 : a1 < 0
  ·rw [if_pos c5] at H
   have c5b0 : decide (a1 < 0) = true := decide_eq_true c5
   clear c5
   (first | rw [c5b0] | (simp only [i64_w, i32_w]; rw [c5b0]) | skip)
   have H' := Aside0.mk H
   clear H
   go_wp2
   go_meet
   case rel => exact ⟨_, (true), (by first | rfl | (simp; done) | (simp [*]; done)), H', ⟨by first | omega | exact Nat.le_refl _⟩, ⟨by (with_reducible repeat (first | refine bN ?_ _ | refine bD ?_ | refine bA ?_ _)); exact BK235.out⟩, ⟨by repeat (first | (with_reducible first | exact HB.out | apply wA | apply wN | apply wD | refine wS ?_ GE235.out) | exact HB.out)⟩⟩
  ·rw [if_neg c5] at H
   have c5b0 : decide (a1 < 0) = false := decide_eq_false c5
   clear c5
   (first | rw [c5b0] | (simp only [i64_w, i32_w]; rw [c5b0]) | skip)
   have H' := Aside0.mk H
   clear H
   go_wp2
   go_meet
   case rel => exact ⟨_, (decide (a1 > (a0.size : Int))), (by first | rfl | (simp; done) | (simp [*]; done)), H', ⟨by first | omega | exact Nat.le_refl _⟩, ⟨by (with_reducible repeat (first | refine bN ?_ _ | refine bD ?_ | refine bA ?_ _)); exact BK235.out⟩, ⟨by repeat (first | (with_reducible first | exact HB.out | apply wA | apply wN | apply wD | refine wS ?_ GE235.out) | exact HB.out)⟩⟩
 case rest =>
  clear HC3
  (try clear c1); (try clear p2); (try clear c5); (try clear c5b0)
  obtain ⟨kq, x15_2, rfl, HA, HJ2, BK235, HB⟩ := hcut
  cases kq with
  | zero => exact absurd HA.out (by simp [ndjqref03_Next.j0])
  | succ kj2 =>
   have H := HA.out
   clear HA
   simp only [ndjqref03_Next.j0] at H
   by_cases c6 : x15_2 = true
   ·subst c6
    have H1 : (some (0, 0, 0, 0, 0, (⟨#[]⟩ : ByteArray), 0, 3)) = some (r1, r2, r3, r4, r5, r6, r7, r8) := by rw [if_pos rfl] at H; exact H
    clear H; have H := H1; clear H1
    simp only [Option.some.injEq, Prod.mk.injEq] at H
    obtain ⟨rfl, rfl, rfl, rfl, rfl, rfl, rfl, rfl⟩ := H
    have hcz7_0 : wc.cell? ⟨gb235, 0, none⟩ = some (.int .i64 0) := (blk_cell BK235.out 0).trans rfl; have hcz7_1 : wc.cell? ⟨gb235, 1, none⟩ = some (.int .i64 0) := (blk_cell BK235.out 1).trans rfl; have hcz7_2 : wc.cell? ⟨gb235, 2, none⟩ = some (.int .i64 0) := (blk_cell BK235.out 2).trans rfl; have hcz7_3 : wc.cell? ⟨gb235, 3, none⟩ = some (.int .u8 0) := (blk_cell BK235.out 3).trans rfl; have hcz7_4 : wc.cell? ⟨gb235, 4, none⟩ = some (.int .i64 0) := (blk_cell BK235.out 4).trans rfl; have hcz7_5 : wc.cell? ⟨gb235, 5, none⟩ = some (.string (⟨#[]⟩ : ByteArray)) := (blk_cell BK235.out 5).trans rfl; have hfz7_0 := blk_frozen BK235.out 0; have hfz7_1 := blk_frozen BK235.out 1; have hfz7_2 := blk_frozen BK235.out 2; have hfz7_3 := blk_frozen BK235.out 3; have hfz7_4 := blk_frozen BK235.out 4; have hfz7_5 := blk_frozen BK235.out 5
    go_wp2
    refine bodyPost_ret (results_ctt rfl _ _ gb235 24 #[.int .i64 0, .int .i64 0, .int .i64 0, .int .u8 0, .int .i64 0, .string (⟨#[]⟩ : ByteArray)] (0, 0) _ rfl (by (with_reducible repeat (first | refine bN ?_ _ | refine bD ?_ | refine bA ?_ _)); refine blk_put (cs := #[.int .i64 0, .int .i64 0, .int .i64 0, .int .u8 0, .int .i64 0, .string (⟨#[]⟩ : ByteArray)]) ?_ 5 _ rfl; (with_reducible repeat (first | refine bN ?_ _ | refine bD ?_ | refine bA ?_ _)); refine blk_put (cs := #[.int .i64 0, .int .i64 0, .int .i64 0, .int .u8 0, .int .i64 0, .string (⟨#[]⟩ : ByteArray)]) ?_ 4 _ rfl; (with_reducible repeat (first | refine bN ?_ _ | refine bD ?_ | refine bA ?_ _)); refine blk_put (cs := #[.int .i64 0, .int .i64 0, .int .i64 0, .int .u8 0, .int .i64 0, .string (⟨#[]⟩ : ByteArray)]) ?_ 3 _ rfl; (with_reducible repeat (first | refine bN ?_ _ | refine bD ?_ | refine bA ?_ _)); refine blk_put (cs := #[.int .i64 0, .int .i64 0, .int .i64 0, .int .u8 0, .int .i64 0, .string (⟨#[]⟩ : ByteArray)]) ?_ 2 _ rfl; (with_reducible repeat (first | refine bN ?_ _ | refine bD ?_ | refine bA ?_ _)); refine blk_put (cs := #[.int .i64 0, .int .i64 0, .int .i64 0, .int .u8 0, .int .i64 0, .string (⟨#[]⟩ : ByteArray)]) ?_ 1 _ rfl; (with_reducible repeat (first | refine bN ?_ _ | refine bD ?_ | refine bA ?_ _)); refine blk_put (cs := #[.int .i64 0, .int .i64 0, .int .i64 0, .int .u8 0, .int .i64 0, .string (⟨#[]⟩ : ByteArray)]) ?_ 0 _ rfl; (with_reducible repeat (first | refine bN ?_ _ | refine bD ?_ | refine bA ?_ _)); exact BK235.out) Try.underlying24 rfl (by kernel_rfl)) rfl ?_
    exact ⟨by first | rfl | (simp [errW_none, errW_some] <;> rfl) | (simp [*, errW_none, errW_some] <;> rfl), by repeat (first | (with_reducible first | exact HB.out | apply wA | apply wN | apply wD | refine wS ?_ GE235.out) | exact HB.out)⟩
   ·replace c6 := Bool.eq_false_iff.mpr c6
    subst c6
    have H1 : ((ndjqref03_Skip.f kj2 a0 a1).bind fun t236 => (if t236 = (a0.size : Int) then (some (0, t236, t236, 0, 0, (⟨#[]⟩ : ByteArray), t236, 0)) else (if 0 ≤ t236 then (if t236 < (a0.size : Int) then (if (bt a0 t236) = 91 then (ndjqref03_Next.j1 kj2 a0 t236 (bt a0 t236) true) else (if (bt a0 t236) = 93 then (ndjqref03_Next.j1 kj2 a0 t236 (bt a0 t236) true) else (if (bt a0 t236) = 123 then (ndjqref03_Next.j1 kj2 a0 t236 (bt a0 t236) true) else (if (bt a0 t236) = 125 then (ndjqref03_Next.j1 kj2 a0 t236 (bt a0 t236) true) else (if (bt a0 t236) = 44 then (ndjqref03_Next.j1 kj2 a0 t236 (bt a0 t236) true) else (ndjqref03_Next.j1 kj2 a0 t236 (bt a0 t236) ((bt a0 t236) == 58))))))) else (none)) else (none)))) = some (r1, r2, r3, r4, r5, r6, r7, r8) := by rw [if_neg (show ¬ (false = true) by decide)] at H; exact H
    clear H; have H := H1; clear H1
    replace H := Option.bind_eq_some_iff.mp H
    obtain ⟨t236, A80, H⟩ := H
    replace H : (if t236 = (a0.size : Int) then (some (0, t236, t236, 0, 0, (⟨#[]⟩ : ByteArray), t236, 0)) else (if 0 ≤ t236 then (if t236 < (a0.size : Int) then (if (bt a0 t236) = 91 then (ndjqref03_Next.j1 kj2 a0 t236 (bt a0 t236) true) else (if (bt a0 t236) = 93 then (ndjqref03_Next.j1 kj2 a0 t236 (bt a0 t236) true) else (if (bt a0 t236) = 123 then (ndjqref03_Next.j1 kj2 a0 t236 (bt a0 t236) true) else (if (bt a0 t236) = 125 then (ndjqref03_Next.j1 kj2 a0 t236 (bt a0 t236) true) else (if (bt a0 t236) = 44 then (ndjqref03_Next.j1 kj2 a0 t236 (bt a0 t236) true) else (ndjqref03_Next.j1 kj2 a0 t236 (bt a0 t236) ((bt a0 t236) == 58))))))) else (none)) else (none))) = some (r1, r2, r3, r4, r5, r6, r7, r8) := H
    have A8 := Aside0.mk A80
    clear A80
    by_cases c9 : t236 = (a0.size : Int)
    ·rw [if_pos c9] at H
     have c9b0 : (t236 == (a0.size : Int)) = true := beq_iff_eq.mpr c9
     have c9b1 : (t236 != (a0.size : Int)) = false := bne_eq_false_iff_eq.mpr c9
     clear c9
     simp only [Option.some.injEq, Prod.mk.injEq] at H
     obtain ⟨rfl, rfl, rfl, rfl, rfl, rfl, rfl, rfl⟩ := H
     go_wp2_with (first | ((with_reducible refine gate_callee (f := 14) rfl ?_); refine goesL_ (some 19) rfl rfl Try.func14 (by kernel_rfl) rfl #[.string a0, .int .i64 a1] rfl (by (try simp only [List.map_toArray, List.map_cons, List.map_nil]); first | done | rfl | (simp only [List.length_drop, List.length_take]; rfl)) ?_; (with_reducible refine (ndjqref03_Skip.calls kj2 a0 a1 t236 _ A8.out).mono ?_); rintro e w' ⟨rfl, ⟨nd, rfl⟩⟩; refine ⟨_, rfl, ?_⟩; (try (rw [drewN_self wc]; generalize hq_ : World.drewN wc _ = wc; have n0_ : Aside0 (wc.heap[gb235]? = some (.cells #[.int .i64 0, .int .i64 0, .int .i64 0, .int .u8 0, .int .i64 0, .string (⟨#[]⟩ : ByteArray)] 24 (0, 0))) := ⟨by rw [← hq_]; exact (by (with_reducible repeat (first | refine bN ?_ _ | refine bD ?_ | refine bA ?_ _)); exact BK235.out)⟩; have n1_ : Aside0 (Below w.heap.size w wc) := ⟨by rw [← hq_]; exact (by repeat (first | (with_reducible first | exact HB.out | apply wA | apply wN | apply wD | refine wS ?_ GE235.out) | exact HB.out))⟩; clear BK235 HB hq_; have BK235 := n0_; have HB := n1_; clear n0_ n1_)); have hcz10_0 : wc.cell? ⟨gb235, 0, none⟩ = some (.int .i64 0) := (blk_cell BK235.out 0).trans rfl; have hcz10_1 : wc.cell? ⟨gb235, 1, none⟩ = some (.int .i64 0) := (blk_cell BK235.out 1).trans rfl; have hcz10_2 : wc.cell? ⟨gb235, 2, none⟩ = some (.int .i64 0) := (blk_cell BK235.out 2).trans rfl; have hcz10_3 : wc.cell? ⟨gb235, 3, none⟩ = some (.int .u8 0) := (blk_cell BK235.out 3).trans rfl; have hcz10_4 : wc.cell? ⟨gb235, 4, none⟩ = some (.int .i64 0) := (blk_cell BK235.out 4).trans rfl; have hcz10_5 : wc.cell? ⟨gb235, 5, none⟩ = some (.string (⟨#[]⟩ : ByteArray)) := (blk_cell BK235.out 5).trans rfl; have hfz10_0 := blk_frozen BK235.out 0; have hfz10_1 := blk_frozen BK235.out 1; have hfz10_2 := blk_frozen BK235.out 2; have hfz10_3 := blk_frozen BK235.out 3; have hfz10_4 := blk_frozen BK235.out 4; have hfz10_5 := blk_frozen BK235.out 5))
     refine bodyPost_ret (results_ctt rfl _ _ gb235 24 #[.int .i64 0, .int .i64 t236, .int .i64 t236, .int .u8 0, .int .i64 0, .string (⟨#[]⟩ : ByteArray)] (0, 0) _ rfl (by (with_reducible repeat (first | refine bN ?_ _ | refine bD ?_ | refine bA ?_ _)); refine blk_put (cs := #[.int .i64 0, .int .i64 t236, .int .i64 t236, .int .u8 0, .int .i64 0, .string (⟨#[]⟩ : ByteArray)]) ?_ 5 _ rfl; (with_reducible repeat (first | refine bN ?_ _ | refine bD ?_ | refine bA ?_ _)); refine blk_put (cs := #[.int .i64 0, .int .i64 t236, .int .i64 t236, .int .u8 0, .int .i64 0, .string (⟨#[]⟩ : ByteArray)]) ?_ 4 _ rfl; (with_reducible repeat (first | refine bN ?_ _ | refine bD ?_ | refine bA ?_ _)); refine blk_put (cs := #[.int .i64 0, .int .i64 t236, .int .i64 t236, .int .u8 0, .int .i64 0, .string (⟨#[]⟩ : ByteArray)]) ?_ 3 _ rfl; (with_reducible repeat (first | refine bN ?_ _ | refine bD ?_ | refine bA ?_ _)); refine blk_put (cs := #[.int .i64 0, .int .i64 t236, .int .i64 0, .int .u8 0, .int .i64 0, .string (⟨#[]⟩ : ByteArray)]) ?_ 2 _ rfl; (with_reducible repeat (first | refine bN ?_ _ | refine bD ?_ | refine bA ?_ _)); refine blk_put (cs := #[.int .i64 0, .int .i64 0, .int .i64 0, .int .u8 0, .int .i64 0, .string (⟨#[]⟩ : ByteArray)]) ?_ 1 _ rfl; (with_reducible repeat (first | refine bN ?_ _ | refine bD ?_ | refine bA ?_ _)); refine blk_put (cs := #[.int .i64 0, .int .i64 0, .int .i64 0, .int .u8 0, .int .i64 0, .string (⟨#[]⟩ : ByteArray)]) ?_ 0 _ rfl; (with_reducible repeat (first | refine bN ?_ _ | refine bD ?_ | refine bA ?_ _)); exact BK235.out) Try.underlying24 rfl (by kernel_rfl)) rfl ?_
     exact ⟨by first | rfl | (simp [errW_none, errW_some] <;> rfl) | (simp [*, errW_none, errW_some] <;> rfl), by repeat (first | (with_reducible first | exact HB.out | apply wA | apply wN | apply wD | refine wS ?_ GE235.out) | exact HB.out)⟩
    ·rw [if_neg c9] at H
     have c9b0 : (t236 == (a0.size : Int)) = false := beq_eq_false_iff_ne.mpr c9
     have c9b1 : (t236 != (a0.size : Int)) = true := bne_iff_ne.mpr c9
     by_cases c11 : 0 ≤ t236
     ·rw [if_pos c11] at H
      have c11b0 : decide (0 ≤ t236) = true := decide_eq_true c11
      clear c11
      by_cases c12 : t236 < (a0.size : Int)
      ·rw [if_pos c12] at H
       have c12b0 : decide (t236 < (a0.size : Int)) = true := decide_eq_true c12
       clear c12
       have HC14 := Aside0.mk H
       clear H
       go_upto_region 7 with (first | ((with_reducible refine gate_callee (f := 14) rfl ?_); refine goesL_ (some 19) rfl rfl Try.func14 (by kernel_rfl) rfl #[.string a0, .int .i64 a1] rfl (by (try simp only [List.map_toArray, List.map_cons, List.map_nil]); first | done | rfl | (simp only [List.length_drop, List.length_take]; rfl)) ?_; (with_reducible refine (ndjqref03_Skip.calls kj2 a0 a1 t236 _ A8.out).mono ?_); rintro e w' ⟨rfl, ⟨nd, rfl⟩⟩; refine ⟨_, rfl, ?_⟩; have p13 : 0 ≤ (t236 : Int) := of_decide_eq_true (by first | (with_reducible assumption) | assumption); have q13 : t236 < (a0.size : Int) := of_decide_eq_true (by first | (with_reducible assumption) | assumption); have hx13 := bt_at a0 t236; replace p13 := eq_true p13; replace q13 := eq_true q13))
       (try simp only [Act.put, List.setIfInBounds_toArray, List.set_cons_zero, List.set_cons_succ])
       go_cut [31] (fun v31 wc => ∃ (kq : Nat) (x31_13 : Bool), v31 = .bool x31_13 ∧ Aside0 (ndjqref03_Next.j1 kq a0 t236 (bt a0 t236) x31_13 = some (r1, r2, r3, r4, r5, r6, r7, r8)) ∧ Aside0 (kq ≤ kj2) ∧ Aside0 (wc.heap[gb235]? = some (.cells #[.int .i64 0, .int .i64 0, .int .i64 0, .int .u8 0, .int .i64 0, .string (⟨#[]⟩ : ByteArray)] 24 (0, 0))) ∧ Aside0 (Below w.heap.size w wc))
       case first =>
        have H := HC14.out
        clear HC14
        by_cases c15 : (bt a0 t236) = 91
        ·rw [if_pos c15] at H
         have c15b0 : ((bt a0 t236) == 91) = true := beq_iff_eq.mpr c15
         have c15b1 : ((bt a0 t236) != 91) = false := bne_eq_false_iff_eq.mpr c15
         clear c15
         (first | rw [c15b0] | (simp only [i64_w, i32_w]; rw [c15b0]) | skip)
         have H' := Aside0.mk H
         clear H
         go_wp2
         go_meet
         case rel => exact ⟨_, (true), (by first | rfl | (simp; done) | (simp [*]; done)), H', ⟨by have := HJ2.out; first | omega | exact Nat.le_refl _⟩, ⟨by (with_reducible repeat (first | refine bN ?_ _ | refine bD ?_ | refine bA ?_ _)); exact BK235.out⟩, ⟨by repeat (first | (with_reducible first | exact HB.out | apply wA | apply wN | apply wD | refine wS ?_ GE235.out) | exact HB.out)⟩⟩
        ·rw [if_neg c15] at H
         have c15b0 : ((bt a0 t236) == 91) = false := beq_eq_false_iff_ne.mpr c15
         have c15b1 : ((bt a0 t236) != 91) = true := bne_iff_ne.mpr c15
         (first | rw [c15b0] | (simp only [i64_w, i32_w]; rw [c15b0]) | skip)
         by_cases c16 : (bt a0 t236) = 93
         ·rw [if_pos c16] at H
          have c16b0 : ((bt a0 t236) == 93) = true := beq_iff_eq.mpr c16
          have c16b1 : ((bt a0 t236) != 93) = false := bne_eq_false_iff_eq.mpr c16
          clear c16
          have H' := Aside0.mk H
          clear H
          go_wp2
          go_meet
          case rel => exact ⟨_, (true), (by first | rfl | (simp; done) | (simp [*]; done)), H', ⟨by have := HJ2.out; first | omega | exact Nat.le_refl _⟩, ⟨by (with_reducible repeat (first | refine bN ?_ _ | refine bD ?_ | refine bA ?_ _)); exact BK235.out⟩, ⟨by repeat (first | (with_reducible first | exact HB.out | apply wA | apply wN | apply wD | refine wS ?_ GE235.out) | exact HB.out)⟩⟩
         ·rw [if_neg c16] at H
          have c16b0 : ((bt a0 t236) == 93) = false := beq_eq_false_iff_ne.mpr c16
          have c16b1 : ((bt a0 t236) != 93) = true := bne_iff_ne.mpr c16
          by_cases c17 : (bt a0 t236) = 123
          ·rw [if_pos c17] at H
           have c17b0 : ((bt a0 t236) == 123) = true := beq_iff_eq.mpr c17
           have c17b1 : ((bt a0 t236) != 123) = false := bne_eq_false_iff_eq.mpr c17
           clear c17
           have H' := Aside0.mk H
           clear H
           go_wp2
           go_meet
           case rel => exact ⟨_, (true), (by first | rfl | (simp; done) | (simp [*]; done)), H', ⟨by have := HJ2.out; first | omega | exact Nat.le_refl _⟩, ⟨by (with_reducible repeat (first | refine bN ?_ _ | refine bD ?_ | refine bA ?_ _)); exact BK235.out⟩, ⟨by repeat (first | (with_reducible first | exact HB.out | apply wA | apply wN | apply wD | refine wS ?_ GE235.out) | exact HB.out)⟩⟩
          ·rw [if_neg c17] at H
           have c17b0 : ((bt a0 t236) == 123) = false := beq_eq_false_iff_ne.mpr c17
           have c17b1 : ((bt a0 t236) != 123) = true := bne_iff_ne.mpr c17
           by_cases c18 : (bt a0 t236) = 125
           ·rw [if_pos c18] at H
            have c18b0 : ((bt a0 t236) == 125) = true := beq_iff_eq.mpr c18
            have c18b1 : ((bt a0 t236) != 125) = false := bne_eq_false_iff_eq.mpr c18
            clear c18
            have H' := Aside0.mk H
            clear H
            go_wp2
            go_meet
            case rel => exact ⟨_, (true), (by first | rfl | (simp; done) | (simp [*]; done)), H', ⟨by have := HJ2.out; first | omega | exact Nat.le_refl _⟩, ⟨by (with_reducible repeat (first | refine bN ?_ _ | refine bD ?_ | refine bA ?_ _)); exact BK235.out⟩, ⟨by repeat (first | (with_reducible first | exact HB.out | apply wA | apply wN | apply wD | refine wS ?_ GE235.out) | exact HB.out)⟩⟩
           ·rw [if_neg c18] at H
            have c18b0 : ((bt a0 t236) == 125) = false := beq_eq_false_iff_ne.mpr c18
            have c18b1 : ((bt a0 t236) != 125) = true := bne_iff_ne.mpr c18
            by_cases c19 : (bt a0 t236) = 44
            ·rw [if_pos c19] at H
             have c19b0 : ((bt a0 t236) == 44) = true := beq_iff_eq.mpr c19
             have c19b1 : ((bt a0 t236) != 44) = false := bne_eq_false_iff_eq.mpr c19
             clear c19
             have H' := Aside0.mk H
             clear H
             go_wp2
             go_meet
             case rel => exact ⟨_, (true), (by first | rfl | (simp; done) | (simp [*]; done)), H', ⟨by have := HJ2.out; first | omega | exact Nat.le_refl _⟩, ⟨by (with_reducible repeat (first | refine bN ?_ _ | refine bD ?_ | refine bA ?_ _)); exact BK235.out⟩, ⟨by repeat (first | (with_reducible first | exact HB.out | apply wA | apply wN | apply wD | refine wS ?_ GE235.out) | exact HB.out)⟩⟩
            ·rw [if_neg c19] at H
             have c19b0 : ((bt a0 t236) == 44) = false := beq_eq_false_iff_ne.mpr c19
             have c19b1 : ((bt a0 t236) != 44) = true := bne_iff_ne.mpr c19
             have H' := Aside0.mk H
             clear H
             go_wp2
             go_meet
             case rel => exact ⟨_, (((bt a0 t236) == 58)), (by first | rfl | (simp; done) | (simp [*]; done)), H', ⟨by have := HJ2.out; first | omega | exact Nat.le_refl _⟩, ⟨by (with_reducible repeat (first | refine bN ?_ _ | refine bD ?_ | refine bA ?_ _)); exact BK235.out⟩, ⟨by repeat (first | (with_reducible first | exact HB.out | apply wA | apply wN | apply wD | refine wS ?_ GE235.out) | exact HB.out)⟩⟩
       case rest =>
        clear HC14
        (try clear p1); (try clear q1); (try clear hx1); (try clear c6); (try clear c9); (try clear c9b0); (try clear c9b1); (try clear c10); (try clear c11); (try clear c11b0); (try clear c12); (try clear c12b0); (try clear p13); (try clear q13); (try clear hx13); (try clear c14); (try clear c15); (try clear c15b0); (try clear c15b1); (try clear c16); (try clear c16b0); (try clear c16b1); (try clear c17); (try clear c17b0); (try clear c17b1); (try clear c18); (try clear c18b0); (try clear c18b1); (try clear c19); (try clear c19b0); (try clear c19b1); (try clear hcz10_0); (try clear hcz10_1); (try clear hcz10_2); (try clear hcz10_3); (try clear hcz10_4); (try clear hcz10_5); (try clear hcz7_0); (try clear hcz7_1); (try clear hcz7_2); (try clear hcz7_3); (try clear hcz7_4); (try clear hcz7_5); (try clear hfz10_0); (try clear hfz10_1); (try clear hfz10_2); (try clear hfz10_3); (try clear hfz10_4); (try clear hfz10_5); (try clear hfz7_0); (try clear hfz7_1); (try clear hfz7_2); (try clear hfz7_3); (try clear hfz7_4); (try clear hfz7_5)
        obtain ⟨kq, x31_13, rfl, HA, HJ13, BK235, HB⟩ := hcut
        cases kq with
        | zero => exact absurd HA.out (by simp [ndjqref03_Next.j1])
        | succ kj13 =>
         have H := HA.out
         clear HA
         simp only [ndjqref03_Next.j1] at H
         by_cases c20 : x31_13 = true
         ·subst c20
          have H1 : (some (1, t236, wrap64 (t236 + 1), (bt a0 t236), 0, (⟨#[]⟩ : ByteArray), wrap64 (t236 + 1), 0)) = some (r1, r2, r3, r4, r5, r6, r7, r8) := by rw [if_pos rfl] at H; exact H
          clear H; have H := H1; clear H1
          simp only [Option.some.injEq, Prod.mk.injEq] at H
          obtain ⟨rfl, rfl, rfl, rfl, rfl, rfl, rfl, rfl⟩ := H
          have hcz21_0 : wc.cell? ⟨gb235, 0, none⟩ = some (.int .i64 0) := (blk_cell BK235.out 0).trans rfl; have hcz21_1 : wc.cell? ⟨gb235, 1, none⟩ = some (.int .i64 0) := (blk_cell BK235.out 1).trans rfl; have hcz21_2 : wc.cell? ⟨gb235, 2, none⟩ = some (.int .i64 0) := (blk_cell BK235.out 2).trans rfl; have hcz21_3 : wc.cell? ⟨gb235, 3, none⟩ = some (.int .u8 0) := (blk_cell BK235.out 3).trans rfl; have hcz21_4 : wc.cell? ⟨gb235, 4, none⟩ = some (.int .i64 0) := (blk_cell BK235.out 4).trans rfl; have hcz21_5 : wc.cell? ⟨gb235, 5, none⟩ = some (.string (⟨#[]⟩ : ByteArray)) := (blk_cell BK235.out 5).trans rfl; have hfz21_0 := blk_frozen BK235.out 0; have hfz21_1 := blk_frozen BK235.out 1; have hfz21_2 := blk_frozen BK235.out 2; have hfz21_3 := blk_frozen BK235.out 3; have hfz21_4 := blk_frozen BK235.out 4; have hfz21_5 := blk_frozen BK235.out 5
          go_wp2
          refine bodyPost_ret (results_ctt rfl _ _ gb235 24 #[.int .i64 1, .int .i64 t236, .int .i64 (wrap64 (t236 + 1)), .int .u8 (bt a0 t236), .int .i64 0, .string (⟨#[]⟩ : ByteArray)] (0, 0) _ rfl (by (with_reducible repeat (first | refine bN ?_ _ | refine bD ?_ | refine bA ?_ _)); refine blk_put (cs := #[.int .i64 1, .int .i64 t236, .int .i64 (wrap64 (t236 + 1)), .int .u8 (bt a0 t236), .int .i64 0, .string (⟨#[]⟩ : ByteArray)]) ?_ 5 _ rfl; (with_reducible repeat (first | refine bN ?_ _ | refine bD ?_ | refine bA ?_ _)); refine blk_put (cs := #[.int .i64 1, .int .i64 t236, .int .i64 (wrap64 (t236 + 1)), .int .u8 (bt a0 t236), .int .i64 0, .string (⟨#[]⟩ : ByteArray)]) ?_ 4 _ rfl; (with_reducible repeat (first | refine bN ?_ _ | refine bD ?_ | refine bA ?_ _)); refine blk_put (cs := #[.int .i64 1, .int .i64 t236, .int .i64 (wrap64 (t236 + 1)), .int .u8 0, .int .i64 0, .string (⟨#[]⟩ : ByteArray)]) ?_ 3 _ rfl; (with_reducible repeat (first | refine bN ?_ _ | refine bD ?_ | refine bA ?_ _)); refine blk_put (cs := #[.int .i64 1, .int .i64 t236, .int .i64 0, .int .u8 0, .int .i64 0, .string (⟨#[]⟩ : ByteArray)]) ?_ 2 _ rfl; (with_reducible repeat (first | refine bN ?_ _ | refine bD ?_ | refine bA ?_ _)); refine blk_put (cs := #[.int .i64 1, .int .i64 0, .int .i64 0, .int .u8 0, .int .i64 0, .string (⟨#[]⟩ : ByteArray)]) ?_ 1 _ rfl; (with_reducible repeat (first | refine bN ?_ _ | refine bD ?_ | refine bA ?_ _)); refine blk_put (cs := #[.int .i64 0, .int .i64 0, .int .i64 0, .int .u8 0, .int .i64 0, .string (⟨#[]⟩ : ByteArray)]) ?_ 0 _ rfl; (with_reducible repeat (first | refine bN ?_ _ | refine bD ?_ | refine bA ?_ _)); exact BK235.out) Try.underlying24 rfl (by kernel_rfl)) rfl ?_
          exact ⟨by first | rfl | (simp [errW_none, errW_some] <;> rfl) | (simp [*, errW_none, errW_some] <;> rfl), by repeat (first | (with_reducible first | exact HB.out | apply wA | apply wN | apply wD | refine wS ?_ GE235.out) | exact HB.out)⟩
         ·replace c20 := Bool.eq_false_iff.mpr c20
          subst c20
          have H1 : ((ndjqref03_letter.f a0 t236).bind fun t237 => (if t237 = true then ((ndjqref03_word.f kj13 a0 t236).bind fun bt238 => (some (bt238.1, bt238.2.1, bt238.2.2.1, bt238.2.2.2.1, bt238.2.2.2.2.1, bt238.2.2.2.2.2.1, bt238.2.2.2.2.2.2.1, bt238.2.2.2.2.2.2.2))) else (if (bt a0 t236) = 45 then (ndjqref03_Next.j2 kj13 a0 t236 (bt a0 t236) true) else ((ndjqref03_digit.f a0 t236).bind fun t246 => (ndjqref03_Next.j2 kj13 a0 t236 (bt a0 t236) t246))))) = some (r1, r2, r3, r4, r5, r6, r7, r8) := by rw [if_neg (show ¬ (false = true) by decide)] at H; exact H
          clear H; have H := H1; clear H1
          replace H := Option.bind_eq_some_iff.mp H
          obtain ⟨t237, A220, H⟩ := H
          replace H : (if t237 = true then ((ndjqref03_word.f kj13 a0 t236).bind fun bt238 => (some (bt238.1, bt238.2.1, bt238.2.2.1, bt238.2.2.2.1, bt238.2.2.2.2.1, bt238.2.2.2.2.2.1, bt238.2.2.2.2.2.2.1, bt238.2.2.2.2.2.2.2))) else (if (bt a0 t236) = 45 then (ndjqref03_Next.j2 kj13 a0 t236 (bt a0 t236) true) else ((ndjqref03_digit.f a0 t236).bind fun t246 => (ndjqref03_Next.j2 kj13 a0 t236 (bt a0 t236) t246)))) = some (r1, r2, r3, r4, r5, r6, r7, r8) := H
          have A22 := Aside0.mk A220
          clear A220
          by_cases c23 : t237 = true
          ·subst c23
           have H1 : ((ndjqref03_word.f kj13 a0 t236).bind fun bt238 => (some (bt238.1, bt238.2.1, bt238.2.2.1, bt238.2.2.2.1, bt238.2.2.2.2.1, bt238.2.2.2.2.2.1, bt238.2.2.2.2.2.2.1, bt238.2.2.2.2.2.2.2))) = some (r1, r2, r3, r4, r5, r6, r7, r8) := by rw [if_pos rfl] at H; exact H
           clear H; have H := H1; clear H1
           replace H := Option.bind_eq_some_iff.mp H
           obtain ⟨⟨t238, t239, t240, t241, t242, t243, t244, t245⟩, A240, H⟩ := H
           replace H : (some (t238, t239, t240, t241, t242, t243, t244, t245)) = some (r1, r2, r3, r4, r5, r6, r7, r8) := H
           have A24 := Aside0.mk A240
           clear A240
           simp only [Option.some.injEq, Prod.mk.injEq] at H
           obtain ⟨rfl, rfl, rfl, rfl, rfl, rfl, rfl, rfl⟩ := H
           go_wp2_with (first | ((with_reducible refine gate_callee (f := 22) rfl ?_); refine goesL_ (some 64) rfl rfl Try.func22 (by kernel_rfl) rfl #[.string a0, .int .i64 t236] rfl (by (try simp only [List.map_toArray, List.map_cons, List.map_nil]); first | done | rfl | (simp only [List.length_drop, List.length_take]; rfl)) ?_; (with_reducible refine (ndjqref03_letter.calls a0 t236 true _ A22.out).mono ?_); rintro e w' ⟨rfl, ⟨nd, rfl⟩⟩; refine ⟨_, rfl, ?_⟩; (try (rw [drewN_self wc]; generalize hq_ : World.drewN wc _ = wc; have n0_ : Aside0 (wc.heap[gb235]? = some (.cells #[.int .i64 0, .int .i64 0, .int .i64 0, .int .u8 0, .int .i64 0, .string (⟨#[]⟩ : ByteArray)] 24 (0, 0))) := ⟨by rw [← hq_]; exact (by (with_reducible repeat (first | refine bN ?_ _ | refine bD ?_ | refine bA ?_ _)); exact BK235.out)⟩; have n1_ : Aside0 (Below w.heap.size w wc) := ⟨by rw [← hq_]; exact (by repeat (first | (with_reducible first | exact HB.out | apply wA | apply wN | apply wD | refine wS ?_ GE235.out) | exact HB.out))⟩; clear BK235 HB hq_; have BK235 := n0_; have HB := n1_; clear n0_ n1_))) | ((with_reducible refine gate_callee (f := 23) rfl ?_); refine goesL_ (some 67) rfl rfl Try.func23 (by kernel_rfl) rfl #[.string a0, .int .i64 t236] rfl (by (try simp only [List.map_toArray, List.map_cons, List.map_nil]); first | done | rfl | (simp only [List.length_drop, List.length_take]; rfl)) ?_; (with_reducible refine (ndjqref03_word.calls kj13 a0 t236 t238 t239 t240 t241 t242 t243 t244 t245 _ A24.out).mono ?_); rintro e w25 ⟨rfl, hb⟩; refine ⟨_, rfl, ?_⟩; have n0_ := Aside0.mk (blk_below (g := gb235) (o := .cells #[.int .i64 0, .int .i64 0, .int .i64 0, .int .u8 0, .int .i64 0, .string (⟨#[]⟩ : ByteArray)] 24 (0, 0)) (by (with_reducible repeat (first | refine bN ?_ _ | refine bD ?_ | refine bA ?_ _)); exact BK235.out) hb); have n1_ := Aside0.mk (below_step (by repeat (first | (with_reducible first | exact HB.out | apply wA | apply wN | apply wD | refine wS ?_ GE235.out) | exact HB.out)) hb); clear BK235; clear HB; have BK235 := n0_; have HB := n1_; clear n0_ n1_; (try clear hb); (try clear hb2); (try clear hk); (try clear hi); have hcz26_0 : w25.cell? ⟨gb235, 0, none⟩ = some (.int .i64 0) := (blk_cell BK235.out 0).trans rfl; have hcz26_1 : w25.cell? ⟨gb235, 1, none⟩ = some (.int .i64 0) := (blk_cell BK235.out 1).trans rfl; have hcz26_2 : w25.cell? ⟨gb235, 2, none⟩ = some (.int .i64 0) := (blk_cell BK235.out 2).trans rfl; have hcz26_3 : w25.cell? ⟨gb235, 3, none⟩ = some (.int .u8 0) := (blk_cell BK235.out 3).trans rfl; have hcz26_4 : w25.cell? ⟨gb235, 4, none⟩ = some (.int .i64 0) := (blk_cell BK235.out 4).trans rfl; have hcz26_5 : w25.cell? ⟨gb235, 5, none⟩ = some (.string (⟨#[]⟩ : ByteArray)) := (blk_cell BK235.out 5).trans rfl; have hfz26_0 := blk_frozen BK235.out 0; have hfz26_1 := blk_frozen BK235.out 1; have hfz26_2 := blk_frozen BK235.out 2; have hfz26_3 := blk_frozen BK235.out 3; have hfz26_4 := blk_frozen BK235.out 4; have hfz26_5 := blk_frozen BK235.out 5))
           refine bodyPost_ret (results_ctt rfl _ _ gb235 24 #[.int .i64 t238, .int .i64 t239, .int .i64 t240, .int .u8 t241, .int .i64 t242, .string t243] (0, 0) _ rfl (by (with_reducible repeat (first | refine bN ?_ _ | refine bD ?_ | refine bA ?_ _)); refine blk_put (cs := #[.int .i64 t238, .int .i64 t239, .int .i64 t240, .int .u8 t241, .int .i64 t242, .string (⟨#[]⟩ : ByteArray)]) ?_ 5 _ rfl; (with_reducible repeat (first | refine bN ?_ _ | refine bD ?_ | refine bA ?_ _)); refine blk_put (cs := #[.int .i64 t238, .int .i64 t239, .int .i64 t240, .int .u8 t241, .int .i64 0, .string (⟨#[]⟩ : ByteArray)]) ?_ 4 _ rfl; (with_reducible repeat (first | refine bN ?_ _ | refine bD ?_ | refine bA ?_ _)); refine blk_put (cs := #[.int .i64 t238, .int .i64 t239, .int .i64 t240, .int .u8 0, .int .i64 0, .string (⟨#[]⟩ : ByteArray)]) ?_ 3 _ rfl; (with_reducible repeat (first | refine bN ?_ _ | refine bD ?_ | refine bA ?_ _)); refine blk_put (cs := #[.int .i64 t238, .int .i64 t239, .int .i64 0, .int .u8 0, .int .i64 0, .string (⟨#[]⟩ : ByteArray)]) ?_ 2 _ rfl; (with_reducible repeat (first | refine bN ?_ _ | refine bD ?_ | refine bA ?_ _)); refine blk_put (cs := #[.int .i64 t238, .int .i64 0, .int .i64 0, .int .u8 0, .int .i64 0, .string (⟨#[]⟩ : ByteArray)]) ?_ 1 _ rfl; (with_reducible repeat (first | refine bN ?_ _ | refine bD ?_ | refine bA ?_ _)); refine blk_put (cs := #[.int .i64 0, .int .i64 0, .int .i64 0, .int .u8 0, .int .i64 0, .string (⟨#[]⟩ : ByteArray)]) ?_ 0 _ rfl; (with_reducible repeat (first | refine bN ?_ _ | refine bD ?_ | refine bA ?_ _)); exact BK235.out) Try.underlying24 rfl (by kernel_rfl)) rfl ?_
           exact ⟨by first | rfl | (simp [errW_none, errW_some] <;> rfl) | (simp [*, errW_none, errW_some] <;> rfl), by repeat (first | (with_reducible first | exact HB.out | apply wA | apply wN | apply wD | refine wS ?_ GE235.out) | exact HB.out)⟩
          ·replace c23 := Bool.eq_false_iff.mpr c23
           subst c23
           have H1 : (if (bt a0 t236) = 45 then (ndjqref03_Next.j2 kj13 a0 t236 (bt a0 t236) true) else ((ndjqref03_digit.f a0 t236).bind fun t246 => (ndjqref03_Next.j2 kj13 a0 t236 (bt a0 t236) t246))) = some (r1, r2, r3, r4, r5, r6, r7, r8) := by rw [if_neg (show ¬ (false = true) by decide)] at H; exact H
           clear H; have H := H1; clear H1
           have HC27 := Aside0.mk H
           clear H
           go_upto_region 11 with (first | ((with_reducible refine gate_callee (f := 22) rfl ?_); refine goesL_ (some 64) rfl rfl Try.func22 (by kernel_rfl) rfl #[.string a0, .int .i64 t236] rfl (by (try simp only [List.map_toArray, List.map_cons, List.map_nil]); first | done | rfl | (simp only [List.length_drop, List.length_take]; rfl)) ?_; (with_reducible refine (ndjqref03_letter.calls a0 t236 false _ A22.out).mono ?_); rintro e w' ⟨rfl, ⟨nd, rfl⟩⟩; refine ⟨_, rfl, ?_⟩))
           (try simp only [Act.put, List.setIfInBounds_toArray, List.set_cons_zero, List.set_cons_succ])
           go_cut [71] (fun v71 wc => ∃ (kq : Nat) (x71_26 : Bool), v71 = .bool x71_26 ∧ Aside0 (ndjqref03_Next.j2 kq a0 t236 (bt a0 t236) x71_26 = some (r1, r2, r3, r4, r5, r6, r7, r8)) ∧ Aside0 (kq ≤ kj13) ∧ Aside0 (wc.heap[gb235]? = some (.cells #[.int .i64 0, .int .i64 0, .int .i64 0, .int .u8 0, .int .i64 0, .string (⟨#[]⟩ : ByteArray)] 24 (0, 0))) ∧ Aside0 (Below w.heap.size w wc))
           case first =>
            have H := HC27.out
            clear HC27
            by_cases c28 : (bt a0 t236) = 45
            ·rw [if_pos c28] at H
             have c28b0 : ((bt a0 t236) == 45) = true := beq_iff_eq.mpr c28
             have c28b1 : ((bt a0 t236) != 45) = false := bne_eq_false_iff_eq.mpr c28
             clear c28
             (first | rw [c28b0] | (simp only [i64_w, i32_w]; rw [c28b0]) | skip)
             have H' := Aside0.mk H
             clear H
             go_wp2
             go_meet
             case rel => exact ⟨_, (true), (by first | rfl | (simp; done) | (simp [*]; done)), H', ⟨by have := HJ2.out; have := HJ13.out; first | omega | exact Nat.le_refl _⟩, ⟨by (with_reducible repeat (first | refine bN ?_ _ | refine bD ?_ | refine bA ?_ _)); exact BK235.out⟩, ⟨by repeat (first | (with_reducible first | exact HB.out | apply wA | apply wN | apply wD | refine wS ?_ GE235.out) | exact HB.out)⟩⟩
            ·rw [if_neg c28] at H
             have c28b0 : ((bt a0 t236) == 45) = false := beq_eq_false_iff_ne.mpr c28
             have c28b1 : ((bt a0 t236) != 45) = true := bne_iff_ne.mpr c28
             (first | rw [c28b0] | (simp only [i64_w, i32_w]; rw [c28b0]) | skip)
             replace H := Option.bind_eq_some_iff.mp H
             obtain ⟨t246, A290, H⟩ := H
             replace H : (ndjqref03_Next.j2 kj13 a0 t236 (bt a0 t236) t246) = some (r1, r2, r3, r4, r5, r6, r7, r8) := H
             have A29 := Aside0.mk A290
             clear A290
             have H' := Aside0.mk H
             clear H
             go_wp2_with (first | (go_at_call 24; (with_reducible refine (ndjqref03_digit.calls a0 t236 t246 _ A29.out).mono ?_); rintro e w' ⟨rfl, ⟨nd, rfl⟩⟩))
             go_meet
             case rel => exact ⟨_, (t246), (by first | rfl | (simp; done) | (simp [*]; done)), H', ⟨by have := HJ2.out; have := HJ13.out; first | omega | exact Nat.le_refl _⟩, ⟨by (with_reducible repeat (first | refine bN ?_ _ | refine bD ?_ | refine bA ?_ _)); exact BK235.out⟩, ⟨by repeat (first | (with_reducible first | exact HB.out | apply wA | apply wN | apply wD | refine wS ?_ GE235.out) | exact HB.out)⟩⟩
           case rest =>
            clear HC27
            (try clear c2); (try clear p6); (try clear c20); (try clear c22); (try clear c23); (try clear c28); (try clear c28b0); (try clear c28b1); (try clear hcz21_0); (try clear hcz21_1); (try clear hcz21_2); (try clear hcz21_3); (try clear hcz21_4); (try clear hcz21_5); (try clear hcz26_0); (try clear hcz26_1); (try clear hcz26_2); (try clear hcz26_3); (try clear hcz26_4); (try clear hcz26_5); (try clear hfz21_0); (try clear hfz21_1); (try clear hfz21_2); (try clear hfz21_3); (try clear hfz21_4); (try clear hfz21_5); (try clear hfz26_0); (try clear hfz26_1); (try clear hfz26_2); (try clear hfz26_3); (try clear hfz26_4); (try clear hfz26_5)
            obtain ⟨kq, x71_26, rfl, HA, HJ26, BK235, HB⟩ := hcut
            cases kq with
            | zero => exact absurd HA.out (by simp [ndjqref03_Next.j2])
            | succ kj26 =>
             have H := HA.out
             clear HA
             simp only [ndjqref03_Next.j2] at H
             by_cases c30 : x71_26 = true
             ·subst c30
              have H1 : ((ndjqref03_number.f kj26 a0 t236).bind fun bt247 => (some (bt247.1, bt247.2.1, bt247.2.2.1, bt247.2.2.2.1, bt247.2.2.2.2.1, bt247.2.2.2.2.2.1, bt247.2.2.2.2.2.2.1, bt247.2.2.2.2.2.2.2))) = some (r1, r2, r3, r4, r5, r6, r7, r8) := by rw [if_pos rfl] at H; exact H
              clear H; have H := H1; clear H1
              replace H := Option.bind_eq_some_iff.mp H
              obtain ⟨⟨t247, t248, t249, t250, t251, t252, t253, t254⟩, A310, H⟩ := H
              replace H : (some (t247, t248, t249, t250, t251, t252, t253, t254)) = some (r1, r2, r3, r4, r5, r6, r7, r8) := H
              have A31 := Aside0.mk A310
              clear A310
              simp only [Option.some.injEq, Prod.mk.injEq] at H
              obtain ⟨rfl, rfl, rfl, rfl, rfl, rfl, rfl, rfl⟩ := H
              go_wp2_with (first | ((with_reducible refine gate_callee (f := 25) rfl ?_); refine goesL_ (some 81) rfl rfl Try.func25 (by kernel_rfl) rfl #[.string a0, .int .i64 t236] rfl (by (try simp only [List.map_toArray, List.map_cons, List.map_nil]); first | done | rfl | (simp only [List.length_drop, List.length_take]; rfl)) ?_; (with_reducible refine (ndjqref03_number.calls kj26 a0 t236 t247 t248 t249 t250 t251 t252 t253 t254 _ A31.out).mono ?_); rintro e w32 ⟨rfl, hb⟩; refine ⟨_, rfl, ?_⟩; have n0_ := Aside0.mk (blk_below (g := gb235) (o := .cells #[.int .i64 0, .int .i64 0, .int .i64 0, .int .u8 0, .int .i64 0, .string (⟨#[]⟩ : ByteArray)] 24 (0, 0)) (by (with_reducible repeat (first | refine bN ?_ _ | refine bD ?_ | refine bA ?_ _)); exact BK235.out) hb); have n1_ := Aside0.mk (below_step (by repeat (first | (with_reducible first | exact HB.out | apply wA | apply wN | apply wD | refine wS ?_ GE235.out) | exact HB.out)) hb); clear BK235; clear HB; have BK235 := n0_; have HB := n1_; clear n0_ n1_; (try clear hb); (try clear hb2); (try clear hk); (try clear hi); have hcz33_0 : w32.cell? ⟨gb235, 0, none⟩ = some (.int .i64 0) := (blk_cell BK235.out 0).trans rfl; have hcz33_1 : w32.cell? ⟨gb235, 1, none⟩ = some (.int .i64 0) := (blk_cell BK235.out 1).trans rfl; have hcz33_2 : w32.cell? ⟨gb235, 2, none⟩ = some (.int .i64 0) := (blk_cell BK235.out 2).trans rfl; have hcz33_3 : w32.cell? ⟨gb235, 3, none⟩ = some (.int .u8 0) := (blk_cell BK235.out 3).trans rfl; have hcz33_4 : w32.cell? ⟨gb235, 4, none⟩ = some (.int .i64 0) := (blk_cell BK235.out 4).trans rfl; have hcz33_5 : w32.cell? ⟨gb235, 5, none⟩ = some (.string (⟨#[]⟩ : ByteArray)) := (blk_cell BK235.out 5).trans rfl; have hfz33_0 := blk_frozen BK235.out 0; have hfz33_1 := blk_frozen BK235.out 1; have hfz33_2 := blk_frozen BK235.out 2; have hfz33_3 := blk_frozen BK235.out 3; have hfz33_4 := blk_frozen BK235.out 4; have hfz33_5 := blk_frozen BK235.out 5))
              refine bodyPost_ret (results_ctt rfl _ _ gb235 24 #[.int .i64 t247, .int .i64 t248, .int .i64 t249, .int .u8 t250, .int .i64 t251, .string t252] (0, 0) _ rfl (by (with_reducible repeat (first | refine bN ?_ _ | refine bD ?_ | refine bA ?_ _)); refine blk_put (cs := #[.int .i64 t247, .int .i64 t248, .int .i64 t249, .int .u8 t250, .int .i64 t251, .string (⟨#[]⟩ : ByteArray)]) ?_ 5 _ rfl; (with_reducible repeat (first | refine bN ?_ _ | refine bD ?_ | refine bA ?_ _)); refine blk_put (cs := #[.int .i64 t247, .int .i64 t248, .int .i64 t249, .int .u8 t250, .int .i64 0, .string (⟨#[]⟩ : ByteArray)]) ?_ 4 _ rfl; (with_reducible repeat (first | refine bN ?_ _ | refine bD ?_ | refine bA ?_ _)); refine blk_put (cs := #[.int .i64 t247, .int .i64 t248, .int .i64 t249, .int .u8 0, .int .i64 0, .string (⟨#[]⟩ : ByteArray)]) ?_ 3 _ rfl; (with_reducible repeat (first | refine bN ?_ _ | refine bD ?_ | refine bA ?_ _)); refine blk_put (cs := #[.int .i64 t247, .int .i64 t248, .int .i64 0, .int .u8 0, .int .i64 0, .string (⟨#[]⟩ : ByteArray)]) ?_ 2 _ rfl; (with_reducible repeat (first | refine bN ?_ _ | refine bD ?_ | refine bA ?_ _)); refine blk_put (cs := #[.int .i64 t247, .int .i64 0, .int .i64 0, .int .u8 0, .int .i64 0, .string (⟨#[]⟩ : ByteArray)]) ?_ 1 _ rfl; (with_reducible repeat (first | refine bN ?_ _ | refine bD ?_ | refine bA ?_ _)); refine blk_put (cs := #[.int .i64 0, .int .i64 0, .int .i64 0, .int .u8 0, .int .i64 0, .string (⟨#[]⟩ : ByteArray)]) ?_ 0 _ rfl; (with_reducible repeat (first | refine bN ?_ _ | refine bD ?_ | refine bA ?_ _)); exact BK235.out) Try.underlying24 rfl (by kernel_rfl)) rfl ?_
              exact ⟨by first | rfl | (simp [errW_none, errW_some] <;> rfl) | (simp [*, errW_none, errW_some] <;> rfl), by repeat (first | (with_reducible first | exact HB.out | apply wA | apply wN | apply wD | refine wS ?_ GE235.out) | exact HB.out)⟩
             ·replace c30 := Bool.eq_false_iff.mpr c30
              subst c30
              have H1 : (if (bt a0 t236) = 34 then ((ndjqref03_text.f kj26 a0 t236).bind fun bt255 => (some (bt255.1, bt255.2.1, bt255.2.2.1, bt255.2.2.2.1, bt255.2.2.2.2.1, bt255.2.2.2.2.2.1, bt255.2.2.2.2.2.2.1, bt255.2.2.2.2.2.2.2))) else (some (0, 0, 0, 0, 0, (⟨#[]⟩ : ByteArray), t236, 4))) = some (r1, r2, r3, r4, r5, r6, r7, r8) := by rw [if_neg (show ¬ (false = true) by decide)] at H; exact H
              clear H; have H := H1; clear H1
              by_cases c34 : (bt a0 t236) = 34
              ·rw [if_pos c34] at H
               have c34b0 : ((bt a0 t236) == 34) = true := beq_iff_eq.mpr c34
               have c34b1 : ((bt a0 t236) != 34) = false := bne_eq_false_iff_eq.mpr c34
               clear c34
               replace H := Option.bind_eq_some_iff.mp H
               obtain ⟨⟨t255, t256, t257, t258, t259, t260, t261, t262⟩, A350, H⟩ := H
               replace H : (some (t255, t256, t257, t258, t259, t260, t261, t262)) = some (r1, r2, r3, r4, r5, r6, r7, r8) := H
               have A35 := Aside0.mk A350
               clear A350
               simp only [Option.some.injEq, Prod.mk.injEq] at H
               obtain ⟨rfl, rfl, rfl, rfl, rfl, rfl, rfl, rfl⟩ := H
               go_wp2_with (first | ((with_reducible refine gate_callee (f := 26) rfl ?_); refine goesL_ (some 90) rfl rfl Try.func26 (by kernel_rfl) rfl #[.string a0, .int .i64 t236] rfl (by (try simp only [List.map_toArray, List.map_cons, List.map_nil]); first | done | rfl | (simp only [List.length_drop, List.length_take]; rfl)) ?_; (with_reducible refine (ndjqref03_text.calls kj26 a0 t236 t255 t256 t257 t258 t259 t260 t261 t262 _ A35.out).mono ?_); rintro e w36 ⟨rfl, hb⟩; refine ⟨_, rfl, ?_⟩; have n0_ := Aside0.mk (blk_below (g := gb235) (o := .cells #[.int .i64 0, .int .i64 0, .int .i64 0, .int .u8 0, .int .i64 0, .string (⟨#[]⟩ : ByteArray)] 24 (0, 0)) (by (with_reducible repeat (first | refine bN ?_ _ | refine bD ?_ | refine bA ?_ _)); exact BK235.out) hb); have n1_ := Aside0.mk (below_step (by repeat (first | (with_reducible first | exact HB.out | apply wA | apply wN | apply wD | refine wS ?_ GE235.out) | exact HB.out)) hb); clear BK235; clear HB; have BK235 := n0_; have HB := n1_; clear n0_ n1_; (try clear hb); (try clear hb2); (try clear hk); (try clear hi); have hcz37_0 : w36.cell? ⟨gb235, 0, none⟩ = some (.int .i64 0) := (blk_cell BK235.out 0).trans rfl; have hcz37_1 : w36.cell? ⟨gb235, 1, none⟩ = some (.int .i64 0) := (blk_cell BK235.out 1).trans rfl; have hcz37_2 : w36.cell? ⟨gb235, 2, none⟩ = some (.int .i64 0) := (blk_cell BK235.out 2).trans rfl; have hcz37_3 : w36.cell? ⟨gb235, 3, none⟩ = some (.int .u8 0) := (blk_cell BK235.out 3).trans rfl; have hcz37_4 : w36.cell? ⟨gb235, 4, none⟩ = some (.int .i64 0) := (blk_cell BK235.out 4).trans rfl; have hcz37_5 : w36.cell? ⟨gb235, 5, none⟩ = some (.string (⟨#[]⟩ : ByteArray)) := (blk_cell BK235.out 5).trans rfl; have hfz37_0 := blk_frozen BK235.out 0; have hfz37_1 := blk_frozen BK235.out 1; have hfz37_2 := blk_frozen BK235.out 2; have hfz37_3 := blk_frozen BK235.out 3; have hfz37_4 := blk_frozen BK235.out 4; have hfz37_5 := blk_frozen BK235.out 5))
               refine bodyPost_ret (results_ctt rfl _ _ gb235 24 #[.int .i64 t255, .int .i64 t256, .int .i64 t257, .int .u8 t258, .int .i64 t259, .string t260] (0, 0) _ rfl (by (with_reducible repeat (first | refine bN ?_ _ | refine bD ?_ | refine bA ?_ _)); refine blk_put (cs := #[.int .i64 t255, .int .i64 t256, .int .i64 t257, .int .u8 t258, .int .i64 t259, .string (⟨#[]⟩ : ByteArray)]) ?_ 5 _ rfl; (with_reducible repeat (first | refine bN ?_ _ | refine bD ?_ | refine bA ?_ _)); refine blk_put (cs := #[.int .i64 t255, .int .i64 t256, .int .i64 t257, .int .u8 t258, .int .i64 0, .string (⟨#[]⟩ : ByteArray)]) ?_ 4 _ rfl; (with_reducible repeat (first | refine bN ?_ _ | refine bD ?_ | refine bA ?_ _)); refine blk_put (cs := #[.int .i64 t255, .int .i64 t256, .int .i64 t257, .int .u8 0, .int .i64 0, .string (⟨#[]⟩ : ByteArray)]) ?_ 3 _ rfl; (with_reducible repeat (first | refine bN ?_ _ | refine bD ?_ | refine bA ?_ _)); refine blk_put (cs := #[.int .i64 t255, .int .i64 t256, .int .i64 0, .int .u8 0, .int .i64 0, .string (⟨#[]⟩ : ByteArray)]) ?_ 2 _ rfl; (with_reducible repeat (first | refine bN ?_ _ | refine bD ?_ | refine bA ?_ _)); refine blk_put (cs := #[.int .i64 t255, .int .i64 0, .int .i64 0, .int .u8 0, .int .i64 0, .string (⟨#[]⟩ : ByteArray)]) ?_ 1 _ rfl; (with_reducible repeat (first | refine bN ?_ _ | refine bD ?_ | refine bA ?_ _)); refine blk_put (cs := #[.int .i64 0, .int .i64 0, .int .i64 0, .int .u8 0, .int .i64 0, .string (⟨#[]⟩ : ByteArray)]) ?_ 0 _ rfl; (with_reducible repeat (first | refine bN ?_ _ | refine bD ?_ | refine bA ?_ _)); exact BK235.out) Try.underlying24 rfl (by kernel_rfl)) rfl ?_
               exact ⟨by first | rfl | (simp [errW_none, errW_some] <;> rfl) | (simp [*, errW_none, errW_some] <;> rfl), by repeat (first | (with_reducible first | exact HB.out | apply wA | apply wN | apply wD | refine wS ?_ GE235.out) | exact HB.out)⟩
              ·rw [if_neg c34] at H
               have c34b0 : ((bt a0 t236) == 34) = false := beq_eq_false_iff_ne.mpr c34
               have c34b1 : ((bt a0 t236) != 34) = true := bne_iff_ne.mpr c34
               simp only [Option.some.injEq, Prod.mk.injEq] at H
               obtain ⟨rfl, rfl, rfl, rfl, rfl, rfl, rfl, rfl⟩ := H
               have hcz38_0 : wc.cell? ⟨gb235, 0, none⟩ = some (.int .i64 0) := (blk_cell BK235.out 0).trans rfl; have hcz38_1 : wc.cell? ⟨gb235, 1, none⟩ = some (.int .i64 0) := (blk_cell BK235.out 1).trans rfl; have hcz38_2 : wc.cell? ⟨gb235, 2, none⟩ = some (.int .i64 0) := (blk_cell BK235.out 2).trans rfl; have hcz38_3 : wc.cell? ⟨gb235, 3, none⟩ = some (.int .u8 0) := (blk_cell BK235.out 3).trans rfl; have hcz38_4 : wc.cell? ⟨gb235, 4, none⟩ = some (.int .i64 0) := (blk_cell BK235.out 4).trans rfl; have hcz38_5 : wc.cell? ⟨gb235, 5, none⟩ = some (.string (⟨#[]⟩ : ByteArray)) := (blk_cell BK235.out 5).trans rfl; have hfz38_0 := blk_frozen BK235.out 0; have hfz38_1 := blk_frozen BK235.out 1; have hfz38_2 := blk_frozen BK235.out 2; have hfz38_3 := blk_frozen BK235.out 3; have hfz38_4 := blk_frozen BK235.out 4; have hfz38_5 := blk_frozen BK235.out 5
               go_wp2
               refine bodyPost_ret (results_ctt rfl _ _ gb235 24 #[.int .i64 0, .int .i64 0, .int .i64 0, .int .u8 0, .int .i64 0, .string (⟨#[]⟩ : ByteArray)] (0, 0) _ rfl (by (with_reducible repeat (first | refine bN ?_ _ | refine bD ?_ | refine bA ?_ _)); refine blk_put (cs := #[.int .i64 0, .int .i64 0, .int .i64 0, .int .u8 0, .int .i64 0, .string (⟨#[]⟩ : ByteArray)]) ?_ 5 _ rfl; (with_reducible repeat (first | refine bN ?_ _ | refine bD ?_ | refine bA ?_ _)); refine blk_put (cs := #[.int .i64 0, .int .i64 0, .int .i64 0, .int .u8 0, .int .i64 0, .string (⟨#[]⟩ : ByteArray)]) ?_ 4 _ rfl; (with_reducible repeat (first | refine bN ?_ _ | refine bD ?_ | refine bA ?_ _)); refine blk_put (cs := #[.int .i64 0, .int .i64 0, .int .i64 0, .int .u8 0, .int .i64 0, .string (⟨#[]⟩ : ByteArray)]) ?_ 3 _ rfl; (with_reducible repeat (first | refine bN ?_ _ | refine bD ?_ | refine bA ?_ _)); refine blk_put (cs := #[.int .i64 0, .int .i64 0, .int .i64 0, .int .u8 0, .int .i64 0, .string (⟨#[]⟩ : ByteArray)]) ?_ 2 _ rfl; (with_reducible repeat (first | refine bN ?_ _ | refine bD ?_ | refine bA ?_ _)); refine blk_put (cs := #[.int .i64 0, .int .i64 0, .int .i64 0, .int .u8 0, .int .i64 0, .string (⟨#[]⟩ : ByteArray)]) ?_ 1 _ rfl; (with_reducible repeat (first | refine bN ?_ _ | refine bD ?_ | refine bA ?_ _)); refine blk_put (cs := #[.int .i64 0, .int .i64 0, .int .i64 0, .int .u8 0, .int .i64 0, .string (⟨#[]⟩ : ByteArray)]) ?_ 0 _ rfl; (with_reducible repeat (first | refine bN ?_ _ | refine bD ?_ | refine bA ?_ _)); exact BK235.out) Try.underlying24 rfl (by kernel_rfl)) rfl ?_
               exact ⟨by first | rfl | (simp [errW_none, errW_some] <;> rfl) | (simp [*, errW_none, errW_some] <;> rfl), by repeat (first | (with_reducible first | exact HB.out | apply wA | apply wN | apply wD | refine wS ?_ GE235.out) | exact HB.out)⟩
      ·rw [if_neg c12] at H
       exact absurd H (by simp)
     ·rw [if_neg c11] at H
      exact absurd H (by simp)

/-! ### ndjqkeep_Mod: function 15 -/
def ndjqkeep_Mod.f (a0 : Int) (a1 : Int) : Option (Int) := if a1 = 0 then (none) else (if (Int.tmod a0 a1) < 0 then (some (wrap64 ((Int.tmod a0 a1) + a1))) else (some (Int.tmod a0 a1)))
set_option maxHeartbeats 8000000 in
set_option maxRecDepth 100000 in
theorem ndjqkeep_Mod.calls (a0 : Int) (a1 : Int) (r : Int) (w : World) (h : ndjqkeep_Mod.f a0 a1 = some r) :
    Calls Try.prog 15 #[.int .i64 a0, .int .i64 a1] w fun e w' => e = .returned (.int .i64 r) ∧ Drawn0 w w' := by
  have H : (if a1 = 0 then (none) else (if (Int.tmod a0 a1) < 0 then (some (wrap64 ((Int.tmod a0 a1) + a1))) else (some (Int.tmod a0 a1)))) = some r := h
  clear h
  by_cases c3 : a1 = 0
  · rw [if_pos c3] at H
    exact absurd H (by simp)
  · rw [if_neg c3] at H
    have c3b0 : (a1 == 0) = false := beq_eq_false_iff_ne.mpr c3
    have c3b1 : (a1 != 0) = true := bne_iff_ne.mpr c3
    by_cases c4 : (Int.tmod a0 a1) < 0
    · rw [if_pos c4] at H
      have c4b0 : decide ((Int.tmod a0 a1) < 0) = true := decide_eq_true c4
      clear c4
      obtain rfl := Option.some.inj H
      go_enter Try.func15, Try.ntmps15
      go_wp2
      go_ret
      exact ⟨by first | rfl | (simp; done) | (simp [*]; done), by repeat (first | exact Drawn0.refl _ | apply Drawn0.step)⟩
    · rw [if_neg c4] at H
      have c4b0 : decide ((Int.tmod a0 a1) < 0) = false := decide_eq_false c4
      clear c4
      obtain rfl := Option.some.inj H
      go_enter Try.func15, Try.ntmps15
      go_wp2
      go_ret
      exact ⟨by first | rfl | (simp; done) | (simp [*]; done), by repeat (first | exact Drawn0.refl _ | apply Drawn0.step)⟩

end Go.Proofs.Ytcnojfoiolbnaaa.QJsonlexStrings
