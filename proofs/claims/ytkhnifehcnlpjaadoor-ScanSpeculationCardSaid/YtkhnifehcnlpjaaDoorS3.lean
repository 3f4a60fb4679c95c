/- automaton.Compose, by hand: summaries that are valid. -/
import Derived.Test.YtkhnifehcnlpjaaDoorS1
namespace Go.Proofs.YtkhnifehcnlpjaaDoor.QC
open Go Go.RowKit Go.Proofs.YtkhnifehcnlpjaaDoorW.PrintWords Go.Proofs.YtkhnifehcnlpjaaDoorW.PrintLast Go.Proofs.YtkhnifehcnlpjaaDoorW.PrintMore
set_option linter.unusedVariables false
set_option linter.unusedSimpArgs false
set_option maxRecDepth 100000
set_option maxHeartbeats 4000000
def vldM (k : Nat) (x : Smm) : Option Bool := automaton_Valid.f k x.n x.e0 x.e1 x.e2 x.l0 x.l1 x.l2
theorem Sd.kle {w w' w2 : World} {o : Nat} {X Y : Array Value} (h : Sd w w' o X Y) (ho : w.heap.size + 1 + 1 + 1 ≤ o) (hk : Ke w' w2 o) (hb : Below w.heap.size w w2) : Sd w w2 o X Y :=
  ⟨hk _ _ (by omega) h.a, hk _ _ (by omega) h.b, hk _ _ (by omega) h.z, hb⟩
theorem idx3 (a b c v : Int) (k : Nat) (hk : k < 3) (hv : (if k = 0 then a else if k = 1 then b else c) = v) (W : World) : (Instr.index 22 (.agg #[.int .i64 a, .int .i64 b, .int .i64 c]) (.int .i64 (k : Int))).run Tryd.prog W = .ok (.int .i64 v) W := by
  subst hv
  rcases (show k = 0 ∨ k = 1 ∨ k = 2 by omega) with rfl | rfl | rfl <;> kernel_rfl
theorem vldC (k : Nat) (x : Smm) (r : Bool) (w : World) {A0 c0 A1 c1 A2 c2} (hx : RdS w A0 c0 A1 c1 A2 c2 x) (h : vldM k x = some r) : Calls Tryd.prog 28 #[.agg #[.int .i64 x.n, .int .i64 x.e0, .int .i64 x.e1, .int .i64 x.e2, .slice A0 x.l0.length c0, .slice A1 x.l1.length c1, .slice A2 x.l2.length c2]] w fun e w' => e = .returned (.bool r) ∧ Below w.heap.size w w' :=
  automaton_Valid.calls k _ _ _ _ A0 c0 _ A1 c1 _ A2 c2 _ r w hx.r0 hx.k0 hx.r1 hx.k1 hx.r2 hx.k2 h
theorem cmpOk (kv : Nat) (x y : Smm) (w : World) {A0 c0 A1 c1 A2 c2 B0 d0 B1 d1 B2 d2} (hx : RdS w A0 c0 A1 c1 A2 c2 x) (hy : RdS w B0 d0 B1 d1 B2 d2 y) (bn : 0 ≤ x.n ∧ x.n ≤ 1048576 ∧ 0 ≤ y.n ∧ x.n + y.n ≤ 1048576)
    (be : ∀ k, k < 3 → 0 ≤ ex x k ∧ ex x k ≤ 2) (bl : ∀ k, k < 3 → (ln x k).length ≤ 1048576 ∧ (ln y k).length ≤ 1048576) (bz : ∀ k, k < 3 → ∀ z ∈ ln y k, 0 ≤ z ∧ z ≤ 1048576) (vx : vldM kv x = some true) (vy : vldM kv y = some true) :
    Calls Tryd.prog 38 #[.agg #[.int .i64 x.n, .int .i64 x.e0, .int .i64 x.e1, .int .i64 x.e2, .slice A0 x.l0.length c0, .slice A1 x.l1.length c1, .slice A2 x.l2.length c2], .agg #[.int .i64 y.n, .int .i64 y.e0, .int .i64 y.e1, .int .i64 y.e2, .slice B0 y.l0.length d0, .slice B1 y.l1.length d1, .slice B2 y.l2.length d2]] w fun e w' => ∃ E0 f0 E1 f1 E2 f2, e = .returned (.tuple #[.agg #[.int .i64 (jn x y).n, .int .i64 (jn x y).e0, .int .i64 (jn x y).e1, .int .i64 (jn x y).e2, .slice E0 (jn x y).l0.length f0, .slice E1 (jn x y).l1.length f1, .slice E2 (jn x y).l2.length f2], .int .i64 0]) ∧ RdS w' E0 f0 E1 f1 E2 f2 (jn x y) ∧ Ty w' E0 E1 E2 (jn x y) ∧ Below w.heap.size w w' := by
  have hw1 : wrap64 (x.n + y.n) = x.n + y.n := by unfold wrap64; omega
  have hw2 : IntKind.i64.wrap (x.n + y.n) = x.n + y.n := by rw [i64_w]; unfold Go.RowKit.wrap64; omega
  have HA0 := Aside0.mk (Bo.new hx)
  have hq1 := (Below.refl w.heap.size w).alloc (Nat.le_refl _) (.cells #[.int .i64 x.n, .int .i64 x.e0, .int .i64 x.e1, .int .i64 x.e2, .slice A0 x.l0.length c0, .slice A1 x.l1.length c1, .slice A2 x.l2.length c2] 26)
  have HB0 := Aside0.mk (Bo.new (hy.below hq1))
  have HRx := Aside0.mk hx
  have HRy := Aside0.mk hy
  have HP := Aside0.mk (And.intro bn (And.intro be (And.intro bl bz)))
  clear hx hy hq1 bn be bl bz
  obtain ⟨W0, hW0⟩ : ∃ W0, ((w.alloc (.cells #[.int .i64 x.n, .int .i64 x.e0, .int .i64 x.e1, .int .i64 x.e2, .slice A0 x.l0.length c0, .slice A1 x.l1.length c1, .slice A2 x.l2.length c2] 26)).alloc (.cells #[.int .i64 y.n, .int .i64 y.e0, .int .i64 y.e1, .int .i64 y.e2, .slice B0 y.l0.length d0, .slice B1 y.l1.length d1, .slice B2 y.l2.length d2] 26)).alloc (.cells #[.int .i64 0, .int .i64 0, .int .i64 0, .int .i64 0, .slice none 0 0, .slice none 0 0, .slice none 0 0] 26) = W0 := ⟨_, rfl⟩
  have s1 : (w.alloc (.cells #[.int .i64 x.n, .int .i64 x.e0, .int .i64 x.e1, .int .i64 x.e2, .slice A0 x.l0.length c0, .slice A1 x.l1.length c1, .slice A2 x.l2.length c2] 26)).heap.size = w.heap.size + 1 := by simp
  have s2 : ((w.alloc (.cells #[.int .i64 x.n, .int .i64 x.e0, .int .i64 x.e1, .int .i64 x.e2, .slice A0 x.l0.length c0, .slice A1 x.l1.length c1, .slice A2 x.l2.length c2] 26)).alloc (.cells #[.int .i64 y.n, .int .i64 y.e0, .int .i64 y.e1, .int .i64 y.e2, .slice B0 y.l0.length d0, .slice B1 y.l1.length d1, .slice B2 y.l2.length d2] 26)).heap.size = w.heap.size + 1 + 1 := by simp
  have b2 := (Below.refl _ _).alloc (Nat.le_refl ((w.alloc (.cells #[.int .i64 x.n, .int .i64 x.e0, .int .i64 x.e1, .int .i64 x.e2, .slice A0 x.l0.length c0, .slice A1 x.l1.length c1, .slice A2 x.l2.length c2] 26)).alloc (.cells #[.int .i64 y.n, .int .i64 y.e0, .int .i64 y.e1, .int .i64 y.e2, .slice B0 y.l0.length d0, .slice B1 y.l1.length d1, .slice B2 y.l2.length d2] 26)).heap.size) (.cells #[.int .i64 0, .int .i64 0, .int .i64 0, .int .i64 0, .slice none 0 0, .slice none 0 0, .slice none 0 0] 26)
  have HB1 : Aside0 (Bo W0 (w.heap.size + 1) B0 d0 B1 d1 B2 d2 y) := ⟨by have h := HB0.out.below b2; rw [s1] at h; rw [← hW0]; exact h⟩
  have HA1 : Aside0 (Bo W0 w.heap.size A0 c0 A1 c1 A2 c2 x) := ⟨by have h := (HA0.out.below ((Below.refl _ _).alloc (Nat.le_refl _) (.cells #[.int .i64 y.n, .int .i64 y.e0, .int .i64 y.e1, .int .i64 y.e2, .slice B0 y.l0.length d0, .slice B1 y.l1.length d1, .slice B2 y.l2.length d2] 26))).below b2; rw [← hW0]; exact h⟩
  have HZ1 : Aside0 (W0.heap[w.heap.size + 1 + 1]? = some (.cells Z7 26 (0, 0))) := ⟨by
    have h := heap_alloc_new ((w.alloc (.cells #[.int .i64 x.n, .int .i64 x.e0, .int .i64 x.e1, .int .i64 x.e2, .slice A0 x.l0.length c0, .slice A1 x.l1.length c1, .slice A2 x.l2.length c2] 26)).alloc (.cells #[.int .i64 y.n, .int .i64 y.e0, .int .i64 y.e1, .int .i64 y.e2, .slice B0 y.l0.length d0, .slice B1 y.l1.length d1, .slice B2 y.l2.length d2] 26)) (.cells #[.int .i64 0, .int .i64 0, .int .i64 0, .int .i64 0, .slice none 0 0, .slice none 0 0, .slice none 0 0] 26)
    rw [s2] at h
    rw [← hW0]
    exact h⟩
  have HW1 : Aside0 (Below w.heap.size w W0 ∧ W0.heap.size = w.heap.size + 1 + 1 + 1) := ⟨by rw [← hW0]; exact (((Below.refl w.heap.size w).alloc (Nat.le_refl _) _).alloc (by simp) _).alloc (by simp; omega) _, by rw [← hW0]; simp⟩
  have HVx := Aside0.mk (fun W (hb : Below w.heap.size w W) => vldC kv x true W (HRx.out.below hb) vx)
  have HVy := Aside0.mk (fun W (hb : Below w.heap.size w W) => vldC kv y true W (HRy.out.below hb) vy)
  have hxn : decide (x.n + y.n > 1048576) = false := decide_eq_false (by have := HP.out.1; omega)
  have hxn2 : decide (1048576 < x.n + y.n) = false := hxn
  have HWe := Aside0.mk hW0
  clear s1 s2 b2 HA0 HB0 vx vy hW0
  obtain ⟨x0, x1, x2, x3, x4, x5, x6⟩ := HA1.out.cells
  obtain ⟨y0, y1, y2, y3, y4, y5, y6⟩ := HB1.out.cells
  go_enter Tryd.func38, Tryd.ntmps38
  go_upto_region 1 with fail
  rw [HWe.out]
  clear HWe
  go_upto_region 5 with (first | (go_at_call 28; (with_reducible refine (HVx.out _ HW1.out.1).mono ?_); rintro e u1 ⟨rfl, hb⟩; have HB2 := Aside0.mk (HB1.out.below hb); have HA2 := Aside0.mk (HA1.out.below hb); have HZ2 := Aside0.mk ((hb.block _ (Array.getElem?_eq_some_iff.1 HZ1.out).1).trans HZ1.out); have HW2 : Aside0 (Below w.heap.size w u1 ∧ w.heap.size + 1 + 1 + 1 ≤ u1.heap.size) := ⟨below_step HW1.out.1 hb, by have := hb.size; have := HW1.out.2; omega⟩; clear hb x0 x1 x2 x3 x4 x5 x6 y0 y1 y2 y3 y4 y5 y6 HVx; obtain ⟨y0, y1, y2, y3, y4, y5, y6⟩ := HB2.out.cells) | (go_at_call 28; (with_reducible refine (HVy.out _ HW2.out.1).mono ?_); rintro e u2 ⟨rfl, hb⟩; have HB3 := Aside0.mk (HB2.out.below hb); have HA3 := Aside0.mk (HA2.out.below hb); have HZ3 := Aside0.mk ((hb.block _ (Array.getElem?_eq_some_iff.1 HZ2.out).1).trans HZ2.out); have HW3 : Aside0 (Below w.heap.size w u2 ∧ w.heap.size + 1 + 1 + 1 ≤ u2.heap.size) := ⟨below_step HW2.out.1 hb, by have := hb.size; have := HW2.out.2; omega⟩; clear hb y0 y1 y2 y3 y4 y5 y6 HVy HB2 HA2 HZ2 HW2 HB1 HA1 HZ1 HW1; obtain ⟨x0, x1, x2, x3, x4, x5, x6⟩ := HA3.out.cells; obtain ⟨y0, y1, y2, y3, y4, y5, y6⟩ := HB3.out.cells))
  go_upto_region 6 with fail
  obtain ⟨o, ho⟩ : ∃ o, u2.heap.size = o := ⟨_, rfl⟩
  obtain ⟨W1, hW1⟩ : ∃ W1, u2.alloc (.cells #[.int .i64 (x.n + y.n), .int .i64 0, .int .i64 0, .int .i64 0, .slice none 0 0, .slice none 0 0, .slice none 0 0] 26) = W1 := ⟨_, rfl⟩
  have hb3 := (Below.refl u2.heap.size u2).alloc (Nat.le_refl _) (.cells #[.int .i64 (x.n + y.n), .int .i64 0, .int .i64 0, .int .i64 0, .slice none 0 0, .slice none 0 0, .slice none 0 0] 26)
  have hJ0 := heap_alloc_new u2 (.cells #[.int .i64 (x.n + y.n), .int .i64 0, .int .i64 0, .int .i64 0, .slice none 0 0, .slice none 0 0, .slice none 0 0] 26)
  rw [hW1] at hb3 hJ0
  rw [ho] at hJ0
  have HO : Aside0 (w.heap.size + 1 + 1 + 1 ≤ o) := ⟨by rw [← ho]; exact HW3.out.2⟩
  have HJ : Aside0 (Js w W1 o 0 (x.n + y.n) x y (fun _ => 0) (fun _ => (none, 0)) (fun _ => [])) := ⟨⟨hJ0, fun j hj => by omega, fun j _ => ⟨rfl, rfl, rfl⟩⟩⟩
  have HS : Aside0 (Sd w W1 o #[.int .i64 x.n, .int .i64 x.e0, .int .i64 x.e1, .int .i64 x.e2, .slice A0 x.l0.length c0, .slice A1 x.l1.length c1, .slice A2 x.l2.length c2] #[.int .i64 y.n, .int .i64 y.e0, .int .i64 y.e1, .int .i64 y.e2, .slice B0 y.l0.length d0, .slice B1 y.l1.length d1, .slice B2 y.l2.length d2]) := ⟨⟨(HA3.out.below hb3).blk, (HB3.out.below hb3).blk, (hb3.block _ (Array.getElem?_eq_some_iff.1 HZ3.out).1).trans HZ3.out, below_step HW3.out.1 hb3⟩⟩
  rw [hW1, ho]
  clear hW1 ho hb3 hJ0 x0 x1 x2 x3 x4 x5 x6 y0 y1 y2 y3 y4 y5 y6 HA3 HB3 HZ3 HW3 hxn hxn2
  obtain ⟨x0, x1, x2, x3, x4, x5, x6⟩ := (Bo.mk HS.out.a (HRx.out.below HS.out.bel)).cells
  go_wp2_with fail
  clear x0 x1 x2 x3 x4 x5 x6
  go_loopg [37] 3 (fun kq v37 w' => ∃ (k : Nat) (E : Nat → Int) (R : Nat → Option Addr × Nat) (L : Nat → List Int), kq + k = 3 ∧ v37 = .int .i64 (k : Int) ∧ Aside0 (Js w w' o k (x.n + y.n) x y E R L) ∧ Aside0 (Sd w w' o #[.int .i64 x.n, .int .i64 x.e0, .int .i64 x.e1, .int .i64 x.e2, .slice A0 x.l0.length c0, .slice A1 x.l1.length c1, .slice A2 x.l2.length c2] #[.int .i64 y.n, .int .i64 y.e0, .int .i64 y.e1, .int .i64 y.e2, .slice B0 y.l0.length d0, .slice B1 y.l1.length d1, .slice B2 y.l2.length d2]))
  case atStart => exact ⟨0, _, _, _, by omega, rfl, HJ, HS⟩
  case round =>
    clear HJ HS
    obtain ⟨k, E, R, L, hk, rfl, HJ, HS⟩ := hrel
    by_cases c : k < 3
    · have cc0 : decide ((k : Int) < 3) = true := decide_eq_true (by omega)
      obtain ⟨j1, rfl⟩ : ∃ j1, gk = j1 + 1 := ⟨gk - 1, by omega⟩
      have p1 : (0 ≤ (k : Int)) = True := eq_true (by omega)
      have p2 : ((k : Int) < 3) = True := eq_true (by omega)
      have HBx : Aside0 (Bo wr w.heap.size A0 c0 A1 c1 A2 c2 x) := ⟨⟨HS.out.a, HRx.out.below HS.out.bel⟩⟩
      have HBy : Aside0 (Bo wr (w.heap.size + 1) B0 d0 B1 d1 B2 d2 y) := ⟨⟨HS.out.b, HRy.out.below HS.out.bel⟩⟩
      obtain ⟨cE, cL⟩ := HBx.out.atl k c
      have hex := HP.out.2.1 k c
      obtain ⟨m, hm⟩ : ∃ m : Nat, ex x k = (m : Int) := ⟨(ex x k).toNat, by omega⟩
      have hm3 : m < 3 := by omega
      have hIx := idx3 x.e0 x.e1 x.e2 (m : Int) k c hm
      obtain ⟨dE, dL⟩ := HBy.out.atl m hm3
      obtain ⟨hck, hCk⟩ := HRx.out.ats k c
      obtain ⟨hcm, hCm⟩ := HRy.out.ats m hm3
      obtain ⟨Ak, hAk⟩ : ∃ A, pk A0 A1 A2 k = A := ⟨_, rfl⟩
      obtain ⟨ck, hckk⟩ : ∃ c, pk c0 c1 c2 k = c := ⟨_, rfl⟩
      obtain ⟨Am, hAm⟩ : ∃ A, pk B0 B1 B2 m = A := ⟨_, rfl⟩
      obtain ⟨cm, hcmm⟩ : ∃ c, pk d0 d1 d2 m = c := ⟨_, rfl⟩
      rw [hAk, hckk] at cL
      rw [hAm, hcmm] at dL
      rw [hAk] at hCk
      rw [hckk] at hck
      rw [hAm] at hCm
      rw [hcmm] at hcm
      rw [hm] at cE
      have q1 : (0 ≤ (m : Int)) = True := eq_true (by omega)
      have q2 : ((m : Int) < 3) = True := eq_true (by omega)
      have oE := Oc.atE HJ.out.blk k c
      have oF := Oc.fz HJ.out.blk
      have HK := Aside0.mk (And.intro c (And.intro hm hm3))
      have HRk := Aside0.mk (And.intro hck hCk)
      have HRm := Aside0.mk (And.intro hcm hCm)
      have HcL := Aside0.mk cL
      have HAk := Aside0.mk (And.intro (And.intro hAk hckk) (And.intro hAm hcmm))
      clear hex hm hck hCk hcm hCm hAk hckk hAm hcmm HBx HBy cL dL
      go_upto_region 10 with fail
      clear hIx
      obtain ⟨W6, hW6⟩ : ∃ W6, wr.setCell ⟨o, 1 + k, none⟩ (.int .i64 (ex y m)) = W6 := ⟨_, rfl⟩
      have Hb6 : Aside0 (W6.heap[o]? = some (.cells (Oc (x.n + y.n) (upd E k (ex y m)) R L) 26 (0, 0))) := ⟨by rw [← hW6, heap_setCell_same _ _ _ _ _ _ HJ.out.blk, Oc.setE _ _ _ _ k HK.out.1]⟩
      have HS6 : Aside0 (Sd w W6 o #[.int .i64 x.n, .int .i64 x.e0, .int .i64 x.e1, .int .i64 x.e2, .slice A0 x.l0.length c0, .slice A1 x.l1.length c1, .slice A2 x.l2.length c2] #[.int .i64 y.n, .int .i64 y.e0, .int .i64 y.e1, .int .i64 y.e2, .slice B0 y.l0.length d0, .slice B1 y.l1.length d1, .slice B2 y.l2.length d2]) := ⟨HS.out.kle HO.out (by rw [← hW6]; exact Ke.cell _ _ _ _) (by rw [← hW6]; exact HS.out.bel.setCell (p := ⟨o, 1 + k, none⟩) (by have := HO.out; show w.heap.size ≤ o; omega) _)⟩
      have hsz : W6.heap.size = wr.heap.size := by rw [← hW6]; simp
      have HF6 : Aside0 (∀ j, j < k → Fin W6 W6.heap.size (R j) (L j)) := ⟨fun j hj => by rw [hsz, ← hW6]; exact fin_cell HJ.out.blk (HJ.out.old j hj).2.2⟩
      have HJo := Aside0.mk (fun j (hj : j < k) => (And.intro (HJ.out.old j hj).1 (HJ.out.old j hj).2.1))
      have HJn := Aside0.mk HJ.out.new
      have HoB : Aside0 (o < W6.heap.size) := ⟨(Array.getElem?_eq_some_iff.1 Hb6.out).1⟩
      rw [hW6]
      clear hW6 hsz HJ HS cE dE oE oF HcL
      obtain ⟨cE, cL⟩ := (Bo.mk HS6.out.a (HRx.out.below HS6.out.bel)).atl k HK.out.1
      rw [HAk.out.1.1, HAk.out.1.2] at cL
      have y0 := cL
      clear cE cL
      go_upto_region 11 with (at_builtin; refine rowI (w0 := W6) rfl W6.heap.size (.const (.slice none 0 0)) (.tmp 52) rfl (.slice none 0 0) [] (ln x k) Ak (ln x k).length ck rfl rfl (Kd.R_nil _ _ _ _ _) (Kd.C_below HRk.out.2 HS6.out.bel) (Below.refl _ _) (Nat.le_refl _) (by have := (HP.out.2.2.1 k HK.out.1).1; simp; omega) ?_; intro v1 w1 ho hb hg hat; rw [List.nil_append] at ho; obtain ⟨AN, cN, e1⟩ := Kd.R_slice ho; subst e1; have HOw := Aside0.mk ho; have HbW := Aside0.mk hb; have hk1 := (hb.block o (Array.getElem?_eq_some_iff.1 Hb6.out).1).trans Hb6.out; have oE := Oc.atL hk1 k HK.out.1; have oF := Oc.fz hk1; have Hb1 := Aside0.mk hk1; clear ho hb hg hat hk1 y0)
      obtain ⟨W7, hW7⟩ : ∃ W7, w1.setCell ⟨o, 4 + k, none⟩ (.slice AN (ln x k).length cN) = W7 := ⟨_, rfl⟩
      have HI : Aside0 (Ji w W7 o W6.heap.size k (x.n + y.n) (upd E k (ex y m)) R L #[.int .i64 x.n, .int .i64 x.e0, .int .i64 x.e1, .int .i64 x.e2, .slice A0 x.l0.length c0, .slice A1 x.l1.length c1, .slice A2 x.l2.length c2] #[.int .i64 y.n, .int .i64 y.e0, .int .i64 y.e1, .int .i64 y.e2, .slice B0 y.l0.length d0, .slice B1 y.l1.length d1, .slice B2 y.l2.length d2] AN cN (ln x k ++ ((ln y m).take 0).map (fun z => x.n + z))) := ⟨by
        rw [List.take_zero, List.map_nil, List.append_nil]
        refine ⟨by rw [← hW7, heap_setCell_same _ _ _ _ _ _ Hb1.out, Oc.setL _ _ _ _ k HK.out.1 AN _ cN (ln x k) rfl], by rw [← hW7]; exact own_cell Hb1.out HOw.out, fun j hj => by rw [← hW7]; exact fin_cell Hb1.out (fin_below (HF6.out j hj) HbW.out), ?_, by rw [← hW7]; simpa using HbW.out.size⟩
        refine HS6.out.kle HO.out (by rw [← hW7]; exact (Ke.below HbW.out).trans (Ke.cell _ _ _ _)) ?_
        rw [← hW7]
        exact (HS6.out.bel.trans (HbW.out.mono HS6.out.bel.size)).setCell (p := ⟨o, 4 + k, none⟩) (by have := HO.out; show w.heap.size ≤ o; omega) _⟩
      rw [hW7]
      clear hW7 HOw HbW Hb1 oE oF Hb6 HS6 HF6
      have dL0 := ((Bo.mk HI.out.sd.b (HRy.out.below HI.out.sd.bel)).atl m HK.out.2.2).2
      rw [HAk.out.2.1, HAk.out.2.2] at dL0
      obtain ⟨LM, hLM⟩ : ∃ n : Nat, (ln y m).length = n := ⟨_, rfl⟩
      rw [hLM] at dL0
      have HLM := Aside0.mk hLM
      go_wp2_with fail
      clear dL0
      go_loopg [61] LM (fun kq v61 w' => ∃ (i : Nat) (A : Option Addr) (c : Nat), kq + i = LM ∧ v61 = .int .i64 (i : Int) ∧ Aside0 (Ji w w' o W6.heap.size k (x.n + y.n) (upd E k (ex y m)) R L #[.int .i64 x.n, .int .i64 x.e0, .int .i64 x.e1, .int .i64 x.e2, .slice A0 x.l0.length c0, .slice A1 x.l1.length c1, .slice A2 x.l2.length c2] #[.int .i64 y.n, .int .i64 y.e0, .int .i64 y.e1, .int .i64 y.e2, .slice B0 y.l0.length d0, .slice B1 y.l1.length d1, .slice B2 y.l2.length d2] A c (ln x k ++ ((ln y m).take i).map (fun z => x.n + z))))
      case atStart => exact ⟨0, AN, cN, by omega, rfl, HI⟩
      case round =>
        clear HI
        obtain ⟨i, A, c, hi, rfl, HI⟩ := hrel
        by_cases ci : i < LM
        · have cc1 : decide ((i : Int) < (LM : Int)) = true := decide_eq_true (by omega)
          obtain ⟨j2, rfl⟩ : ∃ j2, gk = j2 + 1 := ⟨gk - 1, by omega⟩
          obtain ⟨lk, hlk⟩ : ∃ lk, ln x k ++ ((ln y m).take i).map (fun z => x.n + z) = lk := ⟨_, rfl⟩
          rw [hlk] at HI
          have hmem : i < (ln y m).length := by have := HLM.out; omega
          obtain ⟨ad, e1, hx⟩ := Kd.at_int (Kd.C_below HRm.out.2 HI.out.sd.bel) (i : Int) (by omega) (by omega)
          cases e1
          obtain ⟨z, hz⟩ : ∃ z, rd (ln y m) (i : Int) = z := ⟨_, rfl⟩
          have hzg : (ln y m)[i]? = some z := by rw [← hz]; unfold rd; simp; rw [List.getElem?_eq_getElem hmem]; rfl
          have hzb := HP.out.2.2.2 m HK.out.2.2 z (List.mem_of_getElem? hzg)
          have hzx := HP.out.1
          have HX1 := Aside0.mk (fun W (hb : Below w.heap.size w W) => (by have h := (Kd.at_int (Kd.C_below HRm.out.2 hb) (i : Int) (by omega) (by omega)); obtain ⟨ad2, e2, h2⟩ := h; cases e2; rw [hz] at h2; simpa using h2 : W.cell? (ad.add i) = some (.int .i64 z)))
          have hwz : IntKind.i64.wrap (x.n + z) = x.n + z := by rw [i64_w]; unfold Go.RowKit.wrap64; omega
          have hvz : Go.RowKit.wrap64 (x.n + z) = x.n + z := by unfold Go.RowKit.wrap64; omega
          have g1 : (0 ≤ (i : Int)) = True := eq_true (by omega)
          have g2 : ((i : Int) < (LM : Int)) = True := eq_true (by omega)
          have HLL : Aside0 (lk.length ≤ 4000000) := ⟨by
            rw [← hlk]
            have h1 := HP.out.2.2.1 k HK.out.1
            have h2 := HP.out.2.2.1 m HK.out.2.2
            rw [List.length_append, List.length_map, List.length_take]
            omega⟩
          have HSS := Aside0.mk (fun W (h1 : W.heap[o]? = wr.heap[o]?) (h2 : W.heap[w.heap.size]? = wr.heap[w.heap.size]?) (h4 : Below w.heap.size w W) => (by
            have b := h1.trans HI.out.blk
            have oL := Oc.atL b k HK.out.1
            rw [upd_eq, upd_eq] at oL
            have hx0 := (Bo.mk (h2.trans HI.out.sd.a) (HRx.out.below h4)).cells
            exact ⟨oL, Oc.fz b _, hx0.1⟩ : W.cell? ⟨o, 4 + k, none⟩ = some (.slice A lk.length c) ∧ W.frozen? ⟨o, 4 + k, none⟩ = false ∧ W.cell? ⟨w.heap.size, 0, none⟩ = some (.int .i64 x.n)))
          have ho3 := HO.out
          have hoB := HoB.out
          have HS5 := Aside0.mk (fun W (hb : Below wr.heap.size wr W) => HSS.out W (hb.block _ (Array.getElem?_eq_some_iff.1 HI.out.blk).1) (hb.block _ (Array.getElem?_eq_some_iff.1 HI.out.sd.a).1) (below_step HI.out.sd.bel hb))
          have HS6 := Aside0.mk (fun W (hb : Below W6.heap.size wr.drew W) => HSS.out W (hb.block _ hoB) (hb.block _ (by omega)) (HI.out.sd.bel.trans (Below.trans ((Below.refl w.heap.size wr).drew) (hb.mono (by omega)))))
          have HW := Aside0.mk (Below.refl wr.heap.size wr).drew
          have HZG := Aside0.mk hzg
          have HLK := Aside0.mk hlk
          clear hlk hmem hx hz hzg hzb hzx ho3 hoB hLM
          have zc := HX1.out wr HI.out.sd.bel
          go_upto_region 14 with fail
          clear zc
          refine Go.Proofs.YtkhnifehcnlpjaaDoorW.PrintLast.start_ (n := 14) (S := fun w' => w'.cell? ⟨o, 4 + k, none⟩ = some (.slice A lk.length c) ∧ w'.frozen? ⟨o, 4 + k, none⟩ = false ∧ w'.cell? ⟨w.heap.size, 0, none⟩ = some (.int .i64 x.n)) (ds := [13]) #[false, false, false, false, false, false, false, false, false, false, false, false, false, false] (by kernel_rfl) rfl (by rfl) (HS5.out _ HW.out) (fun hS => ?_)
          refine Go.Proofs.YtkhnifehcnlpjaaDoorW.PrintLast.take_ (i := 0) (N := some 65) (v := (.int .i64 (k : Int))) #[true, false, false, false, false, false, false, false, false, false, false, false, false, false] rfl rfl (by kernel_rfl) (fun _ _ _ h => h) (Or.inl ⟨by rfl, by intro w hSw; (try dsimp only at hSw); go_simp⟩) hS rfl ?_
          try simp only [Act.put, List.setIfInBounds_toArray, List.set_cons_zero, List.set_cons_succ]
          refine Go.Proofs.YtkhnifehcnlpjaaDoorW.PrintLast.take_ (i := 1) (N := some 66) (v := (.int .i64 (k : Int))) #[true, true, false, false, false, false, false, false, false, false, false, false, false, false] rfl rfl (by kernel_rfl) (fun _ _ _ h => h) (Or.inl ⟨by rfl, by intro w hSw; (try dsimp only at hSw); go_simp⟩) hS rfl ?_
          try simp only [Act.put, List.setIfInBounds_toArray, List.set_cons_zero, List.set_cons_succ]
          refine Go.Proofs.YtkhnifehcnlpjaaDoorW.PrintLast.take_ (i := 2) (N := some 67) (v := (.pointer (some ⟨o, 4, none⟩))) #[true, true, true, false, false, false, false, false, false, false, false, false, false, false] rfl rfl (by kernel_rfl) (fun _ _ _ h => h) (Or.inl ⟨by rfl, by intro w hSw; (try dsimp only at hSw); go_simp⟩) hS rfl ?_
          try simp only [Act.put, List.setIfInBounds_toArray, List.set_cons_zero, List.set_cons_succ]
          refine Go.Proofs.YtkhnifehcnlpjaaDoorW.PrintLast.take_ (i := 3) (N := some 68) (v := (.pointer (some ⟨o, 4 + k, none⟩))) #[true, true, true, true, false, false, false, false, false, false, false, false, false, false] rfl rfl (by kernel_rfl) (fun _ _ _ h => h) (Or.inl ⟨by rfl, by intro w hSw; (try dsimp only at hSw); go_simp⟩) hS rfl ?_
          try simp only [Act.put, List.setIfInBounds_toArray, List.set_cons_zero, List.set_cons_succ]
          refine Go.Proofs.YtkhnifehcnlpjaaDoorW.PrintLast.take_ (i := 4) (N := some 69) (v := (.slice A lk.length c)) #[true, true, true, true, true, false, false, false, false, false, false, false, false, false] rfl rfl (by kernel_rfl) (fun _ _ _ h => h) (Or.inl ⟨by rfl, by intro w hSw; (try dsimp only at hSw); go_simp⟩) hS rfl ?_
          try simp only [Act.put, List.setIfInBounds_toArray, List.set_cons_zero, List.set_cons_succ]
          refine Go.Proofs.YtkhnifehcnlpjaaDoorW.PrintLast.take_ (i := 5) (N := some 70) (v := (.pointer (some ⟨w.heap.size, 0, none⟩))) #[true, true, true, true, true, true, false, false, false, false, false, false, false, false] rfl rfl (by kernel_rfl) (fun _ _ _ h => h) (Or.inl ⟨by rfl, by intro w hSw; (try dsimp only at hSw); go_simp⟩) hS rfl ?_
          try simp only [Act.put, List.setIfInBounds_toArray, List.set_cons_zero, List.set_cons_succ]
          refine Go.Proofs.YtkhnifehcnlpjaaDoorW.PrintLast.take_ (i := 6) (N := some 71) (v := (.int .i64 x.n)) #[true, true, true, true, true, true, true, false, false, false, false, false, false, false] rfl rfl (by kernel_rfl) (fun _ _ _ h => h) (Or.inl ⟨by rfl, by intro w hSw; (try dsimp only at hSw); go_simp⟩) hS rfl ?_
          try simp only [Act.put, List.setIfInBounds_toArray, List.set_cons_zero, List.set_cons_succ]
          refine Go.Proofs.YtkhnifehcnlpjaaDoorW.PrintLast.take_ (i := 7) (N := some 72) (v := (.int .i64 z)) #[true, true, true, true, true, true, true, true, false, false, false, false, false, false] rfl rfl (by kernel_rfl) (fun _ _ _ h => h) (Or.inl ⟨by rfl, by intro w hSw; (try dsimp only at hSw); go_simp⟩) hS rfl ?_
          try simp only [Act.put, List.setIfInBounds_toArray, List.set_cons_zero, List.set_cons_succ]
          refine Go.Proofs.YtkhnifehcnlpjaaDoorW.PrintLast.take_ (i := 8) (N := some 73) (v := (.int .i64 (x.n + z))) #[true, true, true, true, true, true, true, true, true, false, false, false, false, false] rfl rfl (by kernel_rfl) (fun _ _ _ h => h) (Or.inl ⟨by rfl, by intro w hSw; (try dsimp only at hSw); go_simp⟩) hS rfl ?_
          try simp only [Act.put, List.setIfInBounds_toArray, List.set_cons_zero, List.set_cons_succ]
          refine Go.Proofs.YtkhnifehcnlpjaaDoorW.PrintLast.take_ (i := 11) (N := some 76) (v := (.pointer (some ⟨o, 4, none⟩))) #[true, true, true, true, true, true, true, true, true, false, false, true, false, false] rfl rfl (by kernel_rfl) (fun _ _ _ h => h) (Or.inl ⟨by rfl, by intro w hSw; (try dsimp only at hSw); go_simp⟩) hS rfl ?_
          try simp only [Act.put, List.setIfInBounds_toArray, List.set_cons_zero, List.set_cons_succ]
          refine Go.Proofs.YtkhnifehcnlpjaaDoorW.PrintLast.one_ (i := 9) (N := some 74) #[true, true, true, true, true, true, true, true, true, true, false, true, false, false] rfl rfl (by kernel_rfl) (by decide) ?_
          intro K hK
          go_simp
          refine hK.out _ _ (HS5.out _ (HW.out.alloc (below_size HW.out) _)) (fun hS => ?_)
          clear hK K
          try simp only [Act.put, List.setIfInBounds_toArray, List.set_cons_zero, List.set_cons_succ]
          refine Go.Proofs.YtkhnifehcnlpjaaDoorW.PrintLast.one_ (i := 10) (N := some 75) #[true, true, true, true, true, true, true, true, true, true, true, true, false, false] rfl rfl (by kernel_rfl) (by decide) ?_
          intro K hK
          refine stepI (w0 := wr.drew) rfl W6.heap.size (.tmp 69) (.tmp 74) rfl (.slice A lk.length c) lk (x.n + z) rfl rfl (Kd.R_drew HI.out.own) (Below.refl _ _) HI.out.sz (by have := HLL.out; omega) ?_; intro v1 w1 ho hb hg; obtain ⟨AN2, cN2, e1⟩ := Kd.R_slice ho; obtain ⟨n2, hn2⟩ : ∃ n2, (lk ++ [x.n + z]).length = n2 := ⟨_, rfl⟩; rw [hn2] at e1; have HN2 := Aside0.mk hn2; clear hn2; subst e1; have HO2 := Aside0.mk ho; have Hb2 := Aside0.mk hb; clear ho hb hg
          have hS1 := HS6.out w1 Hb2.out
          refine hK.out _ _ hS1 (fun hS => ?_)
          clear hK K hS1
          try simp only [Act.put, List.setIfInBounds_toArray, List.set_cons_zero, List.set_cons_succ]
          refine Go.Proofs.YtkhnifehcnlpjaaDoorW.PrintLast.take_ (i := 12) (N := some 77) (v := (.pointer (some ⟨o, 4 + k, none⟩))) #[true, true, true, true, true, true, true, true, true, true, true, true, true, false] rfl rfl (by kernel_rfl) (fun _ _ _ h => h) (Or.inl ⟨by rfl, by intro w hSw; (try dsimp only at hSw); go_simp⟩) hS rfl ?_
          try simp only [Act.put, List.setIfInBounds_toArray, List.set_cons_zero, List.set_cons_succ]
          have hfz := hS.2.1
          have hcl := hS.1
          refine last_ (i := 13) (N := none) #[true, true, true, true, true, true, true, true, true, true, true, true, true, true] rfl rfl (by kernel_rfl) (by decide) ?_
          intro K hK
          go_simp
          refine hK.out _ _ ?_
          clear hK K
          refine done_ (by kernel_rfl) ?_
          have hb := Hb2.out
          have hoB := HoB.out
          have ho3 := HO.out
          have b1 : w1.heap[o]? = some (.cells (Oc (x.n + y.n) (upd E k (ex y m)) (upd R k (A, c)) (upd L k lk)) 26 (0, 0)) := (hb.block _ hoB).trans HI.out.blk
          have HI2 : Aside0 (Ji w (w1.setCell ⟨o, 4 + k, none⟩ (.slice AN2 n2 cN2)) o W6.heap.size k (x.n + y.n) (upd E k (ex y m)) R L #[.int .i64 x.n, .int .i64 x.e0, .int .i64 x.e1, .int .i64 x.e2, .slice A0 x.l0.length c0, .slice A1 x.l1.length c1, .slice A2 x.l2.length c2] #[.int .i64 y.n, .int .i64 y.e0, .int .i64 y.e1, .int .i64 y.e2, .slice B0 y.l0.length d0, .slice B1 y.l1.length d1, .slice B2 y.l2.length d2] AN2 cN2 (ln x k ++ ((ln y m).take (i + 1)).map (fun z => x.n + z))) := ⟨by
            rw [take_one HZG.out, List.map_append, ← List.append_assoc, HLK.out, List.map_singleton]
            refine ⟨by rw [heap_setCell_same _ _ _ _ _ _ b1, Oc.setL _ _ _ _ k HK.out.1 AN2 n2 cN2 _ HN2.out, upd_upd, upd_upd], by rw [HN2.out]; exact own_cell b1 HO2.out, fun j hj => fin_cell b1 ((HI.out.fin j hj).move (fun q cur hq _ => hb.block q hq)), ?_, by have := hb.size; have := HI.out.sz; simp; exact Nat.le_trans this hb.size⟩
            have e1 := hb.block w.heap.size (by omega)
            have e2 := hb.block (w.heap.size + 1) (by omega)
            have e3 := hb.block (w.heap.size + 1 + 1) (by omega)
            exact ⟨(Below.heap_setCell w1 ⟨o, 4 + k, none⟩ _ _ (by show w.heap.size ≠ o; omega)).trans (e1.trans HI.out.sd.a), (Below.heap_setCell w1 ⟨o, 4 + k, none⟩ _ _ (by show w.heap.size + 1 ≠ o; omega)).trans (e2.trans HI.out.sd.b), (Below.heap_setCell w1 ⟨o, 4 + k, none⟩ _ _ (by show w.heap.size + 1 + 1 ≠ o; omega)).trans (e3.trans HI.out.sd.z),
              (HI.out.sd.bel.trans (Below.trans ((Below.refl w.heap.size wr).drew) (hb.mono (by omega)))).setCell (p := ⟨o, 4 + k, none⟩) (by show w.heap.size ≤ o; omega) _⟩⟩
          clear b1 hb hoB ho3 hfz hcl
          go_wp2
          go_roundg j2
          case measure => omega
          case rel => exact ⟨i + 1, AN2, cN2, by have := HLM.out; omega, by first | rfl | (congr 1; have := (HP.out.2.2.1 m HK.out.2.2).2; have := HLM.out; unfold wrap64; omega), HI2⟩
        · obtain rfl : i = LM := by omega
          go_wp2
          go_roundg j1
          case measure => omega
          case rel =>
            have h := HI.out
            rw [← HLM.out, List.take_length] at h
            refine ⟨k + 1, upd E k (ex y m), upd R k (A, c), upd L k (ln x k ++ (ln y m).map (fun z => x.n + z)), by omega, by first | rfl | (congr 1; unfold wrap64; omega), ⟨⟨h.blk, fun j hj => ?_, fun j hj => ?_⟩⟩, ⟨h.sd⟩⟩
            · by_cases e : j = k
              · subst e
                rw [upd_eq, upd_eq, upd_eq, HK.out.2.1, pick_e y m HK.out.2.2]
                refine ⟨rfl, ?_, fin_own h.own (Nat.le_refl _)⟩
                unfold jnL
                rw [HK.out.2.1, pick_l y m HK.out.2.2]
              · rw [upd_ne _ _ _ _ e, upd_ne _ _ _ _ e, upd_ne _ _ _ _ e]
                exact ⟨(HJo.out j (by omega)).1, (HJo.out j (by omega)).2, (h.fin j (by omega)).up h.sz⟩
            · rw [upd_ne _ _ _ _ (by omega), upd_ne _ _ _ _ (by omega), upd_ne _ _ _ _ (by omega)]
              exact HJn.out j (by omega)
    · obtain rfl : k = 3 := by have := HJ.out; omega
      have h0 := HJ.out.old 0 (by omega)
      have h1 := HJ.out.old 1 (by omega)
      have h2 := HJ.out.old 2 (by omega)
      have hb := HJ.out.blk
      have oc := hb
      unfold Oc sv at oc
      have cc3 : decide ((3 : Int) < 3) = false := by decide
      obtain ⟨r0, r1, r2, r3, r4, r5, r6, rf⟩ : wr.cell? ⟨o, 0, none⟩ = some (.int .i64 (x.n + y.n)) ∧ wr.cell? ⟨o, 1, none⟩ = some (.int .i64 (E 0)) ∧ wr.cell? ⟨o, 2, none⟩ = some (.int .i64 (E 1)) ∧ wr.cell? ⟨o, 3, none⟩ = some (.int .i64 (E 2)) ∧ wr.cell? ⟨o, 4, none⟩ = some (.slice (R 0).1 (L 0).length (R 0).2) ∧ wr.cell? ⟨o, 5, none⟩ = some (.slice (R 1).1 (L 1).length (R 1).2) ∧ wr.cell? ⟨o, 6, none⟩ = some (.slice (R 2).1 (L 2).length (R 2).2) ∧ ∀ j, wr.frozen? ⟨o, j, none⟩ = false := by
        refine ⟨?_, ?_, ?_, ?_, ?_, ?_, ?_, fun j => ?_⟩ <;> simp [World.cell?, World.frozen?, oc]
      obtain ⟨y0, y1, y2, y3, y4, y5, y6, yf⟩ := zero7 HS.out.z
      have H0 := Aside0.mk h0
      have H1 := Aside0.mk h1
      have H2 := Aside0.mk h2
      have HBl := Aside0.mk hb
      clear h0 h1 h2 hb oc
      go_wp2
      obtain ⟨W9, hW9⟩ : ∃ W9, (((((((wr.setCell ⟨w.heap.size + 1 + 1, 0, none⟩ (.int .i64 (x.n + y.n))).setCell ⟨w.heap.size + 1 + 1, 1, none⟩ (.int .i64 (E 0))).setCell ⟨w.heap.size + 1 + 1, 2, none⟩ (.int .i64 (E 1))).setCell ⟨w.heap.size + 1 + 1, 3, none⟩ (.int .i64 (E 2))).setCell ⟨w.heap.size + 1 + 1, 4, none⟩ (.slice (R 0).1 (L 0).length (R 0).2)).setCell ⟨w.heap.size + 1 + 1, 5, none⟩ (.slice (R 1).1 (L 1).length (R 1).2)).setCell ⟨w.heap.size + 1 + 1, 6, none⟩ (.slice (R 2).1 (L 2).length (R 2).2)) = W9 := ⟨_, rfl⟩
      obtain ⟨b9, g9⟩ := set7 HS.out.z (R 0).1 (R 0).2 (R 1).1 (R 1).2 (R 2).1 (R 2).2 ⟨x.n + y.n, E 0, E 1, E 2, L 0, L 1, L 2⟩ hW9
      obtain ⟨u0, u1, u2, u3, u4, u5, u6⟩ : W9.cell? ⟨w.heap.size + 1 + 1, 0, none⟩ = some (.int .i64 (x.n + y.n)) ∧ W9.cell? ⟨w.heap.size + 1 + 1, 1, none⟩ = some (.int .i64 (E 0)) ∧ W9.cell? ⟨w.heap.size + 1 + 1, 2, none⟩ = some (.int .i64 (E 1)) ∧ W9.cell? ⟨w.heap.size + 1 + 1, 3, none⟩ = some (.int .i64 (E 2)) ∧ W9.cell? ⟨w.heap.size + 1 + 1, 4, none⟩ = some (.slice (R 0).1 (L 0).length (R 0).2) ∧ W9.cell? ⟨w.heap.size + 1 + 1, 5, none⟩ = some (.slice (R 1).1 (L 1).length (R 1).2) ∧ W9.cell? ⟨w.heap.size + 1 + 1, 6, none⟩ = some (.slice (R 2).1 (L 2).length (R 2).2) := by
        refine ⟨?_, ?_, ?_, ?_, ?_, ?_, ?_⟩ <;> simp [World.cell?, b9]
      rw [hW9]
      have G9 := Aside0.mk g9
      clear hW9 b9 g9 y0 y1 y2 y3 y4 y5 y6 yf r0 r1 r2 r3 r4 r5 r6 rf
      refine bodyPost_ret (v := .tuple #[.agg #[.int .i64 (x.n + y.n), .int .i64 (E 0), .int .i64 (E 1), .int .i64 (E 2), .slice (R 0).1 (L 0).length (R 0).2, .slice (R 1).1 (L 1).length (R 1).2, .slice (R 2).1 (L 2).length (R 2).2], .int .i64 0]) (by simp [results, Tryd.results38, go_sem, u0, u1, u2, u3, u4, u5, u6]) rfl ?_
      have mv : ∀ j, Fin wr wr.heap.size (R j) (L j) → Fin W9 wr.heap.size (R j) (L j) := fun j h => h.move (fun q cur _ hc => G9.out.block q (Array.getElem?_eq_some_iff.1 hc).1 (fun e => by
        have e2 := Option.some.inj e
        subst e2
        exact absurd (ne26 hc HS.out.z) (by decide)))
      have f0 := mv 0 H0.out.2.2
      have f1 := mv 1 H1.out.2.2
      have f2 := mv 2 H2.out.2.2
      have e0 := H0.out.1
      have e1 := H1.out.1
      have e2 := H2.out.1
      have l0 := H0.out.2.1
      have l1 := H1.out.2.1
      have l2 := H2.out.2.1
      rw [l0] at f0
      rw [l1] at f1
      rw [l2] at f2
      refine ⟨(R 0).1, (R 0).2, (R 1).1, (R 1).2, (R 2).1, (R 2).2, by rw [e0, e1, e2, l0, l1, l2]; rfl, ⟨f0.1, f1.1, f2.1, f0.2.1, f1.2.1, f2.2.1⟩, ⟨fin_ty f0, fin_ty f1, fin_ty f2⟩, below_grown HS.out.bel (by omega) G9.out⟩
end Go.Proofs.YtkhnifehcnlpjaaDoor.QC
