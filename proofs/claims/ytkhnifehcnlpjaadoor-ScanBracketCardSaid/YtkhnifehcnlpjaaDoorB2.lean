/- The reference's Empty and All, by hand. -/
import Derived.Test.YtkhnifehcnlpjaaDoorB1
namespace Go.Proofs.YtkhnifehcnlpjaaDoor.QB
open Go Go.RowKit Go.Proofs.YtkhnifehcnlpjaaDoorW.PrintWords Go.Proofs.YtkhnifehcnlpjaaDoorW.PrintLast Go.Proofs.YtkhnifehcnlpjaaDoorW.PrintMore
set_option linter.unusedVariables false
set_option linter.unusedSimpArgs false
set_option maxRecDepth 100000
set_option maxHeartbeats 4000000
theorem readE (k : Int) (w : World) : Calls Tryd.prog 42 #[.int .i64 k, .string ⟨#[]⟩] w fun e w' => e = .returned (.tuple #[.int .i64 k, .slice none 0 0]) ∧ Below w.heap.size w w' := by
  have HW := Aside0.mk (Below.refl w.heap.size w)
  have hsz : (⟨#[]⟩ : ByteArray).size = 0 := rfl
  go_enter Tryd.func42, Tryd.ntmps42
  go_wp2_with fail
  go_loopg [0, 6, 7] 0 (fun kq v0 v6 v7 w' => v0 = .int .i64 k ∧ v6 = .slice none 0 0 ∧ v7 = .int .i64 0 ∧ Aside0 (Below w.heap.size w w'))
  case atStart => exact ⟨rfl, rfl, rfl, HW⟩
  case round =>
    clear HW
    obtain ⟨rfl, rfl, rfl, HW⟩ := hrel
    go_wp2_with fail
    exact bodyPost_ret (v := .tuple #[.int .i64 k, .slice none 0 0]) (by simp [results, Tryd.results42, go_sem]) rfl ⟨rfl, HW.out⟩
theorem sumE (w : World) : Calls Tryd.prog 32 #[.string ⟨#[]⟩] w fun e w' => e = .returned (.agg #[.int .i64 0, .int .i64 0, .int .i64 1, .int .i64 2, .slice none 0 0, .slice none 0 0, .slice none 0 0]) ∧ Below w.heap.size w w' := by
  have hsz : (⟨#[]⟩ : ByteArray).size = 0 := rfl
  obtain ⟨W1, hW1⟩ : ∃ W1, (w.alloc (.cells #[.int .i64 0, .int .i64 0, .int .i64 0, .int .i64 0, .slice none 0 0, .slice none 0 0, .slice none 0 0] 26)).alloc (.cells #[.int .i64 0, .int .i64 0, .int .i64 0, .int .i64 0, .slice none 0 0, .slice none 0 0, .slice none 0 0] 26) = W1 := ⟨_, rfl⟩
  have hb : Below w.heap.size w W1 := by rw [← hW1]; exact ((Below.refl w.heap.size w).alloc (Nat.le_refl _) _).alloc (by simp) _
  have hz : W1.heap[w.heap.size]? = some (.cells Z7 26 (0, 0)) := by
    rw [← hW1]
    have h := heap_alloc_new w (.cells #[.int .i64 0, .int .i64 0, .int .i64 0, .int .i64 0, .slice none 0 0, .slice none 0 0, .slice none 0 0] 26)
    exact (Below.heap_alloc _ _ _ (Array.getElem?_eq_some_iff.1 h).1).trans h
  have ho : W1.heap[w.heap.size + 1]? = some (.cells (Oc 0 (fun j => if j < 0 then (j : Int) else 0) (fun _ => (none, 0)) (fun _ => [])) 26 (0, 0)) := by
    rw [← hW1]
    have h := heap_alloc_new (w.alloc (.cells #[.int .i64 0, .int .i64 0, .int .i64 0, .int .i64 0, .slice none 0 0, .slice none 0 0, .slice none 0 0] 26)) (.cells #[.int .i64 0, .int .i64 0, .int .i64 0, .int .i64 0, .slice none 0 0, .slice none 0 0, .slice none 0 0] 26)
    rw [show (w.alloc (.cells #[.int .i64 0, .int .i64 0, .int .i64 0, .int .i64 0, .slice none 0 0, .slice none 0 0, .slice none 0 0] 26)).heap.size = w.heap.size + 1 by simp] at h
    exact h
  have HS : Aside0 (Below w.heap.size w W1 ∧ W1.heap[w.heap.size]? = some (.cells Z7 26 (0, 0)) ∧ W1.heap[w.heap.size + 1]? = some (.cells (Oc 0 (fun j => if j < 0 then (j : Int) else 0) (fun _ => (none, 0)) (fun _ => [])) 26 (0, 0))) := ⟨hb, hz, ho⟩
  have HWe := Aside0.mk hW1
  clear hb hz ho hW1
  go_enter Tryd.func32, Tryd.ntmps32
  go_wp2_with fail
  rw [HWe.out]
  clear HWe
  go_loopg [4] 3 (fun kq v4 w' => ∃ k : Nat, kq + k = 3 ∧ v4 = .int .i64 (k : Int) ∧ Aside0 (Below w.heap.size w w' ∧ w'.heap[w.heap.size]? = some (.cells Z7 26 (0, 0)) ∧ w'.heap[w.heap.size + 1]? = some (.cells (Oc 0 (fun j => if j < k then (j : Int) else 0) (fun _ => (none, 0)) (fun _ => [])) 26 (0, 0))))
  case atStart => exact ⟨0, by omega, rfl, HS⟩
  case round =>
    clear HS
    obtain ⟨k, hk, rfl, HS⟩ := hrel
    by_cases c : k < 3
    · have cc0 : decide ((k : Int) < 3) = true := decide_eq_true (by omega)
      obtain ⟨j1, rfl⟩ : ∃ j1, gk = j1 + 1 := ⟨gk - 1, by omega⟩
      have p1 : (0 ≤ (k : Int)) = True := eq_true (by omega)
      have p2 : ((k : Int) < 3) = True := eq_true (by omega)
      have HK := Aside0.mk c
      clear c
      go_wp2_with (first | (go_at_call 42; (with_reducible refine (readE _ _).mono ?_); rintro e we ⟨rfl, hb⟩; have h1 := (hb.block _ (Array.getElem?_eq_some_iff.1 HS.out.2.2).1).trans HS.out.2.2; have oE := Oc.atE h1 k HK.out; have oL := Oc.atL h1 k HK.out; have oF := Oc.fz h1; have H1 := Aside0.mk h1; have HB1 := Aside0.mk hb; clear h1 hb))
      obtain ⟨W2, hW2⟩ : ∃ W2, (we.setCell ⟨w.heap.size + 1, 1 + k, none⟩ (.int .i64 (k : Int))).setCell ⟨w.heap.size + 1, 4 + k, none⟩ (.slice none 0 0) = W2 := ⟨_, rfl⟩
      have HN : Aside0 (Below w.heap.size w W2 ∧ W2.heap[w.heap.size]? = some (.cells Z7 26 (0, 0)) ∧ W2.heap[w.heap.size + 1]? = some (.cells (Oc 0 (fun j => if j < k + 1 then (j : Int) else 0) (fun _ => (none, 0)) (fun _ => [])) 26 (0, 0))) := ⟨by
        rw [← hW2]
        refine ⟨((below_step HS.out.1 HB1.out).setCell (p := ⟨w.heap.size + 1, 1 + k, none⟩) (by show w.heap.size ≤ w.heap.size + 1; omega) _).setCell (p := ⟨w.heap.size + 1, 4 + k, none⟩) (by show w.heap.size ≤ w.heap.size + 1; omega) _, ?_, ?_⟩
        · exact (Below.heap_setCell _ _ _ _ (by show w.heap.size ≠ w.heap.size + 1; omega)).trans ((Below.heap_setCell _ _ _ _ (by show w.heap.size ≠ w.heap.size + 1; omega)).trans ((HB1.out.block _ (Array.getElem?_eq_some_iff.1 HS.out.2.1).1).trans HS.out.2.1))
        · rw [heap_setCell_same _ _ _ _ _ _ (heap_setCell_same _ _ _ _ _ _ H1.out), Oc.setE _ _ _ _ k HK.out, Oc.setL _ _ _ _ k HK.out none 0 0 [] rfl]
          congr 2
          unfold Oc sv
          rcases (show k = 0 ∨ k = 1 ∨ k = 2 by have := HK.out; omega) with rfl | rfl | rfl <;> rfl⟩
      rw [hW2]
      clear hW2 H1 HB1 oE oL oF
      go_roundg j1
      case measure => omega
      case rel => exact ⟨k + 1, by omega, rfl, HN⟩
    · obtain rfl : k = 3 := by omega
      have hb := HS.out.2.2
      have oc := hb
      unfold Oc sv at oc
      have cc3 : decide ((3 : Int) < 3) = false := by decide
      obtain ⟨r0, r1, r2, r3, r4, r5, r6⟩ : wr.cell? ⟨w.heap.size + 1, 0, none⟩ = some (.int .i64 0) ∧ wr.cell? ⟨w.heap.size + 1, 1, none⟩ = some (.int .i64 0) ∧ wr.cell? ⟨w.heap.size + 1, 2, none⟩ = some (.int .i64 1) ∧ wr.cell? ⟨w.heap.size + 1, 3, none⟩ = some (.int .i64 2) ∧ wr.cell? ⟨w.heap.size + 1, 4, none⟩ = some (.slice none 0 0) ∧ wr.cell? ⟨w.heap.size + 1, 5, none⟩ = some (.slice none 0 0) ∧ wr.cell? ⟨w.heap.size + 1, 6, none⟩ = some (.slice none 0 0) := by
        refine ⟨?_, ?_, ?_, ?_, ?_, ?_, ?_⟩ <;> simp [World.cell?, oc]
      obtain ⟨y0, y1, y2, y3, y4, y5, y6, yf⟩ := zero7 HS.out.2.1
      clear hb oc hk
      go_wp2_with fail
      obtain ⟨W9, hW9⟩ : ∃ W9, (((((((wr.setCell ⟨w.heap.size, 0, none⟩ (.int .i64 0)).setCell ⟨w.heap.size, 1, none⟩ (.int .i64 0)).setCell ⟨w.heap.size, 2, none⟩ (.int .i64 1)).setCell ⟨w.heap.size, 3, none⟩ (.int .i64 2)).setCell ⟨w.heap.size, 4, none⟩ (.slice none 0 0)).setCell ⟨w.heap.size, 5, none⟩ (.slice none 0 0)).setCell ⟨w.heap.size, 6, none⟩ (.slice none 0 0)) = W9 := ⟨_, rfl⟩
      obtain ⟨b9, g9⟩ := set7 HS.out.2.1 none 0 none 0 none 0 ⟨0, 0, 1, 2, [], [], []⟩ hW9
      obtain ⟨u0, u1, u2, u3, u4, u5, u6⟩ : W9.cell? ⟨w.heap.size, 0, none⟩ = some (.int .i64 0) ∧ W9.cell? ⟨w.heap.size, 1, none⟩ = some (.int .i64 0) ∧ W9.cell? ⟨w.heap.size, 2, none⟩ = some (.int .i64 1) ∧ W9.cell? ⟨w.heap.size, 3, none⟩ = some (.int .i64 2) ∧ W9.cell? ⟨w.heap.size, 4, none⟩ = some (.slice none 0 0) ∧ W9.cell? ⟨w.heap.size, 5, none⟩ = some (.slice none 0 0) ∧ W9.cell? ⟨w.heap.size, 6, none⟩ = some (.slice none 0 0) := by
        refine ⟨?_, ?_, ?_, ?_, ?_, ?_, ?_⟩ <;> simp [World.cell?, b9]
      rw [hW9]
      have G9 := Aside0.mk g9
      clear hW9 b9 g9 y0 y1 y2 y3 y4 y5 y6 yf r0 r1 r2 r3 r4 r5 r6
      refine bodyPost_ret (v := .agg #[.int .i64 0, .int .i64 0, .int .i64 1, .int .i64 2, .slice none 0 0, .slice none 0 0, .slice none 0 0]) (by rw [results_cell rfl]; go_simp) rfl ?_
      exact ⟨rfl, below_grown HS.out.1 (Nat.le_refl _) G9.out⟩
def emR (k : Nat) : Option Smm := some ⟨0, 0, 1, 2, [], [], []⟩
theorem emRC (k : Nat) (z : Smm) (w : World) (h : emR k = some z) :
    Calls Tryd.prog 44 #[] w fun e w' => ∃ E0 f0 E1 f1 E2 f2, e = .returned (.agg #[.int .i64 z.n, .int .i64 z.e0, .int .i64 z.e1, .int .i64 z.e2, .slice E0 z.l0.length f0, .slice E1 z.l1.length f1, .slice E2 z.l2.length f2]) ∧ RdS w' E0 f0 E1 f1 E2 f2 z ∧ Ty w' E0 E1 E2 z ∧ Below w.heap.size w w' := by
  obtain rfl := Option.some.inj h
  have HZ : Aside0 ((w.alloc (.cells #[.int .i64 0, .int .i64 0, .int .i64 0, .int .i64 0, .slice none 0 0, .slice none 0 0, .slice none 0 0] 26)).heap[w.heap.size]? = some (.cells Z7 26 (0, 0))) := ⟨heap_alloc_new w _⟩
  have HB : Aside0 (Below w.heap.size w (w.alloc (.cells #[.int .i64 0, .int .i64 0, .int .i64 0, .int .i64 0, .slice none 0 0, .slice none 0 0, .slice none 0 0] 26))) := ⟨(Below.refl w.heap.size w).alloc (Nat.le_refl _) _⟩
  clear h
  go_enter Tryd.func44, Tryd.ntmps44
  go_wp2_with (first | (go_at_call 32; (with_reducible refine (sumE _).mono ?_); rintro e we ⟨rfl, hb⟩; have HZ2 := Aside0.mk ((hb.block _ (Array.getElem?_eq_some_iff.1 HZ.out).1).trans HZ.out); have HB2 := Aside0.mk (below_step HB.out hb); clear hb; obtain ⟨y0, y1, y2, y3, y4, y5, y6, yf⟩ := zero7 HZ2.out))
  obtain ⟨W9, hW9⟩ : ∃ W9, (((((((we.setCell ⟨w.heap.size, 0, none⟩ (.int .i64 0)).setCell ⟨w.heap.size, 1, none⟩ (.int .i64 0)).setCell ⟨w.heap.size, 2, none⟩ (.int .i64 1)).setCell ⟨w.heap.size, 3, none⟩ (.int .i64 2)).setCell ⟨w.heap.size, 4, none⟩ (.slice none 0 0)).setCell ⟨w.heap.size, 5, none⟩ (.slice none 0 0)).setCell ⟨w.heap.size, 6, none⟩ (.slice none 0 0)) = W9 := ⟨_, rfl⟩
  obtain ⟨b9, g9⟩ := set7 HZ2.out none 0 none 0 none 0 ⟨0, 0, 1, 2, [], [], []⟩ hW9
  obtain ⟨u0, u1, u2, u3, u4, u5, u6⟩ : W9.cell? ⟨w.heap.size, 0, none⟩ = some (.int .i64 0) ∧ W9.cell? ⟨w.heap.size, 1, none⟩ = some (.int .i64 0) ∧ W9.cell? ⟨w.heap.size, 2, none⟩ = some (.int .i64 1) ∧ W9.cell? ⟨w.heap.size, 3, none⟩ = some (.int .i64 2) ∧ W9.cell? ⟨w.heap.size, 4, none⟩ = some (.slice none 0 0) ∧ W9.cell? ⟨w.heap.size, 5, none⟩ = some (.slice none 0 0) ∧ W9.cell? ⟨w.heap.size, 6, none⟩ = some (.slice none 0 0) := by
    refine ⟨?_, ?_, ?_, ?_, ?_, ?_, ?_⟩ <;> simp [World.cell?, b9]
  rw [hW9]
  have G9 := Aside0.mk g9
  clear hW9 b9 g9 y0 y1 y2 y3 y4 y5 y6 yf
  refine bodyPost_ret (v := .agg #[.int .i64 0, .int .i64 0, .int .i64 1, .int .i64 2, .slice none 0 0, .slice none 0 0, .slice none 0 0]) (by rw [results_cell rfl]; go_simp) rfl ?_
  exact ⟨none, 0, none, 0, none, 0, rfl, ⟨Nat.le_refl _, Nat.le_refl _, Nat.le_refl _, Kd.C_nil _ _, Kd.C_nil _ _, Kd.C_nil _ _⟩, ⟨fun h => absurd h (Nat.lt_irrefl 0), fun h => absurd h (Nat.lt_irrefl 0), fun h => absurd h (Nat.lt_irrefl 0)⟩, below_grown HB2.out (Nat.le_refl _) G9.out⟩
/-! ### ref.Compose whole, ref.Empty, ref.All by hand -/
def cmR (k : Nat) (x y : Smm) : Option (Smm × Int) :=
  (refV k x).bind fun a => if a = true then ((refV k y).bind fun b => if b = true then (if Jp x y then some (jn x y, 0) else if 1048576 < x.n + y.n ∧ x.n + y.n ≤ 4000000000 then some (zM, 2) else none) else some (zM, 1)) else some (zM, 1)
theorem compRC (k : Nat) (x y z : Smm) (c : Int) (w : World) {A0 c0 A1 c1 A2 c2 B0 d0 B1 d1 B2 d2} (hx : RdS w A0 c0 A1 c1 A2 c2 x) (hy : RdS w B0 d0 B1 d1 B2 d2 y) (h : cmR k x y = some (z, c)) :
    Calls Tryd.prog 45 #[.agg #[.int .i64 x.n, .int .i64 x.e0, .int .i64 x.e1, .int .i64 x.e2, .slice A0 x.l0.length c0, .slice A1 x.l1.length c1, .slice A2 x.l2.length c2], .agg #[.int .i64 y.n, .int .i64 y.e0, .int .i64 y.e1, .int .i64 y.e2, .slice B0 y.l0.length d0, .slice B1 y.l1.length d1, .slice B2 y.l2.length d2]] w fun e w' => ∃ E0 f0 E1 f1 E2 f2, e = .returned (.tuple #[.agg #[.int .i64 z.n, .int .i64 z.e0, .int .i64 z.e1, .int .i64 z.e2, .slice E0 z.l0.length f0, .slice E1 z.l1.length f1, .slice E2 z.l2.length f2], .int .i64 c]) ∧ RdS w' E0 f0 E1 f1 E2 f2 z ∧ Ty w' E0 E1 E2 z ∧ Below w.heap.size w w' := by
  unfold cmR at h
  obtain ⟨a, ha, h⟩ := Option.bind_eq_some_iff.1 h
  cases a with
  | false =>
    cases h
    exact compR_bad1 k x y w hx hy ha
  | true =>
    rw [if_pos rfl] at h
    obtain ⟨b, hb, h⟩ := Option.bind_eq_some_iff.1 h
    cases b with
    | false =>
      cases h
      exact compR_bad2 k x y w hx hy ha hb
    | true =>
      rw [if_pos rfl] at h
      by_cases hj : Jp x y
      · rw [if_pos hj] at h
        cases h
        exact compR_ok k x y w hx hy ha hb hj
      · rw [if_neg hj] at h
        by_cases hk : 1048576 < x.n + y.n ∧ x.n + y.n ≤ 4000000000
        · rw [if_pos hk] at h
          cases h
          exact compR_big k x y w hx hy ha hb hk.1 hk.2
        · rw [if_neg hk] at h
          cases h
def sm (x : S26) : Smm := ⟨x.f0, x.f1.f0, x.f1.f1, x.f1.f2, x.f2.f0, x.f2.f1, x.f2.f2⟩
/-- A summary in seven cells from an address on. -/
structure El (w : World) (ad : Addr) (A0 : Option Addr) (c0 : Nat) (A1 : Option Addr) (c1 : Nat) (A2 : Option Addr) (c2 : Nat) (x : Smm) : Prop where
  h0 : w.cell? ad = some (.int .i64 x.n)
  h1 : w.cell? ⟨ad.block, ad.off + 1, none⟩ = some (.int .i64 x.e0)
  h2 : w.cell? ⟨ad.block, ad.off + 2, none⟩ = some (.int .i64 x.e1)
  h3 : w.cell? ⟨ad.block, ad.off + 3, none⟩ = some (.int .i64 x.e2)
  h4 : w.cell? ⟨ad.block, ad.off + 4, none⟩ = some (.slice A0 x.l0.length c0)
  h5 : w.cell? ⟨ad.block, ad.off + 5, none⟩ = some (.slice A1 x.l1.length c1)
  h6 : w.cell? ⟨ad.block, ad.off + 6, none⟩ = some (.slice A2 x.l2.length c2)
  rd : RdS w A0 c0 A1 c1 A2 c2 x
theorem El.below {w w' : World} {ad : Addr} {A0 c0 A1 c1 A2 c2} {x : Smm} (h : El w ad A0 c0 A1 c1 A2 c2 x) (hb : Below w.heap.size w w') : El w' ad A0 c0 A1 c1 A2 c2 x :=
  ⟨(hb.cell (World.block_lt_of_cell? w _ h.h0)).trans h.h0, (hb.cell (World.block_lt_of_cell? w _ h.h1)).trans h.h1, (hb.cell (World.block_lt_of_cell? w _ h.h2)).trans h.h2, (hb.cell (World.block_lt_of_cell? w _ h.h3)).trans h.h3,
    (hb.cell (World.block_lt_of_cell? w _ h.h4)).trans h.h4, (hb.cell (World.block_lt_of_cell? w _ h.h5)).trans h.h5, (hb.cell (World.block_lt_of_cell? w _ h.h6)).trans h.h6, h.rd.below hb⟩
theorem el_at {w : World} {A : Option Addr} {n : Nat} {l : List S26} (h : Kd.C k26 w A n l) (i : Nat) (hi : i < n) {x : S26} (hx : l[i]? = some x) : ∃ ad A0 c0 A1 c1 A2 c2, A = some ad ∧ El w (ad.add (i * 7)) A0 c0 A1 c1 A2 c2 (sm x) := by
  obtain ⟨ad, A0, c0, A1, c1, A2, c2, e, a0, a1, a2, a3, a4, a5, a6, b1, b2, b3, b4, b5, b6⟩ := at_T26 h (i : Int) (by omega) (by omega)
  have e2 : rd_T26 l (i : Int) = x := by unfold rd_T26; rw [Int.toNat_natCast, List.getD_eq_getElem?_getD, hx]; rfl
  subst e2
  rw [Int.toNat_natCast] at *
  exact ⟨ad, A0, c0, A1, c1, A2, c2, e, ⟨a0, a1, a2, a3, a4, a5, a6, ⟨b1, b3, b5, b2, b4, b6⟩⟩⟩
def allL (k : Nat) : List S26 → Smm → Option (Smm × Int)
  | [], s => some (s, 0)
  | x :: l, s => (cmR k s (sm x)).bind fun t => if t.2 = 0 then allL k l t.1 else some (zM, t.2)
def allR (k : Nat) (l : List S26) : Option (Smm × Int) := (emR k).bind fun s => allL k l s
theorem setAny {w : World} {kz : Nat} {u0 u1 u2 u3 u4 u5 u6 : Value} (h : w.heap[kz]? = some (.cells #[u0, u1, u2, u3, u4, u5, u6] 26 (0, 0))) (A0 : Option Addr) (c0 : Nat) (A1 : Option Addr) (c1 : Nat) (A2 : Option Addr) (c2 : Nat) (x : Smm) {w7 : World}
    (h7 : ((((((w.setCell ⟨kz, 0, none⟩ (.int .i64 x.n)).setCell ⟨kz, 1, none⟩ (.int .i64 x.e0)).setCell ⟨kz, 2, none⟩ (.int .i64 x.e1)).setCell ⟨kz, 3, none⟩ (.int .i64 x.e2)).setCell ⟨kz, 4, none⟩ (.slice A0 x.l0.length c0)).setCell ⟨kz, 5, none⟩ (.slice A1 x.l1.length c1)).setCell ⟨kz, 6, none⟩ (.slice A2 x.l2.length c2) = w7) :
    w7.heap[kz]? = some (.cells #[.int .i64 x.n, .int .i64 x.e0, .int .i64 x.e1, .int .i64 x.e2, .slice A0 x.l0.length c0, .slice A1 x.l1.length c1, .slice A2 x.l2.length c2] 26 (0, 0)) ∧ w.grownBy w7 (some kz) := by
  subst h7
  refine ⟨?_, (((((((grownBy_cell _ _ _ _).trans (grownBy_cell _ _ _ _)).trans (grownBy_cell _ _ _ _)).trans (grownBy_cell _ _ _ _)).trans (grownBy_cell _ _ _ _)).trans (grownBy_cell _ _ _ _)).trans (grownBy_cell _ _ _ _))⟩
  rw [heap_setCell_same _ _ _ _ _ _ (heap_setCell_same _ _ _ _ _ _ (heap_setCell_same _ _ _ _ _ _ (heap_setCell_same _ _ _ _ _ _ (heap_setCell_same _ _ _ _ _ _ (heap_setCell_same _ _ _ _ _ _ (heap_setCell_same _ _ _ _ _ _ h))))))]
  rfl
theorem Bo.frz {w : World} {b : Nat} {A0 c0 A1 c1 A2 c2} {x : Smm} (h : Bo w b A0 c0 A1 c1 A2 c2 x) (j : Nat) : w.frozen? ⟨b, j, none⟩ = false := Oc.fz h.blk j
/-- What the loop of ref.All holds. -/
structure La (w w' : World) (S0 : Option Addr) (s0 : Nat) (S1 : Option Addr) (s1 : Nat) (S2 : Option Addr) (s2 : Nat) (sb : Nat) (x : Smm) : Prop where
  z : w'.heap[w.heap.size]? = some (.cells Z7 26 (0, 0))
  b : Bo w' sb S0 s0 S1 s1 S2 s2 x
  t : Ty w' S0 S1 S2 x
  bel : Below w.heap.size w w'
  lt : w.heap.size < sb
theorem allRC (k : Nat) (l : List S26) (z : Smm) (c : Int) (w : World) {A0 : Option Addr} {c0 : Nat} (hl : Kd.C k26 w A0 l.length l) (hc : l.length ≤ c0) (h5 : l.length ≤ 8) (h : allR k l = some (z, c)) :
    Calls Tryd.prog 40 #[.slice A0 l.length c0] w fun e w' => ∃ E0 f0 E1 f1 E2 f2, e = .returned (.tuple #[.agg #[.int .i64 z.n, .int .i64 z.e0, .int .i64 z.e1, .int .i64 z.e2, .slice E0 z.l0.length f0, .slice E1 z.l1.length f1, .slice E2 z.l2.length f2], .int .i64 c]) ∧ RdS w' E0 f0 E1 f1 E2 f2 z ∧ Ty w' E0 E1 E2 z ∧ Below w.heap.size w w' := by
  unfold allR at h
  obtain ⟨em, hem, h1⟩ := Option.bind_eq_some_iff.1 h
  clear h
  have h := h1
  clear h1
  have HL := Aside0.mk hl
  have HC := Aside0.mk hc
  have HEm := Aside0.mk hem
  have HH := Aside0.mk h
  clear hl hc hem h
  obtain ⟨n, hn⟩ : ∃ n, l.length = n := ⟨_, rfl⟩
  rw [hn] at HL HC h5
  rw [hn]
  have H5 := Aside0.mk h5
  clear h5
  have HN := Aside0.mk hn
  clear hn
  go_enter Tryd.func40, Tryd.ntmps40
  go_upto_region 1 with fail
  have hz0 := heap_alloc_new w (.cells Z7 26)
  have hx0 := (Below.refl w.heap.size w).alloc (Nat.le_refl _) (.cells Z7 26)
  have HZ0 := Aside0.mk hz0
  have HX0 := Aside0.mk hx0
  clear hz0 hx0
  go_upto_region 2 with (first | (go_at_call 44; (with_reducible refine (emRC k em _ HEm.out).mono ?_); rintro e we ⟨G0, g0, G1, g1, G2, g2, rfl, hr, ht, hb⟩; have HRm := Aside0.mk hr; have HTm := Aside0.mk ht; have HBm := Aside0.mk hb; clear hr ht hb))
  obtain ⟨W1, hW1⟩ : ∃ W1, we.alloc (.cells #[.int .i64 em.n, .int .i64 em.e0, .int .i64 em.e1, .int .i64 em.e2, .slice G0 em.l0.length g0, .slice G1 em.l1.length g1, .slice G2 em.l2.length g2] 26) = W1 := ⟨_, rfl⟩
  have HS : Aside0 (La w W1 G0 g0 G1 g1 G2 g2 we.heap.size em) := ⟨by
    have ha := (Below.refl we.heap.size we).alloc (Nat.le_refl _) (.cells #[.int .i64 em.n, .int .i64 em.e0, .int .i64 em.e1, .int .i64 em.e2, .slice G0 em.l0.length g0, .slice G1 em.l1.length g1, .slice G2 em.l2.length g2] 26)
    have hz := (HBm.out.block _ (Array.getElem?_eq_some_iff.1 HZ0.out).1).trans HZ0.out
    rw [← hW1]
    refine ⟨(ha.block _ (Array.getElem?_eq_some_iff.1 hz).1).trans hz, Bo.new HRm.out, HTm.out.below ha, ?_, (Array.getElem?_eq_some_iff.1 hz).1⟩
    exact below_step (below_step HX0.out HBm.out) ha⟩
  obtain ⟨sb, hsb⟩ : ∃ sb, we.heap.size = sb := ⟨_, rfl⟩
  rw [hsb] at HS
  rw [hsb]
  rw [hW1]
  clear hW1 hsb HRm HTm HBm HX0 HZ0
  go_wp2_with fail
  go_loopg [5] n (fun kq v5 w' => ∃ (i : Nat) (x : Smm) (S0 : Option Addr) (s0 : Nat) (S1 : Option Addr) (s1 : Nat) (S2 : Option Addr) (s2 : Nat), kq + i = n ∧ v5 = .int .i64 (i : Int) ∧ Aside0 (allL k (l.drop i) x = some (z, c)) ∧ Aside0 (La w w' S0 s0 S1 s1 S2 s2 sb x))
  case atStart => exact ⟨0, em, G0, g0, G1, g1, G2, g2, by omega, rfl, HH, HS⟩
  case round =>
    clear HS HH
    obtain ⟨i, x, S0, s0, S1, s1, S2, s2, hi, rfl, HH, HS⟩ := hrel
    by_cases ci : i < n
    · have cc0 : decide ((i : Int) < (n : Int)) = true := decide_eq_true (by omega)
      have cc1 : (0 ≤ (i : Int)) = True := eq_true (by omega)
      have cc2 : ((i : Int) < (n : Int)) = True := eq_true (by omega)
      obtain ⟨j1, rfl⟩ : ∃ j1, gk = j1 + 1 := ⟨gk - 1, by omega⟩
      have hil : i < l.length := by have := HN.out; omega
      obtain ⟨y, hy⟩ : ∃ y, l[i] = y := ⟨_, rfl⟩
      have hyi : l[i]? = some y := by rw [List.getElem?_eq_getElem hil, hy]
      obtain ⟨ad, Y0, y0, Y1, y1, Y2, y2, e1, he⟩ := el_at HL.out i ci hyi
      subst e1
      obtain ⟨yv, hyv⟩ : ∃ yv, sm y = yv := ⟨_, rfl⟩
      have h2 := HH.out
      rw [List.drop_eq_getElem_cons hil, hy, allL, hyv] at h2
      rw [hyv] at he
      obtain ⟨⟨t, q⟩, ht, h3⟩ := Option.bind_eq_some_iff.1 h2
      have HE := Aside0.mk he
      have HT := Aside0.mk ht
      have H3 := Aside0.mk h3
      have HI := Aside0.mk hi
      clear hy hyi he h2 ht h3 hil hyv HH
      go_upto_region 5 with fail
      have HKP : Aside0 (∀ W, Below wr.heap.size wr W → (fun w' => w'.cell? ⟨sb, 0, none⟩ = some (.int .i64 x.n) ∧ w'.cell? ⟨sb, 1, none⟩ = some (.int .i64 x.e0) ∧ w'.cell? ⟨sb, 2, none⟩ = some (.int .i64 x.e1) ∧ w'.cell? ⟨sb, 3, none⟩ = some (.int .i64 x.e2) ∧ w'.cell? ⟨sb, 4, none⟩ = some (.slice S0 x.l0.length s0) ∧ w'.cell? ⟨sb, 5, none⟩ = some (.slice S1 x.l1.length s1) ∧ w'.cell? ⟨sb, 6, none⟩ = some (.slice S2 x.l2.length s2) ∧ w'.cell? (ad.add (i * 7)) = some (.int .i64 yv.n) ∧ w'.cell? ⟨(ad.add (i * 7)).block, (ad.add (i * 7)).off + 1, none⟩ = some (.int .i64 yv.e0) ∧ w'.cell? ⟨(ad.add (i * 7)).block, (ad.add (i * 7)).off + 2, none⟩ = some (.int .i64 yv.e1) ∧ w'.cell? ⟨(ad.add (i * 7)).block, (ad.add (i * 7)).off + 3, none⟩ = some (.int .i64 yv.e2) ∧ w'.cell? ⟨(ad.add (i * 7)).block, (ad.add (i * 7)).off + 4, none⟩ = some (.slice Y0 yv.l0.length y0) ∧ w'.cell? ⟨(ad.add (i * 7)).block, (ad.add (i * 7)).off + 5, none⟩ = some (.slice Y1 yv.l1.length y1) ∧ w'.cell? ⟨(ad.add (i * 7)).block, (ad.add (i * 7)).off + 6, none⟩ = some (.slice Y2 yv.l2.length y2)) W) := ⟨fun W hb => by
        obtain ⟨p0, p1, p2, p3, p4, p5, p6⟩ := (HS.out.b.below hb).cells
        have he := (HE.out.below HS.out.bel).below hb
        exact ⟨p0, p1, p2, p3, p4, p5, p6, he.h0, he.h1, he.h2, he.h3, he.h4, he.h5, he.h6⟩⟩
      have HX := Aside0.mk (Below.refl wr.heap.size wr).drew
      refine Go.Proofs.YtkhnifehcnlpjaaDoorW.PrintLast.start_ (n := 12) (S := fun w' => w'.cell? ⟨sb, 0, none⟩ = some (.int .i64 x.n) ∧ w'.cell? ⟨sb, 1, none⟩ = some (.int .i64 x.e0) ∧ w'.cell? ⟨sb, 2, none⟩ = some (.int .i64 x.e1) ∧ w'.cell? ⟨sb, 3, none⟩ = some (.int .i64 x.e2) ∧ w'.cell? ⟨sb, 4, none⟩ = some (.slice S0 x.l0.length s0) ∧ w'.cell? ⟨sb, 5, none⟩ = some (.slice S1 x.l1.length s1) ∧ w'.cell? ⟨sb, 6, none⟩ = some (.slice S2 x.l2.length s2) ∧ w'.cell? (ad.add (i * 7)) = some (.int .i64 yv.n) ∧ w'.cell? ⟨(ad.add (i * 7)).block, (ad.add (i * 7)).off + 1, none⟩ = some (.int .i64 yv.e0) ∧ w'.cell? ⟨(ad.add (i * 7)).block, (ad.add (i * 7)).off + 2, none⟩ = some (.int .i64 yv.e1) ∧ w'.cell? ⟨(ad.add (i * 7)).block, (ad.add (i * 7)).off + 3, none⟩ = some (.int .i64 yv.e2) ∧ w'.cell? ⟨(ad.add (i * 7)).block, (ad.add (i * 7)).off + 4, none⟩ = some (.slice Y0 yv.l0.length y0) ∧ w'.cell? ⟨(ad.add (i * 7)).block, (ad.add (i * 7)).off + 5, none⟩ = some (.slice Y1 yv.l1.length y1) ∧ w'.cell? ⟨(ad.add (i * 7)).block, (ad.add (i * 7)).off + 6, none⟩ = some (.slice Y2 yv.l2.length y2)) (ds := []) #[false, false, false, false, false, false, false, false, false, false, false, false] (by kernel_rfl) rfl (by rfl) (HKP.out _ HX.out) (fun hS => ?_)
      refine Go.Proofs.YtkhnifehcnlpjaaDoorW.PrintLast.take_ (i := 0) (N := some 16) (v := (.agg #[.int .i64 x.n, .int .i64 x.e0, .int .i64 x.e1, .int .i64 x.e2, .slice S0 x.l0.length s0, .slice S1 x.l1.length s1, .slice S2 x.l2.length s2])) #[true, false, false, false, false, false, false, false, false, false, false, false] rfl rfl (by kernel_rfl) (fun _ _ _ h => h) (Or.inl ⟨by rfl, by intro w hSw; (try dsimp only at hSw); go_simp⟩) hS rfl ?_
      try simp only [Act.put, List.setIfInBounds_toArray, List.set_cons_zero, List.set_cons_succ]
      refine Go.Proofs.YtkhnifehcnlpjaaDoorW.PrintLast.take_ (i := 1) (N := some 17) (v := (.slice (some ad) n c0)) #[true, true, false, false, false, false, false, false, false, false, false, false] rfl rfl (by kernel_rfl) (fun _ _ _ h => h) (Or.inl ⟨by rfl, by intro w hSw; (try dsimp only at hSw); go_simp⟩) hS rfl ?_
      try simp only [Act.put, List.setIfInBounds_toArray, List.set_cons_zero, List.set_cons_succ]
      refine Go.Proofs.YtkhnifehcnlpjaaDoorW.PrintLast.take_ (i := 2) (N := some 18) (v := (.int .i64 (i : Int))) #[true, true, true, false, false, false, false, false, false, false, false, false] rfl rfl (by kernel_rfl) (fun _ _ _ h => h) (Or.inl ⟨by rfl, by intro w hSw; (try dsimp only at hSw); go_simp⟩) hS rfl ?_
      try simp only [Act.put, List.setIfInBounds_toArray, List.set_cons_zero, List.set_cons_succ]
      refine Go.Proofs.YtkhnifehcnlpjaaDoorW.PrintLast.take_ (i := 3) (N := some 19) (v := (.pointer (some (ad.add (i * 7))))) #[true, true, true, true, false, false, false, false, false, false, false, false] rfl rfl (by kernel_rfl) (fun _ _ _ h => h) (Or.inl ⟨by rfl, by intro w hSw; (try dsimp only at hSw); go_simp⟩) hS rfl ?_
      try simp only [Act.put, List.setIfInBounds_toArray, List.set_cons_zero, List.set_cons_succ]
      refine Go.Proofs.YtkhnifehcnlpjaaDoorW.PrintLast.take_ (i := 4) (N := some 20) (v := (.agg #[.int .i64 yv.n, .int .i64 yv.e0, .int .i64 yv.e1, .int .i64 yv.e2, .slice Y0 yv.l0.length y0, .slice Y1 yv.l1.length y1, .slice Y2 yv.l2.length y2])) #[true, true, true, true, true, false, false, false, false, false, false, false] rfl rfl (by kernel_rfl) (fun _ _ _ h => h) (Or.inl ⟨by rfl, by intro w hSw; (try dsimp only at hSw); go_simp⟩) hS rfl ?_
      try simp only [Act.put, List.setIfInBounds_toArray, List.set_cons_zero, List.set_cons_succ]
      refine Go.Proofs.YtkhnifehcnlpjaaDoorW.PrintLast.join_ (σ := Fs) 2 #[true, true, true, true, true, true, true, true, true, true, false, false] (fun s => [(21, s.v), (15, (.tuple #[.agg #[.int .i64 t.n, .int .i64 t.e0, .int .i64 t.e1, .int .i64 t.e2, .slice s.E0 t.l0.length s.f0, .slice s.E1 t.l1.length s.f1, .slice s.E2 t.l2.length s.f2], .int .i64 q])), (22, (.agg #[.int .i64 t.n, .int .i64 t.e0, .int .i64 t.e1, .int .i64 t.e2, .slice s.E0 t.l0.length s.f0, .slice s.E1 t.l1.length s.f1, .slice s.E2 t.l2.length s.f2])), (23, .int .i64 q), (6, .pointer (some ⟨s.kz, 0, none⟩))]) (fun s w' => Fz wr w' s t) (fun s w' hF => ?_) (fun hj => ?_)
      rotate_left
      refine Go.Proofs.YtkhnifehcnlpjaaDoorW.PrintLast.two_ (i := 5) (j := 9) (Ni := some 21) (Nj := some 6) #[true, true, true, true, true, true, false, false, false, false, false, false] #[true, true, true, true, true, false, false, false, false, true, false, false] rfl rfl rfl rfl (by kernel_rfl) (by decide) (by decide) ?_ ?_
      · skip
        intro K hK
        go_simp
        go_at_call 45; (with_reducible refine (compRC k x yv t q _ (HS.out.b.below HX.out).rd ((HE.out.below HS.out.bel).below HX.out).rd HT.out).mono ?_); rintro e wq ⟨E0, f0, E1, f1, E2, f2, rfl, hr, htz, hb⟩; have HRz := Aside0.mk hr; have HTz := Aside0.mk htz; have HX2 := Aside0.mk (HX.out.trans (hb.mono (below_size HX.out))); clear HX; have HX := HX2; clear HX2
        refine hK.out _ _ (HKP.out _ HX.out) (fun hS => ?_)
        clear hK K
        try simp only [Act.put, List.setIfInBounds_toArray, List.set_cons_zero, List.set_cons_succ]
        refine Go.Proofs.YtkhnifehcnlpjaaDoorW.PrintLast.take_ (i := 6) (N := some 15) (v := (.tuple #[.agg #[.int .i64 t.n, .int .i64 t.e0, .int .i64 t.e1, .int .i64 t.e2, .slice E0 t.l0.length f0, .slice E1 t.l1.length f1, .slice E2 t.l2.length f2], .int .i64 q])) #[true, true, true, true, true, true, true, false, false, false, false, false] rfl rfl (by kernel_rfl) (fun _ _ _ h => h) (Or.inl ⟨by rfl, by intro w hSw; (try dsimp only at hSw); go_simp⟩) hS rfl ?_
        try simp only [Act.put, List.setIfInBounds_toArray, List.set_cons_zero, List.set_cons_succ]
        refine Go.Proofs.YtkhnifehcnlpjaaDoorW.PrintLast.take_ (i := 7) (N := some 22) (v := (.agg #[.int .i64 t.n, .int .i64 t.e0, .int .i64 t.e1, .int .i64 t.e2, .slice E0 t.l0.length f0, .slice E1 t.l1.length f1, .slice E2 t.l2.length f2])) #[true, true, true, true, true, true, true, true, false, false, false, false] rfl rfl (by kernel_rfl) (fun _ _ _ h => h) (Or.inl ⟨by rfl, by intro w hSw; (try dsimp only at hSw); go_simp⟩) hS rfl ?_
        try simp only [Act.put, List.setIfInBounds_toArray, List.set_cons_zero, List.set_cons_succ]
        refine Go.Proofs.YtkhnifehcnlpjaaDoorW.PrintLast.take_ (i := 8) (N := some 23) (v := (.int .i64 q)) #[true, true, true, true, true, true, true, true, true, false, false, false] rfl rfl (by kernel_rfl) (fun _ _ _ h => h) (Or.inl ⟨by rfl, by intro w hSw; (try dsimp only at hSw); go_simp⟩) hS rfl ?_
        try simp only [Act.put, List.setIfInBounds_toArray, List.set_cons_zero, List.set_cons_succ]
        refine Go.Proofs.YtkhnifehcnlpjaaDoorW.PrintLast.one_ (i := 9) (N := some 6) #[true, true, true, true, true, true, true, true, true, true, false, false] rfl rfl (by kernel_rfl) (by decide) ?_
        intro K hK
        go_simp
        have ha := (Below.refl wq.heap.size wq).alloc (Nat.le_refl _) (.cells Z7 26)
        have HZ : Aside0 ((wq.alloc (.cells Z7 26)).heap[wq.heap.size]? = some (.cells Z7 26 (0, 0))) := ⟨heap_alloc_new _ _⟩
        have HKz : Aside0 (wr.heap.size ≤ wq.heap.size) := ⟨below_size HX.out⟩
        have HRz2 := Aside0.mk (HRz.out.below ha); clear HRz; have HRz := HRz2; clear HRz2; have HTz2 := Aside0.mk (HTz.out.below ha); clear HTz; have HTz := HTz2; clear HTz2
        have HX2 := Aside0.mk (HX.out.trans (ha.mono (below_size HX.out))); clear HX; have HX := HX2; clear HX2
        clear ha
        refine hK.out _ _ (HKP.out _ HX.out) (fun hS => ?_)
        clear hK K
        try simp only [Act.put, List.setIfInBounds_toArray, List.set_cons_zero, List.set_cons_succ]
        have hj2 := hj ⟨.tuple #[.agg #[.int .i64 t.n, .int .i64 t.e0, .int .i64 t.e1, .int .i64 t.e2, .slice E0 t.l0.length f0, .slice E1 t.l1.length f1, .slice E2 t.l2.length f2], .int .i64 q], wq.heap.size, E0, f0, E1, f1, E2, f2⟩ _ ⟨HX.out, HKz.out, HZ.out, HRz.out, HTz.out⟩; (try simp only [putAll, Act.put, List.setIfInBounds_toArray, List.set_cons_zero, List.set_cons_succ] at hj2); exact hj2
      · skip
        intro K hK
        go_simp
        have ha := (Below.refl wr.drew.heap.size wr.drew).alloc (Nat.le_refl _) (.cells Z7 26)
        have HZ : Aside0 ((wr.drew.alloc (.cells Z7 26)).heap[wr.drew.heap.size]? = some (.cells Z7 26 (0, 0))) := ⟨heap_alloc_new _ _⟩
        have HKz : Aside0 (wr.heap.size ≤ wr.drew.heap.size) := ⟨Nat.le_refl _⟩
        have HX2 := Aside0.mk (HX.out.trans (ha.mono (below_size HX.out))); clear HX; have HX := HX2; clear HX2
        clear ha
        refine hK.out _ _ (HKP.out _ HX.out) (fun hS => ?_)
        clear hK K
        try simp only [Act.put, List.setIfInBounds_toArray, List.set_cons_zero, List.set_cons_succ]
        refine Go.Proofs.YtkhnifehcnlpjaaDoorW.PrintLast.one_ (i := 5) (N := some 21) #[true, true, true, true, true, true, false, false, false, true, false, false] rfl rfl (by kernel_rfl) (by decide) ?_
        intro K hK
        go_simp
        go_at_call 45; (refine (compRC k x yv t q _ (HS.out.b.below HX.out).rd ((HE.out.below HS.out.bel).below HX.out).rd HT.out).mono ?_); rintro e wq ⟨E0, f0, E1, f1, E2, f2, rfl, hr, htz, hb⟩; have HRz := Aside0.mk hr; have HTz := Aside0.mk htz; have HZ2 := Aside0.mk ((hb.block _ (Array.getElem?_eq_some_iff.1 HZ.out).1).trans HZ.out); clear HZ; have HZ := HZ2; clear HZ2; have HX2 := Aside0.mk (HX.out.trans (hb.mono (below_size HX.out))); clear HX; have HX := HX2; clear HX2
        refine hK.out _ _ (HKP.out _ HX.out) (fun hS => ?_)
        clear hK K
        try simp only [Act.put, List.setIfInBounds_toArray, List.set_cons_zero, List.set_cons_succ]
        refine Go.Proofs.YtkhnifehcnlpjaaDoorW.PrintLast.take_ (i := 6) (N := some 15) (v := (.tuple #[.agg #[.int .i64 t.n, .int .i64 t.e0, .int .i64 t.e1, .int .i64 t.e2, .slice E0 t.l0.length f0, .slice E1 t.l1.length f1, .slice E2 t.l2.length f2], .int .i64 q])) #[true, true, true, true, true, true, true, false, false, true, false, false] rfl rfl (by kernel_rfl) (fun _ _ _ h => h) (Or.inl ⟨by rfl, by intro w hSw; (try dsimp only at hSw); go_simp⟩) hS rfl ?_
        try simp only [Act.put, List.setIfInBounds_toArray, List.set_cons_zero, List.set_cons_succ]
        refine Go.Proofs.YtkhnifehcnlpjaaDoorW.PrintLast.take_ (i := 7) (N := some 22) (v := (.agg #[.int .i64 t.n, .int .i64 t.e0, .int .i64 t.e1, .int .i64 t.e2, .slice E0 t.l0.length f0, .slice E1 t.l1.length f1, .slice E2 t.l2.length f2])) #[true, true, true, true, true, true, true, true, false, true, false, false] rfl rfl (by kernel_rfl) (fun _ _ _ h => h) (Or.inl ⟨by rfl, by intro w hSw; (try dsimp only at hSw); go_simp⟩) hS rfl ?_
        try simp only [Act.put, List.setIfInBounds_toArray, List.set_cons_zero, List.set_cons_succ]
        refine Go.Proofs.YtkhnifehcnlpjaaDoorW.PrintLast.take_ (i := 8) (N := some 23) (v := (.int .i64 q)) #[true, true, true, true, true, true, true, true, true, true, false, false] rfl rfl (by kernel_rfl) (fun _ _ _ h => h) (Or.inl ⟨by rfl, by intro w hSw; (try dsimp only at hSw); go_simp⟩) hS rfl ?_
        try simp only [Act.put, List.setIfInBounds_toArray, List.set_cons_zero, List.set_cons_succ]
        have hj2 := hj ⟨.tuple #[.agg #[.int .i64 t.n, .int .i64 t.e0, .int .i64 t.e1, .int .i64 t.e2, .slice E0 t.l0.length f0, .slice E1 t.l1.length f1, .slice E2 t.l2.length f2], .int .i64 q], wr.heap.size, E0, f0, E1, f1, E2, f2⟩ _ ⟨HX.out, HKz.out, HZ.out, HRz.out, HTz.out⟩; (try simp only [putAll, Act.put, List.setIfInBounds_toArray, List.set_cons_zero, List.set_cons_succ] at hj2); exact hj2
      obtain ⟨sv, kz, E0, f0, E1, f1, E2, f2⟩ := s
      obtain ⟨hx, hkz, hz, hrz, htz⟩ := hF
      have HZ := Aside0.mk hz; have HRz := Aside0.mk hrz; have HTz := Aside0.mk htz; have HKz := Aside0.mk hkz; have HX2 := Aside0.mk hx; clear HX; have HX := HX2; clear HX2 hrz hx hkz htz
      replace hS := (HKP.out _ HX.out)
      simp only [putAll, Act.put, List.setIfInBounds_toArray, List.set_cons_zero, List.set_cons_succ]
      obtain ⟨y0_, y1_, y2_, y3_, y4_, y5_, y6_, yf⟩ := zero7 hz
      clear hz
      refine Go.Proofs.YtkhnifehcnlpjaaDoorW.PrintLast.one_ (i := 10) (N := none) #[true, true, true, true, true, true, true, true, true, true, true, false] rfl rfl (by kernel_rfl) (by decide) ?_
      intro K hK
      go_simp
      obtain ⟨W10, hW⟩ : ∃ W, (((((((w'.setCell ⟨kz, 0, none⟩ (.int .i64 t.n)).setCell ⟨kz, 1, none⟩ (.int .i64 t.e0)).setCell ⟨kz, 2, none⟩ (.int .i64 t.e1)).setCell ⟨kz, 3, none⟩ (.int .i64 t.e2)).setCell ⟨kz, 4, none⟩ (.slice E0 t.l0.length f0)).setCell ⟨kz, 5, none⟩ (.slice E1 t.l1.length f1)).setCell ⟨kz, 6, none⟩ (.slice E2 t.l2.length f2)) = W := ⟨_, rfl⟩
      obtain ⟨b10, g10⟩ := set7 HZ.out _ _ _ _ _ _ t hW
      have hb10 := below_grown HX.out HKz.out g10
      have HZz := Aside0.mk (Bo.mk b10 (HRz.out.grown HTz.out HZ.out g10))
      have HTt := Aside0.mk (HTz.out.grown HZ.out g10)
      have HX2 := Aside0.mk hb10; clear HX; have HX := HX2; clear HX2
      rw [hW]
      refine hK.out _ _ (HKP.out _ HX.out) (fun hS => ?_)
      clear hK K hW y0_ y1_ y2_ y3_ y4_ y5_ y6_ yf b10 g10 hb10
      try simp only [Act.put, List.setIfInBounds_toArray, List.set_cons_zero, List.set_cons_succ]
      refine Go.Proofs.YtkhnifehcnlpjaaDoorW.PrintLast.take_ (i := 11) (N := some 7) (v := (.int .i64 q)) #[true, true, true, true, true, true, true, true, true, true, true, true] rfl rfl (by kernel_rfl) (fun _ _ _ h => h) (Or.inl ⟨by rfl, by intro w hSw; (try dsimp only at hSw); go_simp⟩) hS rfl ?_
      try simp only [Act.put, List.setIfInBounds_toArray, List.set_cons_zero, List.set_cons_succ]
      refine done_ (by kernel_rfl) ?_
      have hb10 := HX.out
      have HS2 : Aside0 (La w W10 S0 s0 S1 s1 S2 s2 sb x) := ⟨⟨(hb10.block _ (Array.getElem?_eq_some_iff.1 HS.out.z).1).trans HS.out.z, HS.out.b.below hb10, HS.out.t.below hb10, below_step HS.out.bel hb10, HS.out.lt⟩⟩
      have HKs : Aside0 (sb < kz) := ⟨by have h1 := (Array.getElem?_eq_some_iff.1 HS.out.b.blk).1; have h2 : wr.heap.size ≤ kz := HKz.out; omega⟩
      clear hb10 HS
      have HS := HS2
      clear HS2 HKP HX HZ HRz HTz HKz hS HE HT
      have h3 := H3.out
      clear H3
      by_cases cq : q = 0
      · rw [if_pos cq] at h3
        have HH2 := Aside0.mk h3
        clear h3
        subst cq
        obtain ⟨p0, p1, p2, p3, p4, p5, p6⟩ := HZz.out.cells
        have pf := HS.out.b.frz
        obtain ⟨m0, m1, m2, m3, m4, m5, m6⟩ := HS.out.b.cells
        go_wp2
        obtain ⟨W11, hW⟩ : ∃ W, (((((((W10.setCell ⟨sb, 0, none⟩ (.int .i64 t.n)).setCell ⟨sb, 1, none⟩ (.int .i64 t.e0)).setCell ⟨sb, 2, none⟩ (.int .i64 t.e1)).setCell ⟨sb, 3, none⟩ (.int .i64 t.e2)).setCell ⟨sb, 4, none⟩ (.slice E0 t.l0.length f0)).setCell ⟨sb, 5, none⟩ (.slice E1 t.l1.length f1)).setCell ⟨sb, 6, none⟩ (.slice E2 t.l2.length f2)) = W := ⟨_, rfl⟩
        obtain ⟨b11, g11⟩ := setAny HS.out.b.blk E0 f0 E1 f1 E2 f2 t hW
        rw [hW]
        have HS3 : Aside0 (La w W11 E0 f0 E1 f1 E2 f2 sb t) := ⟨⟨(g11.block _ (Array.getElem?_eq_some_iff.1 HS.out.z).1 (fun e => by have := Option.some.inj e; have := HS.out.lt; omega)).trans HS.out.z, ⟨b11, HZz.out.rd.grown HTt.out HS.out.b.blk g11⟩, HTt.out.grown HS.out.b.blk g11, below_grown HS.out.bel (by have := HS.out.lt; omega) g11, HS.out.lt⟩⟩
        clear hW b11 g11 p0 p1 p2 p3 p4 p5 p6 pf m0 m1 m2 m3 m4 m5 m6
        go_roundg j1
        case measure => omega
        case rel => exact ⟨i + 1, t, E0, f0, E1, f1, E2, f2, by have := HI.out; omega, by first | rfl | (congr 1; have := H5.out; unfold wrap64; omega), HH2, HS3⟩
      · rw [if_neg cq] at h3
        cases h3
        have cq1 : (q != 0) = true := bne_iff_ne.mpr cq
        obtain ⟨y0_, y1_, y2_, y3_, y4_, y5_, y6_, yf⟩ := zero7 HS.out.z
        go_wp2
        obtain ⟨W9, hW9⟩ : ∃ W9, (((((((W10.setCell ⟨w.heap.size, 0, none⟩ (.int .i64 0)).setCell ⟨w.heap.size, 1, none⟩ (.int .i64 0)).setCell ⟨w.heap.size, 2, none⟩ (.int .i64 0)).setCell ⟨w.heap.size, 3, none⟩ (.int .i64 0)).setCell ⟨w.heap.size, 4, none⟩ (.slice none 0 0)).setCell ⟨w.heap.size, 5, none⟩ (.slice none 0 0)).setCell ⟨w.heap.size, 6, none⟩ (.slice none 0 0)) = W9 := ⟨_, rfl⟩
        obtain ⟨b9, g9⟩ := set7 HS.out.z none 0 none 0 none 0 zM hW9
        have H9 := Aside0.mk (below_grown HS.out.bel (Nat.le_refl _) g9)
        obtain ⟨u0_, u1_, u2_, u3_, u4_, u5_, u6_⟩ := (Bo.mk b9 (zM_rd W9)).cells
        rw [hW9]
        clear hW9 b9 g9 y0_ y1_ y2_ y3_ y4_ y5_ y6_ yf
        refine bodyPost_ret (v := .tuple #[.agg #[.int .i64 zM.n, .int .i64 zM.e0, .int .i64 zM.e1, .int .i64 zM.e2, .slice none zM.l0.length 0, .slice none zM.l1.length 0, .slice none zM.l2.length 0], .int .i64 q]) (by rw [results_cell_tmp rfl]; go_simp) rfl ?_
        exact ⟨none, 0, none, 0, none, 0, rfl, zM_rd W9, zM_ty W9, H9.out⟩
    · have e1 : l.drop i = [] := List.drop_eq_nil_of_le (by have := HN.out; omega)
      have h3 := HH.out
      rw [e1, allL] at h3
      cases h3
      have cc0 : decide ((i : Int) < (n : Int)) = false := decide_eq_false (by omega)
      clear e1
      obtain ⟨y0_, y1_, y2_, y3_, y4_, y5_, y6_, yf⟩ := zero7 HS.out.z
      obtain ⟨m0, m1, m2, m3, m4, m5, m6⟩ := HS.out.b.cells
      go_wp2
      obtain ⟨W9, hW9⟩ : ∃ W9, (((((((wr.setCell ⟨w.heap.size, 0, none⟩ (.int .i64 z.n)).setCell ⟨w.heap.size, 1, none⟩ (.int .i64 z.e0)).setCell ⟨w.heap.size, 2, none⟩ (.int .i64 z.e1)).setCell ⟨w.heap.size, 3, none⟩ (.int .i64 z.e2)).setCell ⟨w.heap.size, 4, none⟩ (.slice S0 z.l0.length s0)).setCell ⟨w.heap.size, 5, none⟩ (.slice S1 z.l1.length s1)).setCell ⟨w.heap.size, 6, none⟩ (.slice S2 z.l2.length s2)) = W9 := ⟨_, rfl⟩
      obtain ⟨b9, g9⟩ := set7 HS.out.z S0 s0 S1 s1 S2 s2 z hW9
      have H9 := Aside0.mk (below_grown HS.out.bel (Nat.le_refl _) g9)
      have H8 := Aside0.mk (And.intro (HS.out.b.rd.grown HS.out.t HS.out.z g9) (HS.out.t.grown HS.out.z g9))
      obtain ⟨u0_, u1_, u2_, u3_, u4_, u5_, u6_⟩ := (Bo.mk b9 H8.out.1).cells
      rw [hW9]
      clear hW9 b9 g9 y0_ y1_ y2_ y3_ y4_ y5_ y6_ yf m0 m1 m2 m3 m4 m5 m6
      refine bodyPost_ret (v := .tuple #[.agg #[.int .i64 z.n, .int .i64 z.e0, .int .i64 z.e1, .int .i64 z.e2, .slice S0 z.l0.length s0, .slice S1 z.l1.length s1, .slice S2 z.l2.length s2], .int .i64 0]) (by rw [results_cell_tmp rfl]; go_simp) rfl ?_
      exact ⟨S0, s0, S1, s1, S2, s2, rfl, H8.out.1, H8.out.2, H9.out⟩
/-! ### The law AutomatonRaw, walked by hand -/
end Go.Proofs.YtkhnifehcnlpjaaDoor.QB
