/- Composition of summaries, one after another, in any order of neighbours: plain laws; contracts over valid summaries. -/
import Derived.Test.YtkhnifehcnlpjaaDoorB3
import Derived.Test.YtkhnifehcnlpjaaDoorB5
import Derived.Test.YtkhnifehcnlpjaaDoorBP
namespace Go.Proofs.YtkhnifehcnlpjaaDoor.QB
open Go Go.RowKit Go.Proofs.YtkhnifehcnlpjaaDoorW.PrintWords Go.Proofs.YtkhnifehcnlpjaaDoorW.PrintLast Go.Proofs.YtkhnifehcnlpjaaDoorW.PrintMore
set_option linter.unusedVariables false
set_option linter.unusedSimpArgs false
set_option maxRecDepth 100000
set_option maxHeartbeats 4000000
open Go.Proofs.YtkhnifehcnlpjaaDoor.Pl
theorem totS_app : ∀ (l m : List S26), totS (l ++ m) = totS l + totS m
  | [], m => by simp [totS]
  | x :: l, m => by simp only [List.cons_append, totS, totS_app l m]; omega
def Gd (l : List S26) : Prop := (∀ x ∈ l, vldS x) ∧ totS l ≤ 1048576
def allC (l : List S26) : S26 := l.foldl comp emptyS
theorem fold_vld : ∀ (l : List S26) (s : S26), vldS s → (∀ x ∈ l, vldS x) → s.f0 + totS l ≤ 1048576 → vldS (l.foldl comp s) ∧ (l.foldl comp s).f0 = s.f0 + totS l
  | [], s, h, _, _ => ⟨h, by simp [totS]⟩
  | x :: l, s, h, hl, ht => by
    have hx := hl x List.mem_cons_self
    have hn := totS_nonneg l (fun y hy => hl y (List.mem_cons_of_mem _ hy))
    simp only [totS] at ht ⊢
    have h2 := fold_vld l (comp s x) (comp_vld h hx (by omega)) (fun y hy => hl y (List.mem_cons_of_mem _ hy)) (by show s.f0 + x.f0 + totS l ≤ _; omega)
    refine ⟨h2.1, h2.2.trans ?_⟩
    show s.f0 + x.f0 + totS l = _
    omega
theorem stepL : ∀ (k : Nat) (ls : List S26) (x y z : S26), ls[k]? = some x → ls[k + 1]? = some y → (ls.set k z).eraseIdx (k + 1) = ls.take k ++ z :: ls.drop (k + 2) ∧ ls = ls.take k ++ x :: y :: ls.drop (k + 2)
  | 0, a :: b :: l, x, y, z, hx, hy => by
    obtain rfl : a = x := by simpa using hx
    obtain rfl : b = y := by simpa using hy
    exact ⟨rfl, rfl⟩
  | 0, [a], x, y, z, hx, hy => by simp at hy
  | 0, [], x, y, z, hx, hy => by simp at hx
  | k + 1, [], x, y, z, hx, hy => by simp at hx
  | k + 1, a :: l, x, y, z, hx, hy => by
    obtain ⟨h1, h2⟩ := stepL k l x y z (by simpa using hx) (by simpa using hy)
    refine ⟨?_, ?_⟩
    · show a :: (l.set k z).eraseIdx (k + 1) = _
      rw [h1]
      rfl
    · exact congrArg (a :: ·) h2
/-- Two neighbours are composed: the rest of what is known stays. -/
theorem Gd.step {ls : List S26} (h : Gd ls) {k : Nat} {x y : S26} (hx : ls[k]? = some x) (hy : ls[k + 1]? = some y) : Gd ((ls.set k (comp x y)).eraseIdx (k + 1)) ∧ allC ((ls.set k (comp x y)).eraseIdx (k + 1)) = allC ls ∧ x.f0 + y.f0 ≤ 1048576 ∧ vldS x ∧ vldS y := by
  obtain ⟨h1, h2⟩ := stepL k ls x y (comp x y) hx hy
  obtain ⟨hv, ht⟩ := h
  have vx := hv x (List.mem_of_getElem? hx)
  have vy := hv y (List.mem_of_getElem? hy)
  have va : ∀ z ∈ ls.take k, vldS z := fun z hz => hv z (List.mem_of_mem_take hz)
  have vc : ∀ z ∈ ls.drop (k + 2), vldS z := fun z hz => hv z (List.mem_of_mem_drop hz)
  have t1 : totS ls = totS (ls.take k) + (x.f0 + (y.f0 + totS (ls.drop (k + 2)))) := by
    conv => lhs; rw [h2]
    rw [totS_app]
    rfl
  have na := totS_nonneg _ va
  have nc := totS_nonneg _ vc
  have hxy : x.f0 + y.f0 ≤ 1048576 := by omega
  have vxy := comp_vld vx vy hxy
  rw [h1]
  refine ⟨⟨fun z hz => ?_, ?_⟩, ?_, hxy, vx, vy⟩
  · rcases List.mem_append.1 hz with hz | hz
    · exact va z hz
    · rcases List.mem_cons.1 hz with rfl | hz
      · exact vxy
      · exact vc z hz
  · rw [totS_app]
    simp only [totS]
    show totS (ls.take k) + (x.f0 + y.f0 + totS (ls.drop (k + 2))) ≤ _
    omega
  · unfold allC
    conv => rhs; rw [h2]
    rw [List.foldl_append, List.foldl_append, List.foldl_cons, List.foldl_cons, List.foldl_cons]
    congr 1
    have hs := fold_vld (ls.take k) emptyS empty_vld va (by show 0 + totS (ls.take k) ≤ _; have := vx.1; have := vy.1; omega)
    exact (comp_assoc _ x y hs.1).symm
theorem one_all (x : S26) : allC [x] = comp emptyS x := rfl
theorem jp_of (x y : S26) (vx : vldS x) (vy : vldS y) (hs : x.f0 + y.f0 ≤ 1048576) : Jp (sm x) (sm y) := by
  have lx := vldS_len vx
  have ly := vldS_len vy
  obtain ⟨nx, a0, a1, a2, i0, i1, i2⟩ := vx
  obtain ⟨ny, b0, b1, b2, j0, j1, j2⟩ := vy
  refine ⟨⟨nx.1, nx.2, ny.1, hs⟩, fun k hk => ?_, fun k hk => ?_, fun k hk z hz => ?_⟩
  · rcases (show k = 0 ∨ k = 1 ∨ k = 2 by omega) with rfl | rfl | rfl
    · exact a0
    · exact a1
    · exact a2
  · rcases (show k = 0 ∨ k = 1 ∨ k = 2 by omega) with rfl | rfl | rfl
    · exact ⟨lx.1, ly.1⟩
    · exact ⟨lx.2.1, ly.2.1⟩
    · exact ⟨lx.2.2, ly.2.2⟩
  · rcases (show k = 0 ∨ k = 1 ∨ k = 2 by omega) with rfl | rfl | rfl
    · have := inc_nonneg _ _ _ (by decide) j0 z hz
      exact ⟨this.1, by omega⟩
    · have := inc_nonneg _ _ _ (by decide) j1 z hz
      exact ⟨this.1, by omega⟩
    · have := inc_nonneg _ _ _ (by decide) j2 z hz
      exact ⟨this.1, by omega⟩
theorem jn_comp (x y : S26) : jn (sm x) (sm y) = sm (comp x y) := rfl
theorem both_at (x : S26) (vx : vldS x) : vldM 13000000 (sm x) = some true ∧ refV 13000000 (sm x) = some true := by
  have lx := vldS_len vx
  rcases both_valid x.f0 x.f1.f0 x.f1.f1 x.f1.f2 x.f2.f0 x.f2.f1 x.f2.f2 (by omega) (by omega) (by omega) 13000000 13000000 (by omega) (by omega) with h | h
  · exact ⟨h.1, h.2.1⟩
  · exact absurd vx h.2.2
theorem vldM_at (x : S26) (vx : vldS x) : vldM 13000000 (sm x) = some true := (both_at x vx).1
theorem refV_at (x : S26) (vx : vldS x) : refV 13000000 (sm x) = some true := (both_at x vx).2
theorem cmpS (x y : S26) (vx : vldS x) (vy : vldS y) (hs : x.f0 + y.f0 ≤ 1048576) (w : World) {A0 c0 A1 c1 A2 c2 B0 d0 B1 d1 B2 d2} (hx : RdS w A0 c0 A1 c1 A2 c2 (sm x)) (hy : RdS w B0 d0 B1 d1 B2 d2 (sm y)) :
    Calls Tryd.prog 38 #[.agg #[.int .i64 (sm x).n, .int .i64 (sm x).e0, .int .i64 (sm x).e1, .int .i64 (sm x).e2, .slice A0 (sm x).l0.length c0, .slice A1 (sm x).l1.length c1, .slice A2 (sm x).l2.length c2], .agg #[.int .i64 (sm y).n, .int .i64 (sm y).e0, .int .i64 (sm y).e1, .int .i64 (sm y).e2, .slice B0 (sm y).l0.length d0, .slice B1 (sm y).l1.length d1, .slice B2 (sm y).l2.length d2]] w fun e w' => ∃ E0 f0 E1 f1 E2 f2, e = .returned (.tuple #[.agg #[.int .i64 (sm (comp x y)).n, .int .i64 (sm (comp x y)).e0, .int .i64 (sm (comp x y)).e1, .int .i64 (sm (comp x y)).e2, .slice E0 (sm (comp x y)).l0.length f0, .slice E1 (sm (comp x y)).l1.length f1, .slice E2 (sm (comp x y)).l2.length f2], .int .i64 0]) ∧ RdS w' E0 f0 E1 f1 E2 f2 (sm (comp x y)) ∧ Ty w' E0 E1 E2 (sm (comp x y)) ∧ Below w.heap.size w w' := by
  obtain ⟨j1, j2, j3, j4⟩ := jp_of x y vx vy hs
  exact cmpOk 13000000 (sm x) (sm y) w hx hy j1 j2 j3 j4 (vldM_at x vx) (vldM_at y vy)
theorem empS (w : World) : Calls Tryd.prog 35 #[] w fun e w' => ∃ E0 f0 E1 f1 E2 f2, e = .returned (.agg #[.int .i64 (sm emptyS).n, .int .i64 (sm emptyS).e0, .int .i64 (sm emptyS).e1, .int .i64 (sm emptyS).e2, .slice E0 (sm emptyS).l0.length f0, .slice E1 (sm emptyS).l1.length f1, .slice E2 (sm emptyS).l2.length f2]) ∧ RdS w' E0 f0 E1 f1 E2 f2 (sm emptyS) ∧ Below w.heap.size w w' := empC (sm emptyS) w rfl
theorem allL_ok : ∀ (l : List S26) (s : S26), vldS s → (∀ x ∈ l, vldS x) → s.f0 + totS l ≤ 1048576 → allL 13000000 l (sm s) = some (sm (l.foldl comp s), 0)
  | [], s, _, _, _ => rfl
  | x :: l, s, h, hl, ht => by
    have hx := hl x List.mem_cons_self
    have hn := totS_nonneg l (fun y hy => hl y (List.mem_cons_of_mem _ hy))
    simp only [totS] at ht
    have h1 : cmR 13000000 (sm s) (sm x) = some (sm (comp s x), 0) := by
      unfold cmR
      rw [refV_at s h]
      simp only [Option.bind_some, if_true]
      rw [refV_at x hx]
      simp only [Option.bind_some, if_true]
      rw [if_pos (jp_of s x h hx (by omega))]
      rfl
    unfold allL
    rw [h1]
    simp only [Option.bind_some, if_true]
    exact allL_ok l (comp s x) (comp_vld h hx (by omega)) (fun y hy => hl y (List.mem_cons_of_mem _ hy)) (by show s.f0 + x.f0 + totS l ≤ _; omega)
theorem allR_ok (l : List S26) (h : Gd l) : allR 13000000 l = some (sm (allC l), 0) := by
  unfold allR emR
  simp only [Option.bind_some]
  exact allL_ok l emptyS empty_vld h.1 (by show 0 + totS l ≤ _; have := h.2; omega)
end Go.Proofs.YtkhnifehcnlpjaaDoor.QB
