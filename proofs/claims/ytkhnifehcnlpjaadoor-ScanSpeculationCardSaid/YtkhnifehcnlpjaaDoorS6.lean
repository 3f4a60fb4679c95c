/- Composition of summaries, one after another, in any order of neighbours: plain laws; contracts over valid summaries. -/
import Derived.Test.YtkhnifehcnlpjaaDoorS3
import Derived.Test.YtkhnifehcnlpjaaDoorS5
import Derived.Test.YtkhnifehcnlpjaaDoorSP
namespace Go.Proofs.YtkhnifehcnlpjaaDoor.QC
open Go Go.RowKit Go.Proofs.YtkhnifehcnlpjaaDoorW.PrintWords Go.Proofs.YtkhnifehcnlpjaaDoorW.PrintLast Go.Proofs.YtkhnifehcnlpjaaDoorW.PrintMore
set_option linter.unusedVariables false
set_option linter.unusedSimpArgs false
set_option maxRecDepth 100000
set_option maxHeartbeats 4000000
open Go.Proofs.YtkhnifehcnlpjaaDoor.Ps
theorem totS_app : ∀ (l m : List S26), totS (l ++ m) = totS l + totS m
  | [], m => by simp [totS]
  | x :: l, m => by simp only [List.cons_append, totS, totS_app l m]; omega
def Gd (l : List S26) : Prop := (∀ x ∈ l, vldS x) ∧ totS l ≤ 1048576
def allC (l : List S26) : S26 := l.foldl comp emptyS
theorem fold_vld : ∀ (l : List S26) (s : S26), vldS s → (∀ x ∈ l, vldS x) → s.f0 + totS l ≤ 1048576 → vldS (l.foldl comp s) ∧ (l.foldl comp s).f0 = s.f0 + totS l
  | [], s, h, _, _ => ⟨h, by simp [totS]⟩
  | x :: l, s, h, hl, ht => by
    have hx := hl x List.mem_cons_self
    have hn := totS_nonneg l (fun y hy => hl y (List.mem_cons_of_mem _ hy))
    simp only [totS] at ht ⊢
    have h2 := fold_vld l (comp s x) (comp_vld h hx (by omega)) (fun y hy => hl y (List.mem_cons_of_mem _ hy)) (by show s.f0 + x.f0 + totS l ≤ _; omega)
    refine ⟨h2.1, h2.2.trans ?_⟩
    show s.f0 + x.f0 + totS l = _
    omega
theorem stepL : ∀ (k : Nat) (ls : List S26) (x y z : S26), ls[k]? = some x → ls[k + 1]? = some y → (ls.set k z).eraseIdx (k + 1) = ls.take k ++ z :: ls.drop (k + 2) ∧ ls = ls.take k ++ x :: y :: ls.drop (k + 2)
  | 0, a :: b :: l, x, y, z, hx, hy => by
    obtain rfl : a = x := by simpa using hx
    obtain rfl : b = y := by simpa using hy
    exact ⟨rfl, rfl⟩
  | 0, [a], x, y, z, hx, hy => by simp at hy
  | 0, [], x, y, z, hx, hy => by simp at hx
  | k + 1, [], x, y, z, hx, hy => by simp at hx
  | k + 1, a :: l, x, y, z, hx, hy => by
    obtain ⟨h1, h2⟩ := stepL k l x y z (by simpa using hx) (by simpa using hy)
    refine ⟨?_, ?_⟩
    · show a :: (l.set k z).eraseIdx (k + 1) = _
      rw [h1]
      rfl
    · exact congrArg (a :: ·) h2
/-- Two neighbours are composed: the rest of what is known stays. -/
theorem Gd.step {ls : List S26} (h : Gd ls) {k : Nat} {x y : S26} (hx : ls[k]? = some x) (hy : ls[k + 1]? = some y) : Gd ((ls.set k (comp x y)).eraseIdx (k + 1)) ∧ allC ((ls.set k (comp x y)).eraseIdx (k + 1)) = allC ls ∧ x.f0 + y.f0 ≤ 1048576 ∧ vldS x ∧ vldS y := by
  obtain ⟨h1, h2⟩ := stepL k ls x y (comp x y) hx hy
  obtain ⟨hv, ht⟩ := h
  have vx := hv x (List.mem_of_getElem? hx)
  have vy := hv y (List.mem_of_getElem? hy)
  have va : ∀ z ∈ ls.take k, vldS z := fun z hz => hv z (List.mem_of_mem_take hz)
  have vc : ∀ z ∈ ls.drop (k + 2), vldS z := fun z hz => hv z (List.mem_of_mem_drop hz)
  have t1 : totS ls = totS (ls.take k) + (x.f0 + (y.f0 + totS (ls.drop (k + 2)))) := by
    conv => lhs; rw [h2]
    rw [totS_app]
    rfl
  have na := totS_nonneg _ va
  have nc := totS_nonneg _ vc
  have hxy : x.f0 + y.f0 ≤ 1048576 := by omega
  have vxy := comp_vld vx vy hxy
  rw [h1]
  refine ⟨⟨fun z hz => ?_, ?_⟩, ?_, hxy, vx, vy⟩
  · rcases List.mem_append.1 hz with hz | hz
    · exact va z hz
    · rcases List.mem_cons.1 hz with rfl | hz
      · exact vxy
      · exact vc z hz
  · rw [totS_app]
    simp only [totS]
    show totS (ls.take k) + (x.f0 + y.f0 + totS (ls.drop (k + 2))) ≤ _
    omega
  · unfold allC
    conv => rhs; rw [h2]
    rw [List.foldl_append, List.foldl_append, List.foldl_cons, List.foldl_cons, List.foldl_cons]
    congr 1
    have hs := fold_vld (ls.take k) emptyS empty_vld va (by show 0 + totS (ls.take k) ≤ _; have := vx.1; have := vy.1; omega)
    exact (comp_assoc _ x y hs.1).symm
theorem one_all (x : S26) : allC [x] = comp emptyS x := rfl
theorem jp_of (x y : S26) (vx : vldS x) (vy : vldS y) (hs : x.f0 + y.f0 ≤ 1048576) : Jp (sm x) (sm y) := by
  have lx := vldS_len vx
  have ly := vldS_len vy
  obtain ⟨nx, a0, a1, a2, i0, i1, i2⟩ := vx
  obtain ⟨ny, b0, b1, b2, j0, j1, j2⟩ := vy
  refine ⟨⟨nx.1, nx.2, ny.1, hs⟩, fun k hk => ?_, fun k hk => ?_, fun k hk z hz => ?_⟩
  · rcases (show k = 0 ∨ k = 1 ∨ k = 2 by omega) with rfl | rfl | rfl
    · exact a0
    · exact a1
    · exact a2
  · rcases (show k = 0 ∨ k = 1 ∨ k = 2 by omega) with rfl | rfl | rfl
    · exact ⟨lx.1, ly.1⟩
    · exact ⟨lx.2.1, ly.2.1⟩
    · exact ⟨lx.2.2, ly.2.2⟩
  · rcases (show k = 0 ∨ k = 1 ∨ k = 2 by omega) with rfl | rfl | rfl
    · have := inc_nonneg _ _ _ (by decide) j0 z hz
      exact ⟨this.1, by omega⟩
    · have := inc_nonneg _ _ _ (by decide) j1 z hz
      exact ⟨this.1, by omega⟩
    · have := inc_nonneg _ _ _ (by decide) j2 z hz
      exact ⟨this.1, by omega⟩
theorem jn_comp (x y : S26) : jn (sm x) (sm y) = sm (comp x y) := rfl
theorem vldM_at (x : S26) (vx : vldS x) : vldM 13000000 (sm x) = some true := by
  have lx := vldS_len vx
  obtain ⟨hn, a0, a1, a2, i0, i1, i2⟩ := vx
  exact valid_at x.f0 x.f1.f0 x.f1.f1 x.f1.f2 x.f2.f0 x.f2.f1 x.f2.f2 hn.1 hn.2 a0 a1 a2 i0 i1 i2 (by omega) (by omega) (by omega) 13000000 (by omega)
theorem cmpS (x y : S26) (vx : vldS x) (vy : vldS y) (hs : x.f0 + y.f0 ≤ 1048576) (w : World) {A0 c0 A1 c1 A2 c2 B0 d0 B1 d1 B2 d2} (hx : RdS w A0 c0 A1 c1 A2 c2 (sm x)) (hy : RdS w B0 d0 B1 d1 B2 d2 (sm y)) :
    Calls Tryd.prog 38 #[.agg #[.int .i64 (sm x).n, .int .i64 (sm x).e0, .int .i64 (sm x).e1, .int .i64 (sm x).e2, .slice A0 (sm x).l0.length c0, .slice A1 (sm x).l1.length c1, .slice A2 (sm x).l2.length c2], .agg #[.int .i64 (sm y).n, .int .i64 (sm y).e0, .int .i64 (sm y).e1, .int .i64 (sm y).e2, .slice B0 (sm y).l0.length d0, .slice B1 (sm y).l1.length d1, .slice B2 (sm y).l2.length d2]] w fun e w' => ∃ E0 f0 E1 f1 E2 f2, e = .returned (.tuple #[.agg #[.int .i64 (sm (comp x y)).n, .int .i64 (sm (comp x y)).e0, .int .i64 (sm (comp x y)).e1, .int .i64 (sm (comp x y)).e2, .slice E0 (sm (comp x y)).l0.length f0, .slice E1 (sm (comp x y)).l1.length f1, .slice E2 (sm (comp x y)).l2.length f2], .int .i64 0]) ∧ RdS w' E0 f0 E1 f1 E2 f2 (sm (comp x y)) ∧ Ty w' E0 E1 E2 (sm (comp x y)) ∧ Below w.heap.size w w' := by
  obtain ⟨j1, j2, j3, j4⟩ := jp_of x y vx vy hs
  exact cmpOk 13000000 (sm x) (sm y) w hx hy j1 j2 j3 j4 (vldM_at x vx) (vldM_at y vy)
theorem empS (w : World) : Calls Tryd.prog 35 #[] w fun e w' => ∃ E0 f0 E1 f1 E2 f2, e = .returned (.agg #[.int .i64 (sm emptyS).n, .int .i64 (sm emptyS).e0, .int .i64 (sm emptyS).e1, .int .i64 (sm emptyS).e2, .slice E0 (sm emptyS).l0.length f0, .slice E1 (sm emptyS).l1.length f1, .slice E2 (sm emptyS).l2.length f2]) ∧ RdS w' E0 f0 E1 f1 E2 f2 (sm emptyS) ∧ Below w.heap.size w w' := empC (sm emptyS) w rfl
/-! ### the summaries of pieces, put together -/
def smL (L : List Int) : S26 := ⟨(L.length : Int), ⟨(scanL 0 0 L).1, (scanL 1 0 L).1, (scanL 2 0 L).1⟩, ⟨(scanL 0 0 L).2, (scanL 1 0 L).2, (scanL 2 0 L).2⟩⟩
theorem sel_scan {m : Int} (hm : 0 ≤ m ∧ m ≤ 2) (R : List Int) : sel m (scanL 0 0 R).1 (scanL 1 0 R).1 (scanL 2 0 R).1 = (scanL m 0 R).1 ∧ sel m (scanL 0 0 R).2 (scanL 1 0 R).2 (scanL 2 0 R).2 = (scanL m 0 R).2 := by
  rcases (show m = 0 ∨ m = 1 ∨ m = 2 by omega) with rfl | rfl | rfl <;> exact ⟨rfl, rfl⟩
theorem scan_app (L R : List Int) (st : Int) : scanL st 0 (L ++ R) = ((scanL (scanL st 0 L).1 0 R).1, (scanL st 0 L).2 ++ (scanL (scanL st 0 L).1 0 R).2.map (fun x => (L.length : Int) + x)) := by
  have h := scanL_shift R (scanL st 0 L).1 0 L.length
  rw [Nat.add_zero] at h
  rw [scanL_append, Nat.zero_add, h]
theorem smL_app (L R : List Int) : comp (smL L) (smL R) = smL (L ++ R) := by
  have r0 := scanL_range L 0 0 (by omega) (by omega)
  have r1 := scanL_range L 1 0 (by omega) (by omega)
  have r2 := scanL_range L 2 0 (by omega) (by omega)
  unfold smL comp
  simp only [(sel_scan r0 R).1, (sel_scan r0 R).2, (sel_scan r1 R).1, (sel_scan r1 R).2, (sel_scan r2 R).1, (sel_scan r2 R).2, scan_app]
  rw [List.length_append]
  rfl
theorem smL_vld (L : List Int) (h : L.length ≤ 1048576) : vldS (smL L) := by
  have i0 := scanL_inc L 0 0
  have i1 := scanL_inc L 1 0
  have i2 := scanL_inc L 2 0
  rw [show ((0 : Nat) : Int) - 1 = -1 from rfl, show ((0 : Nat) : Int) + (L.length : Int) = (L.length : Int) by omega] at i0 i1 i2
  exact ⟨⟨by show (0 : Int) ≤ (L.length : Int); omega, by show (L.length : Int) ≤ _; omega⟩, scanL_range L 0 0 (by omega) (by omega), scanL_range L 1 0 (by omega) (by omega), scanL_range L 2 0 (by omega) (by omega), i0, i1, i2⟩
theorem fold_smL : ∀ (Ls : List (List Int)) (A : List Int), (Ls.map smL).foldl comp (smL A) = smL (A ++ Ls.flatten)
  | [], A => by simp
  | L :: Ls, A => by
    rw [List.map_cons, List.foldl_cons, smL_app, fold_smL Ls (A ++ L), List.flatten_cons, List.append_assoc]
theorem all_smL (Ls : List (List Int)) : allC (Ls.map smL) = smL Ls.flatten := by
  have h := fold_smL Ls []
  rw [List.nil_append] at h
  exact h
theorem tot_smL : ∀ Ls : List (List Int), totS (Ls.map smL) = (Ls.flatten.length : Int)
  | [] => rfl
  | L :: Ls => by
    rw [List.map_cons, totS, tot_smL Ls, List.flatten_cons, List.length_append]
    show (L.length : Int) + _ = _
    omega
theorem gd_smL (Ls : List (List Int)) (h : Ls.flatten.length ≤ 1048576) : Gd (Ls.map smL) := by
  refine ⟨fun x hx => ?_, by rw [tot_smL]; omega⟩
  obtain ⟨L, hL, rfl⟩ := List.mem_map.1 hx
  refine smL_vld L ?_
  have := (List.sublist_flatten_of_mem hL).length_le
  omega
/-- The pieces of a string that is cut every c bytes. -/
def pcsOf (s : ByteArray) (X : List S51) : List (List Int) := X.map (fun p => nm (s.extract p.f0.toNat p.f1.toNat))
theorem chP (s : ByteArray) (c : Nat) (hc : 1 ≤ c) : ∀ (d a : Nat), s.size - a ≤ d → (pcsOf s (chL (s.size : Int) (c : Int) d (a : Int))).flatten = (nm s).drop a ∧ (∀ i : Nat, ((pcsOf s (chL (s.size : Int) (c : Int) d (a : Int))).take i).flatten = ((nm s).drop a).take (i * c)) ∧ (a ≤ s.size → (chL (s.size : Int) (c : Int) d (a : Int)).length = (s.size - a + c - 1) / c)
  | 0, a, hd => by
    have e : (nm s).drop a = [] := List.drop_eq_nil_of_le (by rw [nm_len]; omega)
    refine ⟨by rw [e]; rfl, fun i => by rw [e]; simp [chL, pcsOf], fun h => ?_⟩
    show 0 = _
    rw [show s.size - a + c - 1 = c - 1 by omega, Nat.div_eq_of_lt (by omega)]
  | d + 1, a, hd => by
    unfold chL
    by_cases h : a < s.size
    · rw [if_pos (by omega)]
      have hm : mn ((a : Int) + (c : Int)) (s.size : Int) = ((min (a + c) s.size : Nat) : Int) := by unfold mn; split <;> omega
      have hp : nm (s.extract ((a : Int)).toNat (mn ((a : Int) + (c : Int)) (s.size : Int)).toNat) = ((nm s).drop a).take c := by
        rw [hm, Int.toNat_natCast, Int.toNat_natCast, piece_nm s a _ (by omega) (by omega)]
        by_cases q : a + c ≤ s.size
        · rw [show min (a + c) s.size - a = c by omega]
        · rw [List.take_of_length_le (by rw [List.length_drop, nm_len]; omega), List.take_of_length_le (by rw [List.length_drop, nm_len]; omega)]
      obtain ⟨h1, h2, h3⟩ := chP s c hc d (a + c) (by omega)
      rw [show ((a : Int) + (c : Int)) = ((a + c : Nat) : Int) by omega] at hp ⊢
      refine ⟨?_, fun i => ?_, fun _ => ?_⟩
      · show (nm (s.extract _ _) :: pcsOf s _).flatten = _
        rw [List.flatten_cons, hp, h1, ← List.drop_drop, List.take_append_drop]
      · cases i with
        | zero => simp
        | succ i =>
          show ((nm (s.extract _ _) :: pcsOf s _).take (i + 1)).flatten = _
          rw [List.take_succ_cons, List.flatten_cons, hp, h2 i, ← List.drop_drop, show (i + 1) * c = c + i * c by rw [Nat.add_mul]; omega, List.take_add]
      · rw [List.length_cons]
        by_cases q : a + c ≤ s.size
        · rw [h3 q, show s.size - a + c - 1 = (s.size - (a + c) + c - 1) + c by omega, Nat.add_div_right _ (by omega)]
        · have e0 : chL (s.size : Int) (c : Int) d ((a + c : Nat) : Int) = [] := by
            cases d with
            | zero => rfl
            | succ d => unfold chL; rw [if_neg (by omega)]
          rw [e0, List.length_nil]
          have e1 : s.size - a + c - 1 = (s.size - a - 1) + c := by omega
          rw [e1, Nat.add_div_right _ (by omega), Nat.div_eq_of_lt (by omega)]
    · rw [if_neg (by omega)]
      have e : (nm s).drop a = [] := List.drop_eq_nil_of_le (by rw [nm_len]; omega)
      refine ⟨by rw [e]; rfl, fun i => by rw [e]; simp [pcsOf], fun h2 => ?_⟩
      show 0 = _
      rw [show s.size - a + c - 1 = c - 1 by omega, Nat.div_eq_of_lt (by omega)]
theorem sumOf_sm (s : ByteArray) (p : S51) (h : 0 ≤ p.f0 ∧ p.f0 ≤ p.f1 ∧ p.f1 ≤ (s.size : Int)) : sumOf s p = smL (nm (s.extract p.f0.toNat p.f1.toNat)) := by
  unfold sumOf smL pc
  rw [nm_len, piece_size s _ _ (by omega) (by omega)]
  congr 1
  omega
/-- What Summaries makes: the summaries of the pieces. -/
theorem sums_pcs (s : ByteArray) (c : Nat) (hc : 1 ≤ c) : (chL (s.size : Int) (c : Int) s.size 0).map (sumOf s) = (pcsOf s (chL (s.size : Int) (c : Int) s.size 0)).map smL := by
  unfold pcsOf
  rw [List.map_map]
  refine List.map_congr_left (fun p hp => ?_)
  have h := chL_mem (s.size : Int) (c : Int) (by omega) s.size 0 p hp
  exact sumOf_sm s p ⟨by omega, by omega, by omega⟩
/-! ### Entries -/
def entL : Int → List S26 → List Int
  | _, [] => []
  | st, x :: l => st :: entL (pick st x.f1.f0 x.f1.f1 x.f1.f2) l
theorem entL_len : ∀ (l : List S26) (st : Int), (entL st l).length = l.length
  | [], _ => rfl
  | x :: l, st => by simp only [entL, List.length_cons, entL_len l]
theorem entL_at : ∀ (Ls : List (List Int)) (st : Int) (i : Nat), 0 ≤ st ∧ st ≤ 2 → i < Ls.length → (entL st (Ls.map smL))[i]? = some (scanL st 0 (Ls.take i).flatten).1
  | [], _, i, _, h => by simp at h
  | L :: Ls, st, 0, hst, _ => by simp [entL, scanL]
  | L :: Ls, st, i + 1, hst, h => by
    have hp : pick st (smL L).f1.f0 (smL L).f1.f1 (smL L).f1.f2 = (scanL st 0 L).1 := by
      rcases (show st = 0 ∨ st = 1 ∨ st = 2 by omega) with rfl | rfl | rfl <;> rfl
    rw [List.map_cons, entL, List.getElem?_cons_succ, hp, entL_at Ls _ i (scanL_range L st 0 hst.1 hst.2) (by simpa using h), List.take_succ_cons, List.flatten_cons, scan_app]
section
variable (l : List S26) (hl : l.length ≤ 1048576) (hv : ∀ x ∈ l, vldS x)
include hl hv
theorem ex_ok : ∀ (d i : Nat) (t : Int) (k : Nat), i + d = l.length → 4000000 + d < k → 0 ≤ t → t + totS (l.drop i) ≤ 1048576 → scan_examine.l0 k t l l.length i = some 0
  | 0, i, t, k, hi, hk, h0, h1 => by
    obtain ⟨k, rfl⟩ : ∃ j, k = j + 1 := ⟨k - 1, by omega⟩
    rw [List.drop_eq_nil_of_le (by omega)] at h1
    simp only [totS, Int.add_zero] at h1
    simp only [scan_examine.l0]
    rw [if_neg (by omega), if_neg (by omega)]
  | d + 1, i, t, k, hi, hk, h0, h1 => by
    obtain ⟨k, rfl⟩ : ∃ j, k = j + 1 := ⟨k - 1, by omega⟩
    have e0 := rdS_drop l i (by omega)
    have hm : rd_T26 l (i : Int) ∈ l := List.mem_of_mem_drop (by rw [e0]; exact List.mem_cons_self ..)
    have hx := hv _ hm
    have hlen := vldS_len hx
    obtain ⟨hn, a0, a1, a2, j0, j1, j2⟩ := id hx
    rw [e0] at h1
    have e2 : totS (rd_T26 l (i : Int) :: l.drop (i + 1)) = (rd_T26 l (i : Int)).f0 + totS (l.drop (i + 1)) := rfl
    rw [e2] at h1
    have hnn := totS_nonneg (l.drop (i + 1)) (fun y hy => hv y (List.mem_of_mem_drop hy))
    have v := valid_at (rd_T26 l (i : Int)).f0 (rd_T26 l (i : Int)).f1.f0 (rd_T26 l (i : Int)).f1.f1 (rd_T26 l (i : Int)).f1.f2 (rd_T26 l (i : Int)).f2.f0 (rd_T26 l (i : Int)).f2.f1 (rd_T26 l (i : Int)).f2.f2 hn.1 hn.2 a0 a1 a2 j0 j1 j2 (by omega) (by omega) (by omega) k (by omega)
    have e : wrap64 (t + (rd_T26 l (i : Int)).f0) = t + (rd_T26 l (i : Int)).f0 := wrap_id _ (by omega) (by omega)
    have em : mn (t + (rd_T26 l (i : Int)).f0) 1048577 = t + (rd_T26 l (i : Int)).f0 := by unfold mn; split <;> omega
    simp only [scan_examine.l0]
    rw [if_pos (by omega), if_pos (by omega), if_pos (by omega), v]
    simp only [Option.bind_some]
    rw [if_pos trivial, wrap_succ i (by omega), e, em]
    exact ex_ok d (i + 1) _ k (by omega) (by omega) (by omega) (by omega)
theorem examine_ok (ht : totS l ≤ 1048576) (k : Nat) (hk : 4000000 + l.length + 10 < k) : scan_examine.f k l = some 0 := by
  unfold scan_examine.f
  have h := ex_ok l hl hv l.length 0 0 k (by omega) (by omega) (by omega) (by rw [List.drop_zero]; omega)
  rw [show ((0 : Nat) : Int) = 0 from rfl] at h
  exact h
omit hl in
theorem next_in (i : Nat) (hi : i < l.length) (st : Int) (hst : 0 ≤ st ∧ st ≤ 2) : 0 ≤ pick st (rd_T26 l (i : Int)).f1.f0 (rd_T26 l (i : Int)).f1.f1 (rd_T26 l (i : Int)).f1.f2 ∧ pick st (rd_T26 l (i : Int)).f1.f0 (rd_T26 l (i : Int)).f1.f1 (rd_T26 l (i : Int)).f1.f2 ≤ 2 := by
  have hm : rd_T26 l (i : Int) ∈ l := List.mem_of_mem_drop (by rw [rdS_drop l i hi]; exact List.mem_cons_self ..)
  obtain ⟨_, h0, h1, h2, _⟩ := hv _ hm
  unfold pick
  split
  · exact h0
  · split
    · exact h1
    · exact h2
theorem ent_loop : ∀ (d i : Nat) (st : Int) (acc : List Int) (k : Nat), i + d = l.length → d < k → acc.length ≤ i → 0 ≤ st ∧ st ≤ 2 →
    scan_Entries.l0 k acc st l l.length i = some (acc ++ entL st (l.drop i), 0)
  | 0, i, st, acc, k, hi, hk, ha, hst => by
    obtain ⟨k, rfl⟩ : ∃ j, k = j + 1 := ⟨k - 1, by omega⟩
    simp only [scan_Entries.l0]
    rw [if_neg (by omega), List.drop_eq_nil_of_le (by omega)]
    simp [entL]
  | d + 1, i, st, acc, k, hi, hk, ha, hst => by
    obtain ⟨k, rfl⟩ : ∃ j, k = j + 1 := ⟨k - 1, by omega⟩
    have hn := next_in l hv i (by omega) st hst
    simp only [scan_Entries.l0]
    rw [if_pos (by omega), if_pos (by omega), if_pos (by omega), if_pos (by omega), rdS_drop l i (by omega), wrap_succ i (by omega)]
    simp only [Option.bind_some, entL]
    have ih := fun st' hst' => ent_loop d (i + 1) st' (acc ++ [st]) k (by omega) (by omega) (by rw [List.length_append, List.length_singleton]; omega) hst'
    unfold pick at hn ⊢
    by_cases c0 : st = 0
    · simp only [if_pos c0] at hn ⊢
      rw [ih _ hn]; simp
    · by_cases c1 : st = 1
      · simp only [if_neg c0, if_pos c1] at hn ⊢
        rw [ih _ hn]; simp
      · simp only [if_neg c0, if_neg c1, if_pos (show st = 2 by omega)] at hn ⊢
        rw [ih _ hn]; simp
theorem entries_ok (ht : totS l ≤ 1048576) (k : Nat) (hk : 4000000 + 2 * l.length + 20 < k) : scan_Entries.f k l = some (entL 0 l, 0) := by
  unfold scan_Entries.f
  rw [examine_ok l hl hv ht k (by omega)]
  simp only [Option.bind_some]
  have a := ent_loop l hl hv l.length 0 0 [] k (by omega) (by omega) (by simp) (by omega)
  rw [show ((0 : Nat) : Int) = 0 from rfl, List.drop_zero] at a
  simp only [if_true, if_pos rfl, ne_eq, not_true_eq_false, if_false]
  rw [a]
  simp
end
end Go.Proofs.YtkhnifehcnlpjaaDoor.QC
