/- The walk of the law ValueLimits, by hand. -/
import Derived.Test.YtgpjkojnmeaoiaaKD
import Derived.Laws.MakeOwn
import Derived.Laws.OwnMore
import Derived.Test.YtgpjkojnmeaoiaaKX
/- keep.Mod, by hand; nested arrays. -/
namespace Go.Proofs.Ytgpjkojnmeaoiaa.QV
open Go Go.RowKit Go.Proofs.YtgpjkojnmeaoiaaW.PrintWords Go.Proofs.YtgpjkojnmeaoiaaW.PrintLast Go.Proofs.YtgpjkojnmeaoiaaW.PrintMore
set_option linter.unusedVariables false
set_option linter.unusedSimpArgs false
set_option maxRecDepth 100000
set_option maxHeartbeats 4000000
theorem modC (n m : Int) (hm : 0 < m ∧ m ≤ 1000) (hn : -9223372036854775808 ≤ n ∧ n ≤ 9223372036854775807) (w : World) : Calls Try.prog 34 #[.int .i64 n, .int .i64 m] w fun e w' => e = .returned (.int .i64 (n % m)) ∧ w' = w := by
  have h0 : (m == 0) = false := by rw [beq_eq_false_iff_ne]; omega
  have e := Int.tmod_eq_emod (a := n) (b := m)
  have h1 := Int.emod_nonneg n (show m ≠ 0 by omega)
  have h2 := Int.emod_lt_of_pos n hm.1
  have h3 : (m.natAbs : Int) = m := by omega
  have hT : Aside0 ((0 ≤ n.tmod m → n.tmod m = n % m) ∧ (n.tmod m < 0 → n.tmod m + m = n % m)) := ⟨by
    split at e <;> omega⟩
  obtain ⟨r, hr⟩ : ∃ r, n.tmod m = r := ⟨_, rfl⟩
  have hb : -1000 < r ∧ r < 1000 := by
    rw [← hr]
    have a1 := Int.tmod_lt_of_pos n hm.1
    have a2 := Int.lt_tmod_of_pos n hm.1
    omega
  have HT : Aside0 ((0 ≤ r → r = n % m) ∧ (r < 0 → r + m = n % m)) := ⟨by rw [← hr]; exact hT.out⟩
  clear e h1 h2 h3 hT
  by_cases c : r < 0
  · have g0 : decide (r < 0) = true := decide_eq_true c
    have HR : Aside0 (r + m = n % m) := ⟨HT.out.2 c⟩
    clear HT c
    go_enter Try.func34, Try.ntmps34
    go_wp2
    go_ret
    exact ⟨by rw [← HR.out]; rfl, rfl⟩
  · have g0 : decide (r < 0) = false := decide_eq_false c
    have HR : Aside0 (r = n % m) := ⟨HT.out.1 (by omega)⟩
    clear HT c
    go_enter Try.func34, Try.ntmps34
    go_wp2
    go_ret
    exact ⟨by rw [← HR.out]; rfl, rfl⟩
/-! ### the plain half of ValueLimits -/
def nest : Nat → S28
  | 0 => nm1 1
  | n + 1 => ⟨5, 0, ⟨#[]⟩, [], [nest n]⟩
theorem okv_nest (n : Nat) : ∀ ar, ar + n ≤ 70 → okv true ar (nest n) = decide (ar + n ≤ 32 ∨ n = 0) := by
  induction n with
  | zero => intro ar _; rw [show nest 0 = nm1 1 from rfl, okv_nm]; simp
  | succ n ih =>
    intro ar h
    rw [okv_eq]
    simp only [nest, okL, ih (ar + 1) (by omega)]
    rw [Bool.eq_iff_iff]
    simp [fm, kz, u8E]
    omega
theorem nds_nest (n : Nat) : nds (nest n) = n + 1 := by
  induction n with
  | zero => exact nds_nm 1
  | succ n ih => rw [nds_eq]; simp [nest, ndsL, ih]; omega
theorem bts_nest (n : Nat) : bts (nest n) = 0 := by
  induction n with
  | zero => exact bts_nm 1
  | succ n ih => rw [bts_eq]; simp [nest, btsL, ih, ksum]; rfl
theorem nest_le (n : Nat) (h : n ≤ 64) : vd (nest n) = decide (n ≤ 32) := by
  rw [vd_eq, okv_nest n 0 (by omega), nds_nest, bts_nest]
  by_cases c : n ≤ 32
  · simp [c]; omega
  · simp [c]; omega
theorem dpt_nest (n : Nat) : dpt (nest n) = n := by
  induction n with
  | zero => rfl
  | succ n ih => rw [dpt_eq]; simp [nest, dptL, ih]
theorem nda_nest (n : Nat) : nda (nest n) = n + 1 := by
  induction n with
  | zero => rfl
  | succ n ih => rw [nda_eq]; simp [nest, ndaL, ih]; omega
theorem cnt_nest (n : Nat) : cnt (nest n) = n + 1 := by
  induction n with
  | zero => exact cnt_nm 1
  | succ n ih => rw [cnt_eq]; simp [nest, cntL, ksz, ih]; show 1 + 0 + (n + 1) = _; omega
theorem wv_nest (n : Nat) : Wv (nest n) := by
  induction n with
  | zero => exact wv_nm 1 (by omega)
  | succ n ih => exact .mk _ (by simp [nest]) (by simp [nest]) (show (⟨#[]⟩ : ByteArray).size ≤ 140737488351232 from Nat.zero_le _) (by simp [nest]) (by simp [nest]) (by simp [nest]) (by simp [nest]; exact ih)
/-- An array of zero values. -/
def zarr (n : Nat) : S28 := ⟨5, 0, ⟨#[]⟩, [], List.replicate n ⟨0, 0, ⟨#[]⟩, [], []⟩⟩
theorem okL_rep (n : Nat) : okL true 1 (List.replicate n ⟨0, 0, ⟨#[]⟩, [], []⟩) = true := by
  induction n with
  | zero => rfl
  | succ n ih => rw [List.replicate_succ, okL, ih, okv_eq]; simp [fm, kz, u8E]
theorem ndsL_rep (n : Nat) : ndsL (List.replicate n ⟨0, 0, ⟨#[]⟩, [], []⟩) = n := by
  induction n with
  | zero => rfl
  | succ n ih => rw [List.replicate_succ, ndsL, ih, nds_eq]; simp; omega
theorem btsL_rep (n : Nat) : btsL (List.replicate n ⟨0, 0, ⟨#[]⟩, [], []⟩) = 0 := by
  induction n with
  | zero => rfl
  | succ n ih => rw [List.replicate_succ, btsL, ih, bts_eq]; simp [ksum]; rfl
theorem cntL_rep (n : Nat) : cntL (List.replicate n ⟨0, 0, ⟨#[]⟩, [], []⟩) = n := by
  induction n with
  | zero => rfl
  | succ n ih => rw [List.replicate_succ, cntL, ih, cnt_eq]; simp [ksz, cntL]; show 1 + 0 + n = _; omega
theorem vd_zarr (n : Nat) (h : n ≤ 2000) : vd (zarr n) = decide (n ≤ 1024) := by
  rw [vd_eq, okv_eq, nds_eq, bts_eq]
  simp [zarr, fm, kz, u8E, okL_rep, ndsL_rep, btsL_rep, ksum]
  have e : (⟨#[]⟩ : ByteArray).size = 0 := rfl
  rw [e]
  by_cases c : n ≤ 1024
  · simp [c]; omega
  · simp [c]
theorem wv_zarr (n : Nat) (h : n ≤ 2000) : Wv (zarr n) := .mk _ (by simp [zarr]) (by simp [zarr]) (show (⟨#[]⟩ : ByteArray).size ≤ 140737488351232 from Nat.zero_le _) (by simp [zarr]) (by simp [zarr]) (by simp [zarr]; omega) (by
  intro q hq
  obtain rfl := List.eq_of_mem_replicate hq
  exact .mk _ (by simp) (by simp) (show (⟨#[]⟩ : ByteArray).size ≤ 140737488351232 from Nat.zero_le _) (by simp) (by simp) (by simp) (by simp))
theorem cnt_zarr (n : Nat) : cnt (zarr n) = n + 1 := by rw [cnt_eq]; simp [zarr, cntL_rep, ksz]; show 1 + 0 + n = _; omega
end Go.Proofs.Ytgpjkojnmeaoiaa.QV

/- Values are valid exactly up to the limits: the walk of the law, by hand. -/
namespace Go.Proofs.Ytgpjkojnmeaoiaa.QV
open Go Go.RowKit Go.Proofs.YtgpjkojnmeaoiaaW.PrintWords Go.Proofs.YtgpjkojnmeaoiaaW.PrintLast Go.Proofs.YtgpjkojnmeaoiaaW.PrintMore
set_option linter.unusedVariables false
set_option linter.unusedSimpArgs false
set_option maxRecDepth 100000
set_option maxHeartbeats 4000000
/-- The value of the first loop, in block b. -/
def Ns (w W : World) (b : Nat) (i : Nat) (A : Option Addr) (n c : Nat) : Prop := Below w.heap.size w W ∧ w.heap.size ≤ b ∧ n = (nest i).f4.length ∧ W.heap[b]? = some (.cells #[.int .i64 (nest i).f0, .int .i64 (nest i).f1, .string ⟨#[]⟩, .slice none 0 0, .slice A n c] 28 (0, 0)) ∧
  k28.M W (b + 1) (fun _ => True) (nest i) [.int .i64 (nest i).f0, .int .i64 (nest i).f1, .string ⟨#[]⟩, .slice none 0 0, .slice A n c]
theorem fillb {W : World} {b t : Nat} {c0 c1 c2 c3 c4 : Value} (h : W.heap[b]? = some (.cells #[c0, c1, c2, c3, c4] t (0, 0))) (v0 v1 v2 v3 v4 : Value) : ∃ W', ((((W.setCell ⟨b, 0, none⟩ v0).setCell ⟨b, 1, none⟩ v1).setCell ⟨b, 2, none⟩ v2).setCell ⟨b, 3, none⟩ v3).setCell ⟨b, 4, none⟩ v4 = W' ∧
    W'.heap[b]? = some (.cells #[v0, v1, v2, v3, v4] t (0, 0)) ∧ W.grownBy W' (some b) := by
  have gc : ∀ (W : World) (j : Nat) (v : Value), W.grownBy (W.setCell ⟨b, j, none⟩ v) (some b) := fun W j v => ⟨rfl, rfl, rfl, by simp, fun k _ hk => Below.heap_setCell _ _ _ k (fun e => hk (by rw [e]))⟩
  have hg := ((((gc W 0 v0).trans (gc _ 1 v1)).trans (gc _ 2 v2)).trans (gc _ 3 v3)).trans (gc _ 4 v4)
  refine ⟨_, rfl, ?_, hg⟩
  rw [heap_setCell_same _ _ _ _ _ _ (heap_setCell_same _ _ _ _ _ _ (heap_setCell_same _ _ _ _ _ _ (heap_setCell_same _ _ _ _ _ _ (heap_setCell_same _ _ _ _ _ _ h))))]
  rfl
theorem Ns.next {w wr W' : World} {b i : Nat} {A : Option Addr} {n c : Nat} (h : Ns w wr b i A n c) (hW' : ((((((wr.alloc (.cells #[.int .i64 (nest i).f0, .int .i64 (nest i).f1, .string ⟨#[]⟩, .slice none 0 0, .slice A n c] 28)).setCell ⟨b, 0, none⟩ (.int .i64 5)).setCell ⟨b, 1, none⟩ (.int .i64 0)).setCell ⟨b, 2, none⟩ (.string ⟨#[]⟩)).setCell ⟨b, 3, none⟩ (.slice none 0 0)).setCell ⟨b, 4, none⟩ (.slice (some ⟨wr.heap.size, 0, none⟩) 1 1)) = W') :
    Ns w W' b (i + 1) (some ⟨wr.heap.size, 0, none⟩) 1 1 := by
  obtain ⟨h1, h2, h3, h4, h5⟩ := h
  have hlt := (Array.getElem?_eq_some_iff.1 h4).1
  have hb := new_below wr (.cells #[.int .i64 (nest i).f0, .int .i64 (nest i).f1, .string ⟨#[]⟩, .slice none 0 0, .slice A n c] 28)
  obtain ⟨W2, e, k1, k2⟩ := fillb ((hb.block b hlt).trans h4) (.int .i64 5) (.int .i64 0) (.string ⟨#[]⟩) (.slice none 0 0) (.slice (some ⟨wr.heap.size, 0, none⟩) 1 1)
  rw [hW'] at e
  subst e
  have hz : Below w.heap.size w W' := (below_step h1 hb).trans ⟨k2.os, k2.tape, k2.output, k2.size, fun k hk => k2.block k (by have := Below.size h1; have := Below.size hb; omega) (fun e => by have := Option.some.inj e; omega)⟩
  refine ⟨hz, h2, rfl, k1, ?_⟩
  have hm : k28.M wr (b + 1) (fun k => True ∧ some k ≠ some wr.heap.size) (nest i) [.int .i64 (nest i).f0, .int .i64 (nest i).f1, .string ⟨#[]⟩, .slice none 0 0, .slice A n c] := k28.M_mono (fun k hk => ⟨trivial, fun e => by have := hk.2.2.1; have := Option.some.inj e; omega⟩) (k28.M_bound h5)
  have hr : Reps (k28.M wr (b + 1) (fun k => True ∧ some k ≠ some wr.heap.size)) 5 [nest i] [.int .i64 (nest i).f0, .int .i64 (nest i).f1, .string ⟨#[]⟩, .slice none 0 0, .slice A n c] := ⟨rfl, fun j p hp => by
    match j, hp with
    | 0, hp => obtain rfl := Option.some.inj hp; exact hm
    | j + 1, hp => simp at hp⟩
  have ho := OwnRow.lit (e := 28) wr (b + 1) hr (by omega) (by simp)
  have ho2 := ho.other k2 (Or.inr (fun e => by have := Option.some.inj e; simp at this; omega))
  have hR : k28.R 28 W' (b + 1) (fun _ => True) (.slice (some ⟨wr.heap.size, 0, none⟩) 1 1) [nest i] := ⟨fun _ _ => trivial, ho2.imp_ (fun y cs hM => k28.M_mono (fun k hk => hk.1) (k28.M_move (fun k hk => (k2.block k (by have := hk.2.2.1; have := Below.size hb; omega) (fun e => by have := Option.some.inj e; have := hk.2.1; omega)).trans (hb.block k hk.2.2.1)) (k28.M_bound hM)))⟩
  exact k28_mkM W' (b + 1) (fun _ => True) (nest (i + 1)) (Kd.R_nil _ _ _ _ _) hR
theorem mkVals (W : World) (n : Nat) (h : n ≤ 2000) : ∃ W', Sem.run Try.prog (Instr.makeSlice 23 (.int .i64 (n : Int)) (.int .i64 (n : Int))) W = .ok (.slice (some ⟨W.heap.size, 0, none⟩) n n) W' ∧ Below W.heap.size W W' ∧ Kd.C k28 W' (some ⟨W.heap.size, 0, none⟩) n (List.replicate n zV) := by
  obtain ⟨i0, hi, hzz⟩ := Option.map_eq_some_iff.1 info28
  simp only [Prod.mk.injEq] at hzz
  obtain ⟨hz0, hz1, hz2⟩ := hzz
  have hr := run_make (P := Try.prog) W 23 28 i0 _ Try.underlying23 hi hz0 .i64 .i64 (n : Int) (n : Int) (by omega) (by omega) (by rw [hz2]; omega) (by omega)
  simp only [Int.toNat_natCast] at hr
  rw [hz1] at hr
  refine ⟨_, hr, new_below W _, ?_⟩
  have hrep := Kd.reps_made (R := k28.K W) (z0 := zV) (size := 5) (z := .agg #[.int .i64 0, .int .i64 0, .string ⟨#[]⟩, .slice none 0 0, .slice none 0 0]) (by rfl) (by omega) (k28_mk W zV (rd_z W).k3 (rd_z W).r3 (rd_z W).k4 (rd_z W).r4) n
  obtain ⟨A, c, e, _, hC⟩ := ((OwnRow.lit (e := 28) W 0 hrep (Nat.zero_le _) (by simp; omega)).imp_ (fun _ _ h => k28.K_below (new_below W _) h)).reads
  rw [List.length_replicate] at e hC
  injection e with e1 e2 e3
  subst e1
  rw [Array.toArray_toList] at hC
  exact hC
theorem info5 : (Try.prog.info? 5).map (fun i => (i.zero, i.size, i.bytes)) = some (some (.int .u8 0), 1, 1) := by kernel_rfl
def br (i n : Nat) : Array Value := (List.replicate i (Value.int .u8 120) ++ List.replicate (n - i) (Value.int .u8 0)).toArray
theorem br_set {i n : Nat} (h : i < n) : (br i n).setIfInBounds i (.int .u8 120) = br (i + 1) n := by
  unfold br
  rw [List.setIfInBounds_toArray]
  congr 1
  rw [List.set_append_right _ _ (by simp), List.length_replicate, Nat.sub_self]
  obtain ⟨k, hk⟩ : ∃ k, n - i = k + 1 := ⟨n - i - 1, by omega⟩
  rw [hk, List.replicate_succ, List.set_cons_zero, show n - (i + 1) = k by omega, List.replicate_succ', List.append_assoc]
  rfl
theorem br_at {i n : Nat} (h : i < n) : (br i n)[i]? = some (.int .u8 0) := by
  unfold br
  obtain ⟨k, hk⟩ : ∃ k, n - i = k + 1 := ⟨n - i - 1, by omega⟩
  simp [hk, List.replicate_succ]
theorem mkBytes (W : World) (n : Nat) (h : n ≤ 5000) : ∃ W', Sem.run Try.prog (Instr.makeSlice 42 (.int .i64 (n : Int)) (.int .i64 (n : Int))) W = .ok (.slice (some ⟨W.heap.size, 0, none⟩) n n) W' ∧ Below W.heap.size W W' ∧ W'.heap[W.heap.size]? = some (.cells (br 0 n) 5 (0, 0)) := by
  obtain ⟨i0, hi, hzz⟩ := Option.map_eq_some_iff.1 info5
  simp only [Prod.mk.injEq] at hzz
  obtain ⟨hz0, hz1, hz2⟩ := hzz
  have hr := run_make (P := Try.prog) W 42 5 i0 _ Try.underlying42 hi hz0 .i64 .i64 (n : Int) (n : Int) (by omega) (by omega) (by rw [hz2]; omega) (by omega)
  simp only [Int.toNat_natCast] at hr
  rw [hz1, Nat.mul_one] at hr
  refine ⟨_, hr, new_below W _, ?_⟩
  have e : madeCells (Value.int .u8 0).cells n = br 0 n := by
    unfold br
    apply Array.toList_inj.1
    show (madeCells #[Value.int .u8 0] n).toList = _
    rw [toList_madeCells_one]
    simp
  rw [e]
  exact heap_alloc_new W _
def xs (n : Nat) : ByteArray := ⟨Array.replicate n 120⟩
theorem xs_nums (n : Nat) : strOfNums (List.replicate n 120) = xs n := by
  unfold strOfNums xs
  congr 1
  apply Array.toList_inj.1
  simp
theorem xsC (W : World) (g n : Nat) (h : n ≤ 5000) (hb : W.heap[g]? = some (.cells (br n n) 5 (0, 0))) : (convert 42 9 (.slice (some ⟨g, 0, none⟩) n n)).run Try.prog W = .ok (.string (xs n)) W := by
  rw [← xs_nums]
  refine Kd.C_string (A := some ⟨g, 0, none⟩) (n := n) (c := n) (xs := List.replicate n (120 : Int)) Try.underlying42 Try.underlying5 Try.underlying9 ?_
  refine ⟨by simp, by omega, fun _ => ⟨_, rfl, fun j p hp => ⟨[.int .u8 120], rfl, ?_, fun i u hu => ?_⟩⟩⟩
  · obtain ⟨_, hp⟩ := List.getElem?_eq_some_iff.1 hp
    rw [List.getElem_replicate] at hp
    subst hp
    rfl
  · have hj : j < n := by have := (List.getElem?_eq_some_iff.1 hp).1; simpa using this
    match i, hu with
    | 0, hu =>
      obtain rfl := Option.some.inj hu
      have e : (⟨g, 0, none⟩ : Addr).add (j * (Kd.int .u8).sz + 0) = ⟨g, j, none⟩ := by
        show Addr.add _ (j * 1 + 0) = _
        unfold Addr.add
        by_cases c : j = 0
        · simp [c]
        · simp [c]
      rw [e]
      simp [World.cell?, hb, br, hj]
    | i + 1, hu => simp at hu
theorem bt_xs {n i : Nat} (h : i < n) : bt (xs n) (i : Int) = 120 := by
  have h2 : i < (xs n).size := by simpa [xs, ByteArray.size] using h
  unfold bt
  simp only [Int.toNat_natCast]
  rw [dif_pos h2]
  show (((Array.replicate n (120 : UInt8))[i]'(by simpa using h)).toNat : Int) = 120
  simp
theorem xs_size (n : Nat) : (xs n).size = n := by simp [xs, ByteArray.size]
theorem rn_xs (n : Nat) : ∀ (d i m : Nat), n - i ≤ d → d < m → i ≤ n → (rn (xs n) m (i : Int)).isSome = true := by
  intro d
  induction d with
  | zero =>
    intro i m h1 h2 h3
    obtain ⟨m, rfl⟩ : ∃ k, m = k + 1 := ⟨m - 1, by omega⟩
    rw [rn, xs_size, if_neg (by omega)]
    rfl
  | succ d ih =>
    intro i m h1 h2 h3
    obtain ⟨m, rfl⟩ : ∃ k, m = k + 1 := ⟨m - 1, by omega⟩
    by_cases c : i < n
    · have e : dec (xs n) (i : Int) = (120, 1, true) := by
        unfold dec
        rw [xs_size, if_neg (by omega), if_neg (by omega), bt_xs c, if_pos (by omega)]
      rw [rn, xs_size, if_pos (by omega), e, if_pos rfl]
      have h := ih (i + 1) m (by omega) (by omega) (by omega)
      rw [Option.isSome_map]
      exact h
    · rw [rn, xs_size, if_neg (by omega)]
      rfl
theorem u8_xs (n : Nat) : QV.u8 (xs n) = true := by
  unfold QV.u8 runes
  exact rn_xs n n 0 _ (by omega) (by rw [xs_size]; omega) (by omega)
def sx (n : Nat) : S28 := ⟨4, 0, xs n, [], []⟩
theorem vd_sx (n : Nat) (h : n ≤ 5000) : vd (sx n) = decide (n ≤ 4096) := by
  rw [vd_eq, okv_eq, nds_eq, bts_eq]
  simp [sx, fm, kz, u8_xs, ksum, xs_size]
  by_cases c : n ≤ 4096
  · simp [c] <;> omega
  · simp [c] <;> omega
theorem wv_sx (n : Nat) (h : n ≤ 5000) : Wv (sx n) := .mk _ (by simp [sx]) (by simp [sx]) (by show (xs n).size ≤ _; rw [xs_size]; omega) (by simp [sx]) (by simp [sx]) (by simp [sx]) (by simp [sx])
theorem cnt_sx (n : Nat) : cnt (sx n) = n + 1 := by rw [cnt_eq]; simp [sx, cntL, ksz, xs_size]; omega
theorem rd_sx (w : World) (n : Nat) : Rd w none 0 none 0 (sx n) := ⟨Nat.le_refl _, ⟨rfl, by simp [sx], fun h => absurd h (by simp [sx])⟩, Nat.le_refl _, ⟨rfl, by simp [sx], fun h => absurd h (by simp [sx])⟩⟩
theorem law_limits (a0 a1 a2 : Int) (w : World) (h0 : -9223372036854775808 ≤ a0 ∧ a0 ≤ 9223372036854775807) (h1 : -9223372036854775808 ≤ a1 ∧ a1 ≤ 9223372036854775807) (h2 : -9223372036854775808 ≤ a2 ∧ a2 ≤ 9223372036854775807) :
    Calls Try.prog 5 #[.int .i64 a0, .int .i64 a1, .int .i64 a2] w fun e w' => e = .returned (.bool true) ∧ Below w.heap.size w w' := by
  have HM0 : Aside0 (∀ W, Calls Try.prog 34 #[.int .i64 a0, .int .i64 64] W fun e w' => e = .returned (.int .i64 (a0 % 64)) ∧ w' = W) := ⟨fun W => modC a0 64 (by omega) h0 W⟩
  have HM1 : Aside0 (∀ W, Calls Try.prog 34 #[.int .i64 a1, .int .i64 7] W fun e w' => e = .returned (.int .i64 (a1 % 7)) ∧ w' = W) := ⟨fun W => modC a1 7 (by omega) h1 W⟩
  have HM2 : Aside0 (∀ W, Calls Try.prog 34 #[.int .i64 a2, .int .i64 7] W fun e w' => e = .returned (.int .i64 (a2 % 7)) ∧ w' = W) := ⟨fun W => modC a2 7 (by omega) h2 W⟩
  obtain ⟨dp, hdp⟩ : ∃ n : Nat, (n : Int) = a0 % 64 + 1 := ⟨(a0 % 64 + 1).toNat, by omega⟩
  obtain ⟨el, hel⟩ : ∃ n : Nat, (n : Int) = 1021 + a1 % 7 := ⟨(1021 + a1 % 7).toNat, by omega⟩
  obtain ⟨by_, hby⟩ : ∃ n : Nat, (n : Int) = 4093 + a2 % 7 := ⟨(4093 + a2 % 7).toNat, by omega⟩
  obtain ⟨m0, hm0⟩ : ∃ m, a0 % 64 = m := ⟨_, rfl⟩
  obtain ⟨m1, hm1⟩ : ∃ m, a1 % 7 = m := ⟨_, rfl⟩
  obtain ⟨m2, hm2⟩ : ∃ m, a2 % 7 = m := ⟨_, rfl⟩
  rw [hm0] at HM0 hdp
  rw [hm1] at HM1 hel
  rw [hm2] at HM2 hby
  have hb : 1 ≤ dp ∧ dp ≤ 64 ∧ 1021 ≤ el ∧ el ≤ 1027 ∧ 4093 ≤ by_ ∧ by_ ≤ 4099 := by omega
  obtain rfl : m0 = (dp : Int) - 1 := by omega
  obtain rfl : m1 = (el : Int) - 1021 := by omega
  obtain rfl : m2 = (by_ : Int) - 4093 := by omega
  obtain ⟨b1, b2, b3, b4, b5, b6⟩ := hb
  clear hdp hel hby hm0 hm1 hm2 h0 h1 h2
  have HN : Aside0 (∀ n W, Calls Try.prog 22 #[.int .i64 n] W fun e w' => e = .returned (.agg #[.int .i64 3, .int .i64 n, .string ⟨#[]⟩, .slice none 0 0, .slice none 0 0]) ∧ Below W.heap.size W w') := ⟨fun n W => valueNumC n W⟩
  go_enter Try.func5, Try.ntmps5
  go_upto_region 3 with (first | (go_at_call 34; (with_reducible refine (HM0.out _).mono ?_); rintro e we_ ⟨rfl, hw⟩; (rw [hw]); clear hw we_) | (go_at_call 34; (with_reducible refine (HM1.out _).mono ?_); rintro e we_ ⟨rfl, hw⟩; (rw [hw]); clear hw we_) | (go_at_call 34; (with_reducible refine (HM2.out _).mono ?_); rintro e we_ ⟨rfl, hw⟩; (rw [hw]); clear hw we_) | (go_at_call 22; (with_reducible refine (HN.out _ _).mono ?_); rintro e we ⟨rfl, hb⟩; have Hb := Aside0.mk hb; clear hb))
  rw [show (1021 + ((el : Int) - 1021)) = el from by omega, show (4093 + ((by_ : Int) - 4093)) = by_ from by omega]
  have HS0 : Aside0 (Ns w (we.alloc (.cells #[.int .i64 3, .int .i64 1, .string ⟨#[]⟩, .slice none 0 0, .slice none 0 0] 28)) we.heap.size 0 none 0 0) := ⟨below_step Hb.out (new_below _ _), Below.size Hb.out, rfl, heap_alloc_new we _, k28_mkM _ _ _ (nest 0) (Kd.R_nil _ _ _ _ _) (Kd.R_nil _ _ _ _ _)⟩
  obtain ⟨b, hb⟩ : ∃ b, we.heap.size = b := ⟨_, rfl⟩
  obtain ⟨W0, hW0⟩ : ∃ W0, we.alloc (.cells #[.int .i64 3, .int .i64 1, .string ⟨#[]⟩, .slice none 0 0, .slice none 0 0] 28) = W0 := ⟨_, rfl⟩
  rw [hb, hW0] at HS0 ⊢
  clear hb hW0 Hb HM0 HM1 HM2 HN
  go_wp2_with fail
  go_loopg [8] dp (fun kq v8 w' => ∃ (i : Nat) (A : Option Addr) (n c : Nat), kq + i = dp ∧ v8 = .int .i64 (i : Int) ∧ Aside0 (Ns w w' b i A n c))
  case atStart => exact ⟨0, none, 0, 0, by omega, rfl, HS0⟩
  case round =>
    clear HS0
    obtain ⟨i, A, n, c, hi, rfl, HS⟩ := hrel
    by_cases ci : i < dp
    · have g0 : decide ((i : Int) < (dp : Int)) = true := decide_eq_true (by omega)
      have g0' : decide (i < dp) = true := decide_eq_true ci
      obtain ⟨j1, rfl⟩ : ∃ j1, gk = j1 + 1 := ⟨gk - 1, by omega⟩
      obtain ⟨p0, p1, p2, p3, p4⟩ := cells5 HS.out.2.2.2.1
      have HII := Aside0.mk hi
      have hib : i < 100 := by omega
      have hbk : (wr.alloc (.cells #[.int .i64 (nest i).f0, .int .i64 (nest i).f1, .string ⟨#[]⟩, .slice none 0 0, .slice A n c] 28)).heap[b]? = some (.cells #[.int .i64 (nest i).f0, .int .i64 (nest i).f1, .string ⟨#[]⟩, .slice none 0 0, .slice A n c] 28 (0, 0)) := ((new_below wr _).block b (Array.getElem?_eq_some_iff.1 HS.out.2.2.2.1).1).trans HS.out.2.2.2.1
      obtain ⟨q0, q1, q2, q3, q4⟩ := cells5 hbk
      have hfz : ∀ j, (wr.alloc (.cells #[.int .i64 (nest i).f0, .int .i64 (nest i).f1, .string ⟨#[]⟩, .slice none 0 0, .slice A n c] 28)).frozen? ⟨b, j, none⟩ = false := fun j => by simp [World.frozen?, hbk]
      clear hbk
      obtain ⟨W', hW'⟩ : ∃ W', ((((((wr.alloc (.cells #[.int .i64 (nest i).f0, .int .i64 (nest i).f1, .string ⟨#[]⟩, .slice none 0 0, .slice A n c] 28)).setCell ⟨b, 0, none⟩ (.int .i64 5)).setCell ⟨b, 1, none⟩ (.int .i64 0)).setCell ⟨b, 2, none⟩ (.string ⟨#[]⟩)).setCell ⟨b, 3, none⟩ (.slice none 0 0)).setCell ⟨b, 4, none⟩ (.slice (some ⟨wr.heap.size, 0, none⟩) 1 1)) = W' := ⟨_, rfl⟩
      have HS2 := Aside0.mk (HS.out.next hW')
      have HWe := Aside0.mk hW'
      clear hi ci hW'
      go_wp2_with fail
      rw [HWe.out]
      clear HWe
      go_roundg j1
      case measure => omega
      case rel => exact ⟨i + 1, _, _, _, by have := HII.out; omega, rfl, HS2⟩
    · have g0 : decide ((i : Int) < (dp : Int)) = false := decide_eq_false (by omega)
      have g0' : decide (i < dp) = false := decide_eq_false ci
      obtain rfl : i = dp := by omega
      obtain ⟨k, rfl⟩ : ∃ k, i = k + 1 := ⟨i - 1, by omega⟩
      have hn : n = 1 := HS.out.2.2.1
      subst hn
      have hblk : wr.heap[b]? = some (.cells #[.int .i64 5, .int .i64 0, .string ⟨#[]⟩, .slice none 0 0, .slice A 1 c] 28 (0, 0)) := HS.out.2.2.2.1
      have hrd : Rd wr none 0 A c (nest (k + 1)) := by
        obtain ⟨X3, d3, X4, d4, e3, e4, h⟩ := rd_of_M (W' := wr) HS.out.2.2.2.2 (Nat.lt_succ_self _) (fun _ _ _ => rfl)
        injection e3 with a1 a2 a3
        injection e4 with b1 b2 b3
        subst a1 a3 b1 b3
        exact h
      have HW := Aside0.mk HS.out.1
      obtain ⟨p0, p1, p2, p3, p4⟩ := cells5 hblk
      have HBl : Aside0 (∀ W1, Below wr.heap.size wr W1 → W1.cell? ⟨b, 0, none⟩ = some (.int .i64 5) ∧ W1.cell? ⟨b, 1, none⟩ = some (.int .i64 0) ∧ W1.cell? ⟨b, 2, none⟩ = some (.string ⟨#[]⟩) ∧ W1.cell? ⟨b, 3, none⟩ = some (.slice none 0 0) ∧ W1.cell? ⟨b, 4, none⟩ = some (.slice A 1 c)) := ⟨fun W1 hb => cells5 ((hb.block b (Array.getElem?_eq_some_iff.1 hblk).1).trans hblk)⟩
      obtain ⟨vv, hvv⟩ : ∃ v, decide (k + 1 ≤ 32) = v := ⟨_, rfl⟩
      have HC24 : Aside0 (∀ W1, Below wr.heap.size wr W1 → Calls Try.prog 24 #[.agg #[.int .i64 5, .int .i64 0, .string ⟨#[]⟩, .slice none 0 0, .slice A 1 c]] W1 fun e w' => e = .returned (.bool vv) ∧ Below W1.heap.size W1 w') := ⟨fun W1 hb => by
        have h := valueValidC (nest (k + 1)) W1 (wv_nest _) (by rw [cnt_nest]; omega) (hrd.below hb)
        rw [nest_le _ (by omega), hvv] at h
        exact h⟩
      have HC26 : Aside0 (vv = true → ∀ W1, Below wr.heap.size wr W1 → Calls Try.prog 26 #[.agg #[.int .i64 5, .int .i64 0, .string ⟨#[]⟩, .slice none 0 0, .slice A 1 c]] W1 fun e w' => e = .returned (.int .i64 ((k + 1 : Nat) : Int)) ∧ Below W1.heap.size W1 w') := ⟨fun hv W1 hb => by
        have h := valueDepthC (nest (k + 1)) W1 (wv_nest _) (by rw [cnt_nest]; omega) (hrd.below hb)
        rw [nest_le _ (by omega), hvv, hv, if_pos rfl, dpt_nest] at h
        exact h⟩
      have HC28 : Aside0 (vv = true → ∀ W1, Below wr.heap.size wr W1 → Calls Try.prog 28 #[.agg #[.int .i64 5, .int .i64 0, .string ⟨#[]⟩, .slice none 0 0, .slice A 1 c]] W1 fun e w' => e = .returned (.int .i64 (((k + 1 : Nat) : Int) + 1)) ∧ Below W1.heap.size W1 w') := ⟨fun hv W1 hb => by
        have h := valueNodesC (nest (k + 1)) W1 (wv_nest _) (by rw [cnt_nest]; omega) (hrd.below hb)
        rw [nest_le _ (by omega), hvv, hv, if_pos rfl, nda_nest] at h
        exact h⟩
      have hle : decide (((k + 1 : Nat) : Int) ≤ 32) = vv := by rw [← hvv]; exact decide_eq_decide.2 (by omega)
      have hle' : decide (k + 1 ≤ 32) = vv := hvv
      obtain ⟨K1, hK1⟩ : ∃ K1 : Int, ((k + 1 : Nat) : Int) = K1 := ⟨_, rfl⟩
      have hKb : 1 ≤ K1 ∧ K1 ≤ 64 := by omega
      rw [hK1] at HC26 HC28 hle ⊢
      clear hblk hrd HS hi ci hvv hle' hK1 g0' b1 b2
      cases vv with
      | false =>
        go_upto_region 9 with (first | (go_at_call 24; (with_reducible refine (HC24.out _ (Below.refl _ _)).mono ?_); rintro e w1 ⟨rfl, hb⟩; have H1 := Aside0.mk hb; obtain ⟨q0, q1, q2, q3, q4⟩ := HBl.out _ hb; clear hb) | (go_at_call 24; (with_reducible refine (HC24.out _ H1.out).mono ?_); rintro e w2 ⟨rfl, hb⟩; have H2 := Aside0.mk (below_step HW.out (below_step H1.out hb)); clear hb))
        obtain ⟨W3, hm3, hb3, hC3⟩ := mkVals w2 el (by omega)
        have H3 := Aside0.mk (And.intro (below_step H2.out hb3) hC3)
        clear H1 H2 hb3 hC3 HC24 HC26 HC28 HBl HW p0 p1 p2 p3 p4 q0 q1 q2 q3 q4
        have hbz : Aside0 (∀ W4, W3.alloc (.cells #[.int .i64 5, .int .i64 0, .string ⟨#[]⟩, .slice none 0 0, .slice (some ⟨w2.heap.size, 0, none⟩) el el] 28) = W4 → Below w.heap.size w W4 ∧ Bv W4 W3.heap.size none 0 (some ⟨w2.heap.size, 0, none⟩) el (zarr el)) := ⟨fun W4 e => by
          subst e
          have hrd : Rd W3 none 0 (some ⟨w2.heap.size, 0, none⟩) el (zarr el) := ⟨Nat.le_refl _, ⟨rfl, by simp [zarr], fun h => absurd h (by simp [zarr])⟩, by simp [zarr], by have h := H3.out.2; simpa [zarr, zV] using h⟩
          have h := Bv.new hrd
          simp only [zarr, List.length_replicate, List.length_nil] at h
          exact ⟨below_step H3.out.1 (new_below W3 _), h⟩⟩
        go_upto_region 10 with fail
        obtain ⟨W4, hW4⟩ : ∃ W4, W3.alloc (.cells #[.int .i64 5, .int .i64 0, .string ⟨#[]⟩, .slice none 0 0, .slice (some ⟨w2.heap.size, 0, none⟩) el el] 28) = W4 := ⟨_, rfl⟩
        have H4 := Aside0.mk (hbz.out W4 hW4)
        have H4s : Aside0 (W4.heap.size = W3.heap.size + 1) := ⟨by rw [← hW4]; simp⟩
        rw [hW4]
        clear hbz hm3 hW4
        obtain ⟨W5, hm5, hb5, hC5⟩ := mkBytes W4 by_ (by omega)
        have H5 := Aside0.mk (And.intro hb5 hC5)
        clear hb5 hC5
        go_upto_region 11 with fail
        have HS0 : Aside0 (Below W4.heap.size W4 W5 ∧ W5.heap[W4.heap.size]? = some (.cells (br 0 by_) 5 (0, 0))) := H5
        obtain ⟨g, hg⟩ : ∃ g, W4.heap.size = g := ⟨_, rfl⟩
        have HG := Aside0.mk hg
        rw [hg] at HS0 ⊢
        clear H5 hm5 hg
        go_wp2_with fail
        go_loopg [11] by_ (fun kq v11 w' => ∃ (i : Nat), kq + i = by_ ∧ v11 = .int .i64 (i : Int) ∧ Aside0 (Below g W4 w' ∧ w'.heap[g]? = some (.cells (br i by_) 5 (0, 0))))
        case atStart => exact ⟨0, by omega, rfl, HS0⟩
        case round =>
          clear HS0
          obtain ⟨i, hi, rfl, HS⟩ := hrel
          by_cases ci : i < by_
          · have g0 : decide ((i : Int) < (by_ : Int)) = true := decide_eq_true (by omega)
            have g0' : decide (i < by_) = true := decide_eq_true ci
            have g2 : (0 ≤ (i : Int)) = True := eq_true (by omega)
            have g3 : ((i : Int) < (by_ : Int)) = True := eq_true (by omega)
            have hib : i < 5000 := by omega
            obtain ⟨j1, rfl⟩ : ∃ j1, gk = j1 + 1 := ⟨gk - 1, by omega⟩
            have p0 : wr.cell? ⟨g, i, none⟩ = some (.int .u8 0) := by simp [World.cell?, HS.out.2, br_at ci]
            have hfz : ∀ j, wr.frozen? ⟨g, j, none⟩ = false := fun j => by simp [World.frozen?, HS.out.2]
            have HS2 : Aside0 (Below g W4 (wr.setCell ⟨g, i, none⟩ (.int .u8 120)) ∧ (wr.setCell ⟨g, i, none⟩ (.int .u8 120)).heap[g]? = some (.cells (br (i + 1) by_) 5 (0, 0))) := ⟨by
              have hgb : wr.grownBy (wr.setCell ⟨g, i, none⟩ (.int .u8 120)) (some g) := ⟨rfl, rfl, rfl, by simp, fun k _ hk => Below.heap_setCell _ _ _ k (fun e => hk (by rw [e]))⟩
              refine ⟨HS.out.1.trans ⟨hgb.os, hgb.tape, hgb.output, hgb.size, fun k hk => hgb.block k (by have := Below.size (by have h := HS.out.1; rw [← HG.out] at h; exact h); have := HG.out; omega) (fun e => by have := Option.some.inj e; omega)⟩, ?_⟩
              rw [heap_setCell_same _ _ _ _ _ _ HS.out.2, br_set ci]⟩
            have HII := Aside0.mk hi
            clear ci hi
            go_wp2_with fail
            go_roundg j1
            case measure => omega
            case rel => exact ⟨i + 1, by have := HII.out; omega, rfl, HS2⟩
          · have g0 : decide ((i : Int) < (by_ : Int)) = false := decide_eq_false (by omega)
            have g0' : decide (i < by_) = false := decide_eq_false ci
            obtain rfl : i = by_ := by omega
            have hcv := xsC wr g i (by omega) HS.out.2
            have hB4 : Below W4.heap.size W4 wr := by have h := HS.out.1; rw [← HG.out] at h; exact h
            have HZ : Aside0 (Below w.heap.size w wr ∧ Bv wr W3.heap.size none 0 (some ⟨w2.heap.size, 0, none⟩) el (zarr el)) := ⟨below_step H4.out.1 hB4, H4.out.2.below hB4⟩
            have HX : Aside0 (∀ W6, wr.alloc (.cells #[.int .i64 4, .int .i64 0, .string (xs i), .slice none 0 0, .slice none 0 0] 28) = W6 → Below w.heap.size w W6 ∧ (Bv W6 W3.heap.size none 0 (some ⟨w2.heap.size, 0, none⟩) el (zarr el)) ∧ Bv W6 wr.heap.size none 0 none 0 (sx i)) := ⟨fun W6 e => by
              subst e
              have hb := new_below wr (.cells #[.int .i64 4, .int .i64 0, .string (xs i), .slice none 0 0, .slice none 0 0] 28)
              exact ⟨below_step HZ.out.1 hb, HZ.out.2.below hb, Bv.new (rd_sx wr i)⟩⟩
            clear ci hi HS hB4 H4 H4s HG HZ
            go_upto_region 16 with fail
            obtain ⟨W6, hW6⟩ : ∃ W6, wr.alloc (.cells #[.int .i64 4, .int .i64 0, .string (xs i), .slice none 0 0, .slice none 0 0] 28) = W6 := ⟨_, rfl⟩
            have H6 := Aside0.mk (HX.out W6 hW6)
            obtain ⟨sx_, hsx⟩ : ∃ s, xs i = s := ⟨_, rfl⟩
            have hzc : ∀ W, Below W6.heap.size W6 W → W.cell? ⟨W3.heap.size, 0, none⟩ = some (.int .i64 5) ∧ W.cell? ⟨W3.heap.size, 1, none⟩ = some (.int .i64 0) ∧ W.cell? ⟨W3.heap.size, 2, none⟩ = some (.string ⟨#[]⟩) ∧ W.cell? ⟨W3.heap.size, 3, none⟩ = some (.slice none 0 0) ∧ W.cell? ⟨W3.heap.size, 4, none⟩ = some (.slice (some ⟨w2.heap.size, 0, none⟩) el el) := fun W hb => by
              have h := (H6.out.2.1.below hb).cells
              simp only [zarr, List.length_replicate, List.length_nil] at h
              exact h
            have hsc : ∀ W, Below W6.heap.size W6 W → W.cell? ⟨wr.heap.size, 0, none⟩ = some (.int .i64 4) ∧ W.cell? ⟨wr.heap.size, 1, none⟩ = some (.int .i64 0) ∧ W.cell? ⟨wr.heap.size, 2, none⟩ = some (.string sx_) ∧ W.cell? ⟨wr.heap.size, 3, none⟩ = some (.slice none 0 0) ∧ W.cell? ⟨wr.heap.size, 4, none⟩ = some (.slice none 0 0) := fun W hb => by
              have h := (H6.out.2.2.below hb).cells
              simp only [sx, List.length_nil, hsx] at h
              exact h
            obtain ⟨ve, hve⟩ : ∃ v, decide (el ≤ 1024) = v := ⟨_, rfl⟩
            obtain ⟨vs, hvs⟩ : ∃ v, decide (i ≤ 4096) = v := ⟨_, rfl⟩
            have HA : Aside0 (∀ W, Below W6.heap.size W6 W → Calls Try.prog 24 #[.agg #[.int .i64 5, .int .i64 0, .string ⟨#[]⟩, .slice none 0 0, .slice (some ⟨w2.heap.size, 0, none⟩) el el]] W fun e w' => e = .returned (.bool ve) ∧ Below W.heap.size W w') := ⟨fun W hb => by
              have h := valueValidC (zarr el) W (wv_zarr el (by omega)) (by rw [cnt_zarr]; omega) (H6.out.2.1.below hb).rd
              rw [vd_zarr el (by omega), hve] at h
              simp only [zarr, List.length_replicate, List.length_nil] at h
              exact h⟩
            have HBs : Aside0 (∀ W, Below W6.heap.size W6 W → Calls Try.prog 24 #[.agg #[.int .i64 4, .int .i64 0, .string sx_, .slice none 0 0, .slice none 0 0]] W fun e w' => e = .returned (.bool vs) ∧ Below W.heap.size W w') := ⟨fun W hb => by
              have h := valueValidC (sx i) W (wv_sx i (by omega)) (by rw [cnt_sx]; omega) (H6.out.2.2.below hb).rd
              rw [vd_sx i (by omega), hvs] at h
              simp only [sx, List.length_nil, hsx] at h
              exact h⟩
            have g5 : decide ((el : Int) ≤ 1024) = ve := by rw [← hve]; exact decide_eq_decide.2 (by omega)
            have g6 : decide ((i : Int) ≤ 4096) = vs := by rw [← hvs]; exact decide_eq_decide.2 (by omega)
            have HZc := Aside0.mk hzc
            have HSc := Aside0.mk hsc
            obtain ⟨z0, z1, z2, z3, z4⟩ := hzc W6 (Below.refl _ _)
            obtain ⟨s0, s1, s2, s3, s4⟩ := hsc W6 (Below.refl _ _)
            rw [hW6, hsx]
            clear hW6 HX hcv hzc hsc hsx
            go_wp2_with (first | (go_at_call 24; (with_reducible refine (HA.out _ (Below.refl _ _)).mono ?_); rintro e v1 ⟨rfl, hb⟩; have Q1 := Aside0.mk hb; obtain ⟨t0, t1, t2, t3, t4⟩ := HSc.out _ hb; clear hb) | (go_at_call 24; (with_reducible refine (HBs.out _ Q1.out).mono ?_); rintro e v2 ⟨rfl, hb⟩; have Q2 := Aside0.mk (below_step H6.out.1 (below_step Q1.out hb)); clear hb) | (go_at_call 12; (with_reducible refine (awakeC _).mono ?_); rintro e v3 ⟨rfl, hb⟩; have Q3 := Aside0.mk (below_step Q2.out hb); clear hb))
            go_ret
            exact ⟨rfl, Q3.out⟩
      | true =>
        have g7 : (K1 != K1) = false := by simp
        have HD26 := Aside0.mk (HC26.out rfl)
        have HD28 := Aside0.mk (HC28.out rfl)
        go_upto_region 9 with (first | (go_at_call 24; (with_reducible refine (HC24.out _ (Below.refl _ _)).mono ?_); rintro e w1 ⟨rfl, hb⟩; have H1 := Aside0.mk hb; obtain ⟨q0, q1, q2, q3, q4⟩ := HBl.out _ hb; clear hb) | (go_at_call 24; (with_reducible refine (HC24.out _ H1.out).mono ?_); rintro e wa ⟨rfl, hb⟩; have H1a := Aside0.mk (below_step H1.out hb); obtain ⟨x0, x1, x2, x3, x4⟩ := HBl.out _ H1a.out; clear hb) | (go_at_call 26; (with_reducible refine (HD26.out _ H1a.out).mono ?_); rintro e wb ⟨rfl, hb⟩; have H1b := Aside0.mk (below_step H1a.out hb); obtain ⟨y0, y1, y2, y3, y4⟩ := HBl.out _ H1b.out; clear hb) | (go_at_call 28; (with_reducible refine (HD28.out _ H1b.out).mono ?_); rintro e w2 ⟨rfl, hb⟩; have H2 := Aside0.mk (below_step HW.out (below_step H1b.out hb)); clear hb))
        obtain ⟨W3, hm3, hb3, hC3⟩ := mkVals w2 el (by omega)
        have H3 := Aside0.mk (And.intro (below_step H2.out hb3) hC3)
        clear H1 H2 hb3 hC3 HC24 HC26 HC28 HBl HW p0 p1 p2 p3 p4 q0 q1 q2 q3 q4
        have hbz : Aside0 (∀ W4, W3.alloc (.cells #[.int .i64 5, .int .i64 0, .string ⟨#[]⟩, .slice none 0 0, .slice (some ⟨w2.heap.size, 0, none⟩) el el] 28) = W4 → Below w.heap.size w W4 ∧ Bv W4 W3.heap.size none 0 (some ⟨w2.heap.size, 0, none⟩) el (zarr el)) := ⟨fun W4 e => by
          subst e
          have hrd : Rd W3 none 0 (some ⟨w2.heap.size, 0, none⟩) el (zarr el) := ⟨Nat.le_refl _, ⟨rfl, by simp [zarr], fun h => absurd h (by simp [zarr])⟩, by simp [zarr], by have h := H3.out.2; simpa [zarr, zV] using h⟩
          have h := Bv.new hrd
          simp only [zarr, List.length_replicate, List.length_nil] at h
          exact ⟨below_step H3.out.1 (new_below W3 _), h⟩⟩
        go_upto_region 10 with fail
        obtain ⟨W4, hW4⟩ : ∃ W4, W3.alloc (.cells #[.int .i64 5, .int .i64 0, .string ⟨#[]⟩, .slice none 0 0, .slice (some ⟨w2.heap.size, 0, none⟩) el el] 28) = W4 := ⟨_, rfl⟩
        have H4 := Aside0.mk (hbz.out W4 hW4)
        have H4s : Aside0 (W4.heap.size = W3.heap.size + 1) := ⟨by rw [← hW4]; simp⟩
        rw [hW4]
        clear hbz hm3 hW4
        obtain ⟨W5, hm5, hb5, hC5⟩ := mkBytes W4 by_ (by omega)
        have H5 := Aside0.mk (And.intro hb5 hC5)
        clear hb5 hC5
        go_upto_region 11 with fail
        have HS0 : Aside0 (Below W4.heap.size W4 W5 ∧ W5.heap[W4.heap.size]? = some (.cells (br 0 by_) 5 (0, 0))) := H5
        obtain ⟨g, hg⟩ : ∃ g, W4.heap.size = g := ⟨_, rfl⟩
        have HG := Aside0.mk hg
        rw [hg] at HS0 ⊢
        clear H5 hm5 hg
        go_wp2_with fail
        go_loopg [11] by_ (fun kq v11 w' => ∃ (i : Nat), kq + i = by_ ∧ v11 = .int .i64 (i : Int) ∧ Aside0 (Below g W4 w' ∧ w'.heap[g]? = some (.cells (br i by_) 5 (0, 0))))
        case atStart => exact ⟨0, by omega, rfl, HS0⟩
        case round =>
          clear HS0
          obtain ⟨i, hi, rfl, HS⟩ := hrel
          by_cases ci : i < by_
          · have g0 : decide ((i : Int) < (by_ : Int)) = true := decide_eq_true (by omega)
            have g0' : decide (i < by_) = true := decide_eq_true ci
            have g2 : (0 ≤ (i : Int)) = True := eq_true (by omega)
            have g3 : ((i : Int) < (by_ : Int)) = True := eq_true (by omega)
            have hib : i < 5000 := by omega
            obtain ⟨j1, rfl⟩ : ∃ j1, gk = j1 + 1 := ⟨gk - 1, by omega⟩
            have p0 : wr.cell? ⟨g, i, none⟩ = some (.int .u8 0) := by simp [World.cell?, HS.out.2, br_at ci]
            have hfz : ∀ j, wr.frozen? ⟨g, j, none⟩ = false := fun j => by simp [World.frozen?, HS.out.2]
            have HS2 : Aside0 (Below g W4 (wr.setCell ⟨g, i, none⟩ (.int .u8 120)) ∧ (wr.setCell ⟨g, i, none⟩ (.int .u8 120)).heap[g]? = some (.cells (br (i + 1) by_) 5 (0, 0))) := ⟨by
              have hgb : wr.grownBy (wr.setCell ⟨g, i, none⟩ (.int .u8 120)) (some g) := ⟨rfl, rfl, rfl, by simp, fun k _ hk => Below.heap_setCell _ _ _ k (fun e => hk (by rw [e]))⟩
              refine ⟨HS.out.1.trans ⟨hgb.os, hgb.tape, hgb.output, hgb.size, fun k hk => hgb.block k (by have := Below.size (by have h := HS.out.1; rw [← HG.out] at h; exact h); have := HG.out; omega) (fun e => by have := Option.some.inj e; omega)⟩, ?_⟩
              rw [heap_setCell_same _ _ _ _ _ _ HS.out.2, br_set ci]⟩
            have HII := Aside0.mk hi
            clear ci hi
            go_wp2_with fail
            go_roundg j1
            case measure => omega
            case rel => exact ⟨i + 1, by have := HII.out; omega, rfl, HS2⟩
          · have g0 : decide ((i : Int) < (by_ : Int)) = false := decide_eq_false (by omega)
            have g0' : decide (i < by_) = false := decide_eq_false ci
            obtain rfl : i = by_ := by omega
            have hcv := xsC wr g i (by omega) HS.out.2
            have hB4 : Below W4.heap.size W4 wr := by have h := HS.out.1; rw [← HG.out] at h; exact h
            have HZ : Aside0 (Below w.heap.size w wr ∧ Bv wr W3.heap.size none 0 (some ⟨w2.heap.size, 0, none⟩) el (zarr el)) := ⟨below_step H4.out.1 hB4, H4.out.2.below hB4⟩
            have HX : Aside0 (∀ W6, wr.alloc (.cells #[.int .i64 4, .int .i64 0, .string (xs i), .slice none 0 0, .slice none 0 0] 28) = W6 → Below w.heap.size w W6 ∧ (Bv W6 W3.heap.size none 0 (some ⟨w2.heap.size, 0, none⟩) el (zarr el)) ∧ Bv W6 wr.heap.size none 0 none 0 (sx i)) := ⟨fun W6 e => by
              subst e
              have hb := new_below wr (.cells #[.int .i64 4, .int .i64 0, .string (xs i), .slice none 0 0, .slice none 0 0] 28)
              exact ⟨below_step HZ.out.1 hb, HZ.out.2.below hb, Bv.new (rd_sx wr i)⟩⟩
            clear ci hi HS hB4 H4 H4s HG HZ
            go_upto_region 16 with fail
            obtain ⟨W6, hW6⟩ : ∃ W6, wr.alloc (.cells #[.int .i64 4, .int .i64 0, .string (xs i), .slice none 0 0, .slice none 0 0] 28) = W6 := ⟨_, rfl⟩
            have H6 := Aside0.mk (HX.out W6 hW6)
            obtain ⟨sx_, hsx⟩ : ∃ s, xs i = s := ⟨_, rfl⟩
            have hzc : ∀ W, Below W6.heap.size W6 W → W.cell? ⟨W3.heap.size, 0, none⟩ = some (.int .i64 5) ∧ W.cell? ⟨W3.heap.size, 1, none⟩ = some (.int .i64 0) ∧ W.cell? ⟨W3.heap.size, 2, none⟩ = some (.string ⟨#[]⟩) ∧ W.cell? ⟨W3.heap.size, 3, none⟩ = some (.slice none 0 0) ∧ W.cell? ⟨W3.heap.size, 4, none⟩ = some (.slice (some ⟨w2.heap.size, 0, none⟩) el el) := fun W hb => by
              have h := (H6.out.2.1.below hb).cells
              simp only [zarr, List.length_replicate, List.length_nil] at h
              exact h
            have hsc : ∀ W, Below W6.heap.size W6 W → W.cell? ⟨wr.heap.size, 0, none⟩ = some (.int .i64 4) ∧ W.cell? ⟨wr.heap.size, 1, none⟩ = some (.int .i64 0) ∧ W.cell? ⟨wr.heap.size, 2, none⟩ = some (.string sx_) ∧ W.cell? ⟨wr.heap.size, 3, none⟩ = some (.slice none 0 0) ∧ W.cell? ⟨wr.heap.size, 4, none⟩ = some (.slice none 0 0) := fun W hb => by
              have h := (H6.out.2.2.below hb).cells
              simp only [sx, List.length_nil, hsx] at h
              exact h
            obtain ⟨ve, hve⟩ : ∃ v, decide (el ≤ 1024) = v := ⟨_, rfl⟩
            obtain ⟨vs, hvs⟩ : ∃ v, decide (i ≤ 4096) = v := ⟨_, rfl⟩
            have HA : Aside0 (∀ W, Below W6.heap.size W6 W → Calls Try.prog 24 #[.agg #[.int .i64 5, .int .i64 0, .string ⟨#[]⟩, .slice none 0 0, .slice (some ⟨w2.heap.size, 0, none⟩) el el]] W fun e w' => e = .returned (.bool ve) ∧ Below W.heap.size W w') := ⟨fun W hb => by
              have h := valueValidC (zarr el) W (wv_zarr el (by omega)) (by rw [cnt_zarr]; omega) (H6.out.2.1.below hb).rd
              rw [vd_zarr el (by omega), hve] at h
              simp only [zarr, List.length_replicate, List.length_nil] at h
              exact h⟩
            have HBs : Aside0 (∀ W, Below W6.heap.size W6 W → Calls Try.prog 24 #[.agg #[.int .i64 4, .int .i64 0, .string sx_, .slice none 0 0, .slice none 0 0]] W fun e w' => e = .returned (.bool vs) ∧ Below W.heap.size W w') := ⟨fun W hb => by
              have h := valueValidC (sx i) W (wv_sx i (by omega)) (by rw [cnt_sx]; omega) (H6.out.2.2.below hb).rd
              rw [vd_sx i (by omega), hvs] at h
              simp only [sx, List.length_nil, hsx] at h
              exact h⟩
            have g5 : decide ((el : Int) ≤ 1024) = ve := by rw [← hve]; exact decide_eq_decide.2 (by omega)
            have g6 : decide ((i : Int) ≤ 4096) = vs := by rw [← hvs]; exact decide_eq_decide.2 (by omega)
            have HZc := Aside0.mk hzc
            have HSc := Aside0.mk hsc
            obtain ⟨z0, z1, z2, z3, z4⟩ := hzc W6 (Below.refl _ _)
            obtain ⟨s0, s1, s2, s3, s4⟩ := hsc W6 (Below.refl _ _)
            rw [hW6, hsx]
            clear hW6 HX hcv hzc hsc hsx
            go_wp2_with (first | (go_at_call 24; (with_reducible refine (HA.out _ (Below.refl _ _)).mono ?_); rintro e v1 ⟨rfl, hb⟩; have Q1 := Aside0.mk hb; obtain ⟨t0, t1, t2, t3, t4⟩ := HSc.out _ hb; clear hb) | (go_at_call 24; (with_reducible refine (HBs.out _ Q1.out).mono ?_); rintro e v2 ⟨rfl, hb⟩; have Q2 := Aside0.mk (below_step H6.out.1 (below_step Q1.out hb)); clear hb) | (go_at_call 12; (with_reducible refine (awakeC _).mono ?_); rintro e v3 ⟨rfl, hb⟩; have Q3 := Aside0.mk (below_step Q2.out hb); clear hb))
            go_ret
            exact ⟨rfl, Q3.out⟩
end Go.Proofs.Ytgpjkojnmeaoiaa.QV
