/- Num, the limits at the top (vals.Fit), by hand; nodes as the reference counts them. -/
import Derived.Test.YtgpjkojnmeaoiaaV10
import Derived.Test.YtgpjkojnmeaoiaaV13
namespace Go.Proofs.Ytgpjkojnmeaoiaa.QV
open Go Go.RowKit Go.Proofs.YtgpjkojnmeaoiaaW.PrintWords Go.Proofs.YtgpjkojnmeaoiaaW.PrintLast Go.Proofs.YtgpjkojnmeaoiaaW.PrintMore
set_option linter.unusedVariables false
set_option linter.unusedSimpArgs false
set_option maxRecDepth 100000
set_option maxHeartbeats 4000000
theorem okv_kz {form : Bool} {ar : Nat} {x : S28} (h : okv true ar x = true) (h5 : x.f0 < 5) : x.f4 = [] := by
  rw [okv_eq] at h
  unfold fm kz at h
  simp only [Bool.and_eq_true, Bool.or_eq_true, decide_eq_true_eq, beq_iff_eq, Bool.not_true, Bool.false_or] at h
  have h1 := h.1.2.1.1.2
  rcases h1 with h2 | h2
  · omega
  · exact List.length_eq_zero_iff.1 h2
theorem nda_nds (st : Nat) : ∀ x : S28, SizeOf.sizeOf x < st → vd x = true → nda x = nds x := by
  induction st with
  | zero => intro x h; omega
  | succ st ih =>
  intro x hs hv
  have hl : ∀ l : List S28, (∀ y ∈ l, SizeOf.sizeOf y < st ∧ vd y = true) → ndaL l = ndsL l := fun l => by
    induction l with
    | nil => intro _; rfl
    | cons y l ihl =>
      intro hy
      have h1 := hy y List.mem_cons_self
      simp only [ndaL, ndsL, ih y h1.1 h1.2, ihl (fun z hz => hy z (List.mem_cons_of_mem _ hz))]
  rw [nda_eq, nds_eq]
  by_cases h5 : x.f0 < 5
  · rw [if_pos h5]
    have hv2 := hv
    rw [vd_eq] at hv2
    simp only [Bool.and_eq_true] at hv2
    rw [okv_kz (form := true) hv2.1.1 h5]
    rfl
  · rw [if_neg h5, hl x.f4 (fun y hy => ⟨by have := sz_mem hy; omega, vd_mem hv h5 hy⟩)]
theorem fill5 {w W : World} {b : Nat} (h : W.heap[b]? = some (.cells #[.int .i64 0, .int .i64 0, .string ⟨#[]⟩, .slice none 0 0, .slice none 0 0] 28 (0, 0))) (hz : Below w.heap.size w W) (hb : w.heap.size ≤ b) (v0 v1 v2 v3 v4 : Value) : ∃ W', ((((W.setCell ⟨b, 0, none⟩ v0).setCell ⟨b, 1, none⟩ v1).setCell ⟨b, 2, none⟩ v2).setCell ⟨b, 3, none⟩ v3).setCell ⟨b, 4, none⟩ v4 = W' ∧
    (W'.cell? ⟨b, 0, none⟩ = some v0 ∧ W'.cell? ⟨b, 1, none⟩ = some v1 ∧ W'.cell? ⟨b, 2, none⟩ = some v2 ∧ W'.cell? ⟨b, 3, none⟩ = some v3 ∧ W'.cell? ⟨b, 4, none⟩ = some v4) ∧ W.grownBy W' (some b) ∧ Below w.heap.size w W' := by
  have gc : ∀ (W : World) (j : Nat) (v : Value), W.grownBy (W.setCell ⟨b, j, none⟩ v) (some b) := fun W j v => ⟨rfl, rfl, rfl, by simp, fun k _ hk => Below.heap_setCell _ _ _ k (fun e => hk (by rw [e]))⟩
  have hg := ((((gc W 0 v0).trans (gc _ 1 v1)).trans (gc _ 2 v2)).trans (gc _ 3 v3)).trans (gc _ 4 v4)
  have e : (((((W.setCell ⟨b, 0, none⟩ v0).setCell ⟨b, 1, none⟩ v1).setCell ⟨b, 2, none⟩ v2).setCell ⟨b, 3, none⟩ v3).setCell ⟨b, 4, none⟩ v4).heap[b]? = some (.cells #[v0, v1, v2, v3, v4] 28 (0, 0)) := by
    rw [heap_setCell_same _ _ _ _ _ _ (heap_setCell_same _ _ _ _ _ _ (heap_setCell_same _ _ _ _ _ _ (heap_setCell_same _ _ _ _ _ _ (heap_setCell_same _ _ _ _ _ _ h))))]
    rfl
  refine ⟨_, rfl, ?_, hg, hz.trans ⟨hg.os, hg.tape, hg.output, hg.size, fun k hk => hg.block k (by have := hz.size; omega) (fun e => by have := Option.some.inj e; omega)⟩⟩
  refine ⟨?_, ?_, ?_, ?_, ?_⟩
  all_goals
    simp only [World.cell?, e]
    rfl
theorem zero5 {W : World} {b : Nat} (h : W.heap[b]? = some (.cells #[.int .i64 0, .int .i64 0, .string ⟨#[]⟩, .slice none 0 0, .slice none 0 0] 28 (0, 0))) : (∀ j, W.frozen? ⟨b, j, none⟩ = false) ∧ W.cell? ⟨b, 0, none⟩ = some (.int .i64 0) ∧ W.cell? ⟨b, 1, none⟩ = some (.int .i64 0) ∧ W.cell? ⟨b, 2, none⟩ = some (.string ⟨#[]⟩) ∧ W.cell? ⟨b, 3, none⟩ = some (.slice none 0 0) ∧ W.cell? ⟨b, 4, none⟩ = some (.slice none 0 0) := by
  refine ⟨fun j => by simp [World.frozen?, h], ?_⟩
  simp [World.cell?, h]
theorem numC (n : Int) (w : World) : Calls Try.prog 58 #[.int .i64 n] w fun e w' => e = .returned (.agg #[.int .i64 3, .int .i64 n, .string ⟨#[]⟩, .slice none 0 0, .slice none 0 0]) ∧ Below w.heap.size w w' := by
  have HN : Aside0 ((w.alloc (.cells #[.int .i64 0, .int .i64 0, .string ⟨#[]⟩, .slice none 0 0, .slice none 0 0] 28)).heap[w.heap.size]? = some (.cells #[.int .i64 0, .int .i64 0, .string ⟨#[]⟩, .slice none 0 0, .slice none 0 0] 28 (0, 0))) := ⟨heap_alloc_new w _⟩
  have HB := Aside0.mk (new_below w (.cells #[.int .i64 0, .int .i64 0, .string ⟨#[]⟩, .slice none 0 0, .slice none 0 0] 28))
  go_enter Try.func58, Try.ntmps58
  go_upto_region 1 with fail
  obtain ⟨b, hb⟩ : ∃ b, w.heap.size = b := ⟨_, rfl⟩
  have hbb : Aside0 (w.heap.size ≤ b) := ⟨by omega⟩
  obtain ⟨W, hW⟩ : ∃ W, w.alloc (.cells #[.int .i64 0, .int .i64 0, .string ⟨#[]⟩, .slice none 0 0, .slice none 0 0] 28) = W := ⟨_, rfl⟩
  rw [hW, hb] at HN
  rw [hW] at HB
  rw [hW, hb]
  clear hW hb
  obtain ⟨t0, t1, t2, t3, t4, t5⟩ := zero5 HN.out
  obtain ⟨W', hW', ⟨u0, u1, u2, u3, u4⟩, hg, hz⟩ := fill5 HN.out HB.out hbb.out (.int .i64 3) (.int .i64 n) (.string ⟨#[]⟩) (.slice none 0 0) (.slice none 0 0)
  have HF := Aside0.mk hW'
  have HZ := Aside0.mk hz
  clear hW' hg hz
  go_wp2_with fail
  rw [HF.out]
  exact bodyPost_ret (v := .agg #[.int .i64 3, .int .i64 n, .string ⟨#[]⟩, .slice none 0 0, .slice none 0 0]) (by simp [results, Try.results58, go_sem, u0, u1, u2, u3, u4]) rfl ⟨rfl, HZ.out⟩
theorem valueNumC (n : Int) (w : World) : Calls Try.prog 22 #[.int .i64 n] w fun e w' => e = .returned (.agg #[.int .i64 3, .int .i64 n, .string ⟨#[]⟩, .slice none 0 0, .slice none 0 0]) ∧ Below w.heap.size w w' := by
  have HN : Aside0 ((w.alloc (.cells #[.int .i64 0, .int .i64 0, .string ⟨#[]⟩, .slice none 0 0, .slice none 0 0] 28)).heap[w.heap.size]? = some (.cells #[.int .i64 0, .int .i64 0, .string ⟨#[]⟩, .slice none 0 0, .slice none 0 0] 28 (0, 0))) := ⟨heap_alloc_new w _⟩
  have HB := Aside0.mk (new_below w (.cells #[.int .i64 0, .int .i64 0, .string ⟨#[]⟩, .slice none 0 0, .slice none 0 0] 28))
  go_enter Try.func22, Try.ntmps22
  go_upto_region 1 with fail
  obtain ⟨b, hb⟩ : ∃ b, w.heap.size = b := ⟨_, rfl⟩
  have hbb : Aside0 (w.heap.size ≤ b) := ⟨by omega⟩
  have hbl : Aside0 (b < (w.alloc (.cells #[.int .i64 0, .int .i64 0, .string ⟨#[]⟩, .slice none 0 0, .slice none 0 0] 28)).heap.size) := ⟨by simp; omega⟩
  obtain ⟨W, hW⟩ : ∃ W, w.alloc (.cells #[.int .i64 0, .int .i64 0, .string ⟨#[]⟩, .slice none 0 0, .slice none 0 0] 28) = W := ⟨_, rfl⟩
  rw [hW, hb] at HN
  rw [hW] at HB hbl
  rw [hW, hb]
  clear hW hb
  go_wp2_with (first | (go_at_call 58; (with_reducible refine (numC n _).mono ?_); rintro e we ⟨rfl, hc⟩; have HC := Aside0.mk hc; clear hc; have HN2 := Aside0.mk ((HC.out.block b hbl.out).trans HN.out); have HB2 := Aside0.mk (below_step HB.out HC.out); obtain ⟨t0, t1, t2, t3, t4, t5⟩ := zero5 HN2.out))
  obtain ⟨W', hW', ⟨u0, u1, u2, u3, u4⟩, hg, hz⟩ := fill5 HN2.out HB2.out hbb.out (.int .i64 3) (.int .i64 n) (.string ⟨#[]⟩) (.slice none 0 0) (.slice none 0 0)
  rw [hW']
  exact bodyPost_ret (v := .agg #[.int .i64 3, .int .i64 n, .string ⟨#[]⟩, .slice none 0 0, .slice none 0 0]) (by simp [results, Try.results22, go_sem, u0, u1, u2, u3, u4]) rfl ⟨rfl, hz⟩
end Go.Proofs.Ytgpjkojnmeaoiaa.QV
