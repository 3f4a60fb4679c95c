/- slices.Clone and slices.Delete of summaries, by hand. -/
import Derived.Test.YtkhnifehcnlpjaaDoorS2
import Derived.Deep.RegionLaw
import Derived.Lib.SliceRun
import Derived.Deep.Upon
namespace Go.Proofs.YtkhnifehcnlpjaaDoor.QC
open Go Go.RowKit Go.Proofs.YtkhnifehcnlpjaaDoorW.PrintWords Go.Proofs.YtkhnifehcnlpjaaDoorW.PrintLast Go.Proofs.YtkhnifehcnlpjaaDoorW.PrintMore
set_option linter.unusedVariables false
set_option linter.unusedSimpArgs false
set_option maxRecDepth 100000
set_option maxHeartbeats 4000000
theorem setCells_block (b : Nat) : ∀ (vs : List Value) (o : Nat) (W : World) (arr : Array Value), W.heap[b]? = some (.cells arr 26 (0, 0)) → ∃ arr', (W.setCells b o vs).heap[b]? = some (.cells arr' 26 (0, 0)) ∧ arr'.size = arr.size
  | [], _, W, arr, h => ⟨arr, h, rfl⟩
  | v :: r, o, W, arr, h => by
    obtain ⟨arr', h1, h2⟩ := setCells_block b r (o + 1) (W.setCell ⟨b, o, none⟩ v) _ (heap_setCell_same _ _ _ _ _ _ h)
    exact ⟨arr', h1, by rw [h2]; simp⟩
theorem setCells_grown (b : Nat) : ∀ (vs : List Value) (o : Nat) (W : World), W.grownBy (W.setCells b o vs) (some b)
  | [], _, W => ⟨rfl, rfl, rfl, Nat.le_refl _, fun k _ _ => rfl⟩
  | v :: r, o, W => (grownBy_cell W b o v).trans (setCells_grown b r (o + 1) _)
theorem cell_arr {W : World} {b j : Nat} {arr : Array Value} (h : W.heap[b]? = some (.cells arr 26 (0, 0))) : W.cell? ⟨b, j, none⟩ = arr[j]? := by simp [World.cell?, h]
theorem zv26 (W : World) : (zeroValue 26).run Tryd.prog W = .ok (.agg Z7) W := by kernel_rfl
theorem zc7 : (Builtin.zeroCells (Value.agg #[.int .i64 0, .int .i64 0, .int .i64 0, .int .i64 0, .slice none 0 0, .slice none 0 0, .slice none 0 0]).cells 1).toList = Z7.toList := by kernel_rfl
theorem clr7 (W : World) (ty : TypeId) (b o c : Nat) (hc : ∀ j, j < 7 → (W.cell? ⟨b, o + j, none⟩).isSome = true) (hf : ∀ j, j < 7 → W.frozen? ⟨b, o + j, none⟩ = false) :
    (Builtin.clear_ #[34] ty #[.slice (some ⟨b, o, none⟩) 1 c]).run Tryd.prog W = .ok (.tuple #[]) (W.setCells b o Z7.toList) := by
  have hst := run_storeCells_cells (P := Tryd.prog) b o Z7.toList 0 W (by simpa [Z7] using hc) (by simpa [Z7] using hf) (by simp [Z7, Value.oneCell'])
  simp only [Nat.add_zero] at hst
  simp [Builtin.clear_, run_underlying Tryd.underlying34, zv26, zc7, hst]
theorem inf26 : (Tryd.prog.info? 26).map (fun i => (i.zero, i.size, i.bytes)) = some (some (.agg Z7), 7, 104) := by kernel_rfl
theorem delC (W : World) (b n cap k : Nat) (i1 i2 : Int) (hi1 : i1 = (k : Int) + 1) (hi2 : i2 = (k : Int) + 2) (arr : Array Value) (hb : W.heap[b]? = some (.cells arr 26 (0, 0))) (hs : arr.size = cap * 7) (hk : k + 2 ≤ n) (hn : n ≤ cap) (hc : cap ≤ 9223372036854775807) (ho : ∀ j u, j < n * 7 → arr[j]? = some u → u.oneCell' = true) :
    Calls Tryd.prog 39 #[.slice (some ⟨b, 0, none⟩) n cap, .int .i64 i1, .int .i64 i2] W fun e W' => e = .returned (.slice (some ⟨b, 0, none⟩) (n - 1) cap) ∧
      (∃ arr', W'.heap[b]? = some (.cells arr' 26 (0, 0)) ∧ arr'.size = cap * 7) ∧ (∀ j u, j < (k + 1) * 7 → W.cell? ⟨b, j, none⟩ = some u → W'.cell? ⟨b, j, none⟩ = some u) ∧
      (∀ j u, (k + 1) * 7 ≤ j → j < (n - 1) * 7 → W.cell? ⟨b, j + 7, none⟩ = some u → W'.cell? ⟨b, j, none⟩ = some u) ∧ W.grownBy W' (some b) := by
  obtain ⟨i26, hi26, hz26, hs26, hb26⟩ : ∃ i, Tryd.prog.info? 26 = some i ∧ i.zero = some (.agg Z7) ∧ i.size = 7 ∧ i.bytes = 104 := by
    have h := inf26
    cases hq : Tryd.prog.info? 26 with
    | none => rw [hq] at h; cases h
    | some i =>
      rw [hq] at h
      simp at h
      exact ⟨i, rfl, h.1, h.2.1, h.2.2⟩
  -- the cells that move
  obtain ⟨news, hnews⟩ : ∃ news, (arr.toList.drop ((k + 2) * 7)).take ((n - (k + 2)) * 7) = news := ⟨_, rfl⟩
  have hlen : news.length = (n - (k + 2)) * 7 := by
    rw [← hnews, List.length_take, List.length_drop, Array.length_toList, hs]
    have : (n - (k + 2)) * 7 ≤ cap * 7 - (k + 2) * 7 := by rw [← Nat.sub_mul]; exact Nat.mul_le_mul_right _ (by omega)
    omega
  have hget : ∀ t u, news[t]? = some u → arr[(k + 2) * 7 + t]? = some u := by
    intro t u hu
    rw [← hnews, List.getElem?_take] at hu
    split at hu
    · rw [List.getElem?_drop, Array.getElem?_toList] at hu; exact hu
    · cases hu
  obtain ⟨AN, hAN⟩ : ∃ AN : Addr, (if cap = k + 2 then (⟨b, 0, none⟩ : Addr) else ⟨b, (k + 2) * 7, none⟩) = AN := ⟨_, rfl⟩
  have HSrc : Aside0 (∀ w : World, w.heap[b]? = some (.cells arr 26 (0, 0)) → ∀ t u, news[t]? = some u → w.cell? (AN.add t) = some u) := ⟨fun w hw t u hu => by
    have ht := (List.getElem?_eq_some_iff.1 hu).1
    rw [← hAN, if_neg (by omega), Addr.add_lit, cell_arr hw]
    exact hget t u hu⟩
  have HOne : Aside0 (∀ u ∈ news, u.oneCell' = true) := ⟨fun u hu => by
    obtain ⟨t, ht⟩ := List.getElem?_of_mem hu
    have htl := (List.getElem?_eq_some_iff.1 ht).1
    refine ho ((k + 2) * 7 + t) u ?_ (hget t u ht)
    have e0 : (k + 2) * 7 + (n - (k + 2)) * 7 = n * 7 := by rw [← Nat.add_mul]; congr 1; omega
    omega⟩
  have HL := Aside0.mk hlen
  have HGet := Aside0.mk hget
  have HB := Aside0.mk hb
  have HSz := Aside0.mk hs
  have HN := Aside0.mk (And.intro hk (And.intro hn hc))
  obtain ⟨n1, hn1⟩ : ∃ n1, n - 1 = n1 := ⟨_, rfl⟩
  have hAd : ∀ j, (⟨b, 0, none⟩ : Addr).add j = ⟨b, j, none⟩ := fun j => by rw [Addr.add_lit, Nat.zero_add]
  have hcut1 := cut_to (P := Tryd.prog) 34 26 .i64 Tryd.underlying34 hi26 (some ⟨b, 0, none⟩) n cap i1 (by omega) (by omega) hn
  rw [show i1.toNat = k + 1 by omega] at hcut1
  have hcut2 := cut_from (P := Tryd.prog) 34 26 .i64 Tryd.underlying34 hi26 7 hs26 (some ⟨b, 0, none⟩) n cap i2 (by omega) (by omega)
  rw [show i2.toNat = k + 2 by omega, show (if cap = k + 2 then (some ⟨b, 0, none⟩ : Option Addr) else (some ⟨b, 0, none⟩ : Option Addr).map (·.add ((k + 2) * 7))) = some AN by rw [← hAN]; split <;> simp [hAd]] at hcut2
  have hcut3 : ∀ W : World, (Instr.slice 34 (.slice (some ⟨b, 0, none⟩) n1 cap) (some (.int .i64 (n1 : Int))) (some (.int .i64 (n : Int))) none).run Tryd.prog W = .ok (.slice (some ⟨b, n1 * 7, none⟩) 1 (cap - n1)) W := fun W => by
    have hel : Tryd.prog.elem 34 = 26 := by simp [Program.elem, Tryd.underlying34]
    have hu : Tryd.prog.underlying 34 = some (.slice (Tryd.prog.elem 34)) := by rw [hel]; exact Tryd.underlying34
    rw [run_slice_lh W 34 (some ⟨b, 0, none⟩) n1 cap hu .i64 .i64 (n1 : Int) (n : Int) (by omega) (by omega) (by omega), hel]
    have e1 : (n : Int).toNat - (n1 : Int).toNat = 1 := by omega
    have e2 : ¬ cap = n1 := by omega
    simp [sizeOf, typeInfo, hi26, hs26, sliced, Result.andThen, hAd, e2]
    omega
  obtain ⟨v0, hcut0⟩ : ∃ v0, ∀ W : World, (Instr.slice 34 (.slice (some ⟨b, 0, none⟩) n cap) (some (.int .i64 i1)) (some (.int .i64 i2)) (some (.int .i64 (n : Int)))).run Tryd.prog W = .ok v0 W := by
    have hel : Tryd.prog.elem 34 = 26 := by simp [Program.elem, Tryd.underlying34]
    have hu : Tryd.prog.underlying 34 = some (.slice (Tryd.prog.elem 34)) := by rw [hel]; exact Tryd.underlying34
    exact ⟨_, fun W => by
      rw [run_slice_lhm W 34 (some ⟨b, 0, none⟩) n cap hu .i64 .i64 .i64 i1 i2 (n : Int) (by omega) (by omega) (by omega) (by omega), hel]
      simp [sizeOf, typeInfo, hi26, hs26, sliced, Result.andThen]
      rfl⟩
  have g1 : (0 ≤ i1) = True := eq_true (by omega)
  have g2 : (i1 ≤ i2) = True := eq_true (by omega)
  have g3 : (i2 ≤ (n : Int)) = True := eq_true (by omega)
  have g4 : ((n : Int) ≤ (cap : Int)) = True := eq_true (by omega)
  have g4' : (n ≤ cap) = True := eq_true hn
  have g5 : decide (i1 = i2) = false := decide_eq_false (by omega)
  have g6 : (i1 == i2) = false := by rw [beq_eq_false_iff_ne]; omega
  have hlk : k + 1 + (n - (k + 2)) = n1 := by omega
  have HI := Aside0.mk (And.intro hi1 hi2)
  have HN1 := Aside0.mk (And.intro hn1 hlk)
  have hroom : k + 1 + (n - (k + 2)) ≤ cap := by omega
  have HD : Aside0 (W.drew.heap[b]? = some (.cells arr 26 (0, 0))) := ⟨HB.out⟩
  have HSp : Aside0 (∀ j, j < news.length → (W.drew.cell? ⟨b, 0 + (k + 1) * 7 + j, none⟩).isSome = true ∧ W.drew.frozen? ⟨b, 0 + (k + 1) * 7 + j, none⟩ = false) := ⟨fun j hj => by
    have hlt : 0 + (k + 1) * 7 + j < arr.size := by
      rw [hs]
      have h1 : (n1 + 1) * 7 ≤ cap * 7 := Nat.mul_le_mul_right _ (by omega)
      have h2 : (k + 1) * 7 + (n - (k + 2)) * 7 = n1 * 7 := by rw [← Nat.add_mul, hlk]
      omega
    rw [cell_arr HD.out, Array.getElem?_eq_getElem hlt]
    exact ⟨rfl, by simp [World.frozen?, HD.out]⟩⟩
  have hsrc := HSrc.out W.drew HD.out
  clear hnews hget hAN hb hs hk hn hc hi1 hi2 hn1 hlen ho hAd
  go_enter Tryd.func39, Tryd.ntmps39
  go_upto_region 5 with fail
  go_region_law (refine step_append_room rfl (.tmp 22) (.tmp 25) 34 rfl 26 i26 7 Tryd.underlying34 hi26 hs26 b 0 (k + 1) cap (by simp [Act.eval, Act.put]) AN (n - (k + 2)) (cap - (k + 2)) news (by simp [Act.eval, Act.put]) HL.out hsrc HOne.out hroom HSp.out ?_; rw [HN1.out.2])
  obtain ⟨W2, hW2⟩ : ∃ W2, W.drew.setCells b (0 + (k + 1) * 7) news = W2 := ⟨_, rfl⟩
  have hS2 : ∀ j, (W.drew.cell? ⟨b, j, none⟩).isSome = true → (W2.cell? ⟨b, j, none⟩).isSome = true := fun j hj => by rw [← hW2]; exact World.isSome_setCells b _ _ _ _ hj
  obtain ⟨arr2, ha2, hz2⟩ : ∃ arr', W2.heap[b]? = some (.cells arr' 26 (0, 0)) ∧ arr'.size = arr.size := by rw [← hW2]; exact setCells_block b _ _ _ _ HD.out
  have hg2 : W.grownBy W2 (some b) := by
    rw [← hW2]
    have h := setCells_grown b news (0 + (k + 1) * 7) W.drew
    exact ⟨h.os, h.tape, h.output, h.size, h.block⟩
  have hC1 : ∀ j u, j < (k + 1) * 7 → W.cell? ⟨b, j, none⟩ = some u → W2.cell? ⟨b, j, none⟩ = some u := fun j u hj hu => by
    rw [← hW2, World.cell?_setCells_out b news _ _ _ (fun _ _ => Or.inl (by simp; omega))]
    exact hu
  have hC2 : ∀ j u, (k + 1) * 7 ≤ j → j < n1 * 7 → W.cell? ⟨b, j + 7, none⟩ = some u → W2.cell? ⟨b, j, none⟩ = some u := fun j u h1 h2 hu => by
    have hl := HL.out
    have hlk := HN1.out.2
    have e0 : (k + 1) * 7 + (n - (k + 2)) * 7 = n1 * 7 := by rw [← Nat.add_mul, hlk]
    have hlt : j - (k + 1) * 7 < news.length := by omega
    have h3 := World.cell?_setCells_in b news (0 + (k + 1) * 7) W.drew (fun i hi => (HSp.out i hi).1) (j - (k + 1) * 7) hlt
    rw [show 0 + (k + 1) * 7 + (j - (k + 1) * 7) = j by omega, hW2] at h3
    rw [h3]
    have h4 := HGet.out _ _ (List.getElem?_eq_getElem hlt)
    rw [cell_arr HB.out, show j + 7 = (k + 2) * 7 + (j - (k + 1) * 7) by omega] at hu
    exact h4.symm.trans hu
  have hn7 : n1 * 7 + 7 ≤ arr2.size := by
    rw [hz2, HSz.out]
    have h1 : (n1 + 1) * 7 ≤ cap * 7 := Nat.mul_le_mul_right _ (by have := HN.out; have := HN1.out.1; omega)
    omega
  have hcl : ∀ j, j < 7 → (W2.cell? ⟨b, n1 * 7 + j, none⟩).isSome = true := fun j hj => by
    rw [cell_arr ha2, Array.getElem?_eq_getElem (by omega)]
    rfl
  have hfz : ∀ j, j < 7 → W2.frozen? ⟨b, n1 * 7 + j, none⟩ = false := fun j _ => by simp [World.frozen?, ha2]
  obtain ⟨W3, hW3⟩ : ∃ W3, W2.setCells b (n1 * 7) Z7.toList = W3 := ⟨_, rfl⟩
  have HFin : Aside0 ((∃ arr', W3.heap[b]? = some (.cells arr' 26 (0, 0)) ∧ arr'.size = cap * 7) ∧ (∀ j u, j < (k + 1) * 7 → W.cell? ⟨b, j, none⟩ = some u → W3.cell? ⟨b, j, none⟩ = some u) ∧
      (∀ j u, (k + 1) * 7 ≤ j → j < n1 * 7 → W.cell? ⟨b, j + 7, none⟩ = some u → W3.cell? ⟨b, j, none⟩ = some u) ∧ W.grownBy W3 (some b)) := ⟨by
    rw [← hW3]
    refine ⟨?_, fun j u hj hu => ?_, fun j u h1 h2 hu => ?_, ?_⟩
    · obtain ⟨a3, h1, h2⟩ := setCells_block b Z7.toList (n1 * 7) W2 arr2 ha2
      exact ⟨a3, h1, by rw [h2, hz2, HSz.out]⟩
    · rw [World.cell?_setCells_out b _ _ _ _ (fun _ _ => Or.inl (by
        have h1 : (k + 1) * 7 ≤ n1 * 7 := Nat.mul_le_mul_right _ (by have := HN1.out.2; omega)
        simp; omega))]
      exact hC1 j u hj hu
    · rw [World.cell?_setCells_out b _ _ _ _ (fun _ _ => Or.inl (by simp; omega))]
      exact hC2 j u h1 h2 hu
    · exact hg2.trans (setCells_grown b _ _ _)⟩
  have HC := Aside0.mk (And.intro hcl hfz)
  have HW3 := Aside0.mk hW3
  rw [Nat.zero_add] at hW2
  rw [hW2]
  clear hW2 hS2 ha2 hz2 hg2 hC1 hC2 hn7 hcl hfz hW3 hsrc
  go_wp2_with fail
  rw [clr7 W2 0 b (n1 * 7) (cap - n1) HC.out.1 HC.out.2, HW3.out]
  go_wp2_with fail
  go_ret
  rw [HN1.out.1]
  exact ⟨rfl, HFin.out⟩
end Go.Proofs.YtkhnifehcnlpjaaDoor.QC
