/- A row of summaries of one's own, told cell by cell; slices.Clone of summaries. -/
import Derived.Test.YtkhnifehcnlpjaaDoorS4
namespace Go.Proofs.YtkhnifehcnlpjaaDoor.QC
open Go Go.RowKit Go.Proofs.YtkhnifehcnlpjaaDoorW.PrintWords Go.Proofs.YtkhnifehcnlpjaaDoorW.PrintLast Go.Proofs.YtkhnifehcnlpjaaDoorW.PrintMore
set_option linter.unusedVariables false
set_option linter.unusedSimpArgs false
set_option maxRecDepth 100000
set_option maxHeartbeats 4000000
def Sf (W : World) (b : Nat) (A0 : Option Addr) (c0 : Nat) (A1 : Option Addr) (c1 : Nat) (A2 : Option Addr) (c2 : Nat) (x : Smm) : Prop := ∀ W' : World, W.grownBy W' (some b) → RdS W' A0 c0 A1 c1 A2 c2 x
def Ec (W : World) (b i : Nat) (A0 : Option Addr) (c0 : Nat) (A1 : Option Addr) (c1 : Nat) (A2 : Option Addr) (c2 : Nat) (x : Smm) : Prop := ∀ (j : Nat) (u : Value), (#[.int .i64 x.n, .int .i64 x.e0, .int .i64 x.e1, .int .i64 x.e2, .slice A0 x.l0.length c0, .slice A1 x.l1.length c1, .slice A2 x.l2.length c2] : Array Value)[j]? = some u → W.cell? ⟨b, i * 7 + j, none⟩ = some u
structure Rw (W : World) (b n cap : Nat) (l : List S26) : Prop where
  blk : ∃ arr, W.heap[b]? = some (.cells arr 26 (0, 0)) ∧ arr.size = cap * 7
  len : l.length = n ∧ n ≤ cap ∧ cap ≤ 9223372036854775807
  el : ∀ (i : Nat) (x : S26), l[i]? = some x → ∃ A0 c0 A1 c1 A2 c2, Ec W b i A0 c0 A1 c1 A2 c2 (sm x) ∧ Sf W b A0 c0 A1 c1 A2 c2 (sm x)
theorem grown_refl (W : World) (r : Option Nat) : W.grownBy W r := ⟨rfl, rfl, rfl, Nat.le_refl _, fun _ _ _ => rfl⟩
theorem grown_below {W W' : World} (h : Below W.heap.size W W') (r : Option Nat) : W.grownBy W' r := ⟨h.os, h.tape, h.output, h.size, fun k hk _ => h.block k hk⟩
theorem Sf.step {W W' : World} {b : Nat} {A0 c0 A1 c1 A2 c2} {x : Smm} (h : Sf W b A0 c0 A1 c1 A2 c2 x) (hg : W.grownBy W' (some b)) : Sf W' b A0 c0 A1 c1 A2 c2 x := fun W2 h2 => h W2 (hg.trans h2)
theorem Sf.of_old {w W : World} {b : Nat} {A0 c0 A1 c1 A2 c2} {x : Smm} (h : RdS w A0 c0 A1 c1 A2 c2 x) (hB : Below w.heap.size w W) (hb : w.heap.size ≤ b) : Sf W b A0 c0 A1 c1 A2 c2 x :=
  fun W' hg => h.below (below_grown hB hb hg)
theorem Sf.of_ty {W : World} {b : Nat} {A0 c0 A1 c1 A2 c2} {x : Smm} {arr : Array Value} (h : RdS W A0 c0 A1 c1 A2 c2 x) (ht : Ty W A0 A1 A2 x) (hb : W.heap[b]? = some (.cells arr 26 (0, 0))) : Sf W b A0 c0 A1 c1 A2 c2 x :=
  fun W' hg => h.grown ht hb hg
theorem Rw.below {W W' : World} {b n cap : Nat} {l : List S26} (h : Rw W b n cap l) (hb : Below W.heap.size W W') : Rw W' b n cap l := by
  obtain ⟨arr, h1, h2⟩ := h.blk
  have hblk := hb.block b (Array.getElem?_eq_some_iff.1 h1).1
  refine ⟨⟨arr, hblk.trans h1, h2⟩, h.len, fun i x hx => ?_⟩
  obtain ⟨A0, c0, A1, c1, A2, c2, he, hs⟩ := h.el i x hx
  exact ⟨A0, c0, A1, c1, A2, c2, fun j u hu => (hb.cell (World.block_lt_of_cell? W _ (he j u hu))).trans (he j u hu), hs.step (grown_below hb _)⟩
theorem Rw.get {W : World} {b n cap : Nat} {l : List S26} (h : Rw W b n cap l) {i : Nat} {x : S26} (hx : l[i]? = some x) : ∃ A0 c0 A1 c1 A2 c2, El W ⟨b, i * 7, none⟩ A0 c0 A1 c1 A2 c2 (sm x) ∧ Sf W b A0 c0 A1 c1 A2 c2 (sm x) := by
  obtain ⟨A0, c0, A1, c1, A2, c2, he, hs⟩ := h.el i x hx
  exact ⟨A0, c0, A1, c1, A2, c2, ⟨he 0 _ rfl, he 1 _ rfl, he 2 _ rfl, he 3 _ rfl, he 4 _ rfl, he 5 _ rfl, he 6 _ rfl, hs W (grown_refl _ _)⟩, hs⟩
theorem Rw.one {W : World} {b n cap : Nat} {l : List S26} (h : Rw W b n cap l) {arr : Array Value} (ha : W.heap[b]? = some (.cells arr 26 (0, 0))) (j : Nat) (u : Value) (hj : j < n * 7) (hu : arr[j]? = some u) : u.oneCell' = true := by
  have hi : j / 7 < l.length := by rw [h.len.1]; omega
  obtain ⟨A0, c0, A1, c1, A2, c2, he, _⟩ := h.el (j / 7) _ (List.getElem?_eq_getElem hi)
  have hm : j = j / 7 * 7 + j % 7 := by omega
  have hm7 : j % 7 < 7 := Nat.mod_lt _ (by omega)
  have hc : W.cell? ⟨b, j, none⟩ = some u := (cell_arr ha).trans hu
  rw [hm] at hc
  have key : ∀ v, W.cell? ⟨b, j / 7 * 7 + j % 7, none⟩ = some v → v.oneCell' = true → u.oneCell' = true := fun v hv h1 => by rw [hc] at hv; obtain rfl := Option.some.inj hv; exact h1
  rcases (show j % 7 = 0 ∨ j % 7 = 1 ∨ j % 7 = 2 ∨ j % 7 = 3 ∨ j % 7 = 4 ∨ j % 7 = 5 ∨ j % 7 = 6 by omega) with h | h | h | h | h | h | h <;> rw [h] at key
  · exact key _ (he 0 _ rfl) rfl
  · exact key _ (he 1 _ rfl) rfl
  · exact key _ (he 2 _ rfl) rfl
  · exact key _ (he 3 _ rfl) rfl
  · exact key _ (he 4 _ rfl) rfl
  · exact key _ (he 5 _ rfl) rfl
  · exact key _ (he 6 _ rfl) rfl
/-- One element is taken out. -/
theorem Rw.del {W : World} {b n cap k : Nat} {i1 i2 : Int} {l : List S26} (h : Rw W b n cap l) (h1 : i1 = (k : Int) + 1) (h2 : i2 = (k : Int) + 2) (hk : k + 2 ≤ n) :
    Calls Tryd.prog 39 #[.slice (some ⟨b, 0, none⟩) n cap, .int .i64 i1, .int .i64 i2] W fun e W' => e = .returned (.slice (some ⟨b, 0, none⟩) (n - 1) cap) ∧ Rw W' b (n - 1) cap (l.eraseIdx (k + 1)) ∧ W.grownBy W' (some b) := by
  obtain ⟨arr, ha, hz⟩ := h.blk
  refine (delC W b n cap k i1 i2 h1 h2 arr ha hz hk h.len.2.1 h.len.2.2 (fun j u hj hu => h.one ha j u hj hu)).mono ?_
  rintro e W' ⟨rfl, hblk, hc1, hc2, hg⟩
  refine ⟨rfl, ⟨hblk, ⟨?_, by have := h.len; omega, h.len.2.2⟩, fun i x hx => ?_⟩, hg⟩
  · rw [List.length_eraseIdx, h.len.1, if_pos (by omega)]
  · rw [List.getElem?_eraseIdx] at hx
    split at hx
    · rename_i hi
      obtain ⟨A0, c0, A1, c1, A2, c2, he, hs⟩ := h.el i x hx
      refine ⟨A0, c0, A1, c1, A2, c2, fun j u hu => hc1 _ _ ?_ (he j u hu), hs.step hg⟩
      have := (Array.getElem?_eq_some_iff.1 hu).1
      simp at this
      omega
    · rename_i hi
      obtain ⟨A0, c0, A1, c1, A2, c2, he, hs⟩ := h.el (i + 1) x hx
      have hil := (List.getElem?_eq_some_iff.1 hx).1
      rw [h.len.1] at hil
      refine ⟨A0, c0, A1, c1, A2, c2, fun j u hu => ?_, hs.step hg⟩
      have hj := (Array.getElem?_eq_some_iff.1 hu).1
      simp at hj
      refine hc2 _ _ (by omega) (by omega) ?_
      rw [show i * 7 + j + 7 = (i + 1) * 7 + j by omega]
      exact he j u hu
/-- One element is written over. -/
theorem Rw.set {W W' : World} {b n cap k : Nat} {l : List S26} (h : Rw W b n cap l) (hk : k < n) {A0 : Option Addr} {c0 : Nat} {A1 : Option Addr} {c1 : Nat} {A2 : Option Addr} {c2 : Nat} (z : S26)
    (hW : ((((((W.setCell ⟨b, k * 7, none⟩ (.int .i64 (sm z).n)).setCell ⟨b, k * 7 + 1, none⟩ (.int .i64 (sm z).e0)).setCell ⟨b, k * 7 + 2, none⟩ (.int .i64 (sm z).e1)).setCell ⟨b, k * 7 + 3, none⟩ (.int .i64 (sm z).e2)).setCell ⟨b, k * 7 + 4, none⟩ (.slice A0 (sm z).l0.length c0)).setCell ⟨b, k * 7 + 5, none⟩ (.slice A1 (sm z).l1.length c1)).setCell ⟨b, k * 7 + 6, none⟩ (.slice A2 (sm z).l2.length c2) = W')
    (hs : Sf W b A0 c0 A1 c1 A2 c2 (sm z)) : Rw W' b n cap (l.set k z) ∧ W.grownBy W' (some b) := by
  obtain ⟨arr, ha, hz⟩ := h.blk
  have hg : W.grownBy W' (some b) := by
    rw [← hW]
    exact (((((((grownBy_cell _ _ _ _).trans (grownBy_cell _ _ _ _)).trans (grownBy_cell _ _ _ _)).trans (grownBy_cell _ _ _ _)).trans (grownBy_cell _ _ _ _)).trans (grownBy_cell _ _ _ _)).trans (grownBy_cell _ _ _ _))
  have hk7 : k * 7 + 7 ≤ arr.size := by
    rw [hz]
    have := Nat.mul_le_mul_right 7 (show k + 1 ≤ cap by have := h.len; omega)
    omega
  obtain ⟨arr', ha', hq⟩ : ∃ arr' : Array Value, W'.heap[b]? = some (.cells arr' 26 (0, 0)) ∧ arr' = ((((((arr.setIfInBounds (k * 7) (.int .i64 (sm z).n)).setIfInBounds (k * 7 + 1) (.int .i64 (sm z).e0)).setIfInBounds (k * 7 + 2) (.int .i64 (sm z).e1)).setIfInBounds (k * 7 + 3) (.int .i64 (sm z).e2)).setIfInBounds (k * 7 + 4) (.slice A0 (sm z).l0.length c0)).setIfInBounds (k * 7 + 5) (.slice A1 (sm z).l1.length c1)).setIfInBounds (k * 7 + 6) (.slice A2 (sm z).l2.length c2) := by
    refine ⟨_, ?_, rfl⟩
    rw [← hW, heap_setCell_same _ _ _ _ _ _ (heap_setCell_same _ _ _ _ _ _ (heap_setCell_same _ _ _ _ _ _ (heap_setCell_same _ _ _ _ _ _ (heap_setCell_same _ _ _ _ _ _ (heap_setCell_same _ _ _ _ _ _ (heap_setCell_same _ _ _ _ _ _ ha))))))]
  refine ⟨⟨⟨arr', ha', by rw [hq]; simpa using hz⟩, ⟨by rw [List.length_set]; exact h.len.1, h.len.2⟩, fun i x hx => ?_⟩, hg⟩
  rw [List.getElem?_set] at hx
  split at hx
  · rename_i hik
    subst hik
    split at hx
    · obtain rfl := Option.some.inj hx
      refine ⟨A0, c0, A1, c1, A2, c2, fun j u hu => ?_, hs.step hg⟩
      rw [cell_arr ha', hq]
      have hj := (Array.getElem?_eq_some_iff.1 hu).1
      simp at hj
      rcases (show j = 0 ∨ j = 1 ∨ j = 2 ∨ j = 3 ∨ j = 4 ∨ j = 5 ∨ j = 6 by omega) with rfl | rfl | rfl | rfl | rfl | rfl | rfl <;> (obtain rfl := Option.some.inj hu) <;> simp [Array.getElem?_setIfInBounds, show k * 7 < arr.size by omega, show k * 7 + 1 < arr.size by omega, show k * 7 + 2 < arr.size by omega, show k * 7 + 3 < arr.size by omega, show k * 7 + 4 < arr.size by omega, show k * 7 + 5 < arr.size by omega, show k * 7 + 6 < arr.size by omega]
    · cases hx
  · rename_i hik
    obtain ⟨B0, d0, B1, d1, B2, d2, he, hs2⟩ := h.el i x hx
    refine ⟨B0, d0, B1, d1, B2, d2, fun j u hu => ?_, hs2.step hg⟩
    have hj := (Array.getElem?_eq_some_iff.1 hu).1
    simp at hj
    have h3 := he j u hu
    rw [cell_arr ha] at h3
    rw [cell_arr ha', hq]
    have ne : ∀ m, m < 7 → ¬ k * 7 + m = i * 7 + j := fun m hm e => hik (by omega)
    have n0 := ne 0 (by omega)
    rw [Nat.add_zero] at n0
    simp only [Array.getElem?_setIfInBounds, n0, ne 1 (by omega), ne 2 (by omega), ne 3 (by omega), ne 4 (by omega), ne 5 (by omega), ne 6 (by omega), if_false]
    exact h3
theorem Rw.of_own {w W : World} {base : Nat} {v : Value} {l : List S26} (h : OwnRow (k26.K w) 26 7 W base v l) (hl : 0 < l.length) (hB : Below w.heap.size w W) (hb : w.heap.size ≤ base) : ∃ b cap, v = .slice (some ⟨b, 0, none⟩) l.length cap ∧ base ≤ b ∧ Rw W b l.length cap l := by
  obtain ⟨inner, ho, hr⟩ := h
  rcases ho.2 with ⟨_, h0⟩ | ⟨b, cap, cur, e, hbb, hc, hn, hm, hsz, htk⟩
  · omega
  · refine ⟨b, cap, e, hbb, ⟨⟨cur, hc, hsz⟩, ⟨rfl, hn, by simpa [maxLen] using hm⟩, fun i x hx => ?_⟩⟩
    have hK := hr.2 i x hx
    obtain ⟨A0, c0, A1, c1, A2, c2, hcs, l0, g0, l1, g1, l2, g2⟩ := k26_open hK
    have hil := (List.getElem?_eq_some_iff.1 hx).1
    refine ⟨A0, c0, A1, c1, A2, c2, fun j u hu => ?_, Sf.of_old (w := w) ⟨l0, l1, l2, g0, g1, g2⟩ hB (by omega)⟩
    have hj := (Array.getElem?_eq_some_iff.1 hu).1
    simp at hj
    have h1 : ((inner.drop (i * 7)).take 7)[j]? = some u := by rw [hcs]; simpa [sm] using hu
    rw [List.getElem?_take, if_pos (by omega), List.getElem?_drop, ← htk, List.getElem?_take] at h1
    split at h1
    · rw [cell_arr hc, ← Array.getElem?_toList]; exact h1
    · cases h1
/-- A kind of elements that is told by a fixed relation. -/
def kRel7 {α : Type} (R : α → List Value → Prop) (sz : Nat) (h1 : ∀ x cs, R x cs → cs.length = sz) (h2 : ∀ x cs, R x cs → ∀ u ∈ cs, u.oneCell' = true) : Kd α where
  sz := sz
  E := []
  K := fun _ => R
  M := fun _ _ _ => R
  K_len := fun h => h1 _ _ h
  K_one := fun h => h2 _ _ h
  K_below := fun _ h => h
  K_of_M := fun h => h
  M_mono := fun _ h => h
  M_bound := fun h => h
  M_move := fun _ h => h
  M_lower := fun _ h => h
/-- slices.Clone of summaries, at least one. -/
theorem cloneS (l : List S26) (w W : World) (h0 : Below w.heap.size w W) {A : Option Addr} {c : Nat} (hl : Kd.C k26 w A l.length l) (hp : 0 < l.length) (hm : l.length ≤ 1000) :
    Calls Tryd.prog 37 #[.slice A l.length c] W fun e w' => ∃ b cap, e = .returned (.slice (some ⟨b, 0, none⟩) l.length cap) ∧ W.heap.size ≤ b ∧ Rw w' b l.length cap l ∧ Below W.heap.size W w' := by
  obtain ⟨ad, rfl, _⟩ := hl.2.2 hp
  have HR : Aside0 (∀ W', Below w.heap.size w W' → ReadsRow (k26.K w) 7 W' (some ad) l.length l) := ⟨fun W' hb => hl.imp_ hb (fun _ _ h => h)⟩
  have H0 := Aside0.mk h0
  have HP := Aside0.mk (And.intro hp hm)
  have hq : ∀ W : World, (binOp .eql 34 (.slice (some ad) l.length c) (.slice none 0 0)).run Tryd.prog W = .ok (.bool (some ad).isNone) W := fun W => Go.Lib.run_eql_slice_nil W 34 26 (some ad) l.length c 0 0 Tryd.underlying34
  have HO0 : Aside0 (OwnRow (k26.K w) 26 7 (W.alloc (.cells #[] 26)) W.heap.size (.slice (some ⟨W.heap.size, 0, none⟩) 0 0) []) := ⟨OwnRow.lit (R := k26.K w) (e := 26) (size := 7) W W.heap.size (ps := []) (inner := []) (Reps.none _ _) (Nat.le_refl _) (by simp)⟩
  have HB1 : Aside0 (Below W.heap.size W (W.alloc (.cells #[] 26))) := ⟨(Below.refl _ _).alloc (Nat.le_refl _) _⟩
  clear hl h0 hp hm
  go_enter Tryd.func37, Tryd.ntmps37
  go_wp2_with (at_builtin; refine Kd.R_append_rows (P := Tryd.prog) (kRel7 (k26.K w) 7 (fun _ _ h => k26.K_len h) (fun _ _ h => k26.K_one h)) (Rr := k26.K w) (w0 := W) (W := W.alloc (.cells #[] 26)) W.heap.size rfl (.tmp 5) (.tmp 6) 34 26 (.agg Z7) 104 rfl Tryd.underlying34 inf26 rfl (show 0 < 7 by decide) (by decide) (.slice (some ⟨W.heap.size, 0, none⟩) 0 0) [] l (some ad) l.length c (fun _ => True) (fun _ => False) rfl rfl ⟨fun _ _ => trivial, HO0.out⟩ (HR.out _ (below_step H0.out HB1.out)) (fun _ _ h => h) (fun _ h => h.elim) (fun _ _ => trivial) HB1.out (Below.size HB1.out) (by have := HP.out.2; simp only [List.length_nil]; omega) ?_; intro v1 w1 ho hb hg hx; rw [List.nil_append] at ho; obtain ⟨b, cap, e, hbb, hR⟩ := Rw.of_own ho.2 HP.out.1 (below_step H0.out hb) H0.out.size; subst e; have HRw := Aside0.mk (And.intro hbb (And.intro hR hb)); clear ho hb hg hx hbb hR)
  go_ret
  exact ⟨b, cap, rfl, HRw.out.1, HRw.out.2.1, HRw.out.2.2⟩
end Go.Proofs.YtkhnifehcnlpjaaDoor.QC
