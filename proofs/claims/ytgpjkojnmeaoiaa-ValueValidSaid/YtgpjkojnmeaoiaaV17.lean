/- vals.Obj, by hand: its two loops. -/
import Derived.Test.YtgpjkojnmeaoiaaV16
namespace Go.Proofs.Ytgpjkojnmeaoiaa.QV
open Go Go.RowKit Go.Proofs.YtgpjkojnmeaoiaaW.PrintWords Go.Proofs.YtgpjkojnmeaoiaaW.PrintLast Go.Proofs.YtgpjkojnmeaoiaaW.PrintMore
set_option linter.unusedVariables false
set_option linter.unusedSimpArgs false
set_option maxRecDepth 100000
set_option maxHeartbeats 4000000
/-- The last of the members with the same key. -/
def dd : List Mem → List Mem
  | [] => []
  | m :: l => match l with
    | [] => [m]
    | m' :: _ => if m'.1 = m.1 then dd l else m :: dd l
theorem dd_last {ms : List Mem} {j : Nat} {m : Mem} (h : ms[j]? = some m) (hl : ¬ j + 1 < ms.length) : dd (ms.drop j) = [m] ∧ dd (ms.drop (j + 1)) = [] := by
  obtain ⟨h1, h2⟩ := List.getElem?_eq_some_iff.1 h
  have h3 : ms.drop (j + 1) = [] := List.drop_eq_nil_of_le (by omega)
  rw [List.drop_eq_getElem_cons h1, h3, h2]
  exact ⟨rfl, rfl⟩
theorem dd_next {ms : List Mem} {j : Nat} {m m' : Mem} (h : ms[j]? = some m) (h' : ms[j + 1]? = some m') : dd (ms.drop j) = if m'.1 = m.1 then dd (ms.drop (j + 1)) else m :: dd (ms.drop (j + 1)) := by
  obtain ⟨h1, h2⟩ := List.getElem?_eq_some_iff.1 h
  obtain ⟨h3, h4⟩ := List.getElem?_eq_some_iff.1 h'
  rw [List.drop_eq_getElem_cons h1, h2, List.drop_eq_getElem_cons h3, h4]
  rw [dd]
def kR : ByteArray → List Value → Prop := fun k cs => cs = [.string k]
def ge (es : List S28) (m : Mem) : S28 := (es[m.2.toNat]?).getD ⟨0, 0, ⟨#[]⟩, [], []⟩
/-- A way of being in memory that implies the readable one. -/
def Rok (R : S28 → List Value → Prop) (w : World) : Prop := ∀ y cs, R y cs → k28.K w y cs
theorem el_atR {R : S28 → List Value → Prop} {w : World} {A : Option Addr} {n : Nat} {l : List S28} (hR : Rok R w) (h : ReadsRow R 5 w A n l) (i : Nat) (hi : i < n) {x : S28} (hx : l[i]? = some x) : ∃ ad A3 c3 A4 c4, A = some ad ∧ Ce w (ad.add (i * 5)) A3 c3 A4 c4 x ∧ R x [.int .i64 x.f0, .int .i64 x.f1, .string x.f2, .slice A3 x.f3.length c3, .slice A4 x.f4.length c4] := by
  obtain ⟨ad, cs, e, hl, hr, hc⟩ := h.get_ ⟨0, 0, ⟨#[]⟩, [], []⟩ (i : Int) (by omega) (by omega)
  rw [Int.toNat_natCast, List.getD_eq_getElem?_getD, hx] at hr
  rw [Int.toNat_natCast] at hc
  simp only [Option.getD_some] at hr
  obtain ⟨A3, c3, A4, c4, rfl, l3, g3, l4, g4⟩ := k28_open (hR _ _ hr)
  refine ⟨ad, A3, c3, A4, c4, e, ⟨?_, ?_, ?_, ?_, ?_, ⟨l3, g3, l4, g4⟩⟩, hr⟩
  · exact hc 0 _ rfl
  · rw [← add_field _ _ 1 (by omega)]; exact hc 1 _ rfl
  · rw [← add_field _ _ 2 (by omega)]; exact hc 2 _ rfl
  · rw [← add_field _ _ 3 (by omega)]; exact hc 3 _ rfl
  · rw [← add_field _ _ 4 (by omega)]; exact hc 4 _ rfl
/-- Between two rounds of the second loop of Obj: the value that is made lies in block ob. -/
structure Qs (R : S28 → List Value → Prop) (w W : World) (ks : List ByteArray) (es : List S28) (X : Option Addr) (cp : Nat) (ms : List Mem) (ob : Nat) (v3 v4 : Value) (a3 : List ByteArray) (a4 : List S28) : Prop where
  z : Below w.heap.size w W
  res : W.heap[w.heap.size]? = some (.cells #[.int .i64 0, .int .i64 0, .string ⟨#[]⟩, .slice none 0 0, .slice none 0 0] 28 (0, 0))
  row : Ml W (w.heap.size + 1) X ms.length cp ms
  p : ms.Perm (mems ks)
  s : ms.Pairwise lexM
  out : W.heap[ob]? = some (.cells #[.int .i64 6, .int .i64 0, .string ⟨#[]⟩, v3, v4] 28 (0, 0))
  o1 : w.heap.size < ob
  r3 : OwnRow kR 9 1 W (ob + 1) v3 a3
  r4 : OwnRow R 28 5 W (ob + 1) v4 a4
  ml : ∀ a, X = some a → a.block < ob
theorem Qs.below {R : S28 → List Value → Prop} {w W W1 : World} {ks es X cp ms ob v3 v4 a3 a4} (h : Qs R w W ks es X cp ms ob v3 v4 a3 a4) (hb : Below W.heap.size W W1) : Qs R w W1 ks es X cp ms ob v3 v4 a3 a4 := by
  have ho : ob < W.heap.size := (Array.getElem?_eq_some_iff.1 h.out).1
  have h1 := h.o1
  refine ⟨h.z.trans (hb.mono (Below.size h.z)), (hb.block _ (by omega)).trans h.res, ?_, h.p, h.s, (hb.block _ ho).trans h.out, h.o1, h.r3.below hb, h.r4.below hb, h.ml⟩
  rcases h.row with h | ⟨g, a, b, c, d⟩
  · exact Or.inl h
  · exact Or.inr ⟨g, a, b, c, d.below hb⟩
theorem fill5h {W : World} {b : Nat} (h : W.heap[b]? = some (.cells #[.int .i64 0, .int .i64 0, .string ⟨#[]⟩, .slice none 0 0, .slice none 0 0] 28 (0, 0))) (v0 v1 v2 v3 v4 : Value) : ∃ W', ((((W.setCell ⟨b, 0, none⟩ v0).setCell ⟨b, 1, none⟩ v1).setCell ⟨b, 2, none⟩ v2).setCell ⟨b, 3, none⟩ v3).setCell ⟨b, 4, none⟩ v4 = W' ∧
    W'.heap[b]? = some (.cells #[v0, v1, v2, v3, v4] 28 (0, 0)) ∧ W.grownBy W' (some b) := by
  have gc : ∀ (W : World) (j : Nat) (v : Value), W.grownBy (W.setCell ⟨b, j, none⟩ v) (some b) := fun W j v => ⟨rfl, rfl, rfl, by simp, fun k _ hk => Below.heap_setCell _ _ _ k (fun e => hk (by rw [e]))⟩
  have hg := ((((gc W 0 v0).trans (gc _ 1 v1)).trans (gc _ 2 v2)).trans (gc _ 3 v3)).trans (gc _ 4 v4)
  refine ⟨_, rfl, ?_, hg⟩
  rw [heap_setCell_same _ _ _ _ _ _ (heap_setCell_same _ _ _ _ _ _ (heap_setCell_same _ _ _ _ _ _ (heap_setCell_same _ _ _ _ _ _ (heap_setCell_same _ _ _ _ _ _ h))))]
  rfl
/-- Where the second loop begins. -/
theorem Ps.start {R : S28 → List Value → Prop} {w W W1 : World} {ks : List ByteArray} {es : List S28} {X : Option Addr} {cp : Nat} {ms : List Mem} (h : Ps w W ks X ms.length cp ms) (hg : W.grownBy W1 none) (hb : W1.heap[W.heap.size]? = some (.cells #[.int .i64 6, .int .i64 0, .string ⟨#[]⟩, .slice none 0 0, .slice none 0 0] 28 (0, 0))) :
    Qs R w W1 ks es X cp ms W.heap.size (.slice none 0 0) (.slice none 0 0) [] [] := by
  have hb1 : Below W.heap.size W W1 := ⟨hg.os, hg.tape, hg.output, hg.size, fun k hk => hg.block k hk (by simp)⟩
  have h1 := h.lt
  refine ⟨h.z.trans (hb1.mono (Below.size h.z)), (hb1.block _ h1).trans h.res, ?_, h.p, h.s, hb, h1, OwnRow.none_ _ _ _ _ _, OwnRow.none_ _ _ _ _ _, ?_⟩
  · rcases h.row with h | ⟨g, a, b, c, d⟩
    · exact Or.inl h
    · exact Or.inr ⟨g, a, b, c, d.below hb1⟩
  · intro a e
    rcases h.row with ⟨_, e2, _⟩ | ⟨g, e2, b, c, ⟨⟨cur, d, _⟩, _⟩⟩
    · rw [e2] at e; cases e
    · rw [e2] at e
      injection e with e
      rw [← e]
      exact (Array.getElem?_eq_some_iff.1 d).1
theorem Ps.n {w W : World} {ks X n cp ms} (h : Ps w W ks X n cp ms) : n = ms.length := by
  rcases h.row with ⟨rfl, _, rfl, _⟩ | ⟨g, _, e, _⟩
  · rfl
  · exact e
theorem dd_len : ∀ l : List Mem, (dd l).length ≤ l.length := fun l => by
  induction l with
  | nil => simp [dd]
  | cons m l ih =>
    cases l with
    | nil => simp [dd]
    | cons m' l =>
    rw [dd]
    split
    · simp only [List.length_cons] at *; omega
    · simp only [List.length_cons] at *; omega
theorem own_base {α : Type} {R : α → List Value → Prop} {e size : Nat} {w : World} {base : Nat} {v : Value} {ps : List α} (h : OwnRow R e size w base v ps) {k : Nat} (hk : v.ownBlock = some k) : base ≤ k := by
  obtain ⟨inner, ho, _⟩ := h
  rcases ho.2 with ⟨rfl, _⟩ | ⟨g, cap, cur, rfl, hg, _⟩
  · simp [Value.ownBlock] at hk
  · simp [Value.ownBlock] at hk
    omega
theorem own_ty {α : Type} {R : α → List Value → Prop} {e size : Nat} {w : World} {base : Nat} {v : Value} {ps : List α} (h : OwnRow R e size w base v ps) {k : Nat} (hk : v.ownBlock = some k) : ∃ cells, w.heap[k]? = some (.cells cells e (0, 0)) := by
  obtain ⟨inner, ho, _⟩ := h
  exact own_typed ho k hk
theorem own_apart {α β : Type} {R : α → List Value → Prop} {R' : β → List Value → Prop} {e e' size size' : Nat} {w : World} {base base' : Nat} {v v' : Value} {ps : List α} {ps' : List β} (h : OwnRow R e size w base v ps) (h' : OwnRow R' e' size' w base' v' ps') (hne : e' ≠ e) : v'.ownBlock = none ∨ v'.ownBlock ≠ v.ownBlock := by
  cases hv : v.ownBlock with
  | none =>
    cases hv' : v'.ownBlock with
    | none => exact Or.inl rfl
    | some k => exact Or.inr (by simp)
  | some k =>
    obtain ⟨cells, hc⟩ := own_ty h hv
    exact Or.inr (fun e => h'.ne_block hc hne e.symm)
theorem own_set {α : Type} {R : α → List Value → Prop} {e size : Nat} {w : World} {ob : Nat} {v : Value} {ps : List α} (h : OwnRow R e size w (ob + 1) v ps) (j : Nat) (u : Value) : OwnRow R e size (w.setCell ⟨ob, j, none⟩ u) (ob + 1) v ps :=
  h.other (row := some ob) ⟨rfl, rfl, rfl, by simp, fun k _ hk => Below.heap_setCell _ _ _ k (fun e => hk (by rw [e]))⟩ (Or.inr (fun e => by have := own_base h e; omega))
theorem Qs.rest {R : S28 → List Value → Prop} {w W w1 : World} {ks es X cp ms ob v3 v4 a3 a4} (h : Qs R w W ks es X cp ms ob v3 v4 a3 a4) (hb : Below (ob + 1) W w1) (j : Nat) (u : Value) :
    Below w.heap.size w (w1.setCell ⟨ob, j, none⟩ u) ∧ (w1.setCell ⟨ob, j, none⟩ u).heap[w.heap.size]? = some (.cells #[.int .i64 0, .int .i64 0, .string ⟨#[]⟩, .slice none 0 0, .slice none 0 0] 28 (0, 0)) ∧ Ml (w1.setCell ⟨ob, j, none⟩ u) (w.heap.size + 1) X ms.length cp ms := by
  have h1 := h.o1
  have hz := Below.size h.z
  have sc : ∀ k, k ≠ ob → (w1.setCell ⟨ob, j, none⟩ u).heap[k]? = w1.heap[k]? := fun k hk => Below.heap_setCell _ _ _ k (fun e => hk e)
  refine ⟨(h.z.trans (hb.mono (by omega))).trans ⟨rfl, rfl, rfl, by simp, fun k hk => sc k (by omega)⟩, ?_, ?_⟩
  · rw [sc _ (by omega)]
    exact (hb.block _ (by omega)).trans h.res
  · rcases h.row with hr | ⟨g, a, b, c, ⟨⟨cur, d1, d2⟩, d3⟩⟩
    · exact Or.inl hr
    · have hg : g < ob := h.ml _ a
      exact Or.inr ⟨g, a, b, c, ⟨⟨cur, by rw [sc _ (by omega)]; exact (hb.block _ (by omega)).trans d1, d2⟩, d3⟩⟩
theorem Qs.put3 {R : S28 → List Value → Prop} {w W w1 : World} {ks es X cp ms ob v3 v4 v a3 a3' a4} (h : Qs R w W ks es X cp ms ob v3 v4 a3 a4) (hr : OwnRow kR 9 1 w1 (ob + 1) v a3') (hb : Below (ob + 1) W w1) (hg : W.grownBy w1 v3.ownBlock) : Qs R w (w1.setCell ⟨ob, 3, none⟩ v) ks es X cp ms ob v v4 a3' a4 := by
  obtain ⟨r1, r2, r3⟩ := h.rest hb 3 v
  refine ⟨r1, r2, r3, h.p, h.s, (QV.set3 ((hb.block ob (by omega)).trans h.out) v).1, h.o1, own_set hr 3 v, own_set (h.r4.other hg (own_apart h.r3 h.r4 (by decide))) 3 v, h.ml⟩
theorem Qs.put4 {R : S28 → List Value → Prop} {w W w1 : World} {ks es X cp ms ob v3 v4 v a3 a4 a4'} (h : Qs R w W ks es X cp ms ob v3 v4 a3 a4) (hr : OwnRow R 28 5 w1 (ob + 1) v a4') (hb : Below (ob + 1) W w1) (hg : W.grownBy w1 v4.ownBlock) : Qs R w (w1.setCell ⟨ob, 4, none⟩ v) ks es X cp ms ob v3 v a3 a4' := by
  obtain ⟨r1, r2, r3⟩ := h.rest hb 4 v
  refine ⟨r1, r2, r3, h.p, h.s, (set5 ((hb.block ob (by omega)).trans h.out) v).1, h.o1, own_set (h.r3.other hg (own_apart h.r4 h.r3 (by decide))) 4 v, own_set hr 4 v, h.ml⟩
end Go.Proofs.Ytgpjkojnmeaoiaa.QV
