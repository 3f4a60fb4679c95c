/- ScanBracket: the row and the card, out of its pure law and the walk. -/
import Derived.Test.YtkhnifehcnlpjaaDoorCards
import Derived.Test.YtkhnifehcnlpjaaDoorTie
import Derived.Test.YtkhnifehcnlpjaaDoorB8
import Derived.WalkKit
import Derived.ProofKit
import Derived.OpenShut
import Derived.ShutString
import Derived.ChangeOld
import Derived.Below
import Derived.SizedLaws
import Derived.Deep.DeepHandedRow
import Derived.Deep.CondSized
import Derived.Lib.LaidTab
import Derived.Deep.Slices
import Derived.Test.YtkhnifehcnlpjaaDoorWSized
namespace Go.Proofs.YtkhnifehcnlpjaaDoor.scanBracket
open Go.ChangeShapes Go.WideShapes Go.ChangeAt Go.RowKit
open Go.ChangeMaps (open_string shut_string)
set_option linter.unusedVariables false
set_option linter.unusedSimpArgs false
theorem own : ownKnob Tryd.prog.godebug = none := by kernel_rfl
theorem gTab : Tryd.prog.globalNamed "ndjq/automaton.moves" = some 0 := by kernel_rfl
theorem gTabType : (Tryd.prog.globals[0]?).map (·.type) = some 78 := by kernel_rfl
theorem cellsT : Tryd.prog.cellsOf 78 = 24 := by kernel_rfl
theorem laidOut : laidOutB Tryd.prog = true := by kernel_rfl
def IsRow (k : IntKind) (w : World) (a : Option Addr) (len cap : Nat) (zs : List Int) : Prop :=
  (a = none ∧ len = 0 ∧ cap = 0 ∧ zs = []) ∨
  ∃ x, a = some x ∧ len ≤ cap ∧ cap ≤ maxLen ∧ zs.length = cap ∧ (∀ i, i < zs.length → w.cell? (x.add i) = some (.int k (zs.getD i 0))) ∧ ∀ n ∈ zs, (Lit.int k n).wf = true
theorem cells4 : Tryd.prog.cellsOf 77 = 8 := by kernel_rfl
theorem cellsM : Tryd.prog.cellsOf 76 = 2 := by kernel_rfl
theorem cellsI : Tryd.prog.cellsOf 3 = 1 := by kernel_rfl
theorem cellsB : Tryd.prog.cellsOf 4 = 1 := by kernel_rfl
theorem two_cells {a b : Value} {cs : List Value} (hl : cs.length = 2) (h0 : cs.take 1 = [a]) (h1 : (cs.drop 1).take 1 = [b]) : cs = [a, b] := by
  match cs, hl with
  | [x, y], _ => simp at h0 h1; simp [h0, h1]
theorem move_cells {enc : TypeId × Value → Unit} {w : World} {base : Nat} {sp : Nat → Bool} {held : Bool} {fuel : Nat} {cs : List Value} {p : List MemPlace} {a : Int} {b : Bool}
    (h : DataW.trod enc Tryd.prog w base sp held fuel 76 cs = some (.agg [.lit (.int .i64 a), .lit (.bool b)], p)) : cs = [.int .i64 a, .bool b] := by
  obtain ⟨xs, n, _, hx, hl, hxl, hf⟩ := DataW.trod_struct Tryd.underlying76 h
  have hxs : xs.map (·.1) = [.lit (.int .i64 a), .lit (.bool b)] := by
    have := congrArg Prod.fst hx
    simpa using this.symm
  match xs, hxs with
  | [x0, x1], hxs =>
    simp only [List.map_cons, List.map_nil, List.cons.injEq, and_true] at hxs
    have f0 := hf 0 _ rfl
    have f1 := hf 1 _ rfl
    simp only [cellsI, cellsB, List.drop_zero, List.getElem?_cons_zero, List.getElem?_cons_succ] at f0 f1
    obtain ⟨n0, c0, e0, _⟩ := DataW.trod_int Tryd.underlying3 f0
    obtain ⟨b0, c1, e1⟩ := DataW.trod_bool Tryd.underlying4 f1
    rw [e0, e1] at hxs
    simp only [DataW.lit.injEq, Lit.int.injEq, Lit.bool.injEq, true_and] at hxs
    rw [cellsM] at hl
    rw [hxs.1] at c0
    rw [hxs.2] at c1
    exact two_cells hl c0 c1
theorem list4 {α : Type} {xs : List α} (h : xs.length = 4) : ∃ a b c d, xs = [a, b, c, d] := by
  match xs, h with
  | [a, b, c, d], _ => exact ⟨a, b, c, d, rfl⟩
theorem list3 {α : Type} {xs : List α} (h : xs.length = 3) : ∃ a b c, xs = [a, b, c] := by
  match xs, h with
  | [a, b, c], _ => exact ⟨a, b, c, rfl⟩
def mvD {H : Type} (a : Int) (b : Bool) : DataW H := .agg [.lit (.int .i64 a), .lit (.bool b)]
theorem four_cells {enc : TypeId × Value → Unit} {w : World} {base : Nat} {sp : Nat → Bool} {held : Bool} {fuel : Nat} {cs : List Value} {p : List MemPlace} {a0 a1 a2 a3 : Int} {b0 b1 b2 b3 : Bool}
    (h : DataW.trod enc Tryd.prog w base sp held fuel 77 cs = some (.agg [mvD a0 b0, mvD a1 b1, mvD a2 b2, mvD a3 b3], p)) : cs = [.int .i64 a0, .bool b0, .int .i64 a1, .bool b1, .int .i64 a2, .bool b2, .int .i64 a3, .bool b3] := by
  obtain ⟨xs, n, _, hx, hl, hxl, hf⟩ := DataW.trod_array Tryd.underlying77 h
  obtain ⟨x0, x1, x2, x3, rfl⟩ := list4 hxl
  have hxs := congrArg Prod.fst hx
  simp only [List.map_cons, List.map_nil, DataW.agg.injEq, List.cons.injEq, and_true] at hxs
  obtain ⟨e0, e1, e2, e3⟩ := hxs
  have f0 := hf 0 (by decide)
  have f1 := hf 1 (by decide)
  have f2 := hf 2 (by decide)
  have f3 := hf 3 (by decide)
  rw [cellsM] at f0 f1 f2 f3
  rw [cells4] at hl
  have g0 := move_cells (p := x0.2) (a := a0) (b := b0) (f0.trans (congrArg some (Prod.ext e0.symm rfl)))
  have g1 := move_cells (p := x1.2) (a := a1) (b := b1) (f1.trans (congrArg some (Prod.ext e1.symm rfl)))
  have g2 := move_cells (p := x2.2) (a := a2) (b := b2) (f2.trans (congrArg some (Prod.ext e2.symm rfl)))
  have g3 := move_cells (p := x3.2) (a := a3) (b := b3) (f3.trans (congrArg some (Prod.ext e3.symm rfl)))
  match cs, hl with
  | [y0, y1, y2, y3, y4, y5, y6, y7], _ => simp at g0 g1 g2 g3; simp [g0, g1, g2, g3]
theorem moves_cells {enc : TypeId × Value → Unit} {w : World} {base : Nat} {sp : Nat → Bool} {held : Bool} {fuel : Nat} {cs : List Value} {p : List MemPlace}
    (h : DataW.trod enc Tryd.prog w base sp held fuel 78 cs = some (Rows.laid_ndjq_automaton_moves, p)) : cs = QB.moveCells := by
  obtain ⟨xs, n, _, hx, hl, hxl, hf⟩ := DataW.trod_array Tryd.underlying78 h
  obtain ⟨x0, x1, x2, rfl⟩ := list3 hxl
  have hxs := congrArg Prod.fst hx
  unfold Rows.laid_ndjq_automaton_moves at hxs
  simp only [List.map_cons, List.map_nil, DataW.agg.injEq, List.cons.injEq, and_true] at hxs
  obtain ⟨e0, e1, e2⟩ := hxs
  have f0 := hf 0 (by decide)
  have f1 := hf 1 (by decide)
  have f2 := hf 2 (by decide)
  rw [cells4] at f0 f1 f2
  rw [cellsT] at hl
  have g0 := four_cells (p := x0.2) (a0 := 0) (b0 := false) (a1 := 1) (b1 := false) (a2 := 0) (b2 := false) (a3 := 0) (b3 := true) (f0.trans (congrArg some (Prod.ext e0.symm rfl)))
  have g1 := four_cells (p := x1.2) (a0 := 1) (b0 := false) (a1 := 0) (b1 := false) (a2 := 2) (b2 := false) (a3 := 1) (b3 := false) (f1.trans (congrArg some (Prod.ext e1.symm rfl)))
  have g2 := four_cells (p := x2.2) (a0 := 1) (b0 := false) (a1 := 1) (b1 := false) (a2 := 1) (b2 := false) (a3 := 1) (b3 := false) (f2.trans (congrArg some (Prod.ext e2.symm rfl)))
  have s0 : cs = cs.take 8 ++ ((cs.drop 8).take 8 ++ (cs.drop 16).take 8) := by
    have h3 : (cs.drop 16).take 8 = cs.drop 16 := List.take_of_length_le (by rw [List.length_drop]; omega)
    have h2 : (cs.drop 8).drop 8 = cs.drop 16 := by rw [List.drop_drop]
    rw [h3, ← h2, List.take_append_drop, List.take_append_drop]
  have g0' : cs.take 8 = _ := g0
  have g1' : (cs.drop 8).take 8 = _ := g1
  have g2' : (cs.drop 16).take 8 = _ := g2
  rw [s0, g0', g1', g2']
  rfl
theorem glbLaid {W : World} (h : laidMetH Tryd.prog Rows.scanBracketRow.laid W) : QB.GlbLaid W := by
  have h' : laidMet Tryd.prog [("ndjq/automaton.moves", Rows.laid_ndjq_automaton_moves)] W := h
  obtain ⟨ps, ⟨g', t', cs, fuel, p, q, hg', ht', hvar, hd, _, _⟩, _⟩ := h'
  obtain rfl := Option.some.inj (gTab.symm.trans hg')
  obtain rfl := Option.some.inj (gTabType.symm.trans ht')
  have hc := moves_cells hd
  intro j hj
  have e := World.var?_cell gTab hvar j
  rw [e, ← hc]
  simp

open Go.RowKit Go.Proofs.YtkhnifehcnlpjaaDoorW.PrintWords Go.Proofs.YtkhnifehcnlpjaaDoorW.PrintLast Go.Proofs.YtkhnifehcnlpjaaDoor.QB
/-! What reads as data of a type is told by its kind: whole numbers, bools, strings, slices, structs, arrays told as structs, types nested in themselves. -/
section opens
variable {H : Type} (enc : TypeId × Value → H) (P : Program) (w : World)
/-- Read as data of type T with n rounds of fuel: told by the kind d; Wf: what else is known of it. -/
def Opens (T : TypeId) {α : Type} (d : Kd α) (Wf : α → Prop) (n : Nat) : Prop :=
  ∀ (cs : List Value) (x : DataW H × List MemPlace), DataW.trod enc P w 0 (fun _ => true) true n T cs = some x → (∀ b ∈ DataW.weights P T x.1, b ≤ 140737488351232) → ∃ a, d.K w a cs ∧ Wf a
variable {enc P w}
theorem Opens.imp {T : TypeId} {α : Type} {d : Kd α} {Wf Wf' : α → Prop} {n : Nat} (h : Opens enc P w T d Wf n) (hi : ∀ a, Wf a → Wf' a) : Opens enc P w T d Wf' n := fun cs x hx hb => by
  obtain ⟨a, ha, hw⟩ := h cs x hx hb
  exact ⟨a, ha, hi a hw⟩
theorem opens_int {T : TypeId} {k : IntKind} (ht : P.underlying T = some (.int k)) (n : Nat) : Opens enc P w T (Kd.int k) (fun z => (Lit.int k z).wf = true) n := by
  intro cs x h _
  obtain ⟨z, rfl, _, hw⟩ := DataW.trod_int ht h
  exact ⟨z, rfl, hw⟩
theorem opens_bool {T : TypeId} (ht : P.underlying T = some .bool) (n : Nat) : Opens enc P w T Kd.bool (fun _ => True) n := by
  intro cs x h _
  obtain ⟨z, rfl, _⟩ := DataW.trod_bool ht h
  exact ⟨z, rfl, trivial⟩
theorem opens_string {T : TypeId} (ht : P.underlying T = some .string) (n : Nat) : Opens enc P w T Kd.string (fun s => s.size ≤ 140737488351232) n := by
  intro cs x h hb
  obtain ⟨s, rfl, rfl, _⟩ := DataW.trod_string ht h
  refine ⟨s, rfl, ?_⟩
  have := hb s.data.toList.length (by simp [DataW.weights])
  rw [Array.length_toList] at this
  exact this
theorem list_of_each {α : Type} {Q : Nat → α → Prop} : ∀ n, (∀ i, i < n → ∃ a, Q i a) → ∃ l : List α, l.length = n ∧ ∀ i a, l[i]? = some a → Q i a
  | 0, _ => ⟨[], rfl, fun i a h => by simp at h⟩
  | n + 1, h => by
    obtain ⟨l, hl, hq⟩ := list_of_each n (fun i hi => h i (by omega))
    obtain ⟨a, ha⟩ := h n (by omega)
    refine ⟨l ++ [a], by simp [hl], fun i b hb => ?_⟩
    by_cases hi : i < l.length
    · rw [List.getElem?_append_left hi] at hb
      exact hq i b hb
    · rw [List.getElem?_append_right (by omega)] at hb
      by_cases e : i - l.length = 0
      · rw [e] at hb
        obtain rfl : a = b := by simpa using hb
        have : i = n := by omega
        rw [this]; exact ha
      · obtain ⟨m, hm⟩ : ∃ m, i - l.length = m + 1 := ⟨i - l.length - 1, by omega⟩
        rw [hm] at hb
        simp at hb
theorem weights_all_mem {e : TypeId} : ∀ {l : List (DataW H)} {d : DataW H}, d ∈ l → ∀ b ∈ DataW.weights P e d, b ∈ DataW.weightsAll P e l
  | [], _, h, _, _ => by simp at h
  | x :: l, d, h, b, hb => by
    rw [DataW.weightsAll]
    rcases List.mem_cons.1 h with rfl | h
    · exact List.mem_append_left _ hb
    · exact List.mem_append_right _ (weights_all_mem h b hb)
theorem opens_slice {T e : TypeId} {α : Type} {d : Kd α} {Wf : α → Prop} {n B : Nat} (ht : P.underlying T = some (.slice e)) (hc : P.cellsOf e = d.sz) (hB : P.bytesOf e = B) (he : ∀ m, n = m + 1 → Opens enc P w e d Wf m) :
    Opens enc P w T (Kd.slice e d) (fun l => l.length * B ≤ 140737488351232 ∧ ∀ a ∈ l, Wf a) n := by
  intro cs x h hb
  rcases DataW.trod_slice ht h with ⟨rfl, rfl⟩ | ⟨a, len, cap, elems, rest, m, hm, rfl, rfl, _, hl, hcap, hlen, hel, hsp, _⟩
  · exact ⟨[], ⟨none, 0, rfl, Nat.le_refl _, rfl, Nat.zero_le _, fun h => absurd h (Nat.lt_irrefl _)⟩, by simp, by simp⟩
  · have hwt : DataW.weights P T (DataW.slice (elems.map (·.1)) (rest.map (·.1))) = (elems.length + rest.length) * B :: (DataW.weightsAll P e (elems.map (·.1)) ++ DataW.weightsAll P e (rest.map (·.1))) := by
      rw [DataW.weights]
      simp only [ht, List.length_map, hB]
    have each : ∀ i, i < len → ∃ a' : α, (∃ c, c.length = d.sz ∧ d.K w a' c ∧ ∀ j u, c[j]? = some u → w.cell? (a.add (i * d.sz + j)) = some u) ∧ Wf a' := by
      intro i hi
      have h1 := hel i hi
      rw [List.getElem?_eq_getElem (by omega)] at h1
      obtain ⟨cs', h2, h3⟩ := Option.bind_eq_some_iff.1 h1
      obtain ⟨_, hcl, hcc⟩ := World.cells?_some h2
      obtain ⟨a', hk, hw⟩ := he m hm cs' _ h3 (fun b hbm => hb b (by
        show b ∈ DataW.weights P T (DataW.slice (elems.map (·.1)) (rest.map (·.1)))
        rw [hwt]
        exact List.mem_cons_of_mem _ (List.mem_append_left _ (weights_all_mem (List.mem_map.2 ⟨_, List.getElem_mem _, rfl⟩) b hbm))))
      refine ⟨a', ⟨cs', by rw [hcl, hc], hk, fun j u hj => ?_⟩, hw⟩
      have hj' : j < P.cellsOf e := by rw [← hcl]; exact (List.getElem?_eq_some_iff.1 hj).1
      rw [← Go.Deep.add_add, ← hc]
      exact (hcc j hj').trans hj
    obtain ⟨l, hll, hq⟩ := list_of_each len each
    have hlen2 : len * B ≤ 140737488351232 := by
      have h1 : (elems.length + rest.length) * B ≤ 140737488351232 := hb _ (by
        show _ ∈ DataW.weights P T (DataW.slice (elems.map (·.1)) (rest.map (·.1)))
        rw [hwt]
        exact List.mem_cons_self)
      exact Nat.le_trans (Nat.mul_le_mul_right _ (by omega)) h1
    refine ⟨l, ⟨some a, cap, by rw [hll], by omega, rfl, by unfold maxLen at hcap; omega, fun _ => ⟨a, rfl, fun j p hj => (hq j p hj).1⟩⟩, by rw [hll]; exact hlen2, fun p hp => ?_⟩
    obtain ⟨i, hi⟩ := List.mem_iff_getElem?.1 hp
    exact (hq i p hi).2
variable (enc P w) in
def OpensFs (fs : List Field) (o : Nat) {α : Type} (d : Kd α) (Wf : α → Prop) (n : Nat) : Prop :=
  ∀ (cs : List Value) (xs : List (DataW H × List MemPlace)), xs.length = fs.length → (∀ (i : Nat) (f : Field), fs[i]? = some f → DataW.trod enc P w 0 (fun _ => true) true n f.type ((cs.drop f.offset).take (P.cellsOf f.type)) = xs[i]?) →
    (∀ b ∈ DataW.weightsEach P (fs.map (·.type)) (xs.map (·.1)), b ≤ 140737488351232) → cs.length = o + d.sz → ∃ a, d.K w a (cs.drop o) ∧ Wf a
theorem opens_last {f : Field} {o : Nat} {α : Type} {d : Kd α} {Wf : α → Prop} {n : Nat} (ho : f.offset = o) (hc : P.cellsOf f.type = d.sz) (h : Opens enc P w f.type d Wf n) : OpensFs enc P w [f] o d Wf n := by
  intro cs xs hl hx hb hlen
  match xs, hl with
  | [y], _ =>
    have h1 := hx 0 f rfl
    have e : (cs.drop f.offset).take (P.cellsOf f.type) = cs.drop o := by rw [ho, hc]; exact List.take_of_length_le (by simp; omega)
    rw [e] at h1
    exact h _ y h1 (fun b hbm => hb b (by simpa [DataW.weightsEach] using hbm))
theorem opens_cons {f : Field} {rest : List Field} {o : Nat} {α β : Type} {d : Kd α} {d' : Kd β} {Wf : α → Prop} {Wf' : β → Prop} {n : Nat} (ho : f.offset = o) (hc : P.cellsOf f.type = d.sz) (h : Opens enc P w f.type d Wf n)
    (hr : OpensFs enc P w rest (o + d.sz) d' Wf' n) : OpensFs enc P w (f :: rest) o (Kd.pair d d') (fun a => Wf a.1 ∧ Wf' a.2) n := by
  intro cs xs hl hx hb hlen
  match xs, hl with
  | y :: ys, hl =>
    have h1 := hx 0 f rfl
    obtain ⟨a, ha, wa⟩ := h _ y h1 (fun b hbm => hb b (by simp only [List.map_cons, DataW.weightsEach]; exact List.mem_append_left _ hbm))
    obtain ⟨b, hb', wb⟩ := hr cs ys (by simpa using hl) (fun i g hg => by simpa using hx (i + 1) g (by simpa using hg)) (fun b hbm => hb b (by simp only [List.map_cons, DataW.weightsEach]; exact List.mem_append_right _ hbm)) (by simp only [Kd.pair] at hlen; omega)
    refine ⟨(a, b), ⟨_, _, ?_, ha, hb'⟩, wa, wb⟩
    rw [ho, hc, ← List.drop_drop]
    exact (List.take_append_drop _ _).symm
theorem opens_struct {T : TypeId} {fs : Array Field} {l : List Field} {α β : Type} {d : Kd α} {Wf : α → Prop} {n : Nat} (ht : P.underlying T = some (.struct fs)) (hs : fs.toList = l) (hc : P.cellsOf T = d.sz)
    (h : ∀ m, n = m + 1 → OpensFs enc P w l 0 d Wf m) (f : β → α) (g : α → β) (hfg : ∀ a, f (g a) = a) : Opens enc P w T (Kd.iso d f) (fun x => Wf (f x)) n := by
  intro cs x hx hb
  obtain ⟨xs, m, hm, rfl, hl, hlen, hf⟩ := DataW.trod_struct ht hx
  subst hs
  obtain ⟨a, ha, wa⟩ := h m hm cs xs (by simpa using hlen) (fun i f hi => hf i f (by simpa using hi)) (fun b hbm => hb b (by rw [DataW.weights]; simp only [ht]; exact hbm)) (by rw [hl, hc, Nat.zero_add])
  exact ⟨g a, show d.K w (f (g a)) cs by rw [hfg]; exact ha, by show Wf (f (g a)); rw [hfg]; exact wa⟩
def arrFields (e sz n : Nat) : List Field := (List.range n).map fun i => { (default : Field) with type := e, offset := i * sz }
theorem weights_each_all {e : TypeId} : ∀ (l : List (DataW H)) (ts : List TypeId), (∀ t ∈ ts, t = e) → ∀ b ∈ DataW.weightsEach P ts l, b ∈ DataW.weightsAll P e l
  | [], [], _, b, hb => by simp [DataW.weightsEach] at hb
  | [], _ :: _, _, b, hb => by simp [DataW.weightsEach] at hb
  | _ :: _, [], _, b, hb => by simp [DataW.weightsEach] at hb
  | x :: l, t :: ts, h, b, hb => by
    obtain rfl : t = e := h t List.mem_cons_self
    rw [DataW.weightsEach] at hb
    rw [DataW.weightsAll]
    rcases List.mem_append.1 hb with hb | hb
    · exact List.mem_append_left _ hb
    · exact List.mem_append_right _ (weights_each_all l ts (fun t ht => h t (List.mem_cons_of_mem _ ht)) b hb)
theorem opens_array {T e : TypeId} {k sz : Nat} {α β : Type} {d : Kd α} {Wf : α → Prop} {n : Nat} (ht : P.underlying T = some (.array k e)) (hz : P.cellsOf e = sz) (hc : P.cellsOf T = d.sz)
    (h : ∀ m, n = m + 1 → OpensFs enc P w (arrFields e sz k) 0 d Wf m) (f : β → α) (g : α → β) (hfg : ∀ a, f (g a) = a) : Opens enc P w T (Kd.iso d f) (fun x => Wf (f x)) n := by
  intro cs x hx hb
  subst hz
  obtain ⟨xs, m, hm, rfl, hl, hlen, hf⟩ := DataW.trod_array ht hx
  obtain ⟨a, ha, wa⟩ := h m hm cs xs (by simp [arrFields, hlen]) (fun i f hi => by
      simp only [arrFields, List.getElem?_map, Option.map_eq_some_iff] at hi
      obtain ⟨j, hj, rfl⟩ := hi
      obtain ⟨hlt, hj⟩ := List.getElem?_eq_some_iff.1 hj
      simp only [List.length_range] at hlt
      rw [List.getElem_range] at hj
      subst hj
      exact hf i hlt)
    (fun b hbm => hb b (by
      rw [DataW.weights]; simp only [ht]
      exact weights_each_all _ _ (fun t htm => by simp only [arrFields, List.map_map, List.mem_map] at htm; obtain ⟨i, _, rfl⟩ := htm; rfl) b hbm)) (by rw [hl, hc, Nat.zero_add])
  exact ⟨g a, show d.K w (f (g a)) cs by rw [hfg]; exact ha, by show Wf (f (g a)); rw [hfg]; exact wa⟩
/-- An argument, opened. -/
theorem opens_arg {T : TypeId} {α : Type} {d : Kd α} {Wf : α → Prop} (h : ∀ n, Opens enc P w T d Wf n) {v : Value} {x : DataW H} {p : List MemPlace} {ts : List TypeId} {ds : List (DataW H)} {j : Nat}
    (ht : DataW.Trod enc P w 0 (fun _ => true) true T v x p) (hsz : (DataW.weightsEach P ts ds).all (· ≤ reachBytes) = true) (hj : ts[j]? = some T) (hd : ds[j]? = some x) : ∃ a, d.K w a v.cells.toList ∧ Wf a := by
  obtain ⟨n, hn⟩ := ht
  refine h n _ _ hn (fun b hb => ?_)
  have := List.all_eq_true.1 hsz b (DataW.weights_mem_each hj hd b hb)
  exact Nat.le_trans (of_decide_eq_true this) (by decide)
end opens

/-- What is known of a summary that came in, as the row's opening tells it. -/
def Wf22 (x : S22) : Prop := (Lit.int .i64 x.f0).wf = true ∧ (Lit.int .i64 x.f1).wf = true ∧ (Lit.int .i64 x.f2).wf = true
def Wf24 (x : S24) : Prop := (x.f0.length * 8 ≤ 140737488351232 ∧ ∀ q1 ∈ x.f0, (Lit.int .i64 q1).wf = true) ∧ (x.f1.length * 8 ≤ 140737488351232 ∧ ∀ q1 ∈ x.f1, (Lit.int .i64 q1).wf = true) ∧ (x.f2.length * 8 ≤ 140737488351232 ∧ ∀ q1 ∈ x.f2, (Lit.int .i64 q1).wf = true)
def Wf26 (x : S26) : Prop := (Lit.int .i64 x.f0).wf = true ∧ Wf22 x.f1 ∧ Wf24 x.f2
theorem opens3 {H : Type} (enc : TypeId × Value → H) (W : World) (n : Nat) : Opens enc Tryd.prog W 3 (Kd.int .i64) (fun x => (Lit.int .i64 x).wf = true) n := opens_int Tryd.underlying3 n
theorem opens22 {H : Type} (enc : TypeId × Value → H) (W : World) (n : Nat) : Opens enc Tryd.prog W 22 k22 Wf22 n := by
  have hfs := fun m => opens_cons (f := { (default : Field) with type := 3, offset := 0 * 1 }) (o := 0) rfl ((show Tryd.prog.cellsOf 3 = 1 by kernel_rfl).trans rfl) (opens3 enc W m) (opens_cons (f := { (default : Field) with type := 3, offset := 1 * 1 }) rfl ((show Tryd.prog.cellsOf 3 = 1 by kernel_rfl).trans rfl) (opens3 enc W m) (opens_last (f := { (default : Field) with type := 3, offset := 2 * 1 }) rfl ((show Tryd.prog.cellsOf 3 = 1 by kernel_rfl).trans rfl) (opens3 enc W m)))
  refine Opens.imp (opens_array (k := 3) (e := 3) Tryd.underlying22 (show Tryd.prog.cellsOf 3 = 1 by kernel_rfl) ((show Tryd.prog.cellsOf 22 = 3 by kernel_rfl).trans rfl) (fun m hm => (show OpensFs enc Tryd.prog W (arrFields 3 1 3) 0 _ _ m from hfs m)) (fun x : S22 => (x.f0, x.f1, x.f2)) (fun a => (⟨a.1, a.2.1, a.2.2⟩ : S22)) (fun _ => rfl)) (fun x h => h)
theorem opens23 {H : Type} (enc : TypeId × Value → H) (W : World) (n : Nat) : Opens enc Tryd.prog W 23 (Kd.slice 3 (Kd.int .i64)) (fun x => (x.length * 8 ≤ 140737488351232 ∧ ∀ q1 ∈ x, (Lit.int .i64 q1).wf = true)) n := opens_slice Tryd.underlying23 ((show Tryd.prog.cellsOf 3 = 1 by kernel_rfl).trans rfl) (by kernel_rfl) (fun m _ => opens3 enc W m)
theorem opens24 {H : Type} (enc : TypeId × Value → H) (W : World) (n : Nat) : Opens enc Tryd.prog W 24 k24 Wf24 n := by
  have hfs := fun m => opens_cons (f := { (default : Field) with type := 23, offset := 0 * 1 }) (o := 0) rfl ((show Tryd.prog.cellsOf 23 = 1 by kernel_rfl).trans rfl) (opens23 enc W m) (opens_cons (f := { (default : Field) with type := 23, offset := 1 * 1 }) rfl ((show Tryd.prog.cellsOf 23 = 1 by kernel_rfl).trans rfl) (opens23 enc W m) (opens_last (f := { (default : Field) with type := 23, offset := 2 * 1 }) rfl ((show Tryd.prog.cellsOf 23 = 1 by kernel_rfl).trans rfl) (opens23 enc W m)))
  refine Opens.imp (opens_array (k := 3) (e := 23) Tryd.underlying24 (show Tryd.prog.cellsOf 23 = 1 by kernel_rfl) ((show Tryd.prog.cellsOf 24 = 3 by kernel_rfl).trans rfl) (fun m hm => (show OpensFs enc Tryd.prog W (arrFields 23 1 3) 0 _ _ m from hfs m)) (fun x : S24 => (x.f0, x.f1, x.f2)) (fun a => (⟨a.1, a.2.1, a.2.2⟩ : S24)) (fun _ => rfl)) (fun x h => h)
theorem opens26 {H : Type} (enc : TypeId × Value → H) (W : World) (n : Nat) : Opens enc Tryd.prog W 26 k26 Wf26 n := by
  refine Opens.imp (opens_struct (l := [_, _, _]) Tryd.underlying26 rfl ((show Tryd.prog.cellsOf 26 = 7 by kernel_rfl).trans rfl) (fun m hm => opens_cons rfl ((show Tryd.prog.cellsOf 3 = 1 by kernel_rfl).trans rfl) (opens3 enc W m) (opens_cons rfl ((show Tryd.prog.cellsOf 22 = 3 by kernel_rfl).trans rfl) (opens22 enc W m) (opens_last rfl ((show Tryd.prog.cellsOf 24 = 3 by kernel_rfl).trans rfl) (opens24 enc W m)))) (fun x : S26 => (x.f0, x.f1, x.f2)) (fun a => (⟨a.1, a.2.1, a.2.2⟩ : S26)) (fun _ => rfl)) (fun x h => h)
theorem opens34 {H : Type} (enc : TypeId × Value → H) (W : World) (n : Nat) : Opens enc Tryd.prog W 34 (Kd.slice 26 k26) (fun x => (x.length * 104 ≤ 140737488351232 ∧ ∀ q1 ∈ x, Wf26 q1)) n := opens_slice Tryd.underlying34 ((show Tryd.prog.cellsOf 26 = 7 by kernel_rfl).trans rfl) (by kernel_rfl) (fun m _ => opens26 enc W m)
theorem contract (H : Type) (enc : TypeId × Value → H) (W : World) (base : Nat) (args : Array Value) (ds gs : List (DataW H)) (before : List MemPlace)
    (hval0 : ∀ (j : Nat) t v, Tryd.f7.params[j]? = some t → args[j]? = some v → Value.okWide Tryd.prog W .any base t v)
    (hW : DataW.Whole enc Tryd.prog Tryd.f7.params.toList Rows.scanBracketSpec.vars false W args.toList ds gs before) (hL : laidMetH Tryd.prog Rows.scanBracketRow.laid W)
    (hsz : (DataW.weightsEach Tryd.prog (Tryd.f7.params.toList ++ Rows.scanBracketSpec.plain.varTypes Tryd.prog) (ds ++ gs)).all (· ≤ reachBytes) = true) :
    Calls Tryd.prog 7 args W fun e W' => ∃ v, e = .returned v ∧ Rows.scanBracketSpec.post enc Tryd.prog Tryd.f7 false true false false W args v W' := by
  have hval : ∀ (j : Nat) t v, Tryd.f7.params[j]? = some t → args[j]? = some v → Value.okWide Tryd.prog W .any base t v := hval0
  have hG := glbLaid hL
  have hW' := hW
  obtain ⟨p, q, hA0, hV, rfl, hfz, hnd⟩ := hW
  have hA : DataW.TrodAll enc Tryd.prog W 0 (fun _ => true) true Tryd.f7.params.toList args.toList ds p := hA0
  rw [Tryd.params7] at hA hval hsz
  obtain ⟨v0, vs0, d0, ds0, p0, q0, hargs, rfl, rfl, h0, r0⟩ := trodAll_cons hA
  obtain ⟨v1, vs1, d1, ds1, p1, q1, rfl, rfl, rfl, h1, r1⟩ := trodAll_cons r0
  obtain ⟨rfl, rfl, rfl⟩ := trodAll_nil r1
  obtain rfl : args = #[v0, v1] := by cases args; simp_all
  obtain ⟨rfl, rfl⟩ := trodVars_none hV
  have k0 := h0
  have lt0 : ∀ x ∈ p0, x.block < W.heap.size := by obtain ⟨m, hm⟩ := k0; exact DataW.trod_lt m _ _ _ hm
  obtain ⟨a0, len0, cap0, rfl⟩ := okWide_slice Tryd.underlying34 (hval 0 34 v0 rfl rfl)
  obtain ⟨z0, ⟨A0_, c0_, he0, l0_, g0_⟩, wz0⟩ := opens_arg (fun n => opens34 enc W n) h0 hsz (j := 0) rfl rfl
  obtain ⟨rfl, rfl, rfl⟩ : a0 = A0_ ∧ len0 = z0.length ∧ cap0 = c0_ := by simpa [Value.cells] using he0
  have k1 := h1
  have lt1 : ∀ x ∈ p1, x.block < W.heap.size := by obtain ⟨m, hm⟩ := k1; exact DataW.trod_lt m _ _ _ hm
  obtain ⟨a1, len1, cap1, rfl⟩ := okWide_slice Tryd.underlying23 (hval 1 23 v1 rfl rfl)
  obtain ⟨z1, ⟨A1_, c1_, he1, l1_, g1_⟩, wz1⟩ := opens_arg (fun n => opens23 enc W n) h1 hsz (j := 1) rfl rfl
  obtain ⟨rfl, rfl, rfl⟩ : a1 = A1_ ∧ len1 = z1.length ∧ cap1 = c1_ := by simpa [Value.cells] using he1
  clear hA0 hval0 hsz
  refine (QB.law_bracket z0 z1 W g0_ l0_ g1_ l1_ (fun x hx => ⟨by have := (wz0.2 x hx).2.2.1.1; omega, by have := (wz0.2 x hx).2.2.2.1.1; omega, by have := (wz0.2 x hx).2.2.2.2.1; omega⟩) (by have := wz0.1; omega) (by have := wz1.1; omega) hG).mono fun e W' ⟨he, bel⟩ => ?_
  subst he
  exact ⟨_, rfl, _, _, _, [], _, [], hW', trodAll_mk1 (shut_bool Tryd.underlying4 _), (trodAll_cons_mk (Below.trod laidOut (by kernel_rfl) (of_decide_eq_true (by kernel_rfl)) k0 bel lt0) (trodAll_cons_mk (Below.trod laidOut (by kernel_rfl) (of_decide_eq_true (by kernel_rfl)) k1 bel lt1) trodAll_mk0)), rfl, bel.frame _, fun h => by cases h⟩
/-- A WORLD FOR THE WITNESS: the settled one, the table (block 0) holding what its initialiser lays. -/
noncomputable def laidWorld (os : Os) : World :=
  { World.holding Tryd.prog os ⟨#[], #[], []⟩ with heap := (World.holding Tryd.prog os ⟨#[], #[], []⟩).heap.modify 0 fun
      | .cells _ t frozen => .cells #[.int .i64 0, .bool false, .int .i64 1, .bool false, .int .i64 0, .bool false, .int .i64 0, .bool true, .int .i64 1, .bool false, .int .i64 0, .bool false, .int .i64 2, .bool false, .int .i64 1, .bool false, .int .i64 1, .bool false, .int .i64 1, .bool false, .int .i64 1, .bool false, .int .i64 1, .bool false] t frozen
      | o => o }
theorem laid_met (os : Os) : laidMet Tryd.prog Rows.scanBracketRow.laid ((laidWorld os).forCall (fun _ _ => 0) ⟨#[], #[.slice none 0 0, .slice none 0 0], []⟩).memory :=
  laidMet_of_run' 8 (by kernel_rfl) (by kernel_rfl)
theorem reads (os : Os) {H : Type} (enc : TypeId × Value → H) : ∃ places, DataW.whole enc Tryd.prog ((laidWorld os).forCall (fun _ _ => 0) ⟨#[], #[.slice none 0 0, .slice none 0 0], []⟩).memory Tryd.f7.params.toList Rows.scanBracketSpec.vars false (#[.slice none 0 0, .slice none 0 0] : Array Value).toList 8 = some ([.nil, .nil], [], places) :=
  ⟨[], by kernel_rfl⟩
set_option maxRecDepth 100000 in
theorem lifted (os : Os) (started : os.Started) (H : Type) (enc : TypeId × Value → H) (F : Stop.Interp) :
    ReturnsInHanded {} Tryd.checked os 7 .any ((OpenSpec.ofChange Rows.scanBracketSpec).preRow enc Tryd.prog Tryd.f7 Rows.scanBracketRow.domain false Rows.scanBracketRow.laid) (((OpenSpec.ofChange Rows.scanBracketSpec).at F).post enc Tryd.prog Tryd.f7 false true false false) := by
  obtain ⟨places, hx⟩ := reads os enc
  refine returnsInHanded_of_row (C := Tryd.checked) (s := OpenSpec.ofChange Rows.scanBracketSpec) own started (by kernel_rfl) Tryd.func7
    (witness_row_at (enc := enc) (C := Tryd.checked) false (laidWorld os) #[.slice none 0 0, .slice none 0 0] rfl (by kernel_rfl) (by kernel_rfl) (by kernel_rfl)
      (OpenSpec.preRow_of_cond 8 hx (by kernel_rfl) (fun k hk => by cases hk) (by kernel_rfl) (laid_met os))) ?_
  intro W base args ds gs before hval hW a1 a2 a3 hL a4 a5
  exact contract H enc W base args ds gs before hval hW hL a3
theorem said : Rows.ScanBracketSaid :=
  OpenClaim.holds_of_cond 7 Tryd.f7 rfl rfl rfl rfl rfl rfl rfl ⟨rfl, rfl, rfl, rfl, rfl⟩ rfl rfl rfl rfl rfl (by kernel_rfl) Tryd.func7 (by kernel_rfl)
    (of_decide_eq_true (by kernel_rfl)) (by unfold Func.isWrapper; first | (rw [if_pos (by decide +kernel)]; kernel_rfl) | (rw [if_neg (by decide +kernel)]; exact ⟨rfl, rfl⟩))
    (fun os started H enc _ F => by rw [OpenClaim.pre_eq_preRow]; exact lifted os started H enc F)
theorem plain (f : FuncId) (fn : Func) (hf : Tryd.pinned.checked.prog.funcNamed "ndjq/ndjqlaw20.ScanBracket" = some f) (hfn : Tryd.pinned.checked.prog.funcs[f]? = some fn) :
    false = Tryd.pinned.checked.prog.looks [] ∧ ∀ (j : Nat) t, fn.params[j]? = some t → Tryd.pinned.checked.prog.wantsStandIn t = false := by
  obtain rfl : f = 7 := Option.some.inj ((show Tryd.prog.funcNamed "ndjq/ndjqlaw20.ScanBracket" = some 7 by kernel_rfl).symm.trans hf) |>.symm
  obtain rfl : fn = Tryd.f7 := (Option.some.inj (Tryd.func7.symm.trans hfn)).symm
  refine ⟨by kernel_rfl, fun j t ht => ?_⟩
  rw [Tryd.params7] at ht
  have hm := Array.mem_of_getElem? ht
  have hc : t = 34 ∨ t = 23 := by simpa using hm
  rcases hc with rfl | rfl
  · exact (show Tryd.prog.wantsStandIn 34 = false by kernel_rfl)
  · exact (show Tryd.prog.wantsStandIn 23 = false by kernel_rfl)
/-- THE CARD -/
theorem card : Rows.ScanBracketCardSaid :=
  Claim7.holds_tied_plain_at .later [] _ _ _ _ said (fun _ h => by cases h) (by kernel_rfl) (fun _ h => by cases h) scanBracket_row_tie rfl ⟨rfl, rfl⟩ (by kernel_rfl) rfl plain (by kernel_rfl)

#print axioms card
end Go.Proofs.YtkhnifehcnlpjaaDoor.scanBracket
namespace Go.Proofs.YtkhnifehcnlpjaaDoor
/-- The card, under a short name, for the claim. -/
theorem scanBracket_holds : Rows.ScanBracketCardSaid := scanBracket.card
end Go.Proofs.YtkhnifehcnlpjaaDoor
