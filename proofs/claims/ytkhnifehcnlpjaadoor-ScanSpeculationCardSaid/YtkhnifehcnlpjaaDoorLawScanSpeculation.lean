/- ScanSpeculation: the row and the card, out of its pure law and the walk. -/
import Derived.Test.YtkhnifehcnlpjaaDoorCards
import Derived.Test.YtkhnifehcnlpjaaDoorTie
import Derived.Test.YtkhnifehcnlpjaaDoorS8
import Derived.WalkKit
import Derived.ProofKit
import Derived.OpenShut
import Derived.ShutString
import Derived.ChangeOld
import Derived.Below
import Derived.SizedLaws
import Derived.Deep.DeepHandedRow
import Derived.Deep.CondSized
import Derived.Lib.LaidTab
import Derived.Test.YtkhnifehcnlpjaaDoorWSized
namespace Go.Proofs.YtkhnifehcnlpjaaDoor.scanSpeculation
open Go.ChangeShapes Go.WideShapes Go.ChangeAt Go.RowKit
open Go.ChangeMaps (open_string shut_string)
set_option linter.unusedVariables false
set_option linter.unusedSimpArgs false
theorem own : ownKnob Tryd.prog.godebug = none := by kernel_rfl
theorem gTab : Tryd.prog.globalNamed "ndjq/automaton.moves" = some 0 := by kernel_rfl
theorem gTabType : (Tryd.prog.globals[0]?).map (·.type) = some 78 := by kernel_rfl
theorem cellsT : Tryd.prog.cellsOf 78 = 24 := by kernel_rfl
theorem laidOut : laidOutB Tryd.prog = true := by kernel_rfl
def IsRow (k : IntKind) (w : World) (a : Option Addr) (len cap : Nat) (zs : List Int) : Prop :=
  (a = none ∧ len = 0 ∧ cap = 0 ∧ zs = []) ∨
  ∃ x, a = some x ∧ len ≤ cap ∧ cap ≤ maxLen ∧ zs.length = cap ∧ (∀ i, i < zs.length → w.cell? (x.add i) = some (.int k (zs.getD i 0))) ∧ ∀ n ∈ zs, (Lit.int k n).wf = true
theorem cells4 : Tryd.prog.cellsOf 77 = 8 := by kernel_rfl
theorem cellsM : Tryd.prog.cellsOf 76 = 2 := by kernel_rfl
theorem cellsI : Tryd.prog.cellsOf 3 = 1 := by kernel_rfl
theorem cellsB : Tryd.prog.cellsOf 4 = 1 := by kernel_rfl
theorem two_cells {a b : Value} {cs : List Value} (hl : cs.length = 2) (h0 : cs.take 1 = [a]) (h1 : (cs.drop 1).take 1 = [b]) : cs = [a, b] := by
  match cs, hl with
  | [x, y], _ => simp at h0 h1; simp [h0, h1]
theorem move_cells {enc : TypeId × Value → Unit} {w : World} {base : Nat} {sp : Nat → Bool} {held : Bool} {fuel : Nat} {cs : List Value} {p : List MemPlace} {a : Int} {b : Bool}
    (h : DataW.trod enc Tryd.prog w base sp held fuel 76 cs = some (.agg [.lit (.int .i64 a), .lit (.bool b)], p)) : cs = [.int .i64 a, .bool b] := by
  obtain ⟨xs, n, _, hx, hl, hxl, hf⟩ := DataW.trod_struct Tryd.underlying76 h
  have hxs : xs.map (·.1) = [.lit (.int .i64 a), .lit (.bool b)] := by
    have := congrArg Prod.fst hx
    simpa using this.symm
  match xs, hxs with
  | [x0, x1], hxs =>
    simp only [List.map_cons, List.map_nil, List.cons.injEq, and_true] at hxs
    have f0 := hf 0 _ rfl
    have f1 := hf 1 _ rfl
    simp only [cellsI, cellsB, List.drop_zero, List.getElem?_cons_zero, List.getElem?_cons_succ] at f0 f1
    obtain ⟨n0, c0, e0, _⟩ := DataW.trod_int Tryd.underlying3 f0
    obtain ⟨b0, c1, e1⟩ := DataW.trod_bool Tryd.underlying4 f1
    rw [e0, e1] at hxs
    simp only [DataW.lit.injEq, Lit.int.injEq, Lit.bool.injEq, true_and] at hxs
    rw [cellsM] at hl
    rw [hxs.1] at c0
    rw [hxs.2] at c1
    exact two_cells hl c0 c1
theorem list4 {α : Type} {xs : List α} (h : xs.length = 4) : ∃ a b c d, xs = [a, b, c, d] := by
  match xs, h with
  | [a, b, c, d], _ => exact ⟨a, b, c, d, rfl⟩
theorem list3 {α : Type} {xs : List α} (h : xs.length = 3) : ∃ a b c, xs = [a, b, c] := by
  match xs, h with
  | [a, b, c], _ => exact ⟨a, b, c, rfl⟩
def mvD {H : Type} (a : Int) (b : Bool) : DataW H := .agg [.lit (.int .i64 a), .lit (.bool b)]
theorem four_cells {enc : TypeId × Value → Unit} {w : World} {base : Nat} {sp : Nat → Bool} {held : Bool} {fuel : Nat} {cs : List Value} {p : List MemPlace} {a0 a1 a2 a3 : Int} {b0 b1 b2 b3 : Bool}
    (h : DataW.trod enc Tryd.prog w base sp held fuel 77 cs = some (.agg [mvD a0 b0, mvD a1 b1, mvD a2 b2, mvD a3 b3], p)) : cs = [.int .i64 a0, .bool b0, .int .i64 a1, .bool b1, .int .i64 a2, .bool b2, .int .i64 a3, .bool b3] := by
  obtain ⟨xs, n, _, hx, hl, hxl, hf⟩ := DataW.trod_array Tryd.underlying77 h
  obtain ⟨x0, x1, x2, x3, rfl⟩ := list4 hxl
  have hxs := congrArg Prod.fst hx
  simp only [List.map_cons, List.map_nil, DataW.agg.injEq, List.cons.injEq, and_true] at hxs
  obtain ⟨e0, e1, e2, e3⟩ := hxs
  have f0 := hf 0 (by decide)
  have f1 := hf 1 (by decide)
  have f2 := hf 2 (by decide)
  have f3 := hf 3 (by decide)
  rw [cellsM] at f0 f1 f2 f3
  rw [cells4] at hl
  have g0 := move_cells (p := x0.2) (a := a0) (b := b0) (f0.trans (congrArg some (Prod.ext e0.symm rfl)))
  have g1 := move_cells (p := x1.2) (a := a1) (b := b1) (f1.trans (congrArg some (Prod.ext e1.symm rfl)))
  have g2 := move_cells (p := x2.2) (a := a2) (b := b2) (f2.trans (congrArg some (Prod.ext e2.symm rfl)))
  have g3 := move_cells (p := x3.2) (a := a3) (b := b3) (f3.trans (congrArg some (Prod.ext e3.symm rfl)))
  match cs, hl with
  | [y0, y1, y2, y3, y4, y5, y6, y7], _ => simp at g0 g1 g2 g3; simp [g0, g1, g2, g3]
theorem moves_cells {enc : TypeId × Value → Unit} {w : World} {base : Nat} {sp : Nat → Bool} {held : Bool} {fuel : Nat} {cs : List Value} {p : List MemPlace}
    (h : DataW.trod enc Tryd.prog w base sp held fuel 78 cs = some (Rows.laid_ndjq_automaton_moves, p)) : cs = QC.moveCells := by
  obtain ⟨xs, n, _, hx, hl, hxl, hf⟩ := DataW.trod_array Tryd.underlying78 h
  obtain ⟨x0, x1, x2, rfl⟩ := list3 hxl
  have hxs := congrArg Prod.fst hx
  unfold Rows.laid_ndjq_automaton_moves at hxs
  simp only [List.map_cons, List.map_nil, DataW.agg.injEq, List.cons.injEq, and_true] at hxs
  obtain ⟨e0, e1, e2⟩ := hxs
  have f0 := hf 0 (by decide)
  have f1 := hf 1 (by decide)
  have f2 := hf 2 (by decide)
  rw [cells4] at f0 f1 f2
  rw [cellsT] at hl
  have g0 := four_cells (p := x0.2) (a0 := 0) (b0 := false) (a1 := 1) (b1 := false) (a2 := 0) (b2 := false) (a3 := 0) (b3 := true) (f0.trans (congrArg some (Prod.ext e0.symm rfl)))
  have g1 := four_cells (p := x1.2) (a0 := 1) (b0 := false) (a1 := 0) (b1 := false) (a2 := 2) (b2 := false) (a3 := 1) (b3 := false) (f1.trans (congrArg some (Prod.ext e1.symm rfl)))
  have g2 := four_cells (p := x2.2) (a0 := 1) (b0 := false) (a1 := 1) (b1 := false) (a2 := 1) (b2 := false) (a3 := 1) (b3 := false) (f2.trans (congrArg some (Prod.ext e2.symm rfl)))
  have s0 : cs = cs.take 8 ++ ((cs.drop 8).take 8 ++ (cs.drop 16).take 8) := by
    have h3 : (cs.drop 16).take 8 = cs.drop 16 := List.take_of_length_le (by rw [List.length_drop]; omega)
    have h2 : (cs.drop 8).drop 8 = cs.drop 16 := by rw [List.drop_drop]
    rw [h3, ← h2, List.take_append_drop, List.take_append_drop]
  have g0' : cs.take 8 = _ := g0
  have g1' : (cs.drop 8).take 8 = _ := g1
  have g2' : (cs.drop 16).take 8 = _ := g2
  rw [s0, g0', g1', g2']
  rfl
theorem glbLaid {W : World} (h : laidMetH Tryd.prog Rows.scanSpeculationRow.laid W) : QC.GlbLaid W := by
  have h' : laidMet Tryd.prog [("ndjq/automaton.moves", Rows.laid_ndjq_automaton_moves)] W := h
  obtain ⟨ps, ⟨g', t', cs, fuel, p, q, hg', ht', hvar, hd, _, _⟩, _⟩ := h'
  obtain rfl := Option.some.inj (gTab.symm.trans hg')
  obtain rfl := Option.some.inj (gTabType.symm.trans ht')
  have hc := moves_cells hd
  intro j hj
  have e := World.var?_cell gTab hvar j
  rw [e, ← hc]
  simp

theorem contract (H : Type) (enc : TypeId × Value → H) (W : World) (base : Nat) (args : Array Value) (ds gs : List (DataW H)) (before : List MemPlace)
    (hval0 : ∀ (j : Nat) t v, Tryd.f8.params[j]? = some t → args[j]? = some v → Value.okWide Tryd.prog W .any base t v)
    (hW : DataW.Whole enc Tryd.prog Tryd.f8.params.toList Rows.scanSpeculationSpec.vars false W args.toList ds gs before) (hL : laidMetH Tryd.prog Rows.scanSpeculationRow.laid W)
    (hsz : (DataW.weightsEach Tryd.prog (Tryd.f8.params.toList ++ Rows.scanSpeculationSpec.plain.varTypes Tryd.prog) (ds ++ gs)).all (· ≤ reachBytes) = true) :
    Calls Tryd.prog 8 args W fun e W' => ∃ v, e = .returned v ∧ Rows.scanSpeculationSpec.post enc Tryd.prog Tryd.f8 false true false false W args v W' := by
  have hval : ∀ (j : Nat) t v, Tryd.f8.params[j]? = some t → args[j]? = some v → Value.okWide Tryd.prog W .any base t v := hval0
  have hG := glbLaid hL
  have hW' := hW
  obtain ⟨p, q, hA0, hV, rfl, hfz, hnd⟩ := hW
  have hA : DataW.TrodAll enc Tryd.prog W 0 (fun _ => true) true Tryd.f8.params.toList args.toList ds p := hA0
  rw [Tryd.params8] at hA hval hsz
  obtain ⟨v0, vs0, d0, ds0, p0, q0, hargs, rfl, rfl, h0, r0⟩ := trodAll_cons hA
  obtain ⟨v1, vs1, d1, ds1, p1, q1, rfl, rfl, rfl, h1, r1⟩ := trodAll_cons r0
  obtain ⟨v2, vs2, d2, ds2, p2, q2, rfl, rfl, rfl, h2, r2⟩ := trodAll_cons r1
  obtain ⟨rfl, rfl, rfl⟩ := trodAll_nil r2
  obtain rfl : args = #[v0, v1, v2] := by cases args; simp_all
  obtain ⟨rfl, rfl⟩ := trodVars_none hV
  obtain ⟨a0, rfl, rfl, rfl, y0⟩ := open_string Tryd.underlying9 (hval 0 9 v0 rfl rfl) h0
  have w0 : a0.size ≤ 140737488351232 := by
    have z := sized_string hsz (j := 0) (t := 9) rfl rfl
    rw [Array.length_toList] at z
    exact z
  obtain ⟨a1, rfl, rfl, rfl, w1⟩ := open_int Tryd.underlying3 (hval 1 3 v1 rfl rfl) h1
  obtain ⟨a2, len2, cap2, rfl⟩ := okWide_slice Tryd.underlying23 (hval 2 23 v2 rfl rfl)
  have k2 := h2
  have lt2 : ∀ x ∈ p2, x.block < W.heap.size := by obtain ⟨m, hm⟩ := k2; exact DataW.trod_lt m _ _ _ hm
  obtain ⟨z2, w2⟩ : ∃ zs, IsRow .i64 W a2 len2 cap2 zs := by
    obtain ⟨fuel, hf⟩ := h2
    rcases open_ints Tryd.underlying23 Tryd.underlying3 (by kernel_rfl) hf with ⟨hcs, _⟩ | ⟨x, l, c, zs, hcs, _, hl, hm, hz, _, hcell, hwz⟩
    · simp [Value.cells] at hcs
      obtain ⟨rfl, rfl, rfl⟩ := hcs
      exact ⟨[], .inl ⟨rfl, rfl, rfl, rfl⟩⟩
    · simp [Value.cells] at hcs
      obtain ⟨rfl, rfl, rfl⟩ := hcs
      exact ⟨zs, .inr ⟨_, rfl, hl, hm, by simpa using hz, hcell, hwz⟩⟩
  have y2 : len2 * 8 ≤ 140737488351232 := Go.Proofs.YtkhnifehcnlpjaaDoorW.PrintWords.sized_ints hsz (j := 2) (t := 23) rfl rfl Tryd.underlying23 Tryd.underlying3 (by kernel_rfl) (by kernel_rfl) h2
  clear hA0 hval0 hsz
  refine (QC.law_spec2 a0 a1 W w0 (QC.row_C w2) y2 hG).mono fun e W' ⟨he, bel⟩ => ?_
  subst he
  exact ⟨_, rfl, _, _, _, [], _, [], hW', trodAll_mk1 (shut_bool Tryd.underlying4 _), (trodAll_cons_mk (shut_string Tryd.underlying9 y0) (trodAll_cons_mk (shut_int Tryd.underlying3 w1) (trodAll_cons_mk (Below.trod laidOut (by kernel_rfl) (of_decide_eq_true (by kernel_rfl)) k2 bel lt2) trodAll_mk0))), rfl, bel.frame _, fun h => by cases h⟩
/-- A WORLD FOR THE WITNESS: the settled one, the table (block 0) holding what its initialiser lays. -/
noncomputable def laidWorld (os : Os) : World :=
  { World.holding Tryd.prog os ⟨#[], #[], []⟩ with heap := (World.holding Tryd.prog os ⟨#[], #[], []⟩).heap.modify 0 fun
      | .cells _ t frozen => .cells #[.int .i64 0, .bool false, .int .i64 1, .bool false, .int .i64 0, .bool false, .int .i64 0, .bool true, .int .i64 1, .bool false, .int .i64 0, .bool false, .int .i64 2, .bool false, .int .i64 1, .bool false, .int .i64 1, .bool false, .int .i64 1, .bool false, .int .i64 1, .bool false, .int .i64 1, .bool false] t frozen
      | o => o }
theorem laid_met (os : Os) : laidMet Tryd.prog Rows.scanSpeculationRow.laid ((laidWorld os).forCall (fun _ _ => 0) ⟨#[], #[.string ByteArray.empty, .int .i64 0, .slice none 0 0], []⟩).memory :=
  laidMet_of_run' 8 (by kernel_rfl) (by kernel_rfl)
theorem reads (os : Os) {H : Type} (enc : TypeId × Value → H) : ∃ places, DataW.whole enc Tryd.prog ((laidWorld os).forCall (fun _ _ => 0) ⟨#[], #[.string ByteArray.empty, .int .i64 0, .slice none 0 0], []⟩).memory Tryd.f8.params.toList Rows.scanSpeculationSpec.vars false (#[.string ByteArray.empty, .int .i64 0, .slice none 0 0] : Array Value).toList 8 = some ([.lit (.string []), .lit (.int .i64 0), .nil], [], places) :=
  ⟨[], by kernel_rfl⟩
set_option maxRecDepth 100000 in
theorem lifted (os : Os) (started : os.Started) (H : Type) (enc : TypeId × Value → H) (F : Stop.Interp) :
    ReturnsInHanded {} Tryd.checked os 8 .any ((OpenSpec.ofChange Rows.scanSpeculationSpec).preRow enc Tryd.prog Tryd.f8 Rows.scanSpeculationRow.domain false Rows.scanSpeculationRow.laid) (((OpenSpec.ofChange Rows.scanSpeculationSpec).at F).post enc Tryd.prog Tryd.f8 false true false false) := by
  obtain ⟨places, hx⟩ := reads os enc
  refine returnsInHanded_of_row (C := Tryd.checked) (s := OpenSpec.ofChange Rows.scanSpeculationSpec) own started (by kernel_rfl) Tryd.func8
    (witness_row_at (enc := enc) (C := Tryd.checked) false (laidWorld os) #[.string ByteArray.empty, .int .i64 0, .slice none 0 0] rfl (by kernel_rfl) (by kernel_rfl) (by kernel_rfl)
      (OpenSpec.preRow_of_cond 8 hx (by kernel_rfl) (fun k hk => by cases hk) (by kernel_rfl) (laid_met os))) ?_
  intro W base args ds gs before hval hW a1 a2 a3 hL a4 a5
  exact contract H enc W base args ds gs before hval hW hL a3
theorem said : Rows.ScanSpeculationSaid :=
  OpenClaim.holds_of_cond 8 Tryd.f8 rfl rfl rfl rfl rfl rfl rfl ⟨rfl, rfl, rfl, rfl, rfl⟩ rfl rfl rfl rfl rfl (by kernel_rfl) Tryd.func8 (by kernel_rfl)
    (of_decide_eq_true (by kernel_rfl)) (by unfold Func.isWrapper; first | (rw [if_pos (by decide +kernel)]; kernel_rfl) | (rw [if_neg (by decide +kernel)]; exact ⟨rfl, rfl⟩))
    (fun os started H enc _ F => by rw [OpenClaim.pre_eq_preRow]; exact lifted os started H enc F)
theorem plain (f : FuncId) (fn : Func) (hf : Tryd.pinned.checked.prog.funcNamed "ndjq/ndjqlaw20.ScanSpeculation" = some f) (hfn : Tryd.pinned.checked.prog.funcs[f]? = some fn) :
    false = Tryd.pinned.checked.prog.looks [] ∧ ∀ (j : Nat) t, fn.params[j]? = some t → Tryd.pinned.checked.prog.wantsStandIn t = false := by
  obtain rfl : f = 8 := Option.some.inj ((show Tryd.prog.funcNamed "ndjq/ndjqlaw20.ScanSpeculation" = some 8 by kernel_rfl).symm.trans hf) |>.symm
  obtain rfl : fn = Tryd.f8 := (Option.some.inj (Tryd.func8.symm.trans hfn)).symm
  refine ⟨by kernel_rfl, fun j t ht => ?_⟩
  rw [Tryd.params8] at ht
  have hm := Array.mem_of_getElem? ht
  have hc : t = 9 ∨ t = 3 ∨ t = 23 := by simpa using hm
  rcases hc with rfl | rfl | rfl
  · exact (show Tryd.prog.wantsStandIn 9 = false by kernel_rfl)
  · exact (show Tryd.prog.wantsStandIn 3 = false by kernel_rfl)
  · exact (show Tryd.prog.wantsStandIn 23 = false by kernel_rfl)
/-- THE CARD -/
theorem card : Rows.ScanSpeculationCardSaid :=
  Claim7.holds_tied_plain_at .later [] _ _ _ _ said (fun _ h => by cases h) (by kernel_rfl) (fun _ h => by cases h) scanSpeculation_row_tie rfl ⟨rfl, rfl⟩ (by kernel_rfl) rfl plain (by kernel_rfl)

#print axioms card
end Go.Proofs.YtkhnifehcnlpjaaDoor.scanSpeculation
namespace Go.Proofs.YtkhnifehcnlpjaaDoor
/-- The card, under a short name, for the claim. -/
theorem scanSpeculation_holds : Rows.ScanSpeculationCardSaid := scanSpeculation.card
end Go.Proofs.YtkhnifehcnlpjaaDoor
