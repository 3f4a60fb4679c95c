-- by a program of this session (print2.py): the machine's side of one law; Lean checks it.
import Derived.Test.YtgfaakecfkfcaaaQSchedMixedx0
namespace Go.Proofs.Ytgfaakecfkfcaaa.QSchedMixed
open Go.RowKit Go.Proofs.YtgfaakecfkfcaaaW.PrintWords Go.Proofs.YtgfaakecfkfcaaaW.PrintLast Go.Proofs.YtgfaakecfkfcaaaW.PrintMore
attribute [local go_sem] max2_int min2_int max_two min_two max_three min_three max_four min_four   -- for this text's walks alone
set_option linter.unusedVariables false
set_option linter.unusedSimpArgs false

/-! ### sched_Index: function 10 -/
def sched_Index.f (a0 : Int) (a1 : Int) : Option (Int) := if a0 < 1 then (some 0) else (if a0 = 0 then (none) else (if (Int.tmod a1 a0) < 0 then (some (wrap64 ((Int.tmod a1 a0) + a0))) else (some (Int.tmod a1 a0))))
set_option maxHeartbeats 8000000 in
set_option maxRecDepth 100000 in
theorem sched_Index.calls (a0 : Int) (a1 : Int) (r : Int) (w : World) (h : sched_Index.f a0 a1 = some r) :
    Calls Try.prog 10 #[.int .i64 a0, .int .i64 a1] w fun e w' => e = .returned (.int .i64 r) ∧ Drawn0 w w' := by
  have H : (if a0 < 1 then (some 0) else (if a0 = 0 then (none) else (if (Int.tmod a1 a0) < 0 then (some (wrap64 ((Int.tmod a1 a0) + a0))) else (some (Int.tmod a1 a0))))) = some r := h
  clear h
  by_cases c3 : a0 < 1
  · rw [if_pos c3] at H
    have c3b0 : decide (a0 < 1) = true := decide_eq_true c3
    clear c3
    obtain rfl := Option.some.inj H
    go_enter Try.func10, Try.ntmps10
    go_wp2
    go_ret
    exact ⟨by first | rfl | (simp; done) | (simp [*]; done), by repeat (first | exact Drawn0.refl _ | apply Drawn0.step)⟩
  · rw [if_neg c3] at H
    have c3b0 : decide (a0 < 1) = false := decide_eq_false c3
    clear c3
    by_cases c4 : a0 = 0
    · rw [if_pos c4] at H
      exact absurd H (by simp)
    · rw [if_neg c4] at H
      have c4b0 : (a0 == 0) = false := beq_eq_false_iff_ne.mpr c4
      have c4b1 : (a0 != 0) = true := bne_iff_ne.mpr c4
      by_cases c5 : (Int.tmod a1 a0) < 0
      · rw [if_pos c5] at H
        have c5b0 : decide ((Int.tmod a1 a0) < 0) = true := decide_eq_true c5
        clear c5
        obtain rfl := Option.some.inj H
        go_enter Try.func10, Try.ntmps10
        go_wp2
        go_ret
        exact ⟨by first | rfl | (simp; done) | (simp [*]; done), by repeat (first | exact Drawn0.refl _ | apply Drawn0.step)⟩
      · rw [if_neg c5] at H
        have c5b0 : decide ((Int.tmod a1 a0) < 0) = false := decide_eq_false c5
        clear c5
        obtain rfl := Option.some.inj H
        go_enter Try.func10, Try.ntmps10
        go_wp2
        go_ret
        exact ⟨by first | rfl | (simp; done) | (simp [*]; done), by repeat (first | exact Drawn0.refl _ | apply Drawn0.step)⟩

/-! ### sched_Choose: function 8 -/
def sched_Choose.f (l0 : List Int) (a1 : Int) : Option (Int × Bool) := if (l0.length : Int) = 0 then (some (0, false)) else ((sched_Index.f (l0.length : Int) a1).bind fun t101 => (if 0 ≤ t101 then (if t101 < (l0.length : Int) then (some (rd l0 t101, true)) else (none)) else (none)))
set_option maxHeartbeats 8000000 in
set_option maxRecDepth 100000 in
theorem sched_Choose.calls (A0 : Option Addr) (c0 : Nat) (l0 : List Int) (a1 : Int) (r1 : Int) (r2 : Bool) (w : World) (hr0 : Kd.C (Kd.int .i64) w A0 l0.length l0) (hc0 : l0.length ≤ c0) (h : sched_Choose.f l0 a1 = some (r1, r2)) :
    Calls Try.prog 8 #[.slice A0 l0.length c0, .int .i64 a1] w fun e w' => e = .returned (.tuple #[.int .i64 r1, .bool r2]) ∧ Drawn0 w w' := by
  have HR0 := Aside0.mk hr0
  have HC0 := Aside0.mk hc0
  clear hr0 hc0
  have H : (if (l0.length : Int) = 0 then (some (0, false)) else ((sched_Index.f (l0.length : Int) a1).bind fun t101 => (if 0 ≤ t101 then (if t101 < (l0.length : Int) then (some (rd l0 t101, true)) else (none)) else (none)))) = some (r1, r2) := h
  clear h
  by_cases c3 : (l0.length : Int) = 0
  · rw [if_pos c3] at H
    have c3b0 : ((l0.length : Int) == 0) = true := beq_iff_eq.mpr c3
    have c3b1 : ((l0.length : Int) != 0) = false := bne_eq_false_iff_eq.mpr c3
    clear c3
    simp only [Option.some.injEq, Prod.mk.injEq] at H
    obtain ⟨rfl, rfl⟩ := H
    go_enter Try.func8, Try.ntmps8
    go_wp2
    go_ret2
    exact ⟨by first | rfl | (simp; done) | (simp [*]; done), by repeat (first | exact Drawn0.refl _ | apply Drawn0.step)⟩
  · rw [if_neg c3] at H
    have c3b0 : ((l0.length : Int) == 0) = false := beq_eq_false_iff_ne.mpr c3
    have c3b1 : ((l0.length : Int) != 0) = true := bne_iff_ne.mpr c3
    have c3b2 : ¬ (l0 = []) := fun h_ => c3 (by rw [h_]; rfl)
    replace H := Option.bind_eq_some_iff.mp H
    obtain ⟨t101, A40, H⟩ := H
    replace H : (if 0 ≤ t101 then (if t101 < (l0.length : Int) then (some (rd l0 t101, true)) else (none)) else (none)) = some (r1, r2) := H
    have A4 := Aside0.mk A40
    clear A40
    by_cases c5 : 0 ≤ t101
    · rw [if_pos c5] at H
      have c5b0 : decide (0 ≤ t101) = true := decide_eq_true c5
      clear c5
      by_cases c6 : t101 < (l0.length : Int)
      · rw [if_pos c6] at H
        have c6b0 : decide (t101 < (l0.length : Int)) = true := decide_eq_true c6
        clear c6
        simp only [Option.some.injEq, Prod.mk.injEq] at H
        obtain ⟨rfl, rfl⟩ := H
        go_enter Try.func8, Try.ntmps8
        go_wp2_with (first | ((with_reducible refine gate_callee (f := 10) rfl ?_); refine goesL_ (some 13) rfl rfl Try.func10 (by kernel_rfl) rfl #[.int .i64 (l0.length : Int), .int .i64 a1] rfl (by (try simp only [List.map_toArray, List.map_cons, List.map_nil]); first | done | rfl | (simp only [List.length_drop, List.length_take]; rfl)) ?_; (with_reducible refine (sched_Index.calls (l0.length : Int) a1 t101 _ A4.out).mono ?_); rintro e w' ⟨rfl, ⟨nd, rfl⟩⟩; refine ⟨_, rfl, ?_⟩; have p102 : 0 ≤ (t101 : Int) := of_decide_eq_true (by first | (with_reducible assumption) | assumption); have q102 : t101 < (l0.length : Int) := of_decide_eq_true (by first | (with_reducible assumption) | assumption); obtain ⟨ad102, e102, hx102_0⟩ := Kd.at_int HR0.out t101 p102 q102; cases e102; replace p102 := eq_true p102; replace q102 := eq_true q102))
        go_ret2
        exact ⟨by first | rfl | (simp; done) | (simp [*]; done), by repeat (first | exact Drawn0.refl _ | apply Drawn0.step)⟩
      · rw [if_neg c6] at H
        exact absurd H (by simp)
    · rw [if_neg c5] at H
      exact absurd H (by simp)

/-! ### ndjqkeep_Ints: function 13 -/
def ndjqkeep_Ints.l0 : Nat → List Int → List Int → Int → Option (Bool)
  | 0, _, _, _ => none
  | k + 1, x0, x1, x5 => if x5 < (x0.length : Int) then (if 0 ≤ x5 then (if x5 < (x1.length : Int) then (if (rd x0 x5) = (rd x1 x5) then (ndjqkeep_Ints.l0 k x0 x1 (wrap64 (x5 + 1))) else (some false)) else (none)) else (none)) else (some true)
def ndjqkeep_Ints.f (k : Nat) (l0 : List Int) (l1 : List Int) : Option (Bool) := if (l0.length : Int) = (l1.length : Int) then (ndjqkeep_Ints.l0 k l0 l1 0) else (some false)
theorem ndjqkeep_Ints.mono_l : ∀ k, (∀ y0 y1 y2, LeO (ndjqkeep_Ints.l0 k y0 y1 y2) (ndjqkeep_Ints.l0 (k + 1) y0 y1 y2))
  | 0 => fun _ _ _ r h => by simp [ndjqkeep_Ints.l0] at h
  | k + 1 => by
    have ih0 := ndjqkeep_Ints.mono_l k
    · intro y0 y1 y2
      unfold ndjqkeep_Ints.l0
      repeat' first
      | (with_reducible exact ih0 _ _ _)
      | (with_reducible exact LeO.refl _)
      | (with_reducible exact LeO.none _)
      | (with_reducible refine LeO.ite ?_ ?_)
      | (with_reducible refine LeO.bind ?_ (fun _ => ?_))
      | exact ih0 _ _ _
      | exact LeO.none _
      | refine LeO.ite ?_ ?_
      | refine LeO.bind ?_ (fun _ => ?_)
theorem ndjqkeep_Ints.mono : ∀ a0 a1 k, LeO (ndjqkeep_Ints.f k a0 a1) (ndjqkeep_Ints.f (k + 1) a0 a1) := by
  intro a0 a1 k
  have ih0 := ndjqkeep_Ints.mono_l k
  unfold ndjqkeep_Ints.f
  repeat' first
      | (with_reducible exact ih0 _ _ _)
      | (with_reducible exact LeO.refl _)
      | (with_reducible exact LeO.none _)
      | (with_reducible refine LeO.ite ?_ ?_)
      | (with_reducible refine LeO.bind ?_ (fun _ => ?_))
      | exact ih0 _ _ _
      | exact LeO.none _
      | refine LeO.ite ?_ ?_
      | refine LeO.bind ?_ (fun _ => ?_)
set_option maxHeartbeats 8000000 in
set_option maxRecDepth 100000 in
theorem ndjqkeep_Ints.calls (k : Nat) (A0 : Option Addr) (c0 : Nat) (l0 : List Int) (A1 : Option Addr) (c1 : Nat) (l1 : List Int) (r : Bool) (w : World) (hr0 : Kd.C (Kd.int .i64) w A0 l0.length l0) (hc0 : l0.length ≤ c0) (hr1 : Kd.C (Kd.int .i64) w A1 l1.length l1) (hc1 : l1.length ≤ c1) (h : ndjqkeep_Ints.f k l0 l1 = some r) :
    Calls Try.prog 13 #[.slice A0 l0.length c0, .slice A1 l1.length c1] w fun e w' => e = .returned (.bool r) ∧ Drawn0 w w' := by
  have HR0 := Aside0.mk hr0
  have HC0 := Aside0.mk hc0
  clear hr0 hc0
  have HR1 := Aside0.mk hr1
  have HC1 := Aside0.mk hc1
  clear hr1 hc1
  have H : (if (l0.length : Int) = (l1.length : Int) then (ndjqkeep_Ints.l0 k l0 l1 0) else (some false)) = some r := h
  clear h
  by_cases c3 : (l0.length : Int) = (l1.length : Int)
  · rw [if_pos c3] at H
    have c3b0 : ((l0.length : Int) == (l1.length : Int)) = true := beq_iff_eq.mpr c3
    have c3b1 : ((l0.length : Int) != (l1.length : Int)) = false := bne_eq_false_iff_eq.mpr c3
    have c3b2 : (l0.length == l1.length) = true := by first | simpa using c3 | (simp at c3 ⊢; omega)
    clear c3
    have H' := Aside0.mk H
    clear H
    go_enter Try.func13, Try.ntmps13
    go_wp2
    repeat (go_quiet (fail); try go_wp2)
    go_loopg [5] k (fun kq v5 w' => ∃ (x5_1 : Int), v5 = .int .i64 x5_1 ∧ Aside0 (ndjqkeep_Ints.l0 kq l0 l1 x5_1 = some r) ∧ Aside0 (kq ≤ k) ∧ Drawn0 w w')
    case atStart => exact ⟨(0), (by first | rfl | (simp; done) | (simp [*]; done)), H', ⟨Nat.le_refl _⟩, by repeat (first | exact Drawn0.refl _ | apply Drawn0.step)⟩
    case round =>
      clear H'
      (try clear c1); (try clear p2); (try clear c3); (try clear c3b0); (try clear c3b1); (try clear c3b2)
      obtain ⟨x5_1, rfl, HA, HK1, ⟨m1, rfl⟩⟩ := hrel
      cases gk with
      | zero => exact absurd HA.out (by simp [ndjqkeep_Ints.l0])
      | succ k1 =>
        have H := HA.out
        clear HA
        simp only [ndjqkeep_Ints.l0] at H
        by_cases c4 : x5_1 < (l0.length : Int)
        · rw [if_pos c4] at H
          have c4b0 : decide (x5_1 < (l0.length : Int)) = true := decide_eq_true c4
          clear c4
          by_cases c5 : 0 ≤ x5_1
          · rw [if_pos c5] at H
            have c5b0 : decide (0 ≤ x5_1) = true := decide_eq_true c5
            clear c5
            by_cases c6 : x5_1 < (l1.length : Int)
            · rw [if_pos c6] at H
              have c6b0 : decide (x5_1 < (l1.length : Int)) = true := decide_eq_true c6
              clear c6
              by_cases c7 : (rd l0 x5_1) = (rd l1 x5_1)
              · rw [if_pos c7] at H
                have c7b0 : ((rd l0 x5_1) == (rd l1 x5_1)) = true := beq_iff_eq.mpr c7
                have c7b1 : ((rd l0 x5_1) != (rd l1 x5_1)) = false := bne_eq_false_iff_eq.mpr c7
                clear c7
                have H' := Aside0.mk H
                clear H
                have p103 : 0 ≤ (x5_1 : Int) := of_decide_eq_true (by first | (with_reducible assumption) | assumption)
                have q103 : x5_1 < (l0.length : Int) := of_decide_eq_true (by first | (with_reducible assumption) | assumption)
                obtain ⟨ad103, e103, hx103_0⟩ := Kd.at_int HR0.out x5_1 p103 q103
                cases e103
                replace p103 := eq_true p103
                replace q103 := eq_true q103
                have p104 : 0 ≤ (x5_1 : Int) := of_decide_eq_true (by first | (with_reducible assumption) | assumption)
                have q104 : x5_1 < (l1.length : Int) := of_decide_eq_true (by first | (with_reducible assumption) | assumption)
                obtain ⟨ad104, e104, hx104_0⟩ := Kd.at_int HR1.out x5_1 p104 q104
                cases e104
                replace p104 := eq_true p104
                replace q104 := eq_true q104
                go_wp2
                repeat (go_quiet (fail); try go_wp2)
                go_roundg k1
                case measure => have := HK1.out; omega
                case rel => exact ⟨(wrap64 (x5_1 + 1)), (by first | rfl | (simp; done) | (simp [*]; done)), H', ⟨by have := HK1.out; omega⟩, by repeat (first | exact Drawn0.refl _ | apply Drawn0.step)⟩
              · rw [if_neg c7] at H
                have c7b0 : ((rd l0 x5_1) == (rd l1 x5_1)) = false := beq_eq_false_iff_ne.mpr c7
                have c7b1 : ((rd l0 x5_1) != (rd l1 x5_1)) = true := bne_iff_ne.mpr c7
                obtain rfl := Option.some.inj H
                have p103 : 0 ≤ (x5_1 : Int) := of_decide_eq_true (by first | (with_reducible assumption) | assumption)
                have q103 : x5_1 < (l0.length : Int) := of_decide_eq_true (by first | (with_reducible assumption) | assumption)
                obtain ⟨ad103, e103, hx103_0⟩ := Kd.at_int HR0.out x5_1 p103 q103
                cases e103
                replace p103 := eq_true p103
                replace q103 := eq_true q103
                have p104 : 0 ≤ (x5_1 : Int) := of_decide_eq_true (by first | (with_reducible assumption) | assumption)
                have q104 : x5_1 < (l1.length : Int) := of_decide_eq_true (by first | (with_reducible assumption) | assumption)
                obtain ⟨ad104, e104, hx104_0⟩ := Kd.at_int HR1.out x5_1 p104 q104
                cases e104
                replace p104 := eq_true p104
                replace q104 := eq_true q104
                go_wp2
                repeat (go_quiet (fail); try go_wp2)
                go_ret
                exact ⟨by first | rfl | (simp; done) | (simp [*]; done), by repeat (first | exact Drawn0.refl _ | apply Drawn0.step)⟩
            · rw [if_neg c6] at H
              exact absurd H (by simp)
          · rw [if_neg c5] at H
            exact absurd H (by simp)
        · rw [if_neg c4] at H
          have c4b0 : decide (x5_1 < (l0.length : Int)) = false := decide_eq_false c4
          clear c4
          obtain rfl := Option.some.inj H
          go_wp2
          repeat (go_quiet (fail); try go_wp2)
          go_ret
          exact ⟨by first | rfl | (simp; done) | (simp [*]; done), by repeat (first | exact Drawn0.refl _ | apply Drawn0.step)⟩
  · rw [if_neg c3] at H
    have c3b0 : ((l0.length : Int) == (l1.length : Int)) = false := beq_eq_false_iff_ne.mpr c3
    have c3b1 : ((l0.length : Int) != (l1.length : Int)) = true := bne_iff_ne.mpr c3
    have c3b2 : (l0.length == l1.length) = false := by first | simpa using c3 | (simp at c3 ⊢; omega)
    obtain rfl := Option.some.inj H
    go_enter Try.func13, Try.ntmps13
    go_wp2
    repeat (go_quiet (fail); try go_wp2)
    go_ret
    exact ⟨by first | rfl | (simp; done) | (simp [*]; done), by repeat (first | exact Drawn0.refl _ | apply Drawn0.step)⟩

-- NOT PRINTED: function 23 (slices_AppendSeq_int_int)

-- NOT PRINTED: function 21 (slices_Collect_int)

-- NOT PRINTED: function 22 (sched_first)

-- NOT PRINTED: function 18 (sched_collected)

/-! ### sched_Round: function 14 -/
section
open Go Go.Shelf
attribute [local go_sem] Oper.semAt_some
theorem grownBy_put (W : World) (l : Nat) (o : Obj) : W.grownBy (W.putObj l o) (some l) :=
  ⟨rfl, rfl, rfl, by simp, fun k _ hk => World.putObj_heap_other (fun e => hk (by rw [e]))⟩
theorem grownBy_set (W : World) (b : Nat) (v : Value) : W.grownBy (W.setCell ⟨b, 0, none⟩ v) (some b) :=
  ⟨rfl, rfl, rfl, (KeepsWalks.setCell W _ v).size, fun k _ hk => Below.heap_setCell _ _ _ k (fun e => hk (by rw [e]))⟩
theorem row_ne {W : World} {base : Nat} {e : TypeId} {size : Nat} {v : Value} {k : Nat} {xs : List Value} (h : W.ownsRow base e size v k xs) {j : Nat} (hj : j < base) : some j ≠ v.ownBlock := by
  rcases h.2 with ⟨rfl, _⟩ | ⟨g, cap, cur, rfl, hb, hgb, _⟩
  · simp [Value.ownBlock]
  · intro e'
    have : j = g := by simpa [Value.ownBlock] using e'
    omega
theorem row_ne' {W : World} {base : Nat} {e : TypeId} {size : Nat} {v : Value} {k : Nat} {xs : List Value} (h : W.ownsRow base e size v k xs) {j : Nat} (hj : j < base) : v.ownBlock = none ∨ v.ownBlock ≠ some j := .inr (row_ne h hj).symm
theorem box_cell {W : World} {B : Nat} {v : Value} {t : TypeId} (h : W.heap[B]? = some (.cells #[v] t (0, 0))) : W.cell? ⟨B, 0, none⟩ = some v ∧ W.frozen? ⟨B, 0, none⟩ = false := by
  constructor <;> simp [World.cell?, World.frozen?, h]
theorem box_set {W : World} {B : Nat} {v : Value} {t : TypeId} (v' : Value) (h : W.heap[B]? = some (.cells #[v] t (0, 0))) : (W.setCell ⟨B, 0, none⟩ v').heap[B]? = some (.cells #[v'] t (0, 0)) := by
  obtain ⟨hlt, hk⟩ := Array.getElem?_eq_some_iff.1 h
  show (W.heap.modify B _)[B]? = _
  rw [Array.getElem?_eq_getElem (by rw [Array.size_modify]; exact hlt), Array.getElem_modify_self, hk]
  rfl
theorem Aside.mk0 {p : Prop} (h : p) : Aside p := h
theorem inf3_ : (Try.prog.info? 3).map (fun i => (i.zero, i.size, i.bytes)) = some (some (.int .i64 0), 1, 8) := by kernel_rfl
/-! ### slices.AppendSeq's round -/
def apAssign : Code := (Code.region 2 #[{ dst := some 5, op := Op.assign (Operand.tmp 7), type := 3, pos := "iter.go:51", after := #[], guard := none }] false)
def apBody : Code := (Code.block 1 (Code.region 3 #[{ dst := some 8, op := Op.load 22 (Operand.tmp 2), type := 22, pos := "iter.go:52", after := #[], guard := none }, { dst := some 9, op := Op.move (Operand.tmp 5), type := 3, pos := "iter.go:52", after := #[], guard := none }, { dst := some 10, op := Op.buildSlice 22 1 #[(0, Operand.tmp 9)], type := 22, pos := "iter.go:52", after := #[{ on := 1, ground := Ground.data }], guard := none }, { dst := some 11, op := Op.call { callee := Callee.builtin Builtin.append, args := #[Operand.tmp 8, Operand.tmp 10], argTypes := #[22, 22] }, type := 22, pos := "iter.go:52", after := #[{ on := 0, ground := Ground.data }, { on := 2, ground := Ground.data }], guard := none }, { dst := none, op := Op.store 22 (Operand.tmp 2) (Operand.tmp 11), type := 0, pos := "iter.go:52", after := #[{ on := 3, ground := Ground.data }, { on := 3, ground := Ground.chain }, { on := 0, ground := Ground.phase }, { on := 1, ground := Ground.phase }, { on := 2, ground := Ground.phase }, { on := 3, ground := Ground.phase }], guard := none }] false))
def apRec (fn : FuncId) (sv : Value) (Bs D : Nat) (st : LoopState) (pend : Option Code) : Loop :=
  { state := st, pending := pend, fn, tmps := #[.slice none 0 0, sv, .pointer (some ⟨Bs, 0, none⟩), undef, .slice none 0 0, undef, sv, undef, undef, undef, undef, undef, undef], params := #[7], assign := apAssign, body := apBody, defers := D }
set_option maxRecDepth 100000 in
set_option maxHeartbeats 2000000 in
theorem apYield (F : Fence) (m : Nat) (fn : FuncId) (hfn : F.fn fn) (sv : Value) (Bs l D K : Nat) (hBl : Bs ≠ l) (hBK : Bs < K) (hlK : l < K) (xs : List Int) (x : Int) (W : World) (v : Value)
    (hv : W.heap[Bs]? = some (.cells #[v] 22 (0, 0))) (hrow : W.ownsRow K 3 1 v xs.length (xs.map (Value.int .i64))) (hL : W.heap[l]? = some (.loop (apRec fn sv Bs D .ready none))) (hK : K ≤ W.heap.size) (hlen : xs.length ≤ 1048576) :
    YieldAt F m Try.prog l #[.int .i64 x] W fun e W' => e = .returned (.bool true) ∧ ∃ v', W'.heap[Bs]? = some (.cells #[v'] 22 (0, 0)) ∧ W'.ownsRow K 3 1 v' (xs ++ [x]).length ((xs ++ [x]).map (Value.int .i64)) ∧ (∀ k, k < K → k ≠ Bs → W'.heap[k]? = W.heap[k]?) ∧ K ≤ W'.heap.size ∧ (∀ n0, n0 ≤ Bs → n0 ≤ l → n0 ≤ K → Below n0 W W') := by
  obtain ⟨i0, hi, hz0, hz1, hz2⟩ := info_parts inf3_
  refine ⟨fn, #[.slice none 0 0, sv, .pointer (some ⟨Bs, 0, none⟩), undef, .slice none 0 0, undef, sv, .int .i64 x, undef, undef, undef, undef, undef], apAssign, apBody, by simpa [apRec] using run_yield (P := Try.prog) (args := #[.int .i64 x]) hL rfl, roundIn_of_wpIn hfn ?_⟩
  have hl : l < W.heap.size := (Array.getElem?_eq_some_iff.1 hL).1
  have hbr := run_beginRound (P := Try.prog) hL rfl
  obtain ⟨W2, hW2⟩ : ∃ W2, W.putObj l (.loop { apRec fn sv Bs D .ready none with state := .busy }) = W2 := ⟨_, rfl⟩
  rw [hW2] at hbr
  have hg2 : W.grownBy W2 (some l) := by rw [← hW2]; exact grownBy_put _ _ _
  have hs2 : W2.heap.size = W.heap.size := by rw [← hW2]; simp
  have hv2 : W2.heap[Bs]? = some (.cells #[v] 22 (0, 0)) := (hg2.block Bs (by omega) (fun e => hBl (by cases e; rfl))).trans hv
  have hL2 : W2.heap[l]? = some (.loop { apRec fn sv Bs D .ready none with state := .busy }) := by rw [← hW2]; exact World.putObj_heap_same hl
  have hrow2 : W2.ownsRow K 3 1 v xs.length (xs.map (Value.int .i64)) := hrow.kept hg2 (row_ne' hrow hlK)
  have hf2 : ∀ k, k < K → k ≠ l → W2.heap[k]? = W.heap[k]? := fun k hk hne => hg2.block k (by omega) (fun e => hne (by cases e; rfl))
  obtain ⟨hc2, hfz2⟩ := box_cell hv2
  have hK2 : K ≤ W2.heap.size := by omega
  have hBlt : Bs < W2.heap.size := by omega
  clear hW2 hs2
  unfold apAssign
  gi_wp2
  unfold apBody
  gi_wp2_with (first
    | (gi_at_builtin; refine wpListIn_append_own _ rfl _ _ 22 rfl K 3 i0 (.int .i64 0) 1 8 Try.underlying22 hi hz0 hz1 hz2 rfl (by decide) _ _ _ rfl (hrow2.alloc _) ⟨W2.heap.size, 0, none⟩ 1 1 [.int .i64 x] rfl rfl (cell_one_new _ _ _) (by simp [Value.oneCell']) (by unfold maxLen; omega) (by omega) (by simp; omega) ?_; intro v' w3 hown' hg3 hnil3
       have hv3 : w3.heap[Bs]? = some (.cells #[v] 22 (0, 0)) := (hg3.block Bs (by simp; omega) (row_ne hrow2 hBK)).trans ((Below.heap_alloc _ _ Bs (by omega)).trans hv2)
       obtain ⟨hc3, hfz3⟩ := box_cell hv3
       obtain ⟨g', cap', cur', rfl, hbase', hgb', hr1, hr2, hr3, hr4⟩ : ∃ g' cap' cur', v' = .slice (some ⟨g', 0, none⟩) (xs.length + 1) cap' ∧ K ≤ g' ∧ w3.heap[g']? = some (.cells cur' 3 (0, 0)) ∧ xs.length + 1 ≤ cap' ∧ cap' ≤ maxLen ∧ cur'.size = cap' * 1 ∧ cur'.toList.take ((xs.length + 1) * 1) = xs.map (Value.int .i64) ++ [.int .i64 x] := by
         rcases hown'.2 with ⟨_, h0⟩ | h'
         · exact absurd h0 (by omega)
         · exact h'
       go_frame))
  have hg3' : (W2.alloc (.cells #[.int .i64 x] 3)).grownBy w3 v.ownBlock := hg3
  have hf3 : ∀ k, k < K → w3.heap[k]? = W2.heap[k]? := fun k hk => (hg3'.block k (by simp; omega) (row_ne hrow2 hk)).trans (Below.heap_alloc _ _ k (by omega))
  have hs3 : K ≤ w3.heap.size := by have := hg3'.size; simp at this; omega
  obtain ⟨w4, hw4⟩ : ∃ w4, w3.setCell ⟨Bs, 0, none⟩ (.slice (some ⟨g', 0, none⟩) (xs.length + 1) cap') = w4 := ⟨_, rfl⟩
  rw [hw4]
  have hg4 : w3.grownBy w4 (some Bs) := by rw [← hw4]; exact grownBy_set _ _ _
  have hv4 : w4.heap[Bs]? = some (.cells #[.slice (some ⟨g', 0, none⟩) (xs.length + 1) cap'] 22 (0, 0)) := by rw [← hw4]; exact box_set _ hv3
  have hf4 : ∀ k, k < K → k ≠ Bs → w4.heap[k]? = w3.heap[k]? := fun k hk hne => hg4.block k (by omega) (fun e => hne (by cases e; rfl))
  have hL4 : w4.heap[l]? = some (.loop { apRec fn sv Bs D .ready none with state := .busy }) := (hf4 l hlK hBl.symm).trans ((hf3 l hlK).trans hL2)
  have hrow4 := hown'.kept hg4 (row_ne' hown' hBK)
  have hl4 : l < w4.heap.size := (Array.getElem?_eq_some_iff.1 hL4).1
  clear hw4
  refine ⟨_, _, run_endRound none hL4, rfl, _, (World.putObj_heap_other hBl).trans hv4, ?_, fun k hk hne => ?_, by have := hg4.size; simp; omega, fun n0 q1 q2 q3 => (((((Below.refl n0 W).grown hg2 (by omega) (fun k e => by cases e; exact q2)).alloc (by omega) _).grown hg3' (by simp; omega) (fun k e => Nat.le_trans q3 (hrow2.lt k e).1)).grown hg4 (by omega) (fun k e => by cases e; exact q1)).grown (grownBy_put _ _ _) (by have := hg4.size; omega) (fun k e => by cases e; exact q2)⟩
  · have := hrow4.kept (grownBy_put w4 l (.loop { { apRec fn sv Bs D .ready none with state := .busy } with state := if (none : Option Code).isNone then .ready else .done, pending := none })) (row_ne' hrow4 hlK)
    simpa using this
  · by_cases e : k = l
    · subst e
      rw [World.putObj_heap_same hl4, hL]
      rfl
    · exact (World.putObj_heap_other e).trans ((hf4 k hk hne).trans ((hf3 k hk).trans (hf2 k hk e)))
/-! ### the round of sched.first's closure -/
def fiAssign : Code := (Code.region 3 #[{ dst := some 5, op := Op.assign (Operand.tmp 7), type := 3, pos := "sched.go:35", after := #[], guard := none }] false)
def fiBody : Code := (Code.block 1 (((Code.region 4 #[{ dst := some 8, op := Op.load 3 (Operand.tmp 4), type := 3, pos := "sched.go:36", after := #[], guard := none }, { dst := some 9, op := Op.load 3 (Operand.tmp 2), type := 3, pos := "sched.go:36", after := #[], guard := none }, { dst := some 10, op := Op.binOp BinOp.eql 3 (Operand.tmp 8) (Operand.tmp 9) 3, type := 4, pos := "sched.go:36", after := #[{ on := 0, ground := Ground.data }, { on := 1, ground := Ground.data }], guard := none }, { dst := some 11, op := Op.move (Operand.tmp 10), type := 4, pos := "sched.go:36", after := #[{ on := 2, ground := Ground.data }], guard := none }, { dst := some 12, op := Op.load 36 (Operand.tmp 3), type := 36, pos := "sched.go:36", after := #[{ on := 3, ground := Ground.guard }], guard := some (3, false) }, { dst := some 13, op := Op.move (Operand.tmp 5), type := 3, pos := "sched.go:36", after := #[{ on := 3, ground := Ground.guard }], guard := some (3, false) }, { dst := some 14, op := Op.call { callee := Callee.value (Operand.tmp 12), args := #[Operand.tmp 13], argTypes := #[3] }, type := 4, pos := "sched.go:36", after := #[{ on := 4, ground := Ground.data }, { on := 5, ground := Ground.data }, { on := 3, ground := Ground.chain }, { on := 3, ground := Ground.guard }], guard := some (3, false) }, { dst := some 15, op := Op.unOp UnOp.not 4 (Operand.tmp 14), type := 4, pos := "sched.go:36", after := #[{ on := 6, ground := Ground.data }, { on := 3, ground := Ground.guard }], guard := some (3, false) }, { dst := some 16, op := Op.pick (Operand.tmp 11) (Operand.const (Value.bool true)) (Operand.tmp 15), type := 4, pos := "sched.go:36", after := #[{ on := 3, ground := Ground.data }, { on := 7, ground := Ground.data }], guard := none }] false).seq (Code.cond (Operand.tmp 16) Code.ret Code.skip)).seq (Code.region 5 #[{ dst := some 17, op := Op.load 3 (Operand.tmp 4), type := 3, pos := "sched.go:39", after := #[], guard := none }, { dst := some 18, op := Op.binOp BinOp.add 3 (Operand.tmp 17) (Operand.const (Value.int IntKind.i64 1)) 3, type := 3, pos := "sched.go:39", after := #[{ on := 0, ground := Ground.data }], guard := none }, { dst := none, op := Op.store 3 (Operand.tmp 4) (Operand.tmp 18), type := 0, pos := "sched.go:39", after := #[{ on := 1, ground := Ground.data }, { on := 0, ground := Ground.phase }, { on := 1, ground := Ground.phase }], guard := none }] false)))
def fiRec (n0 : Nat) (fn : FuncId) (sv : Value) (st : LoopState) (pend : Option Code) : Loop :=
  { state := st, pending := pend, fn, tmps := #[.func (.yield (n0 + 5)) #[] #[], .pointer (some ⟨n0 + 2, 0, none⟩), .pointer (some ⟨n0 + 1, 0, none⟩), .pointer (some ⟨n0 + 6, 0, none⟩), .pointer (some ⟨n0 + 7, 0, none⟩), undef, sv, undef, undef, undef, undef, undef, undef, undef, undef, undef, undef, undef, undef], params := #[7], assign := fiAssign, body := fiBody, defers := n0 + 8 }
/-- Between two rounds: the call's own blocks from n0 on. -/
structure At (n0 : Nat) (steps : Int) (sv1 sv2 : Value) (fn1 fn2 : FuncId) (xs : List Int) (st : LoopState) (pe : Option Code) (W : World) : Prop where
  steps : W.heap[n0 + 1]? = some (.cells #[.int .i64 steps] 3 (0, 0))
  row : ∃ v, W.heap[n0 + 3]? = some (.cells #[v] 22 (0, 0)) ∧ W.ownsRow (n0 + 10) 3 1 v xs.length (xs.map (Value.int .i64))
  L1 : W.heap[n0 + 5]? = some (.loop (apRec fn1 sv1 (n0 + 3) (n0 + 4) .ready none))
  Y : W.heap[n0 + 6]? = some (.cells #[.func (.yield (n0 + 5)) #[] #[]] 36 (0, 0))
  M : W.heap[n0 + 7]? = some (.cells #[.int .i64 xs.length] 3 (0, 0))
  L2 : W.heap[n0 + 9]? = some (.loop (fiRec n0 fn2 sv2 st pe))
  size : n0 + 10 ≤ W.heap.size
structure Same (n0 : Nat) (W W' : World) : Prop where
  b : Below n0 W W'
  f : ∀ k, k < n0 + 10 → k ≠ n0 + 3 → k ≠ n0 + 7 → k ≠ n0 + 9 → W'.heap[k]? = W.heap[k]?
theorem Same.refl (n0 : Nat) (W : World) : Same n0 W W := ⟨Below.refl _ _, fun _ _ _ _ _ => rfl⟩
theorem Same.trans {n0 : Nat} {A B C : World} (h : Same n0 A B) (k : Same n0 B C) : Same n0 A C := ⟨h.b.trans k.b, fun i a b c d => (k.f i a b c d).trans (h.f i a b c d)⟩
set_option maxRecDepth 100000 in
set_option maxHeartbeats 2000000 in
theorem fiStop (F : Fence) (m : Nat) (n0 : Nat) (fn1 fn2 : FuncId) (hfn : F.fn fn2) (sv1 sv2 : Value) (xs : List Int) (x : Int) (W : World) (h : At n0 xs.length sv1 sv2 fn1 fn2 xs .ready none W) :
    YieldAt F m Try.prog (n0 + 9) #[.int .i64 x] W fun e W' => e = .returned (.bool false) ∧ At n0 xs.length sv1 sv2 fn1 fn2 xs .done (some .ret) W' ∧ Same n0 W W' := by
  obtain ⟨hS, ⟨v, hv, hrow⟩, hL1, hY, hM, hL2, hK⟩ := h
  refine ⟨fn2, #[.func (.yield (n0 + 5)) #[] #[], .pointer (some ⟨n0 + 2, 0, none⟩), .pointer (some ⟨n0 + 1, 0, none⟩), .pointer (some ⟨n0 + 6, 0, none⟩), .pointer (some ⟨n0 + 7, 0, none⟩), undef, sv2, .int .i64 x, undef, undef, undef, undef, undef, undef, undef, undef, undef, undef, undef], fiAssign, fiBody, by simpa [fiRec] using run_yield (P := Try.prog) (args := #[.int .i64 x]) hL2 rfl, roundIn_of_wpIn hfn ?_⟩
  have hl : n0 + 9 < W.heap.size := by omega
  have hbr := run_beginRound (P := Try.prog) hL2 rfl
  obtain ⟨W2, hW2⟩ : ∃ W2, W.putObj (n0 + 9) (.loop { fiRec n0 fn2 sv2 .ready none with state := .busy }) = W2 := ⟨_, rfl⟩
  rw [hW2] at hbr
  have hg2 : W.grownBy W2 (some (n0 + 9)) := by rw [← hW2]; exact grownBy_put _ _ _
  have hf2 : ∀ k, k < n0 + 10 → k ≠ n0 + 9 → W2.heap[k]? = W.heap[k]? := fun k hk hne => hg2.block k (by omega) (fun e => hne (by cases e; rfl))
  have hL2' : W2.heap[n0 + 9]? = some (.loop { fiRec n0 fn2 sv2 .ready none with state := .busy }) := by rw [← hW2]; exact World.putObj_heap_same hl
  have hs2 : W2.heap.size = W.heap.size := by rw [← hW2]; simp
  have hrow2 := hrow.kept hg2 (row_ne' hrow (by omega : n0 + 9 < n0 + 10))
  obtain ⟨hcS, hfS⟩ := box_cell ((hf2 (n0 + 1) (by omega) (by omega)).trans hS)
  obtain ⟨hcM, hfM⟩ := box_cell ((hf2 (n0 + 7) (by omega) (by omega)).trans hM)
  have hK2 : n0 + 10 ≤ W2.heap.size := by omega
  clear hW2 hs2
  unfold fiAssign
  gi_wp2
  unfold fiBody
  gi_wp2
  refine ⟨fun _ h => (by cases h), ?_⟩
  gi_wp2
  refine ⟨_, _, run_endRound (some .ret) hL2', rfl, ⟨?_, ⟨v, ?_, ?_⟩, ?_, ?_, ?_, World.putObj_heap_same (by omega), by simpa using hK2⟩, ⟨((Below.refl n0 W).grown hg2 (by omega) (fun k e => by cases e; omega)).grown (grownBy_put _ _ _) (by omega) (fun k e => by cases e; omega), fun k hk h3 h7 h9 => (World.putObj_heap_other h9).trans (hf2 k hk h9)⟩⟩
  · exact (World.putObj_heap_other (by omega)).trans ((hf2 _ (by omega) (by omega)).trans hS)
  · exact (World.putObj_heap_other (by omega)).trans ((hf2 _ (by omega) (by omega)).trans hv)
  · exact hrow2.kept (grownBy_put _ _ _) (row_ne' hrow2 (by omega))
  · exact (World.putObj_heap_other (by omega)).trans ((hf2 _ (by omega) (by omega)).trans hL1)
  · exact (World.putObj_heap_other (by omega)).trans ((hf2 _ (by omega) (by omega)).trans hY)
  · exact (World.putObj_heap_other (by omega)).trans ((hf2 _ (by omega) (by omega)).trans hM)
set_option maxRecDepth 100000 in
set_option maxHeartbeats 2000000 in
theorem fiGo (F : Fence) (hd : F.depth = none) (m : Nat) (n0 : Nat) (steps : Int) (fn1 fn2 : FuncId) (hfn1 : F.fn fn1) (hfn : F.fn fn2) (sv1 sv2 : Value) (xs : List Int) (x : Int) (W : World) (h : At n0 steps sv1 sv2 fn1 fn2 xs .ready none W) (hlt : (xs.length : Int) < steps) (hst : steps ≤ 1048576) :
    YieldAt F m Try.prog (n0 + 9) #[.int .i64 x] W fun e W' => e = .returned (.bool true) ∧ At n0 steps sv1 sv2 fn1 fn2 (xs ++ [x]) .ready none W' ∧ Same n0 W W' := by
  obtain ⟨hS, ⟨v, hv, hrow⟩, hL1, hY, hM, hL2, hK⟩ := h
  refine ⟨fn2, #[.func (.yield (n0 + 5)) #[] #[], .pointer (some ⟨n0 + 2, 0, none⟩), .pointer (some ⟨n0 + 1, 0, none⟩), .pointer (some ⟨n0 + 6, 0, none⟩), .pointer (some ⟨n0 + 7, 0, none⟩), undef, sv2, .int .i64 x, undef, undef, undef, undef, undef, undef, undef, undef, undef, undef, undef], fiAssign, fiBody, by simpa [fiRec] using run_yield (P := Try.prog) (args := #[.int .i64 x]) hL2 rfl, roundIn_of_wpIn hfn ?_⟩
  have hl : n0 + 9 < W.heap.size := by omega
  have hbr := run_beginRound (P := Try.prog) hL2 rfl
  obtain ⟨W2, hW2⟩ : ∃ W2, W.putObj (n0 + 9) (.loop { fiRec n0 fn2 sv2 .ready none with state := .busy }) = W2 := ⟨_, rfl⟩
  rw [hW2] at hbr
  have hg2 : W.grownBy W2 (some (n0 + 9)) := by rw [← hW2]; exact grownBy_put _ _ _
  have hf2 : ∀ k, k < n0 + 10 → k ≠ n0 + 9 → W2.heap[k]? = W.heap[k]? := fun k hk hne => hg2.block k (by omega) (fun e => hne (by cases e; rfl))
  have hL2' : W2.heap[n0 + 9]? = some (.loop { fiRec n0 fn2 sv2 .ready none with state := .busy }) := by rw [← hW2]; exact World.putObj_heap_same hl
  have hs2 : W2.heap.size = W.heap.size := by rw [← hW2]; simp
  have hrow2 := hrow.kept hg2 (row_ne' hrow (by omega : n0 + 9 < n0 + 10))
  have hM2 := (hf2 (n0 + 7) (by omega) (by omega)).trans hM
  obtain ⟨hcS, hfS⟩ := box_cell ((hf2 (n0 + 1) (by omega) (by omega)).trans hS)
  obtain ⟨hcM, hfM⟩ := box_cell hM2
  obtain ⟨hcY, hfY⟩ := box_cell ((hf2 (n0 + 6) (by omega) (by omega)).trans hY)
  have hK2 : n0 + 10 ≤ W2.heap.size := by omega
  have hv2 := (hf2 (n0 + 3) (by omega) (by omega)).trans hv
  have hL12 := (hf2 (n0 + 5) (by omega) (by omega)).trans hL1
  obtain ⟨fn, tmps, assign, body, hy, hR⟩ := apYield F (m - 1) fn1 hfn1 sv1 (n0 + 3) (n0 + 5) (n0 + 4) (n0 + 10) (by omega) (by omega) (by omega) xs x W2 v hv2 hrow2 hL12 hK2 (by omega)
  clear hW2 hs2
  have hne : ((xs.length : Int) == steps) = false := by rw [beq_eq_false_iff_ne]; omega
  unfold fiAssign
  gi_wp2
  unfold fiBody
  gi_wp2
  refine RoundIn.mono (show RoundIn (F.inRound (n0 + 9)) (m - 1) Try.prog (n0 + 5) fn tmps assign body W2 _ from hR) ?_
  rintro e W3 ⟨rfl, v', hv3, hrow3, hf3, hK3, hbl3⟩
  have B3 := Aside.mk0 (hbl3 n0 (by omega) (by omega) (by omega))
  clear hbl3
  have hM3 := (hf3 (n0 + 7) (by omega) (by omega)).trans hM2
  obtain ⟨hcM3, hfM3⟩ := box_cell hM3
  have hL23 := (hf3 (n0 + 9) (by omega) (by omega)).trans hL2'
  clear hy
  gi_wp2
  have hg4 : W3.grownBy (W3.setCell ⟨n0 + 7, 0, none⟩ (.int .i64 ((xs.length : Int) + 1))) (some (n0 + 7)) := grownBy_set _ _ _
  obtain ⟨W4, hW4⟩ : ∃ W4, W3.setCell ⟨n0 + 7, 0, none⟩ (.int .i64 ((xs.length : Int) + 1)) = W4 := ⟨_, rfl⟩
  have hM4 : W4.heap[n0 + 7]? = some (.cells #[.int .i64 ((xs.length : Int) + 1)] 3 (0, 0)) := by rw [← hW4]; exact box_set _ hM3
  rw [hW4] at hg4 ⊢
  have hf4 : ∀ k, k < n0 + 10 → k ≠ n0 + 7 → W4.heap[k]? = W3.heap[k]? := fun k hk hne => hg4.block k (by omega) (fun e => hne (by cases e; rfl))
  have hL24 := (hf4 (n0 + 9) (by omega) (by omega)).trans hL23
  have hK4 : n0 + 10 ≤ W4.heap.size := Nat.le_trans hK3 hg4.size
  have hrow4 := hrow3.kept hg4 (row_ne' hrow3 (by omega))
  refine ⟨_, _, run_endRound none hL24, rfl, ⟨?_, ⟨v', ?_, ?_⟩, ?_, ?_, ?_, ?_, by simpa using hK4⟩, ⟨((((Below.refl n0 W).grown hg2 (by omega) (fun k e => by cases e; omega)).trans B3.out).grown hg4 (by omega) (fun k e => by cases e; omega)).grown (grownBy_put _ _ _) (by omega) (fun k e => by cases e; omega), fun k hk h3 h7 h9 => (World.putObj_heap_other h9).trans ((hf4 k hk h7).trans ((hf3 k hk h3).trans (hf2 k hk h9)))⟩⟩
  · exact (World.putObj_heap_other (by omega)).trans ((hf4 _ (by omega) (by omega)).trans ((hf3 _ (by omega) (by omega)).trans ((hf2 _ (by omega) (by omega)).trans hS)))
  · exact (World.putObj_heap_other (by omega)).trans ((hf4 _ (by omega) (by omega)).trans hv3)
  · exact hrow4.kept (grownBy_put _ _ _) (row_ne' hrow4 (by omega))
  · exact (World.putObj_heap_other (by omega)).trans ((hf4 _ (by omega) (by omega)).trans ((hf3 _ (by omega) (by omega)).trans ((hf2 _ (by omega) (by omega)).trans hL1)))
  · exact (World.putObj_heap_other (by omega)).trans ((hf4 _ (by omega) (by omega)).trans ((hf3 _ (by omega) (by omega)).trans ((hf2 _ (by omega) (by omega)).trans hY)))
  · refine (World.putObj_heap_other (by omega)).trans (hM4.trans ?_)
    rw [List.length_append, List.length_singleton]; rfl
  · exact World.putObj_heap_same (by omega)
/-! ### sched.Mix's closure -/
def mixS (seed : Int) : Nat → Int
  | 0 => seed
  | j + 1 => IntKind.u64.wrap (IntKind.u64.wrap (mixS seed j * 6364136223846793005) + 1442695040888963407)
def mixL (seed : Int) : Nat → List Int
  | 0 => []
  | j + 1 => mixL seed j ++ [wrap64 (mixS seed (j + 1) / 8589934592)]
theorem mixL_len (seed : Int) : ∀ j, (mixL seed j).length = j
  | 0 => rfl
  | j + 1 => by rw [mixL, List.length_append, mixL_len seed j]; rfl
set_option maxRecDepth 100000 in
set_option maxHeartbeats 2000000 in
theorem mix1 (F : Fence) (hd : F.depth = none) (hro : F.round = none) (h20 : F.fn 20) (m : Nat) (n0 : Nat) (steps : Int) (fn1 fn2 : FuncId) (hfn1 : F.fn fn1) (hfn : F.fn fn2) (sv1 sv2 : Value) (seed : Int) (W : World) (h : At n0 steps sv1 sv2 fn1 fn2 [] .ready none W)
    (hseed : W.heap[n0]? = some (.cells #[.int .u64 seed] 29 (0, 0))) (hst : 1 ≤ steps ∧ steps ≤ 1048576) :
    CallsIn F m Try.prog 20 #[.func (.yield (n0 + 9)) #[] #[], .pointer (some ⟨n0, 0, none⟩)] W fun e W' => (∃ v, e = .returned v) ∧ At n0 steps sv1 sv2 fn1 fn2 (mixL seed steps.toNat) .done (some .ret) W' ∧ Same n0 W W' := by
  obtain ⟨hc0, hfz0⟩ := box_cell hseed
  refine callsIn_of_wp Try.func20 rfl h20 ?_ hro
  simp only [Try.ntmps20, List.size_toArray, List.length_cons, List.length_nil, Nat.reduceAdd, Nat.reduceSub, Array.replicate_succ, Array.replicate_zero, List.push_toArray, List.append_toArray, List.nil_append, List.cons_append]
  gi_wp2
  have A0 : Aside (At n0 steps sv1 sv2 fn1 fn2 [] .ready none W) := h
  clear h hseed
  gi_loopg [3] steps.toNat (fun gk p wr => ∃ j : Nat, p = .int .u64 (mixS seed j) ∧ Aside (j + gk = steps.toNat) ∧ Aside (At n0 steps sv1 sv2 fn1 fn2 (mixL seed j) .ready none wr) ∧ Aside (Same n0 W wr))
  case atStart => exact ⟨0, rfl, Nat.zero_add _, A0, Same.refl _ _⟩
  case round =>
    obtain ⟨j, rfl, hj, hat, hsame⟩ := hrel
    have hlen := Aside.mk0 (mixL_len seed j)
    by_cases hlast : j = steps.toNat
    · have hs : steps = ((mixL seed j).length : Int) := by rw [hlen.out]; omega
      have hat2 : At n0 ((mixL seed j).length : Int) sv1 sv2 fn1 fn2 (mixL seed j) .ready none wr := by rw [← hs]; exact hat.out
      obtain ⟨fn, tmps, assign, body, hy, hR⟩ := fiStop F (m - 1) n0 fn1 fn2 hfn sv1 sv2 (mixL seed j) (wrap64 (mixS seed (j + 1) / 8589934592)) wr hat2
      rw [mixS] at hy
      have A1 : Aside (steps = ((mixL seed j).length : Int)) := hs
      have A2 : Aside (j = steps.toNat) := hlast
      clear hs hat hat2 hlast
      gi_wp2
      refine RoundIn.mono hR ?_
      rintro e W3 ⟨rfl, hat3, hsame3⟩
      clear hy
      have A3 := Aside.mk0 hat3
      have A4 := Aside.mk0 hsame3
      clear hat3 hsame3
      gi_wp2
      refine bodyPost_ret (results_none rfl _ _ _) rfl ?_
      refine ⟨⟨_, rfl⟩, ?_, hsame.out.trans A4.out⟩
      rw [← A2.out]
      exact A1.out ▸ A3.out
    · have hlt : ((mixL seed j).length : Int) < steps := by rw [hlen.out]; have := hj.out; omega
      obtain ⟨fn, tmps, assign, body, hy, hR⟩ := fiGo F hd (m - 1) n0 steps fn1 fn2 hfn1 hfn sv1 sv2 (mixL seed j) (wrap64 (mixS seed (j + 1) / 8589934592)) wr hat.out hlt hst.2
      rw [mixS] at hy
      have A1 := Aside.mk0 hlt
      have A2 := Aside.mk0 hlast
      have A3 := Aside.mk0 hst
      clear hlt hlast
      gi_wp2
      refine RoundIn.mono hR ?_
      rintro e W3 ⟨rfl, hat3, hsame3⟩
      clear hy
      have A4 := Aside.mk0 hat3
      have A5 := Aside.mk0 hsame3
      clear hat3 hsame3
      gi_wp2
      gi_roundg (gk - 1)
      case measure => have := hj.out; have := A2.out; omega
      case rel => exact ⟨j + 1, rfl, by have := hj.out; have := A2.out; exact (show j + 1 + (gk - 1) = steps.toNat by omega), A4.out, hsame.out.trans A5.out⟩
/-! ### sched.Round's closure -/
def rouS (n : Int) : Nat → Int
  | 0 => 0
  | j + 1 => (rouS n j + 1) % n
def rouL (n : Int) : Nat → List Int
  | 0 => []
  | j + 1 => rouL n j ++ [rouS n j]
theorem rouL_len (n : Int) : ∀ j, (rouL n j).length = j
  | 0 => rfl
  | j + 1 => by rw [rouL, List.length_append, rouL_len n j]; rfl
theorem rouS_range (n : Int) (hn : 1 ≤ n) : ∀ j, 0 ≤ rouS n j ∧ rouS n j < n
  | 0 => ⟨Int.le_refl _, by simp only [rouS]; omega⟩
  | j + 1 => ⟨Int.emod_nonneg _ (by omega), Int.emod_lt_of_pos _ (by omega)⟩
set_option maxRecDepth 100000 in
set_option maxHeartbeats 2000000 in
theorem rou1 (F : Fence) (hd : F.depth = none) (hro : F.round = none) (h19 : F.fn 19) (m : Nat) (n0 : Nat) (steps : Int) (fn1 fn2 : FuncId) (hfn1 : F.fn fn1) (hfn : F.fn fn2) (sv1 sv2 : Value) (n : Int) (W : World) (h : At n0 steps sv1 sv2 fn1 fn2 [] .ready none W)
    (hseed : W.heap[n0]? = some (.cells #[.int .i64 n] 3 (0, 0))) (hst : 1 ≤ steps ∧ steps ≤ 1048576) (hn : 1 ≤ n ∧ n ≤ 9223372036854775807) :
    CallsIn F m Try.prog 19 #[.func (.yield (n0 + 9)) #[] #[], .pointer (some ⟨n0, 0, none⟩)] W fun e W' => (∃ v, e = .returned v) ∧ At n0 steps sv1 sv2 fn1 fn2 (rouL n steps.toNat) .done (some .ret) W' ∧ Same n0 W W' := by
  refine callsIn_of_wp Try.func19 rfl h19 ?_ hro
  simp only [Try.ntmps19, List.size_toArray, List.length_cons, List.length_nil, Nat.reduceAdd, Nat.reduceSub, Array.replicate_succ, Array.replicate_zero, List.push_toArray, List.append_toArray, List.nil_append, List.cons_append]
  gi_wp2
  have A0 : Aside (At n0 steps sv1 sv2 fn1 fn2 [] .ready none W) := h
  have A9 := Aside.mk0 hseed
  clear h hseed
  gi_loopg [3] steps.toNat (fun gk p wr => ∃ j : Nat, p = .int .i64 (rouS n j) ∧ Aside (j + gk = steps.toNat) ∧ Aside (At n0 steps sv1 sv2 fn1 fn2 (rouL n j) .ready none wr) ∧ Aside (Same n0 W wr))
  case atStart => exact ⟨0, rfl, Nat.zero_add _, A0, Same.refl _ _⟩
  case round =>
    obtain ⟨j, rfl, hj, hat, hsame⟩ := hrel
    have hlen := Aside.mk0 (rouL_len n j)
    obtain ⟨i, hi⟩ : ∃ i, rouS n j = i := ⟨_, rfl⟩
    have hr := rouS_range n hn.1 j
    rw [hi] at hr ⊢
    have A8 := Aside.mk0 hi
    clear hi
    by_cases hlast : j = steps.toNat
    · have hs : steps = ((rouL n j).length : Int) := by rw [hlen.out]; omega
      have hat2 : At n0 ((rouL n j).length : Int) sv1 sv2 fn1 fn2 (rouL n j) .ready none wr := by rw [← hs]; exact hat.out
      obtain ⟨fn, tmps, assign, body, hy, hR⟩ := fiStop F (m - 1) n0 fn1 fn2 hfn sv1 sv2 (rouL n j) i wr hat2
      have A1 : Aside (steps = ((rouL n j).length : Int)) := hs
      have A2 : Aside (j = steps.toNat) := hlast
      clear hs hat hat2 hlast
      gi_wp2
      refine RoundIn.mono hR ?_
      rintro e W3 ⟨rfl, hat3, hsame3⟩
      clear hy
      have A3 := Aside.mk0 hat3
      have A4 := Aside.mk0 hsame3
      clear hat3 hsame3
      gi_wp2
      go_end0
      refine ⟨⟨_, rfl⟩, ?_, hsame.out.trans A4.out⟩
      rw [← A2.out]
      exact A1.out ▸ A3.out
    · have hlt : ((rouL n j).length : Int) < steps := by rw [hlen.out]; have := hj.out; omega
      obtain ⟨fn, tmps, assign, body, hy, hR⟩ := fiGo F hd (m - 1) n0 steps fn1 fn2 hfn1 hfn sv1 sv2 (rouL n j) i wr hat.out hlt hst.2
      have A1 := Aside.mk0 hlt
      have A2 := Aside.mk0 hlast
      have A3 := Aside.mk0 hst
      clear hlt hlast
      gi_wp2
      refine RoundIn.mono hR ?_
      rintro e W3 ⟨rfl, hat3, hsame3⟩
      clear hy
      have A4 := Aside.mk0 hat3
      have A5 := Aside.mk0 hsame3
      have A6 : Aside (W3.heap[n0]? = some (.cells #[.int .i64 n] 3 (0, 0))) := (hsame3.f n0 (by omega) (by omega) (by omega) (by omega)).trans ((hsame.out.f n0 (by omega) (by omega) (by omega) (by omega)).trans A9.out)
      obtain ⟨hc0, hfz0⟩ := box_cell A6.out
      clear hat3 hsame3
      gi_wp2
      gi_roundg (gk - 1)
      case measure => have := hj.out; have := A2.out; omega
      case rel =>
        refine ⟨j + 1, ?_, by have := hj.out; have := A2.out; exact (show j + 1 + (gk - 1) = steps.toNat by omega), ?_, hsame.out.trans A5.out⟩
        · simp only [rouS, A8.out]
        · have := A4.out; rw [← A8.out] at this; exact this
/-! ### sched.first's closure -/
set_option maxRecDepth 100000 in
set_option maxHeartbeats 2000000 in
theorem first1 (F : Fence) (hd : F.depth = none) (hro : F.round = none) (h24 : F.fn 24) (g : Nat) (hFg : F.fn g) (eg : ∀ args w, (callFunc g args).run Try.prog w = .ok (.enter g args) w) (m : Nat) (n0 : Nat) (steps : Int) (fn1 : FuncId) (sv1 : Value) (seed : Value) (ts : TypeId) (L : List Int) (W : World) (hn0 : W.heap.size = n0 + 6)
    (hseed : W.heap[n0]? = some (.cells #[seed] ts (0, 0))) (hS : W.heap[n0 + 1]? = some (.cells #[.int .i64 steps] 3 (0, 0))) (hF : W.heap[n0 + 2]? = some (.cells #[.func (.func g) #[] #[.pointer (some ⟨n0, 0, none⟩)]] 39 (0, 0)))
    (hB : W.heap[n0 + 3]? = some (.cells #[.slice none 0 0] 22 (0, 0))) (hL1 : W.heap[n0 + 5]? = some (.loop (apRec fn1 sv1 (n0 + 3) (n0 + 4) .ready none)))
    (hsrc : ∀ (m : Nat) (fn2 : FuncId) (sv2 : Value) (W2 : World), F.fn fn2 → At n0 steps sv1 sv2 fn1 fn2 [] .ready none W2 → W2.heap[n0]? = some (.cells #[seed] ts (0, 0)) →
      CallsIn F m Try.prog g #[.func (.yield (n0 + 9)) #[] #[], .pointer (some ⟨n0, 0, none⟩)] W2 fun e W' => (∃ v, e = .returned v) ∧ At n0 steps sv1 sv2 fn1 fn2 L .done (some .ret) W' ∧ Same n0 W2 W') :
    CallsIn F m Try.prog 24 #[.func (.yield (n0 + 5)) #[] #[], .pointer (some ⟨n0 + 2, 0, none⟩), .pointer (some ⟨n0 + 1, 0, none⟩)] W fun e W' => (∃ v, e = .returned v) ∧
      (∃ v, W'.heap[n0 + 3]? = some (.cells #[v] 22 (0, 0)) ∧ W'.ownsRow (n0 + 10) 3 1 v L.length (L.map (Value.int .i64))) ∧ W'.heap[n0 + 5]? = some (.loop (apRec fn1 sv1 (n0 + 3) (n0 + 4) .ready none)) ∧ (∀ k, k < n0 + 6 → k ≠ n0 + 3 → W'.heap[k]? = W.heap[k]?) ∧ n0 + 10 ≤ W'.heap.size ∧ Below n0 W W' := by
  refine callsIn_of_wp_marks Try.func24 rfl h24 ?_ hro
  simp only [Try.ntmps24, List.size_toArray, List.length_cons, List.length_nil, Nat.reduceAdd, Nat.reduceSub, Array.replicate_succ, Array.replicate_zero, List.push_toArray, List.append_toArray, List.nil_append, List.cons_append]
  obtain ⟨hcF, hfF⟩ := box_cell hF
  have A1 := Aside.mk0 hn0
  have A2 := Aside.mk0 hseed
  have A3 := Aside.mk0 hS
  have A4 := Aside.mk0 hB
  have A5 := Aside.mk0 hL1
  have hlt : n0 + 2 < W.heap.size := by omega
  clear hn0 hseed hS hB hL1
  gi_wp2
  rw [A1.out]
  refine wpIn_rangeFunc ?_
  intro fn hfn
  rw [hro]
  obtain ⟨sv2, hsv2⟩ : ∃ sv2, sv2 = Value.func (Fn.func g) #[] #[Value.pointer (some ⟨n0, 0, none⟩)] := ⟨_, rfl⟩
  obtain ⟨W0, hW0⟩ : ∃ W0, (W.alloc (Obj.cells #[Value.func (Fn.yield (n0 + 5)) #[] #[]] 36)).alloc (Obj.cells #[Value.int IntKind.i64 0] 3) = W0 := ⟨_, rfl⟩
  have hs0 : W0.heap.size = n0 + 8 := by rw [← hW0]; simp [A1.out]
  have hY0 : W0.heap[n0 + 6]? = some (.cells #[.func (.yield (n0 + 5)) #[] #[]] 36 (0, 0)) := by
    rw [← hW0, ← A1.out]; exact (Below.heap_alloc _ _ _ (by simp)).trans (World.alloc_heap_new W _)
  have hM0 : W0.heap[n0 + 7]? = some (.cells #[.int .i64 0] 3 (0, 0)) := by
    rw [← hW0]; have := World.alloc_heap_new (W.alloc (Obj.cells #[Value.func (Fn.yield (n0 + 5)) #[] #[]] 36)) (Obj.cells #[Value.int IntKind.i64 0] 3); rwa [World.size_alloc, A1.out] at this
  have hold0 : ∀ k, k < n0 + 6 → W0.heap[k]? = W.heap[k]? := fun k hk => by
    rw [← hW0]; exact (Below.heap_alloc _ _ k (by simp [A1.out]; omega)).trans (Below.heap_alloc _ _ k (by rw [A1.out]; omega))
  rw [hW0]
  obtain ⟨W1, hW1⟩ : ∃ W1, (W0.alloc (.deferred (some []))).alloc (.loop (fiRec n0 fn sv2 .ready none)) = W1 := ⟨_, rfl⟩
  have hold : ∀ k, k < n0 + 8 → W1.heap[k]? = W0.heap[k]? := fun k hk => by
    rw [← hW1]; exact (Below.heap_alloc _ _ k (by simp [hs0]; omega)).trans (Below.heap_alloc _ _ k (by omega))
  have hs1 : W1.heap.size = n0 + 10 := by rw [← hW1]; simp [hs0]
  have B1 : Aside (Below n0 W W1) := by
    rw [← hW1, ← hW0]
    exact ((((Below.refl n0 W).alloc (by rw [A1.out]; omega) _).alloc (by simp [A1.out]; omega) _).alloc (by simp [A1.out]; omega) _).alloc (by simp [A1.out]; omega) _
  have hD1 : W1.heap[n0 + 8]? = some (.deferred (some [])) := by rw [← hW1, ← hs0]; exact (Below.heap_alloc _ _ _ (by simp)).trans (World.alloc_heap_new W0 _)
  have hL21 : W1.heap[n0 + 9]? = some (.loop (fiRec n0 fn sv2 .ready none)) := by
    rw [← hW1]; have := World.alloc_heap_new (W0.alloc (.deferred (some []))) (.loop (fiRec n0 fn sv2 .ready none)); rwa [World.size_alloc, hs0] at this
  have hat : At n0 steps sv1 sv2 fn1 fn [] .ready none W1 :=
    ⟨(hold _ (by omega)).trans ((hold0 _ (by omega)).trans A3.out), ⟨_, (hold _ (by omega)).trans ((hold0 _ (by omega)).trans A4.out), ⟨rfl, .inl ⟨rfl, rfl⟩⟩⟩, (hold _ (by omega)).trans ((hold0 _ (by omega)).trans A5.out), (hold _ (by omega)).trans hY0, (hold _ (by omega)).trans hM0, hL21, by omega⟩
  have hse1 : W1.heap[n0]? = some (.cells #[seed] ts (0, 0)) := (hold _ (by omega)).trans ((hold0 _ (by omega)).trans A2.out)
  refine ⟨n0 + 9, [{ target := .collected (n0 + 8), args := #[] }], W1, { target := .fn (.func g) #[.pointer (some ⟨n0, 0, none⟩)], args := #[.func (.yield (n0 + 9)) #[] #[]] }, W1, g,
    #[.func (.yield (n0 + 9)) #[] #[], .pointer (some ⟨n0, 0, none⟩)], W1, ?_, ?_, ?_, ?_, (fun h => absurd h (by rw [hd]; simp)), ?_⟩
  · have := run_enterLoop_outer (P := Try.prog) (w := W0) fn (fiRec n0 fn sv2 .ready none).tmps #[7] fiAssign fiBody
    rw [hs0] at this
    rw [← hW1, hsv2]
    rw [hsv2] at this
    exact this
  · simp [resolve, go_sem]
  · intro f' hf'; simp [Target.leads] at hf'; subst hf'; exact hFg
  · simp [invoke, go_sem, eg]
  · refine (hsrc (m - 1) fn sv2 W1 hfn hat hse1).mono ?_
    rintro e W2 ⟨⟨v0, rfl⟩, hat2, hsame⟩
    obtain ⟨_, ⟨v, hv, hrow⟩, hL12, _, _, hL22, hK2⟩ := hat2
    have hend := run_endLoop (P := Try.prog) hL22 (by simp [fiRec])
    obtain ⟨W3, hW3⟩ : ∃ W3, W2.putObj (n0 + 9) (.loop { fiRec n0 fn sv2 .done (some .ret) with state := .exhausted }) = W3 := ⟨_, rfl⟩
    rw [hW3] at hend
    have hg3 : W2.grownBy W3 (some (n0 + 9)) := by rw [← hW3]; exact grownBy_put _ _ _
    have hs3 : W3.heap.size = W2.heap.size := by rw [← hW3]; simp
    have hf3 : ∀ k, k < n0 + 10 → k ≠ n0 + 9 → W3.heap[k]? = W2.heap[k]? := fun k hk hne => hg3.block k (by omega) (fun e => hne (by cases e; rfl))
    have hD3 : W3.heap[n0 + 8]? = some (.deferred (some [])) := (hf3 _ (by omega) (by omega)).trans ((hsame.f _ (by omega) (by omega) (by omega) (by omega)).trans hD1)
    have hrow3 := hrow.kept hg3 (row_ne' hrow (by omega))
    clear hW3
    refine ⟨some .ret, W3, hend, ?_⟩
    gi_wp2
    refine ⟨by simp, .inl ⟨_, _, rfl, run_takeDeferred hD3, ?_⟩⟩
    refine ⟨_, results_none rfl _ _ _, ⟨_, rfl⟩, ⟨v, (World.putObj_heap_other (by omega)).trans ((hf3 _ (by omega) (by omega)).trans hv), hrow3.kept (grownBy_put _ _ _) (row_ne' hrow3 (by omega))⟩, (World.putObj_heap_other (by omega)).trans ((hf3 _ (by omega) (by omega)).trans hL12), fun k hk h3 => ?_, by simp; omega, ?_⟩
    rotate_left
    · exact (((B1.out.trans hsame.b).grown hg3 (by omega) (fun k e => by cases e; omega))).grown (grownBy_put _ _ _) (by omega) (fun k e => by cases e; omega)
    exact (World.putObj_heap_other (by omega)).trans ((hf3 _ (by omega) (by omega)).trans ((hsame.f k (by omega) h3 (by omega) (by omega)).trans ((hold k (by omega)).trans (hold0 k hk))))
/-- What is asked of a source: handed first's yield, it gives just L and is stopped. -/
def Src (F : Fence) (g : Nat) (n0 : Nat) (steps : Int) (seed : Value) (ts : TypeId) (L : List Int) : Prop :=
  ∀ (m : Nat) (fn1 fn2 : FuncId) (sv1 sv2 : Value) (W2 : World), F.fn fn1 → F.fn fn2 → At n0 steps sv1 sv2 fn1 fn2 [] .ready none W2 → W2.heap[n0]? = some (.cells #[seed] ts (0, 0)) →
      CallsIn F m Try.prog g #[.func (.yield (n0 + 9)) #[] #[], .pointer (some ⟨n0, 0, none⟩)] W2 fun e W' => (∃ v, e = .returned v) ∧ At n0 steps sv1 sv2 fn1 fn2 L .done (some .ret) W' ∧ Same n0 W2 W'
set_option maxRecDepth 100000 in
set_option maxHeartbeats 2000000 in
theorem apSeq (F : Fence) (hd : F.depth = none) (hro : F.round = none) (h23 : F.fn 23) (h24 : F.fn 24) (g : Nat) (hFg : F.fn g) (eg : ∀ g', g' = 24 ∨ g' = g → ∀ args w, (callFunc g' args).run Try.prog w = .ok (.enter g' args) w) (m : Nat) (n0 : Nat) (steps : Int) (seed : Value) (ts : TypeId) (L : List Int) (W : World) (hn0 : W.heap.size = n0 + 3)
    (hseed : W.heap[n0]? = some (.cells #[seed] ts (0, 0))) (hS : W.heap[n0 + 1]? = some (.cells #[.int .i64 steps] 3 (0, 0))) (hF : W.heap[n0 + 2]? = some (.cells #[.func (.func g) #[] #[.pointer (some ⟨n0, 0, none⟩)]] 39 (0, 0)))
    (hsrc : Src F g n0 steps seed ts L) :
    CallsIn F m Try.prog 23 #[.slice none 0 0, .func (.func 24) #[] #[.pointer (some ⟨n0 + 2, 0, none⟩), .pointer (some ⟨n0 + 1, 0, none⟩)]] W fun e W' => ∃ v, e = .returned v ∧ W'.ownsRow (n0 + 10) 3 1 v L.length (L.map (Value.int .i64)) ∧ Below n0 W W' := by
  refine callsIn_of_wp_marks Try.func23 rfl h23 ?_ hro
  simp only [Try.ntmps23, List.size_toArray, List.length_cons, List.length_nil, Nat.reduceAdd, Nat.reduceSub, Array.replicate_succ, Array.replicate_zero, List.push_toArray, List.append_toArray, List.nil_append, List.cons_append]
  have A1 := Aside.mk0 hn0
  have A2 := Aside.mk0 hseed
  have A3 := Aside.mk0 hS
  have A4 := Aside.mk0 hF
  clear hn0 hseed hS hF
  gi_wp2
  rw [A1.out]
  refine wpIn_rangeFunc ?_
  intro fn hfn
  rw [hro]
  obtain ⟨sv1, hsv1⟩ : ∃ sv1, sv1 = Value.func (Fn.func 24) #[] #[Value.pointer (some ⟨n0 + 2, 0, none⟩), Value.pointer (some ⟨n0 + 1, 0, none⟩)] := ⟨_, rfl⟩
  obtain ⟨W0, hW0⟩ : ∃ W0, W.alloc (.cells #[.slice none 0 0] 22) = W0 := ⟨_, rfl⟩
  have hs0 : W0.heap.size = n0 + 4 := by rw [← hW0]; simp [A1.out]
  have hv0 : W0.heap[n0 + 3]? = some (.cells #[.slice none 0 0] 22 (0, 0)) := by rw [← hW0, ← A1.out]; exact World.alloc_heap_new W _
  have hold0 : ∀ k, k < n0 + 3 → W0.heap[k]? = W.heap[k]? := fun k hk => by rw [← hW0]; exact Below.heap_alloc _ _ k (by rw [A1.out]; omega)
  rw [hW0]
  obtain ⟨W1, hW1⟩ : ∃ W1, (W0.alloc (.deferred (some []))).alloc (.loop (apRec fn sv1 (n0 + 3) (n0 + 4) .ready none)) = W1 := ⟨_, rfl⟩
  have hold : ∀ k, k < n0 + 4 → W1.heap[k]? = W0.heap[k]? := fun k hk => by
    rw [← hW1]; exact (Below.heap_alloc _ _ k (by simp [hs0]; omega)).trans (Below.heap_alloc _ _ k (by omega))
  have hs1 : W1.heap.size = n0 + 6 := by rw [← hW1]; simp [hs0]
  have B1 : Aside (Below n0 W W1) := by
    rw [← hW1, ← hW0]
    exact (((Below.refl n0 W).alloc (by rw [A1.out]; omega) _).alloc (by simp [A1.out]; omega) _).alloc (by simp [A1.out]; omega) _
  have hD1 : W1.heap[n0 + 4]? = some (.deferred (some [])) := by rw [← hW1, ← hs0]; exact (Below.heap_alloc _ _ _ (by simp)).trans (World.alloc_heap_new W0 _)
  have hL11 : W1.heap[n0 + 5]? = some (.loop (apRec fn sv1 (n0 + 3) (n0 + 4) .ready none)) := by
    rw [← hW1]; have := World.alloc_heap_new (W0.alloc (.deferred (some []))) (.loop (apRec fn sv1 (n0 + 3) (n0 + 4) .ready none)); rwa [World.size_alloc, hs0] at this
  refine ⟨n0 + 5, [{ target := .collected (n0 + 4), args := #[] }], W1, { target := .fn (.func 24) #[.pointer (some ⟨n0 + 2, 0, none⟩), .pointer (some ⟨n0 + 1, 0, none⟩)], args := #[.func (.yield (n0 + 5)) #[] #[]] }, W1, 24,
    #[.func (.yield (n0 + 5)) #[] #[], .pointer (some ⟨n0 + 2, 0, none⟩), .pointer (some ⟨n0 + 1, 0, none⟩)], W1, ?_, ?_, ?_, ?_, (fun h => absurd h (by rw [hd]; simp)), ?_⟩
  · have := run_enterLoop_outer (P := Try.prog) (w := W0) fn (apRec fn sv1 (n0 + 3) (n0 + 4) .ready none).tmps #[7] apAssign apBody
    rw [hs0] at this
    rw [← hW1, hsv1]
    rw [hsv1] at this
    exact this
  · simp [resolve, go_sem]
  · intro f' hf'; simp [Target.leads] at hf'; subst hf'; exact h24
  · simp [invoke, go_sem, eg 24 (.inl rfl)]
  · refine (first1 F hd hro h24 g hFg (eg g (.inr rfl)) (m - 1) n0 steps fn sv1 seed ts L W1 hs1 ((hold _ (by omega)).trans ((hold0 _ (by omega)).trans A2.out)) ((hold _ (by omega)).trans ((hold0 _ (by omega)).trans A3.out)) ((hold _ (by omega)).trans ((hold0 _ (by omega)).trans A4.out)) ((hold _ (by omega)).trans hv0) hL11
      (fun m fn2 sv2 W2 h2 hat hse => hsrc m fn fn2 sv1 sv2 W2 hfn h2 hat hse)).mono ?_
    rintro e W2 ⟨⟨v0, rfl⟩, ⟨v, hv, hrow⟩, hL12, hf2, hK2, hB2⟩
    have hend := run_endLoop (P := Try.prog) hL12 (by simp [apRec])
    obtain ⟨W3, hW3⟩ : ∃ W3, W2.putObj (n0 + 5) (.loop { apRec fn sv1 (n0 + 3) (n0 + 4) .ready none with state := .exhausted }) = W3 := ⟨_, rfl⟩
    rw [hW3] at hend
    have hg3 : W2.grownBy W3 (some (n0 + 5)) := by rw [← hW3]; exact grownBy_put _ _ _
    have hf3 : ∀ k, k < n0 + 10 → k ≠ n0 + 5 → W3.heap[k]? = W2.heap[k]? := fun k hk hne => hg3.block k (by omega) (fun e => hne (by cases e; rfl))
    have hv3 := (hf3 (n0 + 3) (by omega) (by omega)).trans hv
    have hD3 : W3.heap[n0 + 4]? = some (.deferred (some [])) := (hf3 _ (by omega) (by omega)).trans ((hf2 _ (by omega) (by omega)).trans hD1)
    have hrow3 := hrow.kept hg3 (row_ne' hrow (by omega))
    have B3 := Aside.mk0 ((B1.out.trans hB2).grown hg3 (by omega) (fun k e => by cases e; omega))
    have hs3 : n0 + 10 ≤ W3.heap.size := Nat.le_trans hK2 hg3.size
    obtain ⟨hc3, hfz3⟩ := box_cell hv3
    clear hW3
    refine ⟨none, W3, hend, ?_⟩
    gi_wp2
    refine ⟨by simp, .inl ⟨_, _, rfl, run_takeDeferred hD3, ?_⟩⟩
    exact ⟨_, results_tmp rfl _ _ _, v, rfl, hrow3.kept (grownBy_put _ _ _) (row_ne' hrow3 (by omega)), B3.out.grown (grownBy_put _ _ _) (by omega) (fun k e => by cases e; omega)⟩
set_option maxHeartbeats 1000000 in
theorem collectL (F : Fence) (hd : F.depth = none) (hro : F.round = none) (h21 : F.fn 21) (h23 : F.fn 23) (h24 : F.fn 24) (g : Nat) (hFg : F.fn g) (eg : ∀ g', g' = 24 ∨ g' = g → ∀ args w, (callFunc g' args).run Try.prog w = .ok (.enter g' args) w) (m : Nat) (n0 : Nat) (steps : Int) (seed : Value) (ts : TypeId) (L : List Int) (W : World) (hn0 : W.heap.size = n0 + 3)
    (hseed : W.heap[n0]? = some (.cells #[seed] ts (0, 0))) (hS : W.heap[n0 + 1]? = some (.cells #[.int .i64 steps] 3 (0, 0))) (hF : W.heap[n0 + 2]? = some (.cells #[.func (.func g) #[] #[.pointer (some ⟨n0, 0, none⟩)]] 39 (0, 0)))
    (hsrc : Src F g n0 steps seed ts L) :
    CallsIn F m Try.prog 21 #[.func (.func 24) #[] #[.pointer (some ⟨n0 + 2, 0, none⟩), .pointer (some ⟨n0 + 1, 0, none⟩)]] W fun e W' => ∃ v, e = .returned v ∧ W'.ownsRow (n0 + 10) 3 1 v L.length (L.map (Value.int .i64)) ∧ Below n0 W W' := by
  refine callsIn_of_wp Try.func21 rfl h21 ?_ hro
  simp only [Try.ntmps21, List.size_toArray, List.length_cons, List.length_nil, Nat.reduceAdd, Nat.reduceSub, Array.replicate_succ, Array.replicate_zero, List.push_toArray, List.append_toArray, List.nil_append, List.cons_append]
  have A := Aside.mk0 (apSeq F hd hro h23 h24 g hFg eg (m - 1) n0 steps seed ts L W hn0 hseed hS hF hsrc)
  clear hn0 hseed hS hF
  gi_wp2_with (gi_at_call 23; refine A.out.mono ?_; rintro e w' ⟨v, rfl, hrow, hb⟩)
  go_ret
  exact ⟨v, rfl, hrow, hb⟩
set_option maxHeartbeats 1000000 in
theorem firstIn (F : Fence) (hro : F.round = none) (h22 : F.fn 22) (m : Nat) (steps : Int) (sv : Value) (hsv : ∃ g lb, sv = .func (.func g) #[] lb) (W : World) :
    CallsIn F m Try.prog 22 #[.int .i64 steps, sv] W fun e W' => e = .returned (.func (.func 24) #[] #[.pointer (some ⟨W.heap.size + 1, 0, none⟩), .pointer (some ⟨W.heap.size, 0, none⟩)]) ∧ W' = (W.alloc (.cells #[.int .i64 steps] 3)).alloc (.cells #[sv] 39) := by
  obtain ⟨g, lb, rfl⟩ := hsv
  refine callsIn_of_wp Try.func22 rfl h22 ?_ hro
  simp only [Try.ntmps22, List.size_toArray, List.length_cons, List.length_nil, Nat.reduceAdd, Nat.reduceSub, Array.replicate_succ, Array.replicate_zero, List.push_toArray, List.append_toArray, List.nil_append, List.cons_append]
  gi_wp2
  go_ret
  exact ⟨rfl, rfl⟩
set_option maxHeartbeats 1000000 in
theorem collectedBad (F : Fence) (hro : F.round = none) (h18 : F.fn 18) (m : Nat) (steps : Int) (sv : Value) (W : World) (hst : steps < 1 ∨ steps > 1048576) :
    CallsIn F m Try.prog 18 #[.int .i64 steps, sv] W fun e W' => e = .returned (.slice none 0 0) ∧ W' = W := by
  refine callsIn_of_wp Try.func18 rfl h18 ?_ hro
  simp only [Try.ntmps18, List.size_toArray, List.length_cons, List.length_nil, Nat.reduceAdd, Nat.reduceSub, Array.replicate_succ, Array.replicate_zero, List.push_toArray, List.append_toArray, List.nil_append, List.cons_append]
  by_cases c : steps < 1
  · gi_wp2
    go_ret
    exact ⟨rfl, rfl⟩
  · have c2 : steps > 1048576 := by omega
    clear hst
    gi_wp2
    go_ret
    exact ⟨rfl, rfl⟩
set_option maxHeartbeats 1000000 in
theorem collectedGood (F : Fence) (hd : F.depth = none) (hro : F.round = none) (hall : ∀ f, F.fn f) (g : Nat) (eg : ∀ g', g' = 24 ∨ g' = g → ∀ args w, (callFunc g' args).run Try.prog w = .ok (.enter g' args) w) (m : Nat) (n0 : Nat) (steps : Int) (seed : Value) (ts : TypeId) (L : List Int) (W : World) (hn0 : W.heap.size = n0 + 1)
    (hseed : W.heap[n0]? = some (.cells #[seed] ts (0, 0))) (hst : 1 ≤ steps ∧ steps ≤ 1048576) (hsrc : Src F g n0 steps seed ts L) :
    CallsIn F m Try.prog 18 #[.int .i64 steps, .func (.func g) #[] #[.pointer (some ⟨n0, 0, none⟩)]] W fun e W' => ∃ v, e = .returned v ∧ W'.ownsRow (n0 + 10) 3 1 v L.length (L.map (Value.int .i64)) ∧ Below n0 W W' := by
  refine callsIn_of_wp Try.func18 rfl (hall _) ?_ hro
  simp only [Try.ntmps18, List.size_toArray, List.length_cons, List.length_nil, Nat.reduceAdd, Nat.reduceSub, Array.replicate_succ, Array.replicate_zero, List.push_toArray, List.append_toArray, List.nil_append, List.cons_append]
  have c1 : ¬ steps < 1 := by omega
  have c2 : ¬ steps > 1048576 := by omega
  have hF := Aside.mk0 (firstIn F hro (hall _) (m - 1) steps (.func (.func g) #[] #[.pointer (some ⟨n0, 0, none⟩)]) ⟨_, _, rfl⟩ W)
  obtain ⟨W2, hW2⟩ : ∃ W2, (W.alloc (.cells #[.int .i64 steps] 3)).alloc (.cells #[.func (.func g) #[] #[.pointer (some ⟨n0, 0, none⟩)]] 39) = W2 := ⟨_, rfl⟩
  have hs2 : W2.heap.size = n0 + 3 := by rw [← hW2]; simp [hn0]
  have h0 : W2.heap[n0]? = some (.cells #[seed] ts (0, 0)) := by rw [← hW2]; exact ((Below.heap_alloc _ _ _ (by simp; omega)).trans (Below.heap_alloc _ _ _ (by omega))).trans hseed
  have h1 : W2.heap[n0 + 1]? = some (.cells #[.int .i64 steps] 3 (0, 0)) := by rw [← hW2, ← hn0]; exact (Below.heap_alloc _ _ _ (by simp)).trans (World.alloc_heap_new W _)
  have h2 : W2.heap[n0 + 2]? = some (.cells #[.func (.func g) #[] #[.pointer (some ⟨n0, 0, none⟩)]] 39 (0, 0)) := by
    rw [← hW2]; have := World.alloc_heap_new (W.alloc (.cells #[.int .i64 steps] 3)) (.cells #[.func (.func g) #[] #[.pointer (some ⟨n0, 0, none⟩)]] 39); rwa [World.size_alloc, hn0] at this
  have hb : Below n0 W W2 := by rw [← hW2]; exact ((Below.refl n0 W).alloc (by omega) _).alloc (by simp; omega) _
  rw [hW2, hn0] at hF
  have hC := Aside.mk0 (collectL F hd hro (hall _) (hall _) (hall _) g (hall _) eg (m - 1) n0 steps seed ts L W2 hs2 h0 h1 h2 hsrc)
  have hB := Aside.mk0 hb
  clear hn0 hseed hsrc hs2 h0 h1 h2 hW2 hb hst
  gi_wp2_with (first | (gi_at_call 22; refine hF.out.mono ?_; rintro e w' ⟨rfl, rfl⟩) | (gi_at_call 21; refine hC.out.mono ?_; rintro e w' ⟨v, rfl, hrow, hb⟩))
  go_ret
  exact ⟨v, rfl, hrow, hB.out.trans hb⟩
theorem eg24 : ∀ args w, (callFunc 24 args).run Try.prog w = .ok (.enter 24 args) w := enters_of Try.func24 (by kernel_rfl) rfl
theorem eg20 : ∀ g', g' = 24 ∨ g' = 20 → ∀ args w, (callFunc g' args).run Try.prog w = .ok (.enter g' args) w := by
  rintro g' (rfl | rfl)
  · exact eg24
  · exact enters_of Try.func20 (by kernel_rfl) rfl
theorem eg19 : ∀ g', g' = 24 ∨ g' = 19 → ∀ args w, (callFunc g' args).run Try.prog w = .ok (.enter g' args) w := by
  rintro g' (rfl | rfl)
  · exact eg24
  · exact enters_of Try.func19 (by kernel_rfl) rfl
end
def sched_Round.f (a0 a1 : Int) : Option (List Int) := if a0 < 1 then some [] else if a1 < 1 then some [] else if a1 > 1048576 then some [] else if a0 ≤ 9223372036854775807 then some (rouL a0 a1.toNat) else none
section
open Go Go.Shelf
attribute [local go_sem] Oper.semAt_some
set_option maxHeartbeats 1000000 in
theorem rouIn (a0 a1 : Int) (r : List Int) (w : World) (h : sched_Round.f a0 a1 = some r) : CallsIn Fence.wide 9 Try.prog 14 #[.int .i64 a0, .int .i64 a1] w fun e w' => ∃ v, e = .returned v ∧ w'.ownsRow w.heap.size 3 1 v r.length (r.map (Value.int .i64)) ∧ Below w.heap.size w w' := by
  have hd : Fence.wide.depth = none := rfl
  by_cases c0 : a0 < 1
  · unfold sched_Round.f at h
    rw [if_pos c0] at h
    obtain rfl := Option.some.inj h
    refine callsIn_of_wp Try.func14 rfl trivial ?_ rfl
    simp only [Try.ntmps14, List.size_toArray, List.length_cons, List.length_nil, Nat.reduceAdd, Nat.reduceSub, Array.replicate_succ, Array.replicate_zero, List.push_toArray, List.append_toArray, List.nil_append, List.cons_append]
    gi_wp2
    go_ret
    exact ⟨_, rfl, ⟨rfl, .inl ⟨rfl, rfl⟩⟩, (Below.refl _ w).alloc (Nat.le_refl _) _⟩
  obtain ⟨W, hW⟩ : ∃ W, w.alloc (.cells #[.int .i64 a0] 3) = W := ⟨_, rfl⟩
  have hs : W.heap.size = w.heap.size + 1 := by rw [← hW]; simp
  have h0 : W.heap[w.heap.size]? = some (.cells #[.int .i64 a0] 3 (0, 0)) := by rw [← hW]; exact World.alloc_heap_new w _
  have hb : Below w.heap.size w W := by rw [← hW]; exact (Below.refl _ w).alloc (Nat.le_refl _) _
  have hC : Aside (CallsIn Fence.wide 8 Try.prog 18 #[.int .i64 a1, .func (.func 19) #[] #[.pointer (some ⟨w.heap.size, 0, none⟩)]] W fun e W' => ∃ v, e = .returned v ∧ W'.ownsRow w.heap.size 3 1 v r.length (r.map (Value.int .i64)) ∧ Below w.heap.size W W') := by
    unfold sched_Round.f at h
    rw [if_neg c0] at h
    by_cases c : a1 < 1 ∨ a1 > 1048576
    · have e : r = [] := by
        rcases c with c | c
        · rw [if_pos c] at h; exact (Option.some.inj h).symm
        · rw [if_neg (by omega), if_pos c] at h; exact (Option.some.inj h).symm
      subst e
      refine (collectedBad Fence.wide rfl trivial _ a1 _ W c).mono ?_
      rintro e W' ⟨rfl, rfl⟩
      exact ⟨_, rfl, ⟨rfl, .inl ⟨rfl, rfl⟩⟩, Below.refl _ _⟩
    · rw [if_neg (by omega), if_neg (by omega)] at h
      by_cases cm : a0 ≤ 9223372036854775807
      · rw [if_pos cm] at h
        obtain rfl := Option.some.inj h
        refine (collectedGood Fence.wide rfl rfl (fun _ => trivial) 19 eg19 _ w.heap.size a1 (.int .i64 a0) 3 (rouL a0 a1.toNat) W hs h0 (by omega) (fun m fn1 fn2 sv1 sv2 W2 h1 h2 hat hse => rou1 Fence.wide rfl rfl trivial m _ a1 fn1 fn2 h1 h2 sv1 sv2 a0 W2 hat hse (by omega) (by omega))).mono ?_
        rintro e W' ⟨v, rfl, hr, hb'⟩
        refine ⟨v, rfl, ⟨hr.1, ?_⟩, hb'⟩
        rcases hr.2 with q | ⟨g, cap, cur, q1, q2, q3⟩
        · exact .inl q
        · exact .inr ⟨g, cap, cur, q1, by omega, q3⟩
      · rw [if_neg cm] at h; cases h
  have hB := Aside.mk0 hb
  refine callsIn_of_wp Try.func14 rfl trivial ?_ rfl
  simp only [Try.ntmps14, List.size_toArray, List.length_cons, List.length_nil, Nat.reduceAdd, Nat.reduceSub, Array.replicate_succ, Array.replicate_zero, List.push_toArray, List.append_toArray, List.nil_append, List.cons_append]
  rw [← hW] at hC hB
  clear hs h0 hb hW h
  gi_wp2
  refine ⟨trivial, hC.out.mono ?_⟩
  rintro e w' ⟨v, rfl, hrow, hb⟩
  gi_wp2
  go_ret
  exact ⟨v, rfl, hrow, hB.out.trans hb⟩
end
theorem sched_Round.calls (a0 : Int) (a1 : Int) (r : List Int) (w : World) (h : sched_Round.f a0 a1 = some r) :
    Calls Try.prog 14 #[.int .i64 a0, .int .i64 a1] w fun e w' => ∃ v0_ : Value, e = .returned (v0_) ∧ Kd.R (Kd.int .i64) 3 w' w.heap.size (fun _ => True) v0_ r ∧ Below w.heap.size w w' :=
  (callsIn_wide.1 (rouIn a0 a1 r w h)).mono fun e w' ⟨v, he, hr, hb⟩ => ⟨v, he, Kd.R_of_own (h1 := fun _ => rfl) (ok := fun _ => True) hr (fun _ _ => trivial), hb⟩

end Go.Proofs.Ytgfaakecfkfcaaa.QSchedMixed
