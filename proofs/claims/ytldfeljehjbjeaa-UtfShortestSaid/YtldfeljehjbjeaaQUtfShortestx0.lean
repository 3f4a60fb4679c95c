-- by a program of this session (print2.py): the machine's side of one law; Lean checks it.
import Derived.Test.YtldfeljehjbjeaaProg
import Derived.Below
import Derived.Deep.Draws
import Derived.Deep.AppendLies
import Derived.Maps.AppendAt
import Derived.OwnWalk
import Derived.Laws.BytesArg
import Derived.Laws.MakeOwn
import Derived.Laws.OwnMore
import Derived.Deep.OwnRows
import Derived.Tactics
import Derived.Lib.ConvBytes
import Derived.Laws.Slices
import Derived.WalkKit
import Derived.KernelRfl
import Derived.RowKit3
import Derived.Deep.LoopGhost
import Derived.Deep.QuietTactic
import Derived.BigQuiet
import Derived.WideLaws
import Derived.Deep.DeepCutAuto
import Derived.Deep.CutBlock
import Derived.Deep.RegionHeld3
import Derived.Laws.Rows
import Derived.Lib.AppendStr
import Derived.ArgAppend
import Derived.Laws.IdiomCopy
import Derived.OrdersHeld
import Derived.Laws.BitsLemmas
import Derived.RowKit
import Derived.Test.YtldfeljehjbjeaaWWords
import Derived.Test.YtldfeljehjbjeaaWLast
import Derived.Test.YtldfeljehjbjeaaWTab
import Derived.Test.YtldfeljehjbjeaaWFour
import Derived.Test.YtldfeljehjbjeaaWQPut
import Derived.Test.YtldfeljehjbjeaaWApart
import Derived.Test.YtldfeljehjbjeaaWArr
import Derived.Test.YtldfeljehjbjeaaWZeros
import Derived.Test.YtldfeljehjbjeaaWFoot
import Derived.Test.YtldfeljehjbjeaaWKept
import Derived.Test.YtldfeljehjbjeaaWShare
import Derived.Test.YtldfeljehjbjeaaWN
import Derived.Test.YtldfeljehjbjeaaWFootNe
import Derived.Test.YtldfeljehjbjeaaWAt
import Derived.Test.YtldfeljehjbjeaaWEqStruct
import Derived.Test.YtldfeljehjbjeaaWRepsOne
import Derived.Test.YtldfeljehjbjeaaWInv
import Derived.Test.YtldfeljehjbjeaaWInvWords
import Derived.Test.YtldfeljehjbjeaaWGuard
import Derived.Test.YtldfeljehjbjeaaWNEv
import Derived.Test.YtldfeljehjbjeaaWMore
namespace Go.Proofs.Ytldfeljehjbjeaa.QUtfShortest
open Go.RowKit Go.Proofs.YtldfeljehjbjeaaW.PrintWords Go.Proofs.YtldfeljehjbjeaaW.PrintLast Go.Proofs.YtldfeljehjbjeaaW.PrintMore
attribute [local go_sem] max2_int min2_int max_two min_two max_three min_three max_four min_four   -- for this text's walks alone
set_option linter.unusedVariables false
set_option linter.unusedSimpArgs false



def errW : Option Int → Value
  | none => .nilIface
  | some c => .iface 0 (.int .i64 c)
theorem errW_none : errW none = .nilIface := rfl
theorem errW_some (c : Int) : errW (some c) = .iface 0 (.int .i64 c) := rfl

section
variable {P : Program} {ops : Array Oper} {rest : List Oper} {o : Oper} {a : Act} {Q : Exit → Act → World → Prop}
/-- '[]byte(s)': a new row that is only read here. -/
theorem V_conv {w0 W : World} (base e : Nat) (hgd : o.guard = none) {N : Tmp} (_hd : o.dst = some N) (src dst : TypeId) (x : Operand) (ho : o.op = .convert src dst x) (s : ByteArray) (hx : a.eval x = .string s)
    (hs : P.underlying src = some .string) (hdd : P.underlying dst = some (.slice e)) (he : P.underlying e = some (.int .u8)) (hbig : s.size ≤ 9223372036854775807) (HB : Below base w0 W) (hbase : base ≤ W.heap.size)
    (h : ∀ v1 w1, Kd.V (Kd.int .u8) e w1 base (fun k => W.heap.size ≤ k) v1 (bytesOf s) → Below base w0 w1 → W.grownBy w1 none → (∃ b, v1.ownBlock = some b ∧ W.heap.size ≤ b) → wpList P ops Q rest (a.put o.dst v1) w1) : wpList P ops Q (o :: rest) a W := by
  have hr := Lib.run_convert_string_bytes (P := P) W src dst e s hs hdd he
  have hold : ∀ k, k < W.heap.size → (Lib.bytesWorld W e s).heap[k]? = W.heap[k]? := fun k hk => Lib.bytesWorld_at_old W e s k hk
  have hsz := Lib.bytesWorld_size W e s
  have hlen := bytesOf_length s
  have hB : Below W.heap.size W (Lib.bytesWorld W e s) := by
    refine ⟨?_, ?_, ?_, by omega, hold⟩ <;> simp [Lib.bytesWorld, World.freeze, World.alloc, World.drew, -World.alloc_eq, -World.drew_eq]
  refine Kd.event_run hgd (v := .slice (some ⟨W.heap.size, 0, none⟩) s.size (grownCap W s.size 0 e)) (w1 := Lib.bytesWorld W e s) (by simp [execOp, ho, hx, hr]) (h _ _ ?_ (below_then HB hbase hB) (grown_of_below hB none) ⟨W.heap.size, by simp [Value.ownBlock], Nat.le_refl _⟩)
  refine ⟨some ⟨W.heap.size, 0, none⟩, grownCap W s.size 0 e, by rw [hlen], by rw [hlen]; exact grownCap_ge W s.size 0 e, ?_⟩
  intro W' hW'
  have hblk : W'.heap[W.heap.size]? = (Lib.bytesWorld W e s).heap[W.heap.size]? := hW' W.heap.size (Nat.le_refl _) (by omega)
  refine Kd.C_of_reads (enc := Value.int .u8) (d := (0 : Int)) (h1 := fun _ => rfl) ⟨rfl, by rw [hlen]; exact hbig, fun _ => ⟨_, rfl, fun j hj => ?_⟩⟩
  have hc := Lib.bytesWorld_cell W e s j (by rw [hlen] at hj; exact hj)
  have hadd : (⟨W.heap.size, 0, none⟩ : Addr).add j = ⟨W.heap.size, j, none⟩ := add_plain _ _
  rw [hadd, World.cell?_of_block (w := Lib.bytesWorld W e s) (a := ⟨W.heap.size, j, none⟩) hblk, hc]
  have hj' : j < s.data.toList.length := by rw [data_length]; rw [hlen] at hj; exact hj
  congr 2
  unfold bytesOf
  rw [List.getD_eq_getElem?_getD, List.getD_eq_getElem?_getD, List.getElem?_map, List.getElem?_eq_getElem hj']
  rfl
/-- 'make([]T, 0, c)'. -/
theorem R_makecap {α : Type} (d : Kd α) {w0 W : World} (base e : Nat) (hgd : o.guard = none) {N : Tmp} (_hd : o.dst = some N) (t : TypeId) (x y : Operand) (ho : o.op = .makeSlice t x y) (n : Int) (hx : a.eval x = .int .i64 0) (hy : a.eval y = .int .i64 n)
    (ht : P.underlying t = some (.slice e)) (z : Value) (bytes : Nat) (hinfo : (P.info? e).map (fun i => (i.zero, i.size, i.bytes)) = some (some z, d.sz, bytes)) (hz : z.cells.size = d.sz) (hs0 : 0 < d.sz)
    {ok okp : Nat → Prop} (_hok : ∀ k, okp k → ok k) (hfresh : ok W.heap.size) (h0 : 0 ≤ n) (hl : n * bytes ≤ 281474976710656) (hb0 : 0 < bytes) (HB : Below base w0 W) (hbase : base ≤ W.heap.size)
    (h : ∀ v1 w1, d.R e w1 base ok v1 [] → Below base w0 w1 → W.grownBy w1 none → (∃ b, v1.ownBlock = some b ∧ W.heap.size ≤ b) → wpList P ops Q rest (a.put o.dst v1) w1) : wpList P ops Q (o :: rest) a W := by
  obtain ⟨m, rfl⟩ := Int.eq_ofNat_of_zero_le h0
  obtain ⟨i0, hi, hzz⟩ := Option.map_eq_some_iff.1 hinfo
  simp only [Prod.mk.injEq] at hzz
  obtain ⟨hz0, hz1, hz2⟩ := hzz
  rw [← Int.natCast_mul] at hl
  have h1 : m * bytes ≤ 281474976710656 := by generalize m * bytes = q at hl ⊢; omega
  have hm : m ≤ 281474976710656 := Nat.le_trans (Nat.le_mul_of_pos_right _ hb0) h1
  have hr := run_make (P := P) W t e i0 z ht hi hz0 .i64 .i64 0 (m : Int) (by omega) (by omega)
    (by
      have h3 : ((i0.bytes * m : Nat) : Int) ≤ 281474976710656 := by rw [hz2, Nat.mul_comm]; exact hl
      rwa [Int.natCast_mul] at h3) (by omega)
  simp only [Int.toNat_natCast] at hr
  rw [hz1] at hr
  have hown := World.ownsRow_made (base := base) (e := e) (size := d.sz) W (madeCells z.cells (m * d.sz)) m hbase (by simp only [maxLen]; omega) (size_madeCells _ _)
  refine Kd.event_run hgd (v := .slice (some ⟨W.heap.size, 0, none⟩) 0 m) (w1 := W.alloc (.cells (madeCells z.cells (m * d.sz)) e)) (by simp [execOp, ho, hx, hy, hr])
    (h _ _ ⟨fun k hk => ?_, [], hown, ?_⟩ (HB.alloc hbase _) (World.grownBy_alloc W _ none) ⟨W.heap.size, by simp [Value.ownBlock], Nat.le_refl _⟩)
  · have : W.heap.size = k := by simpa [Value.ownBlock] using hk
    subst this
    exact hfresh
  · exact Reps.none _ _
end

theorem info5 : (Try.prog.info? 5).map (fun i => (i.zero, i.size, i.bytes)) = some (some (.int .u8 0), 1, 1) := by kernel_rfl
-- the values' own types

end Go.Proofs.Ytldfeljehjbjeaa.QUtfShortest
