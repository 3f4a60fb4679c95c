/- The printed base: keep.Strings, keep.Short, UTF-8 of the program and of the reference. -/
import Derived.Test.YtgpjkojnmeaoiaaProg
import Derived.Below
import Derived.Deep.Draws
import Derived.Deep.AppendLies
import Derived.Maps.AppendAt
import Derived.OwnWalk
import Derived.Laws.BytesArg
import Derived.Laws.MakeOwn
import Derived.Laws.OwnMore
import Derived.Deep.OwnRows
import Derived.Tactics
import Derived.Lib.ConvBytes
import Derived.Laws.Slices
import Derived.WalkKit
import Derived.KernelRfl
import Derived.RowKit3
import Derived.Deep.LoopGhost
import Derived.Deep.QuietTactic
import Derived.BigQuiet
import Derived.WideLaws
import Derived.Deep.DeepCutAuto
import Derived.Deep.CutBlock
import Derived.Deep.RegionHeld3
import Derived.Laws.Rows
import Derived.Lib.AppendStr
import Derived.ArgAppend
import Derived.Laws.IdiomCopy
import Derived.OrdersHeld
import Derived.Laws.BitsLemmas
import Derived.RowKit
import Derived.Lib.SlBytesConst
import Derived.WalkMore
import Derived.SliceStrings
import Derived.ChangeKeysEq
import Derived.MapKept
import Derived.Carry
import Derived.Test.YtgpjkojnmeaoiaaKW
import Derived.OpenShut
import Derived.Shelf.Small.Strs
import Derived.Ground.Names2Prog
namespace Go.Proofs.Ytgpjkojnmeaoiaa.QV
open Go.RowKit Go.Proofs.YtgpjkojnmeaoiaaW.PrintWords Go.Proofs.YtgpjkojnmeaoiaaW.PrintLast Go.Proofs.YtgpjkojnmeaoiaaW.PrintMore
attribute [local go_sem] max2_int min2_int max_two min_two max_three min_three max_four min_four   -- for this text's walks alone
set_option linter.unusedVariables false
set_option linter.unusedSimpArgs false



def errW : Option Int → Value
  | none => .nilIface
  | some c => .iface 0 (.int .i64 c)
theorem errW_none : errW none = .nilIface := rfl
theorem errW_some (c : Int) : errW (some c) = .iface 0 (.int .i64 c) := rfl

section
variable {P : Program} {ops : Array Oper} {rest : List Oper} {o : Oper} {a : Act} {Q : Exit → Act → World → Prop}
/-- '[]byte(s)': a new row that is only read here. -/
theorem V_conv {w0 W : World} (base e : Nat) (hgd : o.guard = none) {N : Tmp} (_hd : o.dst = some N) (src dst : TypeId) (x : Operand) (ho : o.op = .convert src dst x) (s : ByteArray) (hx : a.eval x = .string s)
    (hs : P.underlying src = some .string) (hdd : P.underlying dst = some (.slice e)) (he : P.underlying e = some (.int .u8)) (hbig : s.size ≤ 9223372036854775807) (HB : Below base w0 W) (hbase : base ≤ W.heap.size)
    (h : ∀ v1 w1, Kd.V (Kd.int .u8) e w1 base (fun k => W.heap.size ≤ k) v1 (bytesOf s) → Below base w0 w1 → W.grownBy w1 none → (∃ b, v1.ownBlock = some b ∧ W.heap.size ≤ b) → wpList P ops Q rest (a.put o.dst v1) w1) : wpList P ops Q (o :: rest) a W := by
  have hr := Lib.run_convert_string_bytes (P := P) W src dst e s hs hdd he
  have hold : ∀ k, k < W.heap.size → (Lib.bytesWorld W e s).heap[k]? = W.heap[k]? := fun k hk => Lib.bytesWorld_at_old W e s k hk
  have hsz := Lib.bytesWorld_size W e s
  have hlen := bytesOf_length s
  have hB : Below W.heap.size W (Lib.bytesWorld W e s) := by
    refine ⟨?_, ?_, ?_, by omega, hold⟩ <;> simp [Lib.bytesWorld, World.freeze, World.alloc, World.drew, -World.alloc_eq, -World.drew_eq]
  refine Kd.event_run hgd (v := .slice (some ⟨W.heap.size, 0, none⟩) s.size (grownCap W s.size 0 e)) (w1 := Lib.bytesWorld W e s) (by simp [execOp, ho, hx, hr]) (h _ _ ?_ (below_then HB hbase hB) (grown_of_below hB none) ⟨W.heap.size, by simp [Value.ownBlock], Nat.le_refl _⟩)
  refine ⟨some ⟨W.heap.size, 0, none⟩, grownCap W s.size 0 e, by rw [hlen], by rw [hlen]; exact grownCap_ge W s.size 0 e, ?_⟩
  intro W' hW'
  have hblk : W'.heap[W.heap.size]? = (Lib.bytesWorld W e s).heap[W.heap.size]? := hW' W.heap.size (Nat.le_refl _) (by omega)
  refine Kd.C_of_reads (enc := Value.int .u8) (d := (0 : Int)) (h1 := fun _ => rfl) ⟨rfl, by rw [hlen]; exact hbig, fun _ => ⟨_, rfl, fun j hj => ?_⟩⟩
  have hc := Lib.bytesWorld_cell W e s j (by rw [hlen] at hj; exact hj)
  have hadd : (⟨W.heap.size, 0, none⟩ : Addr).add j = ⟨W.heap.size, j, none⟩ := add_plain _ _
  rw [hadd, World.cell?_of_block (w := Lib.bytesWorld W e s) (a := ⟨W.heap.size, j, none⟩) hblk, hc]
  have hj' : j < s.data.toList.length := by rw [data_length]; rw [hlen] at hj; exact hj
  congr 2
  unfold bytesOf
  rw [List.getD_eq_getElem?_getD, List.getD_eq_getElem?_getD, List.getElem?_map, List.getElem?_eq_getElem hj']
  rfl
/-- 'make([]T, 0, c)'. -/
theorem R_makecap {α : Type} (d : Kd α) {w0 W : World} (base e : Nat) (hgd : o.guard = none) {N : Tmp} (_hd : o.dst = some N) (t : TypeId) (x y : Operand) (ho : o.op = .makeSlice t x y) (n : Int) (hx : a.eval x = .int .i64 0) (hy : a.eval y = .int .i64 n)
    (ht : P.underlying t = some (.slice e)) (z : Value) (bytes : Nat) (hinfo : (P.info? e).map (fun i => (i.zero, i.size, i.bytes)) = some (some z, d.sz, bytes)) (hz : z.cells.size = d.sz) (hs0 : 0 < d.sz)
    {ok okp : Nat → Prop} (_hok : ∀ k, okp k → ok k) (hfresh : ok W.heap.size) (h0 : 0 ≤ n) (hl : n * bytes ≤ 281474976710656) (hb0 : 0 < bytes) (HB : Below base w0 W) (hbase : base ≤ W.heap.size)
    (h : ∀ v1 w1, d.R e w1 base ok v1 [] → Below base w0 w1 → W.grownBy w1 none → (∃ b, v1.ownBlock = some b ∧ W.heap.size ≤ b) → wpList P ops Q rest (a.put o.dst v1) w1) : wpList P ops Q (o :: rest) a W := by
  obtain ⟨m, rfl⟩ := Int.eq_ofNat_of_zero_le h0
  obtain ⟨i0, hi, hzz⟩ := Option.map_eq_some_iff.1 hinfo
  simp only [Prod.mk.injEq] at hzz
  obtain ⟨hz0, hz1, hz2⟩ := hzz
  rw [← Int.natCast_mul] at hl
  have h1 : m * bytes ≤ 281474976710656 := by generalize m * bytes = q at hl ⊢; omega
  have hm : m ≤ 281474976710656 := Nat.le_trans (Nat.le_mul_of_pos_right _ hb0) h1
  have hr := run_make (P := P) W t e i0 z ht hi hz0 .i64 .i64 0 (m : Int) (by omega) (by omega)
    (by
      have h3 : ((i0.bytes * m : Nat) : Int) ≤ 281474976710656 := by rw [hz2, Nat.mul_comm]; exact hl
      rwa [Int.natCast_mul] at h3) (by omega)
  simp only [Int.toNat_natCast] at hr
  rw [hz1] at hr
  have hown := World.ownsRow_made (base := base) (e := e) (size := d.sz) W (madeCells z.cells (m * d.sz)) m hbase (by simp only [maxLen]; omega) (size_madeCells _ _)
  refine Kd.event_run hgd (v := .slice (some ⟨W.heap.size, 0, none⟩) 0 m) (w1 := W.alloc (.cells (madeCells z.cells (m * d.sz)) e)) (by simp [execOp, ho, hx, hy, hr])
    (h _ _ ⟨fun k hk => ?_, [], hown, ?_⟩ (HB.alloc hbase _) (World.grownBy_alloc W _ none) ⟨W.heap.size, by simp [Value.ownBlock], Nat.le_refl _⟩)
  · have : W.heap.size = k := by simpa [Value.ownBlock] using hk
    subst this
    exact hfresh
  · exact Reps.none _ _
end
/-- A slice of strings that came in, as its list. -/
theorem strs_row {H : Type} {enc : TypeId × Value → H} {P : Program} {W : World} {base : Nat} {spare : Nat → Bool} {held : Bool} {t e : TypeId} {a : Option Addr} {len cap : Nat} {d : DataW H} {ps : List MemPlace}
    (hu : P.underlying t = some (.slice e)) (he : P.underlying e = some .string) (hc : P.cellsOf e = 1)
    (h : DataW.Trod enc P W base spare held t (.slice a len cap) d ps) : ∃ l : List ByteArray, len = l.length ∧ Kd.C Kd.string W a l.length l ∧ l.length ≤ maxLen ∧ l.length ≤ cap := by
  obtain ⟨fuel, hf⟩ := h
  rcases Go.ChangeShapes.open_strings hu he hc hf with ⟨hcs, _⟩ | ⟨x, n, c, ss, hcs, _, hl, hm, hz, hx, hcell, _⟩
  · simp [Value.cells] at hcs
    obtain ⟨rfl, rfl, rfl⟩ := hcs
    exact ⟨[], rfl, Kd.C_nil _ _, by simp, by simp⟩
  · simp [Value.cells] at hcs
    obtain ⟨rfl, rfl, rfl⟩ := hcs
    have h1 : len ≤ ss.length := by
      rw [hz]
      split
      · exact hl
      · exact Nat.le_refl _
    have h2 : (ss.take len).length = len := by rw [List.length_take]; omega
    refine ⟨ss.take len, h2.symm, ?_, by omega, by omega⟩
    refine Kd.C_of_reads (enc := Value.string) (d := ByteArray.empty) (h1 := fun _ => rfl) ⟨rfl, by rw [h2]; simp only [maxLen] at hm; omega, fun _ => ⟨x, rfl, fun j hj => ?_⟩⟩
    rw [h2] at hj
    rw [hcell j (by omega)]
    congr 2
    rw [List.getD_eq_getElem?_getD, List.getD_eq_getElem?_getD, List.getElem?_take, if_pos hj]
section
variable {P : Program} {d : Nat} {xs ys : Array Value} {a b : Value} {r s : Bool} {w : World} {e c i j : Nat} {is : List Nat}
theorem eqi_last (hj : i * c = j) (ha : (part e xs j).run P w = .ok a w) (hb : (part e ys j).run P w = .ok b w) (he : (Op.equalIn d e a b).run P w = .ok r w) : (Op.eqItems d e c xs ys [i]).run P w = .ok r w := by
  subst hj
  simp only [Op.eqItems, Sem.run_bind, ha, hb, he, Result.andThen_ok]
  cases r <;> simp
theorem eqi_cons (hj : i * c = j) (ha : (part e xs j).run P w = .ok a w) (hb : (part e ys j).run P w = .ok b w) (he : (Op.equalIn d e a b).run P w = .ok r w) (hr : (Op.eqItems d e c xs ys is).run P w = .ok s w) : (Op.eqItems d e c xs ys (i :: is)).run P w = .ok (r && s) w := by
  subst hj
  rw [Op.eqItems]
  simp only [Sem.run_bind, ha, hb, he, Result.andThen_ok]
  cases r
  · simp
  · simpa using hr
end
section
variable {α : Type} {d : Kd α} {e : TypeId} {w : World} {base : Nat} {ok : Nat → Prop} {v : Value} {xs : List α} {g : Nat}
theorem R_fars2 (g : Nat) (h : d.R e w base ok v xs) (hok : ∀ k, ok k → k ≠ g) (u0 u1 : Value) : d.R e ((w.setCell ⟨g, 0, none⟩ u0).setCell ⟨g, 1, none⟩ u1) base ok v xs :=
  Kd.R_far (p := ⟨g, 1, none⟩) (Kd.R_far (p := ⟨g, 0, none⟩) h hok u0) hok u1
theorem R_fars3 (g : Nat) (h : d.R e w base ok v xs) (hok : ∀ k, ok k → k ≠ g) (u0 u1 u2 : Value) : d.R e (((w.setCell ⟨g, 0, none⟩ u0).setCell ⟨g, 1, none⟩ u1).setCell ⟨g, 2, none⟩ u2) base ok v xs :=
  Kd.R_far (p := ⟨g, 2, none⟩) (Kd.R_far (p := ⟨g, 1, none⟩) (Kd.R_far (p := ⟨g, 0, none⟩) h hok u0) hok u1) hok u2
theorem R_fars4 (g : Nat) (h : d.R e w base ok v xs) (hok : ∀ k, ok k → k ≠ g) (u0 u1 u2 u3 : Value) : d.R e ((((w.setCell ⟨g, 0, none⟩ u0).setCell ⟨g, 1, none⟩ u1).setCell ⟨g, 2, none⟩ u2).setCell ⟨g, 3, none⟩ u3) base ok v xs :=
  Kd.R_far (p := ⟨g, 3, none⟩) (Kd.R_far (p := ⟨g, 2, none⟩) (Kd.R_far (p := ⟨g, 1, none⟩) (Kd.R_far (p := ⟨g, 0, none⟩) h hok u0) hok u1) hok u2) hok u3
theorem R_fars5 (g : Nat) (h : d.R e w base ok v xs) (hok : ∀ k, ok k → k ≠ g) (u0 u1 u2 u3 u4 : Value) : d.R e (((((w.setCell ⟨g, 0, none⟩ u0).setCell ⟨g, 1, none⟩ u1).setCell ⟨g, 2, none⟩ u2).setCell ⟨g, 3, none⟩ u3).setCell ⟨g, 4, none⟩ u4) base ok v xs :=
  Kd.R_far (p := ⟨g, 4, none⟩) (Kd.R_far (p := ⟨g, 3, none⟩) (Kd.R_far (p := ⟨g, 2, none⟩) (Kd.R_far (p := ⟨g, 1, none⟩) (Kd.R_far (p := ⟨g, 0, none⟩) h hok u0) hok u1) hok u2) hok u3) hok u4
theorem R_fars6 (g : Nat) (h : d.R e w base ok v xs) (hok : ∀ k, ok k → k ≠ g) (u0 u1 u2 u3 u4 u5 : Value) : d.R e ((((((w.setCell ⟨g, 0, none⟩ u0).setCell ⟨g, 1, none⟩ u1).setCell ⟨g, 2, none⟩ u2).setCell ⟨g, 3, none⟩ u3).setCell ⟨g, 4, none⟩ u4).setCell ⟨g, 5, none⟩ u5) base ok v xs :=
  Kd.R_far (p := ⟨g, 5, none⟩) (Kd.R_far (p := ⟨g, 4, none⟩) (Kd.R_far (p := ⟨g, 3, none⟩) (Kd.R_far (p := ⟨g, 2, none⟩) (Kd.R_far (p := ⟨g, 1, none⟩) (Kd.R_far (p := ⟨g, 0, none⟩) h hok u0) hok u1) hok u2) hok u3) hok u4) hok u5
theorem R_fars7 (g : Nat) (h : d.R e w base ok v xs) (hok : ∀ k, ok k → k ≠ g) (u0 u1 u2 u3 u4 u5 u6 : Value) : d.R e (((((((w.setCell ⟨g, 0, none⟩ u0).setCell ⟨g, 1, none⟩ u1).setCell ⟨g, 2, none⟩ u2).setCell ⟨g, 3, none⟩ u3).setCell ⟨g, 4, none⟩ u4).setCell ⟨g, 5, none⟩ u5).setCell ⟨g, 6, none⟩ u6) base ok v xs :=
  Kd.R_far (p := ⟨g, 6, none⟩) (Kd.R_far (p := ⟨g, 5, none⟩) (Kd.R_far (p := ⟨g, 4, none⟩) (Kd.R_far (p := ⟨g, 3, none⟩) (Kd.R_far (p := ⟨g, 2, none⟩) (Kd.R_far (p := ⟨g, 1, none⟩) (Kd.R_far (p := ⟨g, 0, none⟩) h hok u0) hok u1) hok u2) hok u3) hok u4) hok u5) hok u6
theorem R_fars8 (g : Nat) (h : d.R e w base ok v xs) (hok : ∀ k, ok k → k ≠ g) (u0 u1 u2 u3 u4 u5 u6 u7 : Value) : d.R e ((((((((w.setCell ⟨g, 0, none⟩ u0).setCell ⟨g, 1, none⟩ u1).setCell ⟨g, 2, none⟩ u2).setCell ⟨g, 3, none⟩ u3).setCell ⟨g, 4, none⟩ u4).setCell ⟨g, 5, none⟩ u5).setCell ⟨g, 6, none⟩ u6).setCell ⟨g, 7, none⟩ u7) base ok v xs :=
  Kd.R_far (p := ⟨g, 7, none⟩) (Kd.R_far (p := ⟨g, 6, none⟩) (Kd.R_far (p := ⟨g, 5, none⟩) (Kd.R_far (p := ⟨g, 4, none⟩) (Kd.R_far (p := ⟨g, 3, none⟩) (Kd.R_far (p := ⟨g, 2, none⟩) (Kd.R_far (p := ⟨g, 1, none⟩) (Kd.R_far (p := ⟨g, 0, none⟩) h hok u0) hok u1) hok u2) hok u3) hok u4) hok u5) hok u6) hok u7
end
section
variable {P : Program}
theorem set_last (w : World) (o o' : Obj) : (w.heap.push o).setIfInBounds w.heap.size o' = w.heap.push o' := by
  apply Array.toList_inj.1
  rw [Array.toList_setIfInBounds, Array.toList_push, Array.toList_push, ← Array.length_toList, List.set_append_right _ _ (Nat.le_refl _), Nat.sub_self]
  rfl
theorem last_new (w : World) (o : Obj) : (w.alloc o).heap[w.heap.size]? = some o := by
  show (w.heap.push o)[w.heap.size]? = some o
  simp
theorem map_ins (w : World) (T K E : TypeId) (es : Array MapEntry) (n : Nat) (k : Int) (v : Value) (ht : P.underlying T = some (.map K E)) (hK : P.underlying K = some (.int .u8)) (hkey : Go.MapKept.IsKey (.int .u8) (.int .u8 k)) (hf : Instr.findNow (.int .u8) (.int .u8 k) es.toList 0 = some none) :
    (Instr.mapUpdate T (.map (some w.heap.size)) (.int .u8 k) v).run P (w.alloc (.map es n)) = .ok () (w.alloc (.map (es.push { key := .int .u8 k, val := v, born := n }) (n + 1))) := by
  simp only [Instr.mapUpdate, Sem.run_bind, run_underlying ht, Result.andThen_ok, Go.MapKept.run_getObj_map (last_new w (.map es n)), Go.MapKept.run_checkKey hK hkey false 9999, Go.MapKept.run_findKey hK hf, Go.MapKept.run_setObj_map _ (last_new w (.map es n))]
  congr 1
  show ({ (w.alloc (.map es n)) with heap := (w.heap.push (.map es n)).setIfInBounds w.heap.size _ } : World) = _
  rw [set_last]
  rfl
theorem map_look (w : World) (T K E : TypeId) (es : Array MapEntry) (n i : Nat) (c : Int) (x : Value) (ht : P.underlying T = some (.map K E)) (hK : P.underlying K = some (.int .u8)) (hkey : Go.MapKept.IsKey (.int .u8) (.int .u8 c)) (hf : Instr.findNow (.int .u8) (.int .u8 c) es.toList 0 = some (some (i, x))) :
    (Instr.lookup T (.map (some w.heap.size)) (.int .u8 c) false).run P (w.alloc (.map es n)) = .ok x (w.alloc (.map es n)) := by
  simp only [Instr.lookup, Sem.run_bind, run_underlying ht, Result.andThen_ok, Go.MapKept.run_getObj_map (last_new w (.map es n)), Go.MapKept.run_checkKey hK hkey _ 9999, Go.MapKept.run_findKey hK hf, Sem.run_pure]
  rfl
theorem map_miss (w : World) (T K E : TypeId) (es : Array MapEntry) (n : Nat) (c : Int) (z : Value) (ht : P.underlying T = some (.map K E)) (hK : P.underlying K = some (.int .u8)) (hkey : Go.MapKept.IsKey (.int .u8) (.int .u8 c)) (hf : Instr.findNow (.int .u8) (.int .u8 c) es.toList 0 = some none) (hz : ∀ w : World, (zeroValue E).run P w = .ok z w) :
    (Instr.lookup T (.map (some w.heap.size)) (.int .u8 c) false).run P (w.alloc (.map es n)) = .ok z (w.alloc (.map es n)) := by
  simp only [Instr.lookup, Sem.run_bind, run_underlying ht, Result.andThen_ok, Go.MapKept.run_getObj_map (last_new w (.map es n)), Go.MapKept.run_checkKey hK hkey _ 9999, Go.MapKept.run_findKey hK hf, Sem.run_pure, hz]
  rfl
/-- A constant row of bytes, marked: it is only read here. -/
theorem V_const {ops : Array Oper} {rest : List Oper} {o1 o2 : Oper} {a : Act} {Q : Exit → Act → World → Prop} {w0 W : World} (base e : Nat) (hg1 : o1.guard = none) (hg2 : o2.guard = none) {N : Tmp} (_hd : o1.dst = some N) (t : TypeId) (x : Operand) (ho : o2.op = .convert t t x) (xs : List Int) (inner : List Value) (hin : xs.map (Value.int .u8) = inner) (hev : ∀ v, (a.put o1.dst v).eval x = v)
    (ht : P.underlying t = some (.slice e)) (he : P.underlying e = some (.int .u8)) (hbig : xs.length ≤ 9223372036854775807)
    (hrun : (execOp a.eval o1).run P W = .ok (.value (.slice (some ⟨W.heap.size, 0, none⟩) xs.length xs.length)) (W.alloc (.cells inner.toArray e))) (HB : Below base w0 W) (hbase : base ≤ W.heap.size)
    (h : ∀ v1 w1, Kd.V (Kd.int .u8) e w1 base (fun k => W.heap.size ≤ k) v1 xs → Below base w0 w1 → W.grownBy w1 none → (∃ b, v1.ownBlock = some b ∧ W.heap.size ≤ b) → wpList P ops Q rest ((a.put o1.dst v1).put o2.dst v1) w1) : wpList P ops Q (o1 :: o2 :: rest) a W := by
  subst hin
  have hr := Lib.run_convert_bytes_const (P := P) W t e (xs.map (Value.int .u8)).toArray xs.length xs.length ht he
  generalize hF : W.alloc (.cells (xs.map (Value.int .u8)).toArray e ((xs.map (Value.int .u8)).toArray.size, (xs.map (Value.int .u8)).toArray.size + 1)) = W1 at hr
  have hsz : W1.heap.size = W.heap.size + 1 := by rw [← hF]; show (W.heap.push _).size = _; simp
  have hold : ∀ k, k < W.heap.size → W1.heap[k]? = W.heap[k]? := fun k hk => by
    rw [← hF]; show (W.heap.push _)[k]? = _; rw [Array.getElem?_push, if_neg (by omega)]
  have hnew : W1.heap[W.heap.size]? = some (.cells (xs.map (Value.int .u8)).toArray e ((xs.map (Value.int .u8)).toArray.size, (xs.map (Value.int .u8)).toArray.size + 1)) := by rw [← hF]; exact last_new W _
  have hB : Below W.heap.size W W1 := by
    refine ⟨?_, ?_, ?_, by omega, hold⟩ <;> rw [← hF] <;> rfl
  refine Kd.event_run hg1 hrun (Kd.event_run hg2 (v := .slice (some ⟨W.heap.size, 0, none⟩) xs.length xs.length) (w1 := W1) (by simp [execOp, ho, hev, hr]) (h _ _ ?_ (below_then HB hbase hB) (grown_of_below hB none) ⟨W.heap.size, by simp [Value.ownBlock], Nat.le_refl _⟩))
  refine ⟨some ⟨W.heap.size, 0, none⟩, xs.length, rfl, Nat.le_refl _, ?_⟩
  intro W' hW'
  have hblk : W'.heap[W.heap.size]? = W1.heap[W.heap.size]? := hW' W.heap.size (Nat.le_refl _) (by omega)
  refine Kd.C_of_reads (enc := Value.int .u8) (d := (0 : Int)) (h1 := fun _ => rfl) ⟨rfl, hbig, fun _ => ⟨_, rfl, fun j hj => ?_⟩⟩
  have hadd : (⟨W.heap.size, 0, none⟩ : Addr).add j = ⟨W.heap.size, j, none⟩ := add_plain _ _
  rw [hadd, World.cell?_of_block (w := W1) (a := ⟨W.heap.size, j, none⟩) hblk]
  simp [World.cell?, hnew, List.getD_eq_getElem?_getD, List.getElem?_eq_getElem hj]
theorem setCell_drewN (W : World) (n : Nat) (a : Addr) (v : Value) : (W.drewN n).setCell a v = (W.setCell a v).drewN n := rfl
end
section
variable {P : Program} {ops : Array Oper} {rest : List Oper} {o : Oper} {a : Act} {Q : Exit → Act → World → Prop}
/-- Where the row lies behind an append of a string: where it lay, or in a new block. -/
theorem app_block {w w' : World} (base : Nat) (t u ty e : TypeId) (i : TypeInfo) (ht : P.underlying t = some (.slice e)) (hu : P.underlying u = some .string) (hi : P.info? e = some i) (hz : i.zero = some (.int .u8 0)) (hsize : i.size = 1) (hby : i.bytes = 1)
    (v v' : Value) (n : Nat) (xs : List Value) (hown : w.ownsRow base e 1 v n xs) (s : ByteArray) (h63 : n + s.size ≤ maxLen) (hbytes : n + s.size ≤ 140737488355328) (hbase : base ≤ w.heap.size)
    (hr : (Builtin.append_ #[t, u] ty #[v, .string s]).run P w = .ok v' w') : v'.ownBlock = v.ownBlock ∨ ∃ b, v'.ownBlock = some b ∧ w.heap.size ≤ b := by
  have hsmall : n + s.size ≤ 9223372036854775807 := by simp only [maxLen] at h63; omega
  have hxl : xs.length = n := by simpa using hown.1
  obtain ⟨v2, w2, hr2, _, _, h4⟩ := Lib.run_append_own_string (P := P) w base t u ty e i ht hu hi hz hsize hby v n xs hown s h63 hbytes hbase
  rw [hr] at hr2
  injection hr2 with hv _
  subst hv
  rcases hown.2 with ⟨rfl, rfl⟩ | ⟨g, cap, cur, rfl, hbg, hg, hnc, hcm, hcs, htake⟩
  · by_cases hm : s.size = 0
    · exact .inl (by rw [h4.2 ⟨rfl, hm⟩])
    · have hr3 := run_append_nil_string (P := P) w t u ty e i (.int .u8 0) ht hu hi hz s (by omega) (by omega) (by rw [hby]; omega)
      rw [hr] at hr3
      injection hr3 with e1 _
      exact .inr ⟨w.heap.size, by rw [e1]; simp [Value.ownBlock], Nat.le_refl _⟩
  · by_cases hroom : n + s.size ≤ cap
    · have hcs' : cur.size = cap := by simpa using hcs
      have hr3 := Lib.run_append_room_string (P := P) w t u ty e i ht hu hi hsize g n cap cur hg s hroom (by omega)
      rw [hr] at hr3
      injection hr3 with e1 _
      exact .inl (by rw [e1]; simp [Value.ownBlock])
    · have holds : ∀ j u, xs[j]? = some u → w.cell? ((⟨g, 0, none⟩ : Addr).add j) = some u := hown.cells (g := g) rfl
      have hr3 := Lib.run_append_grow_string (P := P) w t u ty e i (.int .u8 0) ht hu hi hz ⟨g, 0, none⟩ n cap xs (by rw [hsize]; simpa using hxl) holds s (by omega) (by omega) (by rw [hby]; exact growslice_fits (by omega) (by omega))
      rw [hr] at hr3
      injection hr3 with e1 _
      exact .inr ⟨w.heap.size, by rw [e1]; simp [Value.ownBlock], Nat.le_refl _⟩
/-- A string appended to a row of the call's own, with where the row lies behind it. -/
theorem append_str_at {w0 W : World} (base : Nat) (hgd : o.guard = none) (s x : Operand) (t u e : TypeId)
    (ho : o.op = .call { callee := .builtin .append, args := #[s, x], argTypes := #[t, u] })
    (ht : P.underlying t = some (.slice e)) (hu : P.underlying u = some .string) (hinfo : (P.info? e).map (fun i => (i.zero, i.size, i.bytes)) = some (some (.int .u8 0), 1, 1))
    (v : Value) (xs : List Int) (y : ByteArray) (hs : a.eval s = v) (hx : a.eval x = .string y)
    (HO : W.ownsRow base e 1 v xs.length (nums .u8 xs)) (HB : Below base w0 W) (hbase : base ≤ W.heap.size) (hl : xs.length + y.size ≤ 140737488355328)
    (h : ∀ v1 w1, w1.ownsRow base e 1 v1 (xs ++ bytesOf y).length (nums .u8 (xs ++ bytesOf y)) → Below base w0 w1 → W.grownBy w1 v.ownBlock → (v1.ownBlock = v.ownBlock ∨ ∃ b, v1.ownBlock = some b ∧ W.heap.size ≤ b) → wpList P ops Q rest (a.put o.dst v1) w1) :
    wpList P ops Q (o :: rest) a W := by
  obtain ⟨i0, hi, hzz⟩ := Option.map_eq_some_iff.1 hinfo
  simp only [Prod.mk.injEq] at hzz
  obtain ⟨hz0, hz1, hz2⟩ := hzz
  have hl2 : (xs ++ bytesOf y).length = xs.length + y.size := by rw [List.length_append, bytesOf_length]
  have hc : nums .u8 (xs ++ bytesOf y) = nums .u8 xs ++ Lib.strCells y := by
    rw [nums_append]
    congr 1
    simp [nums, bytesOf, Lib.strCells]
  refine wpList_plain hgd fun K hK => ?_
  obtain ⟨v', w', hr, h2, h3, h4⟩ := Lib.run_append_own_string (P := P) W base t u o.type e i0 ht hu hi hz0 hz1 hz2 v xs.length (nums .u8 xs) HO y (by simp only [maxLen]; omega) hl hbase
  have hat := app_block base t u o.type e i0 ht hu hi hz0 hz1 hz2 v v' xs.length (nums .u8 xs) HO y (by simp only [maxLen]; omega) hl hbase hr
  unfold Oper.wp execOp
  simp only [ho, resolve, invoke, builtin, Sem.run_bind, Sem.run_pure, Result.andThen_ok, List.map_toArray, List.map_cons, List.map_nil, hs, hx, hr]
  exact hK _ _ (h v' w' (by rw [hl2, hc]; exact h2) (HB.grown h3 hbase (own_base HO)) h3 hat)
end
abbrev vA := @Kd.V_alloc
abbrev vN := @Kd.V_drewN
abbrev vD := @Kd.V_drew
abbrev rA := @Kd.R_alloc
abbrev rN := @Kd.R_drewN
abbrev rD := @Kd.R_drew
abbrev bN := @blk_drewN
abbrev bD := @blk_drew
abbrev bA := @blk_alloc
abbrev wA := @below_alloc
abbrev wN := @pw_below_drewN
abbrev wD := @below_drew1
abbrev wS := @below_set

theorem info3 : (Try.prog.info? 3).map (fun i => (i.zero, i.size, i.bytes)) = some (some (.int .i64 0), 1, 8) := by kernel_rfl
-- the values' own types
def rd_L2 (xs : List (List ByteArray)) (i : Int) : (List ByteArray) := xs.getD i.toNat ([] : List ByteArray)
theorem at_L2 {w : World} {A : Option Addr} {n : Nat} {xs : List (List ByteArray)} (h : Kd.C (Kd.slice 9 Kd.string) w A n xs) (i : Int) (h0 : 0 ≤ i) (h1 : i < n) : ∃ ad A0 c0, A = some ad ∧ w.cell? (ad.add i.toNat) = some (.slice A0 (rd_L2 xs i).length c0) ∧ (rd_L2 xs i).length ≤ c0 ∧ Kd.string.C w A0 (rd_L2 xs i).length (rd_L2 xs i) := by
  obtain ⟨ad, c, e, _, hK, hc0⟩ := Kd.C_get h ([] : List ByteArray) i h0 h1
  have hc : ∀ j u, c[j]? = some u → w.cell? (ad.add (i.toNat * 1 + j)) = some u := hc0
  obtain ⟨A0, c0, rfl, l0, g0⟩ := hK
  exact ⟨ad, A0, c0, e, by have hq := hc 0 _ rfl; rwa [Nat.mul_one, Nat.add_zero] at hq, l0, g0⟩

/-! #### struct type 28, nested in itself -/
structure S28 where
  f0 : Int
  f1 : Int
  f2 : ByteArray
  f3 : (List ByteArray)
  f4 : (List S28)
def z28 : S28 := ⟨(0 : Int), (0 : Int), (⟨#[]⟩ : ByteArray), ([] : List ByteArray), ([] : List S28)⟩
def F28 (d : Kd S28) : Kd S28 := Kd.iso (Kd.pair (Kd.int .i64) (Kd.pair (Kd.int .i64) (Kd.pair Kd.string (Kd.pair (Kd.slice 9 Kd.string) (Kd.slice 28 d))))) (fun x : S28 => (x.f0, x.f1, x.f2, x.f3, x.f4))
theorem mono28 : Kd.Mono F28 := Kd.mono_iso _ (Kd.mono_pair (Kd.mono_const _) (Kd.mono_pair (Kd.mono_const _) (Kd.mono_pair (Kd.mono_const _) (Kd.mono_pair (Kd.mono_const _) (Kd.mono_slice 28 Kd.mono_id)))))
theorem sub28 : Kd.Sub F28 [9, 28] := Kd.sub_iso _ (Kd.sub_pair (Kd.sub_const _ (by decide)) (Kd.sub_pair (Kd.sub_const _ (by decide)) (Kd.sub_pair (Kd.sub_const _ (by decide)) (Kd.sub_pair (Kd.sub_const _ (by decide)) (Kd.sub_slice 28 (by decide) Kd.sub_id)))))
theorem sz28 : ∀ n, (Kd.upto F28 5 [9, 28] n).sz = 5 := Kd.upto_sz (fun _ => rfl)
def k28 : Kd S28 := Kd.fix F28 5 [9, 28] sz28 (Kd.upto_E sub28)
theorem k28_open {w : World} {x : S28} {cs : List Value} (h : k28.K w x cs) : ∃ A3 c3 A4 c4, cs = [.int .i64 x.f0, .int .i64 x.f1, .string x.f2, .slice A3 x.f3.length c3, .slice A4 x.f4.length c4] ∧ x.f3.length ≤ c3 ∧ Kd.string.C w A3 x.f3.length x.f3 ∧ x.f4.length ≤ c4 ∧ k28.C w A4 x.f4.length x.f4 := by
  obtain ⟨n, h⟩ := h
  cases n with
  | zero => exact h.elim
  | succ n =>
    obtain ⟨_, _, rfl, rfl, ⟨_, _, rfl, rfl, ⟨_, _, rfl, rfl, ⟨_, _, rfl, ⟨A3, c3, rfl, l3, g3⟩, ⟨A4, c4, rfl, l4, g4⟩⟩⟩⟩⟩ := h
    exact ⟨A3, c3, A4, c4, rfl, l3, g3, l4, Kd.fix_C g4⟩
theorem k28_openM {w : World} {base : Nat} {ok : Nat → Prop} {x : S28} {cs : List Value} (h : k28.M w base ok x cs) : ∃ v3 v4, cs = [.int .i64 x.f0, .int .i64 x.f1, .string x.f2, v3, v4] ∧ Kd.string.R 9 w base ok v3 x.f3 ∧ k28.R 28 w base ok v4 x.f4 := by
  obtain ⟨n, h⟩ := h
  cases n with
  | zero => exact h.elim
  | succ n =>
    obtain ⟨_, _, rfl, rfl, ⟨_, _, rfl, rfl, ⟨_, _, rfl, rfl, ⟨_, _, rfl, ⟨v3, rfl, g3⟩, ⟨v4, rfl, g4⟩⟩⟩⟩⟩ := h
    exact ⟨v3, v4, rfl, g3, Kd.fix_R g4⟩
theorem k28_mk (w : World) (x : S28) {A3 : Option Addr} {c3 : Nat} (l3 : x.f3.length ≤ c3) (g3 : Kd.string.C w A3 x.f3.length x.f3) {A4 : Option Addr} {c4 : Nat} (l4 : x.f4.length ≤ c4) (g4 : k28.C w A4 x.f4.length x.f4) : k28.K w x [.int .i64 x.f0, .int .i64 x.f1, .string x.f2, .slice A3 x.f3.length c3, .slice A4 x.f4.length c4] := by
  obtain ⟨n4, q4⟩ := Kd.fix_C_back mono28 g4
  have r4 := Kd.upto_C_le mono28 sz28 (show n4 ≤ n4 by omega) q4
  exact ⟨n4 + 1, ⟨[.int .i64 x.f0], [.int .i64 x.f1, .string x.f2, .slice A3 x.f3.length c3, .slice A4 x.f4.length c4], rfl, rfl, ⟨[.int .i64 x.f1], [.string x.f2, .slice A3 x.f3.length c3, .slice A4 x.f4.length c4], rfl, rfl, ⟨[.string x.f2], [.slice A3 x.f3.length c3, .slice A4 x.f4.length c4], rfl, rfl, ⟨[.slice A3 x.f3.length c3], [.slice A4 x.f4.length c4], rfl, ⟨A3, c3, rfl, l3, g3⟩, ⟨A4, c4, rfl, l4, r4⟩⟩⟩⟩⟩⟩
theorem k28_mkM (w : World) (base : Nat) (ok : Nat → Prop) (x : S28) {v3 : Value} (g3 : Kd.string.R 9 w base ok v3 x.f3) {v4 : Value} (g4 : k28.R 28 w base ok v4 x.f4) : k28.M w base ok x [.int .i64 x.f0, .int .i64 x.f1, .string x.f2, v3, v4] := by
  obtain ⟨n4, q4⟩ := Kd.fix_R_back mono28 g4
  have r4 := Kd.upto_R_le mono28 sz28 (show n4 ≤ n4 by omega) q4
  exact ⟨n4 + 1, ⟨[.int .i64 x.f0], [.int .i64 x.f1, .string x.f2, v3, v4], rfl, rfl, ⟨[.int .i64 x.f1], [.string x.f2, v3, v4], rfl, rfl, ⟨[.string x.f2], [v3, v4], rfl, rfl, ⟨[v3], [v4], rfl, ⟨v3, rfl, g3⟩, ⟨v4, rfl, r4⟩⟩⟩⟩⟩⟩
def rd_T28 (xs : List S28) (i : Int) : S28 := xs.getD i.toNat z28
theorem at_T28 {w : World} {A : Option Addr} {n : Nat} {xs : List S28} (h : Kd.C k28 w A n xs) (i : Int) (h0 : 0 ≤ i) (h1 : i < n) : ∃ ad A3 c3 A4 c4, A = some ad ∧ w.cell? (ad.add (i.toNat * 5)) = some (.int .i64 (rd_T28 xs i).f0) ∧ w.cell? ⟨(ad.add (i.toNat * 5)).block, (ad.add (i.toNat * 5)).off + 1, none⟩ = some (.int .i64 (rd_T28 xs i).f1) ∧ w.cell? ⟨(ad.add (i.toNat * 5)).block, (ad.add (i.toNat * 5)).off + 2, none⟩ = some (.string (rd_T28 xs i).f2) ∧ w.cell? ⟨(ad.add (i.toNat * 5)).block, (ad.add (i.toNat * 5)).off + 3, none⟩ = some (.slice A3 (rd_T28 xs i).f3.length c3) ∧ w.cell? ⟨(ad.add (i.toNat * 5)).block, (ad.add (i.toNat * 5)).off + 4, none⟩ = some (.slice A4 (rd_T28 xs i).f4.length c4) ∧ (rd_T28 xs i).f3.length ≤ c3 ∧ Kd.string.C w A3 (rd_T28 xs i).f3.length (rd_T28 xs i).f3 ∧ (rd_T28 xs i).f4.length ≤ c4 ∧ k28.C w A4 (rd_T28 xs i).f4.length (rd_T28 xs i).f4 := by
  obtain ⟨ad, c, e, _, hK, hc0⟩ := Kd.C_get h z28 i h0 h1
  have hc : ∀ j u, c[j]? = some u → w.cell? (ad.add (i.toNat * 5 + j)) = some u := hc0
  obtain ⟨A3, c3, A4, c4, rfl, l3, g3, l4, g4⟩ := k28_open hK
  exact ⟨ad, A3, c3, A4, c4, e, hc 0 _ rfl, by rw [← add_field _ _ 1 (by omega)]; exact hc 1 _ rfl, by rw [← add_field _ _ 2 (by omega)]; exact hc 2 _ rfl, by rw [← add_field _ _ 3 (by omega)]; exact hc 3 _ rfl, by rw [← add_field _ _ 4 (by omega)]; exact hc 4 _ rfl, l3, g3, l4, g4⟩

end Go.Proofs.Ytgpjkojnmeaoiaa.QV

namespace Go.Proofs.Ytgpjkojnmeaoiaa.QV
open Go.RowKit Go.Proofs.YtgpjkojnmeaoiaaW.PrintWords Go.Proofs.YtgpjkojnmeaoiaaW.PrintLast Go.Proofs.YtgpjkojnmeaoiaaW.PrintMore
attribute [local go_sem] max2_int min2_int max_two min_two max_three min_three max_four min_four   -- for this text's walks alone
set_option linter.unusedVariables false
set_option linter.unusedSimpArgs false

/-! ### ndjqkeep_Short: function 10 -/
def ndjqkeep_Short.l0 : Nat → Int → List ByteArray → Int → Option (Bool)
  | 0, _, _, _ => none
  | k + 1, x0, x1, x5 => if x5 < (x1.length : Int) then (if 0 ≤ x5 then (if ((rdOf ByteArray.empty x1 x5).size : Int) > x0 then (some false) else (ndjqkeep_Short.l0 k x0 x1 (wrap64 (x5 + 1)))) else (none)) else (some true)
def ndjqkeep_Short.f (k : Nat) (a0 : Int) (l1 : List ByteArray) : Option (Bool) := ndjqkeep_Short.l0 k a0 l1 0
theorem ndjqkeep_Short.mono_l : ∀ k, (∀ y0 y1 y2, LeO (ndjqkeep_Short.l0 k y0 y1 y2) (ndjqkeep_Short.l0 (k + 1) y0 y1 y2))
  | 0 => fun _ _ _ r h => by simp [ndjqkeep_Short.l0] at h
  | k + 1 => by
    have ih0 := ndjqkeep_Short.mono_l k
    · intro y0 y1 y2
      unfold ndjqkeep_Short.l0
      repeat' first
      | (with_reducible exact ih0 _ _ _)
      | (with_reducible exact LeO.refl _)
      | (with_reducible exact LeO.none _)
      | (with_reducible refine LeO.ite ?_ ?_)
      | (with_reducible refine LeO.bind ?_ (fun _ => ?_))
      | exact ih0 _ _ _
      | exact LeO.none _
      | refine LeO.ite ?_ ?_
      | refine LeO.bind ?_ (fun _ => ?_)
theorem ndjqkeep_Short.mono : ∀ a0 a1 k, LeO (ndjqkeep_Short.f k a0 a1) (ndjqkeep_Short.f (k + 1) a0 a1) := by
  intro a0 a1 k
  have ih0 := ndjqkeep_Short.mono_l k
  unfold ndjqkeep_Short.f
  repeat' first
      | (with_reducible exact ih0 _ _ _)
      | (with_reducible exact LeO.refl _)
      | (with_reducible exact LeO.none _)
      | (with_reducible refine LeO.ite ?_ ?_)
      | (with_reducible refine LeO.bind ?_ (fun _ => ?_))
      | exact ih0 _ _ _
      | exact LeO.none _
      | refine LeO.ite ?_ ?_
      | refine LeO.bind ?_ (fun _ => ?_)
set_option maxHeartbeats 8000000 in
set_option maxRecDepth 100000 in
theorem ndjqkeep_Short.calls (k : Nat) (a0 : Int) (A1 : Option Addr) (c1 : Nat) (l1 : List ByteArray) (r : Bool) (w : World) (hr1 : Kd.C Kd.string w A1 l1.length l1) (hc1 : l1.length ≤ c1) (h : ndjqkeep_Short.f k a0 l1 = some r) :
    Calls Try.prog 10 #[.int .i64 a0, .slice A1 l1.length c1] w fun e w' => e = .returned (.bool r) ∧ Drawn0 w w' := by
  have HR1 := Aside0.mk hr1
  have HC1 := Aside0.mk hc1
  clear hr1 hc1
  have H : (ndjqkeep_Short.l0 k a0 l1 0) = some r := h
  clear h
  have H' := Aside0.mk H
  clear H
  go_enter Try.func10, Try.ntmps10
  go_wp2
  go_loopg [5] k (fun kq v5 w' => ∃ (x5_1 : Int), v5 = .int .i64 x5_1 ∧ Aside0 (ndjqkeep_Short.l0 kq a0 l1 x5_1 = some r) ∧ Aside0 (kq ≤ k) ∧ Drawn0 w w')
  case atStart => exact ⟨(0), (by first | rfl | (simp; done) | (simp [*]; done)), H', ⟨Nat.le_refl _⟩, by repeat (first | exact Drawn0.refl _ | apply Drawn0.step)⟩
  case round =>
    clear H'
    (try clear c1); (try clear p2)
    obtain ⟨x5_1, rfl, HA, HK1, ⟨m1, rfl⟩⟩ := hrel
    cases gk with
    | zero => exact absurd HA.out (by simp [ndjqkeep_Short.l0])
    | succ k1 =>
      have H := HA.out
      clear HA
      simp only [ndjqkeep_Short.l0] at H
      by_cases c3 : x5_1 < (l1.length : Int)
      · rw [if_pos c3] at H
        have c3b0 : decide (x5_1 < (l1.length : Int)) = true := decide_eq_true c3
        clear c3
        by_cases c4 : 0 ≤ x5_1
        · rw [if_pos c4] at H
          have c4b0 : decide (0 ≤ x5_1) = true := decide_eq_true c4
          clear c4
          by_cases c5 : ((rdOf ByteArray.empty l1 x5_1).size : Int) > a0
          · rw [if_pos c5] at H
            have c5b0 : decide (a0 < ((rdOf ByteArray.empty l1 x5_1).size : Int)) = true := decide_eq_true c5
            clear c5
            obtain rfl := Option.some.inj H
            have p101 : 0 ≤ (x5_1 : Int) := of_decide_eq_true (by first | (with_reducible assumption) | assumption)
            have q101 : x5_1 < (l1.length : Int) := of_decide_eq_true (by first | (with_reducible assumption) | assumption)
            obtain ⟨ad101, e101, hx101_0⟩ := Kd.at_string HR1.out x5_1 p101 q101
            cases e101
            replace p101 := eq_true p101
            replace q101 := eq_true q101
            go_wp2
            go_ret
            exact ⟨by first | rfl | (simp; done) | (simp [*]; done), by repeat (first | exact Drawn0.refl _ | apply Drawn0.step)⟩
          · rw [if_neg c5] at H
            have c5b0 : decide (a0 < ((rdOf ByteArray.empty l1 x5_1).size : Int)) = false := decide_eq_false c5
            clear c5
            have H' := Aside0.mk H
            clear H
            have p101 : 0 ≤ (x5_1 : Int) := of_decide_eq_true (by first | (with_reducible assumption) | assumption)
            have q101 : x5_1 < (l1.length : Int) := of_decide_eq_true (by first | (with_reducible assumption) | assumption)
            obtain ⟨ad101, e101, hx101_0⟩ := Kd.at_string HR1.out x5_1 p101 q101
            cases e101
            replace p101 := eq_true p101
            replace q101 := eq_true q101
            go_wp2
            go_roundg k1
            case measure => have := HK1.out; omega
            case rel => exact ⟨(wrap64 (x5_1 + 1)), (by first | rfl | (simp; done) | (simp [*]; done)), H', ⟨by have := HK1.out; omega⟩, by repeat (first | exact Drawn0.refl _ | apply Drawn0.step)⟩
        · rw [if_neg c4] at H
          exact absurd H (by simp)
      · rw [if_neg c3] at H
        have c3b0 : decide (x5_1 < (l1.length : Int)) = false := decide_eq_false c3
        clear c3
        obtain rfl := Option.some.inj H
        go_wp2
        go_ret
        exact ⟨by first | rfl | (simp; done) | (simp [*]; done), by repeat (first | exact Drawn0.refl _ | apply Drawn0.step)⟩

/-! ### ndjqkeep_Count: function 41 -/
mutual
def ndjqkeep_Count.j1 : Nat → Int → Int → Int → Int → ByteArray → List ByteArray → List (S28) → Option (Int)
 | 0, _, _, _, _, _, _, _ => none
 | k + 1, x1, x5, x103000, x103001, x103002, x103003, x103004 => ndjqkeep_Count.l1 k x1 x5 0 x103000 x103001 x103002 x103003 x103004
def ndjqkeep_Count.l1 : Nat → Int → Int → Int → Int → Int → ByteArray → List ByteArray → List (S28) → Option (Int)
 | 0, _, _, _, _, _, _, _, _ => none
 | k + 1, x1, x5, x7, x103000, x103001, x103002, x103003, x103004 => if x7 < (x103004.length : Int) then (if x5 ≤ x1 then (if 0 ≤ x7 then ((ndjqkeep_Count.f k ((rd_T28 x103004 x7).f0) ((rd_T28 x103004 x7).f1) ((rd_T28 x103004 x7).f2) ((rd_T28 x103004 x7).f3) ((rd_T28 x103004 x7).f4) (wrap64 (x1 - x5))).bind fun t105 => (ndjqkeep_Count.l1 k x1 (wrap64 (x5 + t105)) (wrap64 (x7 + 1)) x103000 x103001 x103002 x103003 x103004)) else (none)) else (some x5)) else (some x5)
def ndjqkeep_Count.l0 : Nat → Int → Int → Int → Int → Int → ByteArray → List ByteArray → List (S28) → Option (Int)
 | 0, _, _, _, _, _, _, _, _ => none
 | k + 1, x1, x5, x6, x103000, x103001, x103002, x103003, x103004 => if x6 < (x103003.length : Int) then (if x5 ≤ x1 then (if 0 ≤ x6 then (ndjqkeep_Count.l0 k x1 (wrap64 (x5 + (wrap64 (1 + ((rdOf ByteArray.empty x103003 x6).size : Int))))) (wrap64 (x6 + 1)) x103000 x103001 x103002 x103003 x103004) else (none)) else (ndjqkeep_Count.j1 k x1 x5 x103000 x103001 x103002 x103003 x103004)) else (ndjqkeep_Count.j1 k x1 x5 x103000 x103001 x103002 x103003 x103004)
def ndjqkeep_Count.f : Nat → Int → Int → ByteArray → List ByteArray → List (S28) → Int → Option (Int)
 | 0, _, _, _, _, _, _ => none
 | k + 1, a0_0, a0_1, a0_2, l0_3, l0_4, a1 => ndjqkeep_Count.l0 k a1 (wrap64 (1 + (a0_2.size : Int))) 0 a0_0 a0_1 a0_2 l0_3 l0_4
end
theorem ndjqkeep_Count.mono_l : ∀ k, (∀ y0 y1 y2 y3 y4 y5, LeO (ndjqkeep_Count.f k y0 y1 y2 y3 y4 y5) (ndjqkeep_Count.f (k + 1) y0 y1 y2 y3 y4 y5)) ∧ (∀ y0 y1 y2 y3 y4 y5 y6, LeO (ndjqkeep_Count.j1 k y0 y1 y2 y3 y4 y5 y6) (ndjqkeep_Count.j1 (k + 1) y0 y1 y2 y3 y4 y5 y6)) ∧ (∀ y0 y1 y2 y3 y4 y5 y6 y7, LeO (ndjqkeep_Count.l1 k y0 y1 y2 y3 y4 y5 y6 y7) (ndjqkeep_Count.l1 (k + 1) y0 y1 y2 y3 y4 y5 y6 y7)) ∧ (∀ y0 y1 y2 y3 y4 y5 y6 y7, LeO (ndjqkeep_Count.l0 k y0 y1 y2 y3 y4 y5 y6 y7) (ndjqkeep_Count.l0 (k + 1) y0 y1 y2 y3 y4 y5 y6 y7))
 | 0 => ⟨fun _ _ _ _ _ _ r h => by simp [ndjqkeep_Count.f] at h, fun _ _ _ _ _ _ _ r h => by simp [ndjqkeep_Count.j1] at h, fun _ _ _ _ _ _ _ _ r h => by simp [ndjqkeep_Count.l1] at h, fun _ _ _ _ _ _ _ _ r h => by simp [ndjqkeep_Count.l0] at h⟩
 | k + 1 => by
  obtain ⟨ih0, ih1, ih2, ih3⟩ := ndjqkeep_Count.mono_l k
  refine ⟨?_, ?_, ?_, ?_⟩
  ·intro y0 y1 y2 y3 y4 y5
   unfold ndjqkeep_Count.f
   repeat' first
   | (with_reducible exact ih0 _ _ _ _ _ _)
   | (with_reducible exact ih1 _ _ _ _ _ _ _)
   | (with_reducible exact ih2 _ _ _ _ _ _ _ _)
   | (with_reducible exact ih3 _ _ _ _ _ _ _ _)
   | (with_reducible exact LeO.refl _)
   | (with_reducible exact LeO.none _)
   | (with_reducible refine LeO.ite ?_ ?_)
   | (with_reducible refine LeO.bind ?_ (fun _ => ?_))
   | exact ih0 _ _ _ _ _ _
   | exact ih1 _ _ _ _ _ _ _
   | exact ih2 _ _ _ _ _ _ _ _
   | exact ih3 _ _ _ _ _ _ _ _
   | exact LeO.none _
   | refine LeO.ite ?_ ?_
   | refine LeO.bind ?_ (fun _ => ?_)
  ·intro y0 y1 y2 y3 y4 y5 y6
   unfold ndjqkeep_Count.j1
   repeat' first
   | (with_reducible exact ih0 _ _ _ _ _ _)
   | (with_reducible exact ih1 _ _ _ _ _ _ _)
   | (with_reducible exact ih2 _ _ _ _ _ _ _ _)
   | (with_reducible exact ih3 _ _ _ _ _ _ _ _)
   | (with_reducible exact LeO.refl _)
   | (with_reducible exact LeO.none _)
   | (with_reducible refine LeO.ite ?_ ?_)
   | (with_reducible refine LeO.bind ?_ (fun _ => ?_))
   | exact ih0 _ _ _ _ _ _
   | exact ih1 _ _ _ _ _ _ _
   | exact ih2 _ _ _ _ _ _ _ _
   | exact ih3 _ _ _ _ _ _ _ _
   | exact LeO.none _
   | refine LeO.ite ?_ ?_
   | refine LeO.bind ?_ (fun _ => ?_)
  ·intro y0 y1 y2 y3 y4 y5 y6 y7
   unfold ndjqkeep_Count.l1
   repeat' first
   | (with_reducible exact ih0 _ _ _ _ _ _)
   | (with_reducible exact ih1 _ _ _ _ _ _ _)
   | (with_reducible exact ih2 _ _ _ _ _ _ _ _)
   | (with_reducible exact ih3 _ _ _ _ _ _ _ _)
   | (with_reducible exact LeO.refl _)
   | (with_reducible exact LeO.none _)
   | (with_reducible refine LeO.ite ?_ ?_)
   | (with_reducible refine LeO.bind ?_ (fun _ => ?_))
   | exact ih0 _ _ _ _ _ _
   | exact ih1 _ _ _ _ _ _ _
   | exact ih2 _ _ _ _ _ _ _ _
   | exact ih3 _ _ _ _ _ _ _ _
   | exact LeO.none _
   | refine LeO.ite ?_ ?_
   | refine LeO.bind ?_ (fun _ => ?_)
  ·intro y0 y1 y2 y3 y4 y5 y6 y7
   unfold ndjqkeep_Count.l0
   repeat' first
   | (with_reducible exact ih0 _ _ _ _ _ _)
   | (with_reducible exact ih1 _ _ _ _ _ _ _)
   | (with_reducible exact ih2 _ _ _ _ _ _ _ _)
   | (with_reducible exact ih3 _ _ _ _ _ _ _ _)
   | (with_reducible exact LeO.refl _)
   | (with_reducible exact LeO.none _)
   | (with_reducible refine LeO.ite ?_ ?_)
   | (with_reducible refine LeO.bind ?_ (fun _ => ?_))
   | exact ih0 _ _ _ _ _ _
   | exact ih1 _ _ _ _ _ _ _
   | exact ih2 _ _ _ _ _ _ _ _
   | exact ih3 _ _ _ _ _ _ _ _
   | exact LeO.none _
   | refine LeO.ite ?_ ?_
   | refine LeO.bind ?_ (fun _ => ?_)
theorem ndjqkeep_Count.mono : ∀ a0 a1 a2 a3 a4 a5 k, LeO (ndjqkeep_Count.f k a0 a1 a2 a3 a4 a5) (ndjqkeep_Count.f (k + 1) a0 a1 a2 a3 a4 a5) := by
 intro a0 a1 a2 a3 a4 a5 k
 obtain ⟨ih0, ih1, ih2, ih3⟩ := ndjqkeep_Count.mono_l k
 exact ih0 a0 a1 a2 a3 a4 a5
set_option maxHeartbeats 8000000 in
set_option maxRecDepth 100000 in
theorem ndjqkeep_Count.calls (k : Nat) : ∀ (a0_0 : Int) (a0_1 : Int) (a0_2 : ByteArray) (A0_3 : Option Addr) (c0_3 : Nat) (l0_3 : List ByteArray) (A0_4 : Option Addr) (c0_4 : Nat) (l0_4 : List (S28)) (a1 : Int) (r : Int) (w : World) (hr0_3 : Kd.C Kd.string w A0_3 l0_3.length l0_3) (hc0_3 : l0_3.length ≤ c0_3) (hr0_4 : Kd.C k28 w A0_4 l0_4.length l0_4) (hc0_4 : l0_4.length ≤ c0_4) (h : ndjqkeep_Count.f k a0_0 a0_1 a0_2 l0_3 l0_4 a1 = some r),
  Calls Try.prog 41 #[.agg #[.int .i64 a0_0, .int .i64 a0_1, .string a0_2, .slice A0_3 l0_3.length c0_3, .slice A0_4 l0_4.length c0_4], .int .i64 a1] w fun e w' => e = .returned (.int .i64 r) ∧ Below w.heap.size w w' := by
 induction k using Nat.strongRecOn with
 | _ k ih =>
 intro a0_0 a0_1 a0_2 A0_3 c0_3 l0_3 A0_4 c0_4 l0_4 a1 r w hr0_3 hc0_3 hr0_4 hc0_4 h
 cases k with
 | zero => exact absurd h (by simp [ndjqkeep_Count.f])
 | succ k =>
 simp only [ndjqkeep_Count.f] at h
 have hu28 := Try.underlying28
 have HR0_3 := Aside0.mk hr0_3
 have HC0_3 := Aside0.mk hc0_3
 clear hr0_3 hc0_3
 have HR0_4 := Aside0.mk hr0_4
 have HC0_4 := Aside0.mk hc0_4
 clear hr0_4 hc0_4
 have HB := Aside0.mk (Below.refl w.heap.size w)
 have H : (ndjqkeep_Count.l0 k a1 (wrap64 (1 + (a0_2.size : Int))) 0 a0_0 a0_1 a0_2 l0_3 l0_4) = some r := h
 clear h
 have HC3 := Aside0.mk H
 clear H
 go_enter Try.func41, Try.ntmps41
 go_upto_block 0 with (first | ((with_reducible refine gate_dst (N := 2) rfl ?_); refine box_event ?hg (N := 2) ?hd (cs := #[.int .i64 a0_0, .int .i64 a0_1, .string a0_2, .slice A0_3 l0_3.length c0_3, .slice A0_4 l0_4.length c0_4]) (t := 28) ?hr ?_; (case hd => rfl); (case hg => rfl); (case hr => first | (go_simp; done) | (go_simp; rfl)); intro gb102 hg w4 hbox hb; have n0_ := Aside0.mk (below_step (by repeat (first | (with_reducible first | exact HB.out | apply wA | apply wN | apply wD) | exact HB.out)) hb); have n1_ := Aside0.mk (hbox); have n2_ := Aside0.mk ((by rw [hg]; exact (below_size (by repeat (first | (with_reducible first | exact HB.out | apply wA | apply wN | apply wD) | exact HB.out))) : w.heap.size ≤ gb102)); have n3_ := n2_; clear HB; have HB := n0_; have BK102 := n1_; have GW102 := n2_; have GE102 := n3_; clear n0_ n1_ n2_ n3_; clear hb hbox hg; have hcz5_0 : w4.cell? ⟨gb102, 0, none⟩ = some (.int .i64 a0_0) := (blk_cell BK102.out 0).trans rfl; have hcz5_1 : w4.cell? ⟨gb102, 1, none⟩ = some (.int .i64 a0_1) := (blk_cell BK102.out 1).trans rfl; have hcz5_2 : w4.cell? ⟨gb102, 2, none⟩ = some (.string a0_2) := (blk_cell BK102.out 2).trans rfl; have hcz5_3 : w4.cell? ⟨gb102, 3, none⟩ = some (.slice A0_3 l0_3.length c0_3) := (blk_cell BK102.out 3).trans rfl; have hcz5_4 : w4.cell? ⟨gb102, 4, none⟩ = some (.slice A0_4 l0_4.length c0_4) := (blk_cell BK102.out 4).trans rfl; have hfz5_0 := blk_frozen BK102.out 0; have hfz5_1 := blk_frozen BK102.out 1; have hfz5_2 := blk_frozen BK102.out 2; have hfz5_3 := blk_frozen BK102.out 3; have hfz5_4 := blk_frozen BK102.out 4))
 (try simp only [Act.put, List.setIfInBounds_toArray, List.set_cons_zero, List.set_cons_succ])
 go_cut [5] (fun v5 wc => ∃ (kq : Nat) (x5_2 : Int), v5 = .int .i64 x5_2 ∧ Aside0 (ndjqkeep_Count.j1 kq a1 x5_2 a0_0 a0_1 a0_2 l0_3 l0_4 = some r) ∧ Aside0 (kq ≤ k) ∧ Aside0 (wc.heap[gb102]? = some (.cells #[.int .i64 a0_0, .int .i64 a0_1, .string a0_2, (.slice A0_3 l0_3.length c0_3), (.slice A0_4 l0_4.length c0_4)] 28 (0, 0))) ∧ Aside0 (Below w.heap.size w wc))
 case first =>
  have H := HC3.out
  clear HC3
  have H' := Aside0.mk H
  clear H
  go_wp2
  go_loopg [5, 6] k (fun kq v5 v6 w' => ∃ (x5_1 : Int) (x6_1 : Int), v5 = .int .i64 x5_1 ∧ v6 = .int .i64 x6_1 ∧ Aside0 (ndjqkeep_Count.l0 kq a1 x5_1 x6_1 a0_0 a0_1 a0_2 l0_3 l0_4 = some r) ∧ Aside0 (kq ≤ k) ∧ Aside0 (w'.heap[gb102]? = some (.cells #[.int .i64 a0_0, .int .i64 a0_1, .string a0_2, (.slice A0_3 l0_3.length c0_3), (.slice A0_4 l0_4.length c0_4)] 28 (0, 0))) ∧ Aside0 (Below w.heap.size w w'))
  case atStart => exact ⟨(wrap64 (1 + (a0_2.size : Int))), (0), (by first | rfl | (simp; done) | (simp [*]; done)), (by first | rfl | (simp; done) | (simp [*]; done)), H', ⟨Nat.le_refl _⟩, ⟨by (with_reducible repeat (first | refine bN ?_ _ | refine bD ?_ | refine bA ?_ _)); exact BK102.out⟩, ⟨by repeat (first | (with_reducible first | exact HB.out | apply wA | apply wN | apply wD | refine wS ?_ GE102.out) | exact HB.out)⟩⟩
  case round =>
   clear H'
   (try clear p2); (try clear c4); (try clear hcz5_0); (try clear hcz5_1); (try clear hcz5_2); (try clear hcz5_3); (try clear hcz5_4); (try clear hfz5_0); (try clear hfz5_1); (try clear hfz5_2); (try clear hfz5_3); (try clear hfz5_4)
   obtain ⟨x5_1, x6_1, rfl, rfl, HA, HK1, BK102, HB⟩ := hrel
   cases gk with
   | zero => exact absurd HA.out (by simp [ndjqkeep_Count.l0])
   | succ k1 =>
    have H := HA.out
    clear HA
    simp only [ndjqkeep_Count.l0] at H
    by_cases c6 : x6_1 < (l0_3.length : Int)
    ·rw [if_pos c6] at H
     have c6b0 : decide (x6_1 < (l0_3.length : Int)) = true := decide_eq_true c6
     clear c6
     (first | rw [c6b0] | (simp only [i64_w, i32_w]; rw [c6b0]) | skip)
     by_cases c7 : x5_1 ≤ a1
     ·rw [if_pos c7] at H
      have c7b0 : decide (x5_1 ≤ a1) = true := decide_eq_true c7
      clear c7
      by_cases c8 : 0 ≤ x6_1
      ·rw [if_pos c8] at H
       have c8b0 : decide (0 ≤ x6_1) = true := decide_eq_true c8
       clear c8
       have H' := Aside0.mk H
       clear H; have hcz9_0 : wr.cell? ⟨gb102, 0, none⟩ = some (.int .i64 a0_0) := (blk_cell BK102.out 0).trans rfl; have hcz9_1 : wr.cell? ⟨gb102, 1, none⟩ = some (.int .i64 a0_1) := (blk_cell BK102.out 1).trans rfl; have hcz9_2 : wr.cell? ⟨gb102, 2, none⟩ = some (.string a0_2) := (blk_cell BK102.out 2).trans rfl; have hcz9_3 : wr.cell? ⟨gb102, 3, none⟩ = some (.slice A0_3 l0_3.length c0_3) := (blk_cell BK102.out 3).trans rfl; have hcz9_4 : wr.cell? ⟨gb102, 4, none⟩ = some (.slice A0_4 l0_4.length c0_4) := (blk_cell BK102.out 4).trans rfl; have hfz9_0 := blk_frozen BK102.out 0; have hfz9_1 := blk_frozen BK102.out 1; have hfz9_2 := blk_frozen BK102.out 2; have hfz9_3 := blk_frozen BK102.out 3; have hfz9_4 := blk_frozen BK102.out 4
       have p103 : 0 ≤ (x6_1 : Int) := of_decide_eq_true (by first | (with_reducible assumption) | assumption)
       have q103 : x6_1 < (l0_3.length : Int) := of_decide_eq_true (by first | (with_reducible assumption) | assumption)
       obtain ⟨ad103, e103, hx103_0⟩ := Kd.at_string HR0_3.out x6_1 p103 q103
       cases e103
       replace hx103_0 := (HB.out.cell (World.block_lt_of_cell? w _ hx103_0)).trans hx103_0
       replace p103 := eq_true p103; replace q103 := eq_true q103
       go_wp2
       go_roundg k1
       case measure => have := HK1.out; omega
       case rel => exact ⟨(wrap64 (x5_1 + (wrap64 (1 + ((rdOf ByteArray.empty l0_3 x6_1).size : Int))))), (wrap64 (x6_1 + 1)), (by first | rfl | (simp; done) | (simp [*]; done)), (by first | rfl | (simp; done) | (simp [*]; done)), H', ⟨by have := HK1.out; omega⟩, ⟨by (with_reducible repeat (first | refine bN ?_ _ | refine bD ?_ | refine bA ?_ _)); exact BK102.out⟩, ⟨by repeat (first | (with_reducible first | exact HB.out | apply wA | apply wN | apply wD | refine wS ?_ GE102.out) | exact HB.out)⟩⟩
      ·rw [if_neg c8] at H
       exact absurd H (by simp)
     ·rw [if_neg c7] at H
      have c7b0 : decide (x5_1 ≤ a1) = false := decide_eq_false c7
      clear c7
      have H' := Aside0.mk H
      clear H; have hcz10_0 : wr.cell? ⟨gb102, 0, none⟩ = some (.int .i64 a0_0) := (blk_cell BK102.out 0).trans rfl; have hcz10_1 : wr.cell? ⟨gb102, 1, none⟩ = some (.int .i64 a0_1) := (blk_cell BK102.out 1).trans rfl; have hcz10_2 : wr.cell? ⟨gb102, 2, none⟩ = some (.string a0_2) := (blk_cell BK102.out 2).trans rfl; have hcz10_3 : wr.cell? ⟨gb102, 3, none⟩ = some (.slice A0_3 l0_3.length c0_3) := (blk_cell BK102.out 3).trans rfl; have hcz10_4 : wr.cell? ⟨gb102, 4, none⟩ = some (.slice A0_4 l0_4.length c0_4) := (blk_cell BK102.out 4).trans rfl; have hfz10_0 := blk_frozen BK102.out 0; have hfz10_1 := blk_frozen BK102.out 1; have hfz10_2 := blk_frozen BK102.out 2; have hfz10_3 := blk_frozen BK102.out 3; have hfz10_4 := blk_frozen BK102.out 4
      go_wp2
      go_meet
      case rel => exact ⟨_, (x5_1), (by first | rfl | (simp; done) | (simp [*]; done)), H', ⟨by have := HK1.out; first | omega | exact Nat.le_refl _⟩, ⟨by (with_reducible repeat (first | refine bN ?_ _ | refine bD ?_ | refine bA ?_ _)); exact BK102.out⟩, ⟨by repeat (first | (with_reducible first | exact HB.out | apply wA | apply wN | apply wD | refine wS ?_ GE102.out) | exact HB.out)⟩⟩
    ·rw [if_neg c6] at H
     have c6b0 : decide (x6_1 < (l0_3.length : Int)) = false := decide_eq_false c6
     clear c6
     (first | rw [c6b0] | (simp only [i64_w, i32_w]; rw [c6b0]) | skip)
     have H' := Aside0.mk H
     clear H; have hcz11_0 : wr.cell? ⟨gb102, 0, none⟩ = some (.int .i64 a0_0) := (blk_cell BK102.out 0).trans rfl; have hcz11_1 : wr.cell? ⟨gb102, 1, none⟩ = some (.int .i64 a0_1) := (blk_cell BK102.out 1).trans rfl; have hcz11_2 : wr.cell? ⟨gb102, 2, none⟩ = some (.string a0_2) := (blk_cell BK102.out 2).trans rfl; have hcz11_3 : wr.cell? ⟨gb102, 3, none⟩ = some (.slice A0_3 l0_3.length c0_3) := (blk_cell BK102.out 3).trans rfl; have hcz11_4 : wr.cell? ⟨gb102, 4, none⟩ = some (.slice A0_4 l0_4.length c0_4) := (blk_cell BK102.out 4).trans rfl; have hfz11_0 := blk_frozen BK102.out 0; have hfz11_1 := blk_frozen BK102.out 1; have hfz11_2 := blk_frozen BK102.out 2; have hfz11_3 := blk_frozen BK102.out 3; have hfz11_4 := blk_frozen BK102.out 4
     go_wp2
     go_meet
     case rel => exact ⟨_, (x5_1), (by first | rfl | (simp; done) | (simp [*]; done)), H', ⟨by have := HK1.out; first | omega | exact Nat.le_refl _⟩, ⟨by (with_reducible repeat (first | refine bN ?_ _ | refine bD ?_ | refine bA ?_ _)); exact BK102.out⟩, ⟨by repeat (first | (with_reducible first | exact HB.out | apply wA | apply wN | apply wD | refine wS ?_ GE102.out) | exact HB.out)⟩⟩
 case rest =>
  clear HC3
  (try clear p1); (try clear q1); (try clear hx1); (try clear p2); (try clear c4); (try clear c6); (try clear c6b0); (try clear p6); (try clear c7); (try clear c7b0); (try clear c8); (try clear c8b0); (try clear p10); (try clear q10); (try clear hx10); (try clear hcz10_0); (try clear hcz10_1); (try clear hcz10_2); (try clear hcz10_3); (try clear hcz10_4); (try clear hcz11_0); (try clear hcz11_1); (try clear hcz11_2); (try clear hcz11_3); (try clear hcz11_4); (try clear hcz5_0); (try clear hcz5_1); (try clear hcz5_2); (try clear hcz5_3); (try clear hcz5_4); (try clear hcz9_0); (try clear hcz9_1); (try clear hcz9_2); (try clear hcz9_3); (try clear hcz9_4); (try clear hfz10_0); (try clear hfz10_1); (try clear hfz10_2); (try clear hfz10_3); (try clear hfz10_4); (try clear hfz11_0); (try clear hfz11_1); (try clear hfz11_2); (try clear hfz11_3); (try clear hfz11_4); (try clear hfz5_0); (try clear hfz5_1); (try clear hfz5_2); (try clear hfz5_3); (try clear hfz5_4); (try clear hfz9_0); (try clear hfz9_1); (try clear hfz9_2); (try clear hfz9_3); (try clear hfz9_4); (try clear hx103_0); (try clear p103); (try clear q103)
  obtain ⟨kq, x5_2, rfl, HA, HJ2, BK102, HB⟩ := hcut
  cases kq with
  | zero => exact absurd HA.out (by simp [ndjqkeep_Count.j1])
  | succ kj2 =>
   have H := HA.out
   clear HA
   simp only [ndjqkeep_Count.j1] at H
   have H' := Aside0.mk H
   clear H
   go_wp2
   go_loopg [5, 7] kj2 (fun kq v5 v7 w' => ∃ (x5_2 : Int) (x7_2 : Int), v5 = .int .i64 x5_2 ∧ v7 = .int .i64 x7_2 ∧ Aside0 (ndjqkeep_Count.l1 kq a1 x5_2 x7_2 a0_0 a0_1 a0_2 l0_3 l0_4 = some r) ∧ Aside0 (kq ≤ kj2) ∧ Aside0 (w'.heap[gb102]? = some (.cells #[.int .i64 a0_0, .int .i64 a0_1, .string a0_2, (.slice A0_3 l0_3.length c0_3), (.slice A0_4 l0_4.length c0_4)] 28 (0, 0))) ∧ Aside0 (Below w.heap.size w w'))
   case atStart => exact ⟨(x5_2), (0), (by first | rfl | (simp; done) | (simp [*]; done)), (by first | rfl | (simp; done) | (simp [*]; done)), H', ⟨Nat.le_refl _⟩, ⟨by (with_reducible repeat (first | refine bN ?_ _ | refine bD ?_ | refine bA ?_ _)); exact BK102.out⟩, ⟨by repeat (first | (with_reducible first | exact HB.out | apply wA | apply wN | apply wD | refine wS ?_ GE102.out) | exact HB.out)⟩⟩
   case round =>
    clear H'
    obtain ⟨x5_2, x7_2, rfl, rfl, HA, HK2, BK102, HB⟩ := hrel
    cases gk with
    | zero => exact absurd HA.out (by simp [ndjqkeep_Count.l1])
    | succ k2 =>
     have H := HA.out
     clear HA
     simp only [ndjqkeep_Count.l1] at H
     by_cases c12 : x7_2 < (l0_4.length : Int)
     ·rw [if_pos c12] at H
      have c12b0 : decide (x7_2 < (l0_4.length : Int)) = true := decide_eq_true c12
      clear c12
      by_cases c13 : x5_2 ≤ a1
      ·rw [if_pos c13] at H
       have c13b0 : decide (x5_2 ≤ a1) = true := decide_eq_true c13
       clear c13
       by_cases c14 : 0 ≤ x7_2
       ·rw [if_pos c14] at H
        have c14b0 : decide (0 ≤ x7_2) = true := decide_eq_true c14
        clear c14
        replace H := Option.bind_eq_some_iff.mp H
        obtain ⟨t105, A150, H⟩ := H
        replace H : (ndjqkeep_Count.l1 k2 a1 (wrap64 (x5_2 + t105)) (wrap64 (x7_2 + 1)) a0_0 a0_1 a0_2 l0_3 l0_4) = some r := H
        have A15 := Aside0.mk A150
        clear A150
        have H' := Aside0.mk H
        clear H; have hcz16_0 : wr.cell? ⟨gb102, 0, none⟩ = some (.int .i64 a0_0) := (blk_cell BK102.out 0).trans rfl; have hcz16_1 : wr.cell? ⟨gb102, 1, none⟩ = some (.int .i64 a0_1) := (blk_cell BK102.out 1).trans rfl; have hcz16_2 : wr.cell? ⟨gb102, 2, none⟩ = some (.string a0_2) := (blk_cell BK102.out 2).trans rfl; have hcz16_3 : wr.cell? ⟨gb102, 3, none⟩ = some (.slice A0_3 l0_3.length c0_3) := (blk_cell BK102.out 3).trans rfl; have hcz16_4 : wr.cell? ⟨gb102, 4, none⟩ = some (.slice A0_4 l0_4.length c0_4) := (blk_cell BK102.out 4).trans rfl; have hfz16_0 := blk_frozen BK102.out 0; have hfz16_1 := blk_frozen BK102.out 1; have hfz16_2 := blk_frozen BK102.out 2; have hfz16_3 := blk_frozen BK102.out 3; have hfz16_4 := blk_frozen BK102.out 4
        have p104 : 0 ≤ (x7_2 : Int) := of_decide_eq_true (by first | (with_reducible assumption) | assumption)
        have q104 : x7_2 < (l0_4.length : Int) := of_decide_eq_true (by first | (with_reducible assumption) | assumption)
        obtain ⟨ad104, A104_3, c104_3, A104_4, c104_4, e104, hx104_0, hx104_1, hx104_2, hx104_3, hx104_4, hl104_3, hi104_3, hl104_4, hi104_4⟩ := at_T28 HR0_4.out x7_2 p104 q104
        cases e104
        replace hx104_0 := (HB.out.cell (World.block_lt_of_cell? w _ hx104_0)).trans hx104_0
        replace hx104_1 := (HB.out.cell (World.block_lt_of_cell? w _ hx104_1)).trans hx104_1
        replace hx104_2 := (HB.out.cell (World.block_lt_of_cell? w _ hx104_2)).trans hx104_2
        replace hx104_3 := (HB.out.cell (World.block_lt_of_cell? w _ hx104_3)).trans hx104_3
        replace hx104_4 := (HB.out.cell (World.block_lt_of_cell? w _ hx104_4)).trans hx104_4
        have HR104_3 := Aside0.mk hi104_3
        have HC104_3 := Aside0.mk hl104_3
        clear hi104_3 hl104_3
        have HR104_4 := Aside0.mk hi104_4
        have HC104_4 := Aside0.mk hl104_4
        clear hi104_4 hl104_4
        replace p104 := eq_true p104; replace q104 := eq_true q104
        go_wp2_with (first | ((with_reducible refine gate_callee (f := 41) rfl ?_); refine goesL_ (some 54) rfl rfl Try.func41 (by kernel_rfl) rfl #[.agg #[.int .i64 ((rd_T28 l0_4 x7_2).f0), .int .i64 ((rd_T28 l0_4 x7_2).f1), .string ((rd_T28 l0_4 x7_2).f2), .slice A104_3 ((rd_T28 l0_4 x7_2).f3).length c104_3, .slice A104_4 ((rd_T28 l0_4 x7_2).f4).length c104_4], .int .i64 (wrap64 (a1 - x5_2))] rfl (by (try simp only [List.map_toArray, List.map_cons, List.map_nil]); first | done | rfl | (simp only [List.length_drop, List.length_take]; rfl)) ?_; (with_reducible refine (ih k2 (by have := HJ2.out; have := HK2.out; omega) ((rd_T28 l0_4 x7_2).f0) ((rd_T28 l0_4 x7_2).f1) ((rd_T28 l0_4 x7_2).f2) _ _ ((rd_T28 l0_4 x7_2).f3) _ _ ((rd_T28 l0_4 x7_2).f4) (wrap64 (a1 - x5_2)) t105 _ ?side1 ?side2 ?side3 ?side4 A15.out).mono ?_); (case side1 => repeat (first | exact (Kd.C_below HR104_3.out HB.out) | (with_reducible refine Kd.C_alloc ?_ _) | (with_reducible refine Kd.C_drewN ?_ _) | (with_reducible refine Kd.C_drew ?_))); (case side2 => exact HC104_3.out); (case side3 => repeat (first | exact (Kd.C_below HR104_4.out HB.out) | (with_reducible refine Kd.C_alloc ?_ _) | (with_reducible refine Kd.C_drewN ?_ _) | (with_reducible refine Kd.C_drew ?_))); (case side4 => exact HC104_4.out); rintro e w17 ⟨rfl, hb⟩; refine ⟨_, rfl, ?_⟩; have n0_ := Aside0.mk (blk_below (g := gb102) (o := .cells #[.int .i64 a0_0, .int .i64 a0_1, .string a0_2, .slice A0_3 l0_3.length c0_3, .slice (some ad104) l0_4.length c0_4] 28 (0, 0)) (by (with_reducible repeat (first | refine bN ?_ _ | refine bD ?_ | refine bA ?_ _)); exact BK102.out) hb); have n1_ := Aside0.mk (below_step (by repeat (first | (with_reducible first | exact HB.out | apply wA | apply wN | apply wD | refine wS ?_ GE102.out) | exact HB.out)) hb); clear BK102; clear HB; have BK102 := n0_; have HB := n1_; clear n0_ n1_; (try clear hb); (try clear hb2); (try clear hk); (try clear hi)))
        go_roundg k2
        case measure => have := HJ2.out; have := HK2.out; omega
        case rel => exact ⟨(wrap64 (x5_2 + t105)), (wrap64 (x7_2 + 1)), (by first | rfl | (simp; done) | (simp [*]; done)), (by first | rfl | (simp; done) | (simp [*]; done)), H', ⟨by have := HJ2.out; have := HK2.out; omega⟩, ⟨by (with_reducible repeat (first | refine bN ?_ _ | refine bD ?_ | refine bA ?_ _)); exact BK102.out⟩, ⟨by repeat (first | (with_reducible first | exact HB.out | apply wA | apply wN | apply wD | refine wS ?_ GE102.out) | exact HB.out)⟩⟩
       ·rw [if_neg c14] at H
        exact absurd H (by simp)
      ·rw [if_neg c13] at H
       have c13b0 : decide (x5_2 ≤ a1) = false := decide_eq_false c13
       clear c13
       obtain rfl := Option.some.inj H
       have hcz18_0 : wr.cell? ⟨gb102, 0, none⟩ = some (.int .i64 a0_0) := (blk_cell BK102.out 0).trans rfl; have hcz18_1 : wr.cell? ⟨gb102, 1, none⟩ = some (.int .i64 a0_1) := (blk_cell BK102.out 1).trans rfl; have hcz18_2 : wr.cell? ⟨gb102, 2, none⟩ = some (.string a0_2) := (blk_cell BK102.out 2).trans rfl; have hcz18_3 : wr.cell? ⟨gb102, 3, none⟩ = some (.slice A0_3 l0_3.length c0_3) := (blk_cell BK102.out 3).trans rfl; have hcz18_4 : wr.cell? ⟨gb102, 4, none⟩ = some (.slice A0_4 l0_4.length c0_4) := (blk_cell BK102.out 4).trans rfl; have hfz18_0 := blk_frozen BK102.out 0; have hfz18_1 := blk_frozen BK102.out 1; have hfz18_2 := blk_frozen BK102.out 2; have hfz18_3 := blk_frozen BK102.out 3; have hfz18_4 := blk_frozen BK102.out 4
       go_wp2
       go_ret
       exact ⟨by first | rfl | (simp [errW_none, errW_some] <;> rfl) | (simp [*, errW_none, errW_some] <;> rfl), by repeat (first | (with_reducible first | exact HB.out | apply wA | apply wN | apply wD | refine wS ?_ GE102.out) | exact HB.out)⟩
     ·rw [if_neg c12] at H
      have c12b0 : decide (x7_2 < (l0_4.length : Int)) = false := decide_eq_false c12
      clear c12
      obtain rfl := Option.some.inj H
      have hcz19_0 : wr.cell? ⟨gb102, 0, none⟩ = some (.int .i64 a0_0) := (blk_cell BK102.out 0).trans rfl; have hcz19_1 : wr.cell? ⟨gb102, 1, none⟩ = some (.int .i64 a0_1) := (blk_cell BK102.out 1).trans rfl; have hcz19_2 : wr.cell? ⟨gb102, 2, none⟩ = some (.string a0_2) := (blk_cell BK102.out 2).trans rfl; have hcz19_3 : wr.cell? ⟨gb102, 3, none⟩ = some (.slice A0_3 l0_3.length c0_3) := (blk_cell BK102.out 3).trans rfl; have hcz19_4 : wr.cell? ⟨gb102, 4, none⟩ = some (.slice A0_4 l0_4.length c0_4) := (blk_cell BK102.out 4).trans rfl; have hfz19_0 := blk_frozen BK102.out 0; have hfz19_1 := blk_frozen BK102.out 1; have hfz19_2 := blk_frozen BK102.out 2; have hfz19_3 := blk_frozen BK102.out 3; have hfz19_4 := blk_frozen BK102.out 4
      go_wp2
      go_ret
      exact ⟨by first | rfl | (simp [errW_none, errW_some] <;> rfl) | (simp [*, errW_none, errW_some] <;> rfl), by repeat (first | (with_reducible first | exact HB.out | apply wA | apply wN | apply wD | refine wS ?_ GE102.out) | exact HB.out)⟩

/-! ### utf_next: function 90 -/
def utf_next.f (a0 : ByteArray) (a1 : Int) : Option (Int × Bool) := if a1 ≥ (a0.size : Int) then (some (0, false)) else (if 0 ≤ a1 then (if a1 < (a0.size : Int) then (if (Go.bits .and .u8 (bt a0 a1) 192) = 128 then (some (wrap64 (Go.bits .and .u8 (bt a0 a1) 63), true)) else (some (0, false))) else (none)) else (none))
set_option maxHeartbeats 8000000 in
set_option maxRecDepth 100000 in
theorem utf_next.calls (a0 : ByteArray) (a1 : Int) (r1 : Int) (r2 : Bool) (w : World) (h : utf_next.f a0 a1 = some (r1, r2)) :
    Calls Try.prog 90 #[.string a0, .int .i64 a1] w fun e w' => e = .returned (.tuple #[.int .i64 r1, .bool r2]) ∧ Drawn0 w w' := by
  have H : (if a1 ≥ (a0.size : Int) then (some (0, false)) else (if 0 ≤ a1 then (if a1 < (a0.size : Int) then (if (Go.bits .and .u8 (bt a0 a1) 192) = 128 then (some (wrap64 (Go.bits .and .u8 (bt a0 a1) 63), true)) else (some (0, false))) else (none)) else (none))) = some (r1, r2) := h
  clear h
  by_cases c3 : a1 ≥ (a0.size : Int)
  · rw [if_pos c3] at H
    have c3b0 : decide ((a0.size : Int) ≤ a1) = true := decide_eq_true c3
    clear c3
    simp only [Option.some.injEq, Prod.mk.injEq] at H
    obtain ⟨rfl, rfl⟩ := H
    go_enter Try.func90, Try.ntmps90
    go_wp2
    go_ret2
    exact ⟨by first | rfl | (simp; done) | (simp [*]; done), by repeat (first | exact Drawn0.refl _ | apply Drawn0.step)⟩
  · rw [if_neg c3] at H
    have c3b0 : decide ((a0.size : Int) ≤ a1) = false := decide_eq_false c3
    clear c3
    by_cases c4 : 0 ≤ a1
    · rw [if_pos c4] at H
      have c4b0 : decide (0 ≤ a1) = true := decide_eq_true c4
      clear c4
      by_cases c5 : a1 < (a0.size : Int)
      · rw [if_pos c5] at H
        have c5b0 : decide (a1 < (a0.size : Int)) = true := decide_eq_true c5
        clear c5
        by_cases c7 : (Go.bits .and .u8 (bt a0 a1) 192) = 128
        · rw [if_pos c7] at H
          have c7b0 : ((Go.bits .and .u8 (bt a0 a1) 192) == 128) = true := beq_iff_eq.mpr c7
          have c7b1 : ((Go.bits .and .u8 (bt a0 a1) 192) != 128) = false := bne_eq_false_iff_eq.mpr c7
          clear c7
          simp only [Option.some.injEq, Prod.mk.injEq] at H
          obtain ⟨rfl, rfl⟩ := H
          have p6 : 0 ≤ (a1 : Int) := of_decide_eq_true (by first | (with_reducible assumption) | assumption)
          have q6 : a1 < (a0.size : Int) := of_decide_eq_true (by first | (with_reducible assumption) | assumption)
          have hx6 := bt_at a0 a1
          replace p6 := eq_true p6
          replace q6 := eq_true q6
          have p8 : 0 ≤ (a1 : Int) := of_decide_eq_true (by first | (with_reducible assumption) | assumption)
          have q8 : a1 < (a0.size : Int) := of_decide_eq_true (by first | (with_reducible assumption) | assumption)
          have hx8 := bt_at a0 a1
          replace p8 := eq_true p8
          replace q8 := eq_true q8
          go_enter Try.func90, Try.ntmps90
          go_wp2
          go_ret2
          exact ⟨by first | rfl | (simp; done) | (simp [*]; done), by repeat (first | exact Drawn0.refl _ | apply Drawn0.step)⟩
        · rw [if_neg c7] at H
          have c7b0 : ((Go.bits .and .u8 (bt a0 a1) 192) == 128) = false := beq_eq_false_iff_ne.mpr c7
          have c7b1 : ((Go.bits .and .u8 (bt a0 a1) 192) != 128) = true := bne_iff_ne.mpr c7
          simp only [Option.some.injEq, Prod.mk.injEq] at H
          obtain ⟨rfl, rfl⟩ := H
          have p6 : 0 ≤ (a1 : Int) := of_decide_eq_true (by first | (with_reducible assumption) | assumption)
          have q6 : a1 < (a0.size : Int) := of_decide_eq_true (by first | (with_reducible assumption) | assumption)
          have hx6 := bt_at a0 a1
          replace p6 := eq_true p6
          replace q6 := eq_true q6
          go_enter Try.func90, Try.ntmps90
          go_wp2
          go_ret2
          exact ⟨by first | rfl | (simp; done) | (simp [*]; done), by repeat (first | exact Drawn0.refl _ | apply Drawn0.step)⟩
      · rw [if_neg c5] at H
        exact absurd H (by simp)
    · rw [if_neg c4] at H
      exact absurd H (by simp)

/-! ### utf_point: function 91 -/
def utf_point.f (a0 : Int) : Option (Bool) := if a0 ≥ 0 then (if a0 ≤ 1114111 then (if a0 < 55296 then (some true) else (some (decide (a0 > 57343)))) else (some false)) else (some false)
set_option maxHeartbeats 8000000 in
set_option maxRecDepth 100000 in
theorem utf_point.calls (a0 : Int) (r : Bool) (w : World) (h : utf_point.f a0 = some r) :
    Calls Try.prog 91 #[.int .i64 a0] w fun e w' => e = .returned (.bool r) ∧ Drawn0 w w' := by
  have H : (if a0 ≥ 0 then (if a0 ≤ 1114111 then (if a0 < 55296 then (some true) else (some (decide (a0 > 57343)))) else (some false)) else (some false)) = some r := h
  clear h
  by_cases c2 : a0 ≥ 0
  · rw [if_pos c2] at H
    have c2b0 : decide (0 ≤ a0) = true := decide_eq_true c2
    clear c2
    by_cases c3 : a0 ≤ 1114111
    · rw [if_pos c3] at H
      have c3b0 : decide (a0 ≤ 1114111) = true := decide_eq_true c3
      clear c3
      by_cases c4 : a0 < 55296
      · rw [if_pos c4] at H
        have c4b0 : decide (a0 < 55296) = true := decide_eq_true c4
        clear c4
        obtain rfl := Option.some.inj H
        go_enter Try.func91, Try.ntmps91
        go_wp2
        go_ret
        exact ⟨by first | rfl | (simp; done) | (simp [*]; done), by repeat (first | exact Drawn0.refl _ | apply Drawn0.step)⟩
      · rw [if_neg c4] at H
        have c4b0 : decide (a0 < 55296) = false := decide_eq_false c4
        clear c4
        obtain rfl := Option.some.inj H
        go_enter Try.func91, Try.ntmps91
        go_wp2
        go_ret
        exact ⟨by first | rfl | (simp; done) | (simp [*]; done), by repeat (first | exact Drawn0.refl _ | apply Drawn0.step)⟩
    · rw [if_neg c3] at H
      have c3b0 : decide (a0 ≤ 1114111) = false := decide_eq_false c3
      clear c3
      obtain rfl := Option.some.inj H
      go_enter Try.func91, Try.ntmps91
      go_wp2
      go_ret
      exact ⟨by first | rfl | (simp; done) | (simp [*]; done), by repeat (first | exact Drawn0.refl _ | apply Drawn0.step)⟩
  · rw [if_neg c2] at H
    have c2b0 : decide (0 ≤ a0) = false := decide_eq_false c2
    clear c2
    obtain rfl := Option.some.inj H
    go_enter Try.func91, Try.ntmps91
    go_wp2
    go_ret
    exact ⟨by first | rfl | (simp; done) | (simp [*]; done), by repeat (first | exact Drawn0.refl _ | apply Drawn0.step)⟩

end Go.Proofs.Ytgpjkojnmeaoiaa.QV

namespace Go.Proofs.Ytgpjkojnmeaoiaa.QV
open Go.RowKit Go.Proofs.YtgpjkojnmeaoiaaW.PrintWords Go.Proofs.YtgpjkojnmeaoiaaW.PrintLast Go.Proofs.YtgpjkojnmeaoiaaW.PrintMore
attribute [local go_sem] max2_int min2_int max_two min_two max_three min_three max_four min_four   -- for this text's walks alone
set_option linter.unusedVariables false
set_option linter.unusedSimpArgs false

/-! ### utf_Decode: function 83 -/
mutual
def utf_Decode.j0 : Nat → ByteArray → Int → Bool → Option (Int × Int × Bool)
 | 0, _, _, _ => none
 | k + 1, x0, x1, x21 => if x21 = true then (some (0, 0, false)) else (if 0 ≤ x1 then (if x1 < (x0.size : Int) then (if (wrap64 (bt x0 x1)) < 128 then (some (wrap64 (bt x0 x1), 1, true)) else (if (wrap64 (bt x0 x1)) ≥ 192 then (utf_Decode.j1 k x0 x1 (wrap64 (bt x0 x1)) (decide ((wrap64 (bt x0 x1)) < 224))) else (utf_Decode.j1 k x0 x1 (wrap64 (bt x0 x1)) false))) else (none)) else (none))
def utf_Decode.j3 : Nat → ByteArray → Int → Int → Int → Int → Option (Int × Int × Bool)
 | 0, _, _, _, _, _ => none
 | k + 1, x0, x1, x8, x9, x10 => utf_Decode.l0 k x0 x1 x8 x9 x10 1
def utf_Decode.l0 : Nat → ByteArray → Int → Int → Int → Int → Int → Option (Int × Int × Bool)
 | 0, _, _, _, _, _, _ => none
 | k + 1, x0, x1, x8, x9, x10, x11 => if x11 < x8 then ((utf_next.f x0 (wrap64 (x1 + x11))).bind fun bt106 => (if bt106.2 = true then (utf_Decode.l0 k x0 x1 x8 (Go.bits .or .i64 (wrap64 (x9 * 64)) bt106.1) x10 (wrap64 (x11 + 1))) else (some (0, 0, false)))) else (if x9 < x10 then (some (0, 0, false)) else ((utf_point.f x9).bind fun t108 => (if t108 = true then (some (x9, x8, true)) else (some (0, 0, false)))))
def utf_Decode.j1 : Nat → ByteArray → Int → Int → Bool → Option (Int × Int × Bool)
 | 0, _, _, _, _ => none
 | k + 1, x0, x1, x7, x30 => if x30 = true then (utf_Decode.j3 k x0 x1 2 (Go.bits .and .i64 x7 31) 128) else (if x7 ≥ 224 then (utf_Decode.j2 k x0 x1 x7 (decide (x7 < 240))) else (utf_Decode.j2 k x0 x1 x7 false))
def utf_Decode.j2 : Nat → ByteArray → Int → Int → Bool → Option (Int × Int × Bool)
 | 0, _, _, _, _ => none
 | k + 1, x0, x1, x7, x39 => if x39 = true then (utf_Decode.j3 k x0 x1 3 (Go.bits .and .i64 x7 15) 2048) else (if x7 ≥ 240 then (if x7 < 248 then (utf_Decode.j3 k x0 x1 4 (Go.bits .and .i64 x7 7) 65536) else (some (0, 0, false))) else (some (0, 0, false)))
end
def utf_Decode.f (k : Nat) (a0 : ByteArray) (a1 : Int) : Option (Int × Int × Bool) := if a1 < 0 then (utf_Decode.j0 k a0 a1 true) else (utf_Decode.j0 k a0 a1 (decide (a1 ≥ (a0.size : Int))))
theorem utf_Decode.mono_l : ∀ k, (∀ y0 y1 y2, LeO (utf_Decode.j0 k y0 y1 y2) (utf_Decode.j0 (k + 1) y0 y1 y2)) ∧ (∀ y0 y1 y2 y3 y4, LeO (utf_Decode.j3 k y0 y1 y2 y3 y4) (utf_Decode.j3 (k + 1) y0 y1 y2 y3 y4)) ∧ (∀ y0 y1 y2 y3 y4 y5, LeO (utf_Decode.l0 k y0 y1 y2 y3 y4 y5) (utf_Decode.l0 (k + 1) y0 y1 y2 y3 y4 y5)) ∧ (∀ y0 y1 y2 y3, LeO (utf_Decode.j1 k y0 y1 y2 y3) (utf_Decode.j1 (k + 1) y0 y1 y2 y3)) ∧ (∀ y0 y1 y2 y3, LeO (utf_Decode.j2 k y0 y1 y2 y3) (utf_Decode.j2 (k + 1) y0 y1 y2 y3))
 | 0 => ⟨fun _ _ _ r h => by simp [utf_Decode.j0] at h, fun _ _ _ _ _ r h => by simp [utf_Decode.j3] at h, fun _ _ _ _ _ _ r h => by simp [utf_Decode.l0] at h, fun _ _ _ _ r h => by simp [utf_Decode.j1] at h, fun _ _ _ _ r h => by simp [utf_Decode.j2] at h⟩
 | k + 1 => by
  obtain ⟨ih0, ih1, ih2, ih3, ih4⟩ := utf_Decode.mono_l k
  refine ⟨?_, ?_, ?_, ?_, ?_⟩
  ·intro y0 y1 y2
   unfold utf_Decode.j0
   repeat' first
   | (with_reducible exact ih0 _ _ _)
   | (with_reducible exact ih1 _ _ _ _ _)
   | (with_reducible exact ih2 _ _ _ _ _ _)
   | (with_reducible exact ih3 _ _ _ _)
   | (with_reducible exact ih4 _ _ _ _)
   | (with_reducible exact LeO.refl _)
   | (with_reducible exact LeO.none _)
   | (with_reducible refine LeO.ite ?_ ?_)
   | (with_reducible refine LeO.bind ?_ (fun _ => ?_))
   | exact ih0 _ _ _
   | exact ih1 _ _ _ _ _
   | exact ih2 _ _ _ _ _ _
   | exact ih3 _ _ _ _
   | exact ih4 _ _ _ _
   | exact LeO.none _
   | refine LeO.ite ?_ ?_
   | refine LeO.bind ?_ (fun _ => ?_)
  ·intro y0 y1 y2 y3 y4
   unfold utf_Decode.j3
   repeat' first
   | (with_reducible exact ih0 _ _ _)
   | (with_reducible exact ih1 _ _ _ _ _)
   | (with_reducible exact ih2 _ _ _ _ _ _)
   | (with_reducible exact ih3 _ _ _ _)
   | (with_reducible exact ih4 _ _ _ _)
   | (with_reducible exact LeO.refl _)
   | (with_reducible exact LeO.none _)
   | (with_reducible refine LeO.ite ?_ ?_)
   | (with_reducible refine LeO.bind ?_ (fun _ => ?_))
   | exact ih0 _ _ _
   | exact ih1 _ _ _ _ _
   | exact ih2 _ _ _ _ _ _
   | exact ih3 _ _ _ _
   | exact ih4 _ _ _ _
   | exact LeO.none _
   | refine LeO.ite ?_ ?_
   | refine LeO.bind ?_ (fun _ => ?_)
  ·intro y0 y1 y2 y3 y4 y5
   unfold utf_Decode.l0
   repeat' first
   | (with_reducible exact ih0 _ _ _)
   | (with_reducible exact ih1 _ _ _ _ _)
   | (with_reducible exact ih2 _ _ _ _ _ _)
   | (with_reducible exact ih3 _ _ _ _)
   | (with_reducible exact ih4 _ _ _ _)
   | (with_reducible exact LeO.refl _)
   | (with_reducible exact LeO.none _)
   | (with_reducible refine LeO.ite ?_ ?_)
   | (with_reducible refine LeO.bind ?_ (fun _ => ?_))
   | exact ih0 _ _ _
   | exact ih1 _ _ _ _ _
   | exact ih2 _ _ _ _ _ _
   | exact ih3 _ _ _ _
   | exact ih4 _ _ _ _
   | exact LeO.none _
   | refine LeO.ite ?_ ?_
   | refine LeO.bind ?_ (fun _ => ?_)
  ·intro y0 y1 y2 y3
   unfold utf_Decode.j1
   repeat' first
   | (with_reducible exact ih0 _ _ _)
   | (with_reducible exact ih1 _ _ _ _ _)
   | (with_reducible exact ih2 _ _ _ _ _ _)
   | (with_reducible exact ih3 _ _ _ _)
   | (with_reducible exact ih4 _ _ _ _)
   | (with_reducible exact LeO.refl _)
   | (with_reducible exact LeO.none _)
   | (with_reducible refine LeO.ite ?_ ?_)
   | (with_reducible refine LeO.bind ?_ (fun _ => ?_))
   | exact ih0 _ _ _
   | exact ih1 _ _ _ _ _
   | exact ih2 _ _ _ _ _ _
   | exact ih3 _ _ _ _
   | exact ih4 _ _ _ _
   | exact LeO.none _
   | refine LeO.ite ?_ ?_
   | refine LeO.bind ?_ (fun _ => ?_)
  ·intro y0 y1 y2 y3
   unfold utf_Decode.j2
   repeat' first
   | (with_reducible exact ih0 _ _ _)
   | (with_reducible exact ih1 _ _ _ _ _)
   | (with_reducible exact ih2 _ _ _ _ _ _)
   | (with_reducible exact ih3 _ _ _ _)
   | (with_reducible exact ih4 _ _ _ _)
   | (with_reducible exact LeO.refl _)
   | (with_reducible exact LeO.none _)
   | (with_reducible refine LeO.ite ?_ ?_)
   | (with_reducible refine LeO.bind ?_ (fun _ => ?_))
   | exact ih0 _ _ _
   | exact ih1 _ _ _ _ _
   | exact ih2 _ _ _ _ _ _
   | exact ih3 _ _ _ _
   | exact ih4 _ _ _ _
   | exact LeO.none _
   | refine LeO.ite ?_ ?_
   | refine LeO.bind ?_ (fun _ => ?_)
theorem utf_Decode.mono : ∀ a0 a1 k, LeO (utf_Decode.f k a0 a1) (utf_Decode.f (k + 1) a0 a1) := by
 intro a0 a1 k
 obtain ⟨ih0, ih1, ih2, ih3, ih4⟩ := utf_Decode.mono_l k
 unfold utf_Decode.f
 repeat' first
   | (with_reducible exact ih0 _ _ _)
   | (with_reducible exact ih1 _ _ _ _ _)
   | (with_reducible exact ih2 _ _ _ _ _ _)
   | (with_reducible exact ih3 _ _ _ _)
   | (with_reducible exact ih4 _ _ _ _)
   | (with_reducible exact LeO.refl _)
   | (with_reducible exact LeO.none _)
   | (with_reducible refine LeO.ite ?_ ?_)
   | (with_reducible refine LeO.bind ?_ (fun _ => ?_))
   | exact ih0 _ _ _
   | exact ih1 _ _ _ _ _
   | exact ih2 _ _ _ _ _ _
   | exact ih3 _ _ _ _
   | exact ih4 _ _ _ _
   | exact LeO.none _
   | refine LeO.ite ?_ ?_
   | refine LeO.bind ?_ (fun _ => ?_)
set_option maxHeartbeats 8000000 in
set_option maxRecDepth 100000 in
theorem utf_Decode.calls (k : Nat) (a0 : ByteArray) (a1 : Int) (r1 : Int) (r2 : Int) (r3 : Bool) (w : World) (h : utf_Decode.f k a0 a1 = some (r1, r2, r3)) :
  Calls Try.prog 83 #[.string a0, .int .i64 a1] w fun e w' => e = .returned (.tuple #[.int .i64 r1, .int .i64 r2, .bool r3]) ∧ Drawn0 w w' := by
 have H : (if a1 < 0 then (utf_Decode.j0 k a0 a1 true) else (utf_Decode.j0 k a0 a1 (decide (a1 ≥ (a0.size : Int))))) = some (r1, r2, r3) := h
 clear h
 have HC3 := Aside0.mk H
 clear H
 go_enter Try.func83, Try.ntmps83
 go_upto_region 1 with (fail)
 go_cut [21] (fun v21 wc => ∃ (kq : Nat) (x21_2 : Bool), v21 = .bool x21_2 ∧ Aside0 (utf_Decode.j0 kq a0 a1 x21_2 = some (r1, r2, r3)) ∧ Aside0 (kq ≤ k) ∧ Drawn0 w wc)
 case first =>
  have H := HC3.out
  clear HC3
  by_cases c4 : a1 < 0
  ·rw [if_pos c4] at H
   have c4b0 : decide (a1 < 0) = true := decide_eq_true c4
   clear c4
   (first | rw [c4b0] | (simp only [i64_w, i32_w]; rw [c4b0]) | skip)
   have H' := Aside0.mk H
   clear H
   go_wp2
   go_meet
   case rel => exact ⟨_, (true), (by first | rfl | (simp; done) | (simp [*]; done)), H', ⟨by first | omega | exact Nat.le_refl _⟩, by repeat (first | exact Drawn0.refl _ | apply Drawn0.step)⟩
  ·rw [if_neg c4] at H
   have c4b0 : decide (a1 < 0) = false := decide_eq_false c4
   clear c4
   (first | rw [c4b0] | (simp only [i64_w, i32_w]; rw [c4b0]) | skip)
   have H' := Aside0.mk H
   clear H
   go_wp2
   go_meet
   case rel => exact ⟨_, (decide (a1 ≥ (a0.size : Int))), (by first | rfl | (simp; done) | (simp [*]; done)), H', ⟨by first | omega | exact Nat.le_refl _⟩, by repeat (first | exact Drawn0.refl _ | apply Drawn0.step)⟩
 case rest =>
  clear HC3
  (try clear p2); (try clear c4); (try clear c4b0)
  obtain ⟨kq, x21_2, rfl, HA, HJ2, ⟨mc2, rfl⟩⟩ := hcut
  cases kq with
  | zero => exact absurd HA.out (by simp [utf_Decode.j0])
  | succ kj2 =>
   have H := HA.out
   clear HA
   simp only [utf_Decode.j0] at H
   by_cases c5 : x21_2 = true
   ·subst c5
    have H1 : (some (0, 0, false)) = some (r1, r2, r3) := by rw [if_pos rfl] at H; exact H
    clear H; have H := H1; clear H1
    simp only [Option.some.injEq, Prod.mk.injEq] at H
    obtain ⟨rfl, rfl, rfl⟩ := H
    go_wp2
    go_ret3
    exact ⟨by first | rfl | (simp; done) | (simp [*]; done), by repeat (first | exact Drawn0.refl _ | apply Drawn0.step)⟩
   ·replace c5 := Bool.eq_false_iff.mpr c5
    subst c5
    have H1 : (if 0 ≤ a1 then (if a1 < (a0.size : Int) then (if (wrap64 (bt a0 a1)) < 128 then (some (wrap64 (bt a0 a1), 1, true)) else (if (wrap64 (bt a0 a1)) ≥ 192 then (utf_Decode.j1 kj2 a0 a1 (wrap64 (bt a0 a1)) (decide ((wrap64 (bt a0 a1)) < 224))) else (utf_Decode.j1 kj2 a0 a1 (wrap64 (bt a0 a1)) false))) else (none)) else (none)) = some (r1, r2, r3) := by rw [if_neg (show ¬ (false = true) by decide)] at H; exact H
    clear H; have H := H1; clear H1
    by_cases c6 : 0 ≤ a1
    ·rw [if_pos c6] at H
     have c6b0 : decide (0 ≤ a1) = true := decide_eq_true c6
     clear c6
     by_cases c7 : a1 < (a0.size : Int)
     ·rw [if_pos c7] at H
      have c7b0 : decide (a1 < (a0.size : Int)) = true := decide_eq_true c7
      clear c7
      have HC9 := Aside0.mk H
      clear H
      have p8 : 0 ≤ (a1 : Int) := of_decide_eq_true (by first | (with_reducible assumption) | assumption)
      have q8 : a1 < (a0.size : Int) := of_decide_eq_true (by first | (with_reducible assumption) | assumption)
      have hx8 := bt_at a0 a1
      replace p8 := eq_true p8; replace q8 := eq_true q8
      go_upto_block 0 with (fail)
      go_cut [8, 9, 10] (fun v8 v9 v10 wc => ∃ (kq : Nat) (x8_8 : Int) (x9_8 : Int) (x10_8 : Int), v8 = .int .i64 x8_8 ∧ v9 = .int .i64 x9_8 ∧ v10 = .int .i64 x10_8 ∧ Aside0 (utf_Decode.j3 kq a0 a1 x8_8 x9_8 x10_8 = some (r1, r2, r3)) ∧ Aside0 (kq ≤ kj2) ∧ Drawn0 w wc)
      case first =>
       have H := HC9.out
       clear HC9
       by_cases c10 : (wrap64 (bt a0 a1)) < 128
       ·rw [if_pos c10] at H
        have c10b0 : decide ((wrap64 (bt a0 a1)) < 128) = true := decide_eq_true c10
        clear c10
        (first | rw [c10b0] | (simp only [i64_w, i32_w]; rw [c10b0]) | skip)
        simp only [Option.some.injEq, Prod.mk.injEq] at H
        obtain ⟨rfl, rfl, rfl⟩ := H
        go_wp2
        go_ret3
        exact ⟨by first | rfl | (simp; done) | (simp [*]; done), by repeat (first | exact Drawn0.refl _ | apply Drawn0.step)⟩
       ·rw [if_neg c10] at H
        have c10b0 : decide ((wrap64 (bt a0 a1)) < 128) = false := decide_eq_false c10
        clear c10
        (first | rw [c10b0] | (simp only [i64_w, i32_w]; rw [c10b0]) | skip)
        have HC11 := Aside0.mk H
        clear H
        go_upto_region 8 with (fail)
        go_cut [30] (fun v30 wc => ∃ (kq : Nat) (x30_10 : Bool), v30 = .bool x30_10 ∧ Aside0 (utf_Decode.j1 kq a0 a1 (wrap64 (bt a0 a1)) x30_10 = some (r1, r2, r3)) ∧ Aside0 (kq ≤ kj2) ∧ Drawn0 w wc)
        case first =>
         have H := HC11.out
         clear HC11
         by_cases c12 : (wrap64 (bt a0 a1)) ≥ 192
         ·rw [if_pos c12] at H
          have c12b0 : decide (192 ≤ (wrap64 (bt a0 a1))) = true := decide_eq_true c12
          clear c12
          (first | rw [c12b0] | (simp only [i64_w, i32_w]; rw [c12b0]) | skip)
          have H' := Aside0.mk H
          clear H
          go_wp2
          go_meet
          case rel => exact ⟨_, (decide ((wrap64 (bt a0 a1)) < 224)), (by first | rfl | (simp; done) | (simp [*]; done)), H', ⟨by have := HJ2.out; first | omega | exact Nat.le_refl _⟩, by repeat (first | exact Drawn0.refl _ | apply Drawn0.step)⟩
         ·rw [if_neg c12] at H
          have c12b0 : decide (192 ≤ (wrap64 (bt a0 a1))) = false := decide_eq_false c12
          clear c12
          (first | rw [c12b0] | (simp only [i64_w, i32_w]; rw [c12b0]) | skip)
          have H' := Aside0.mk H
          clear H
          go_wp2
          go_meet
          case rel => exact ⟨_, (false), (by first | rfl | (simp; done) | (simp [*]; done)), H', ⟨by have := HJ2.out; first | omega | exact Nat.le_refl _⟩, by repeat (first | exact Drawn0.refl _ | apply Drawn0.step)⟩
        case rest =>
         clear HC11
         (try clear c1); (try clear c2); (try clear c5); (try clear c6); (try clear c6b0); (try clear p6); (try clear c7); (try clear c7b0); (try clear c8); (try clear p8); (try clear q8); (try clear hx8); (try clear c10); (try clear c10b0); (try clear c12); (try clear c12b0)
         obtain ⟨kq, x30_10, rfl, HA, HJ10, ⟨mc10, rfl⟩⟩ := hcut
         cases kq with
         | zero => exact absurd HA.out (by simp [utf_Decode.j1])
         | succ kj10 =>
          have H := HA.out
          clear HA
          simp only [utf_Decode.j1] at H
          by_cases c13 : x30_10 = true
          ·subst c13
           have H1 : (utf_Decode.j3 kj10 a0 a1 2 (Go.bits .and .i64 (wrap64 (bt a0 a1)) 31) 128) = some (r1, r2, r3) := by rw [if_pos rfl] at H; exact H
           clear H; have H := H1; clear H1
           have H' := Aside0.mk H
           clear H
           go_wp2
           go_meet
           case rel => exact ⟨_, (2), (Go.bits .and .i64 (wrap64 (bt a0 a1)) 31), (128), (by first | rfl | (simp; done) | (simp [*]; done)), (by first | rfl | (simp; done) | (simp [*]; done)), (by first | rfl | (simp; done) | (simp [*]; done)), H', ⟨by have := HJ2.out; have := HJ10.out; first | omega | exact Nat.le_refl _⟩, by repeat (first | exact Drawn0.refl _ | apply Drawn0.step)⟩
          ·replace c13 := Bool.eq_false_iff.mpr c13
           subst c13
           have H1 : (if (wrap64 (bt a0 a1)) ≥ 224 then (utf_Decode.j2 kj10 a0 a1 (wrap64 (bt a0 a1)) (decide ((wrap64 (bt a0 a1)) < 240))) else (utf_Decode.j2 kj10 a0 a1 (wrap64 (bt a0 a1)) false)) = some (r1, r2, r3) := by rw [if_neg (show ¬ (false = true) by decide)] at H; exact H
           clear H; have H := H1; clear H1
           have HC14 := Aside0.mk H
           clear H
           go_upto_region 10 with (fail)
           go_cut [39] (fun v39 wc => ∃ (kq : Nat) (x39_13 : Bool), v39 = .bool x39_13 ∧ Aside0 (utf_Decode.j2 kq a0 a1 (wrap64 (bt a0 a1)) x39_13 = some (r1, r2, r3)) ∧ Aside0 (kq ≤ kj10) ∧ Drawn0 w wc)
           case first =>
            have H := HC14.out
            clear HC14
            by_cases c15 : (wrap64 (bt a0 a1)) ≥ 224
            ·rw [if_pos c15] at H
             have c15b0 : decide (224 ≤ (wrap64 (bt a0 a1))) = true := decide_eq_true c15
             clear c15
             (first | rw [c15b0] | (simp only [i64_w, i32_w]; rw [c15b0]) | skip)
             have H' := Aside0.mk H
             clear H
             go_wp2
             go_meet
             case rel => exact ⟨_, (decide ((wrap64 (bt a0 a1)) < 240)), (by first | rfl | (simp; done) | (simp [*]; done)), H', ⟨by have := HJ2.out; have := HJ10.out; first | omega | exact Nat.le_refl _⟩, by repeat (first | exact Drawn0.refl _ | apply Drawn0.step)⟩
            ·rw [if_neg c15] at H
             have c15b0 : decide (224 ≤ (wrap64 (bt a0 a1))) = false := decide_eq_false c15
             clear c15
             (first | rw [c15b0] | (simp only [i64_w, i32_w]; rw [c15b0]) | skip)
             have H' := Aside0.mk H
             clear H
             go_wp2
             go_meet
             case rel => exact ⟨_, (false), (by first | rfl | (simp; done) | (simp [*]; done)), H', ⟨by have := HJ2.out; have := HJ10.out; first | omega | exact Nat.le_refl _⟩, by repeat (first | exact Drawn0.refl _ | apply Drawn0.step)⟩
           case rest =>
            clear HC14
            (try clear c13); (try clear c15); (try clear c15b0)
            obtain ⟨kq, x39_13, rfl, HA, HJ13, ⟨mc13, rfl⟩⟩ := hcut
            cases kq with
            | zero => exact absurd HA.out (by simp [utf_Decode.j2])
            | succ kj13 =>
             have H := HA.out
             clear HA
             simp only [utf_Decode.j2] at H
             by_cases c16 : x39_13 = true
             ·subst c16
              have H1 : (utf_Decode.j3 kj13 a0 a1 3 (Go.bits .and .i64 (wrap64 (bt a0 a1)) 15) 2048) = some (r1, r2, r3) := by rw [if_pos rfl] at H; exact H
              clear H; have H := H1; clear H1
              have H' := Aside0.mk H
              clear H
              go_wp2
              go_meet
              case rel => exact ⟨_, (3), (Go.bits .and .i64 (wrap64 (bt a0 a1)) 15), (2048), (by first | rfl | (simp; done) | (simp [*]; done)), (by first | rfl | (simp; done) | (simp [*]; done)), (by first | rfl | (simp; done) | (simp [*]; done)), H', ⟨by have := HJ2.out; have := HJ10.out; have := HJ13.out; first | omega | exact Nat.le_refl _⟩, by repeat (first | exact Drawn0.refl _ | apply Drawn0.step)⟩
             ·replace c16 := Bool.eq_false_iff.mpr c16
              subst c16
              have H1 : (if (wrap64 (bt a0 a1)) ≥ 240 then (if (wrap64 (bt a0 a1)) < 248 then (utf_Decode.j3 kj13 a0 a1 4 (Go.bits .and .i64 (wrap64 (bt a0 a1)) 7) 65536) else (some (0, 0, false))) else (some (0, 0, false))) = some (r1, r2, r3) := by rw [if_neg (show ¬ (false = true) by decide)] at H; exact H
              clear H; have H := H1; clear H1
              by_cases c17 : (wrap64 (bt a0 a1)) ≥ 240
              ·rw [if_pos c17] at H
               have c17b0 : decide (240 ≤ (wrap64 (bt a0 a1))) = true := decide_eq_true c17
               clear c17
               by_cases c18 : (wrap64 (bt a0 a1)) < 248
               ·rw [if_pos c18] at H
                have c18b0 : decide ((wrap64 (bt a0 a1)) < 248) = true := decide_eq_true c18
                clear c18
                have H' := Aside0.mk H
                clear H
                go_wp2
                go_meet
                case rel => exact ⟨_, (4), (Go.bits .and .i64 (wrap64 (bt a0 a1)) 7), (65536), (by first | rfl | (simp; done) | (simp [*]; done)), (by first | rfl | (simp; done) | (simp [*]; done)), (by first | rfl | (simp; done) | (simp [*]; done)), H', ⟨by have := HJ2.out; have := HJ10.out; have := HJ13.out; first | omega | exact Nat.le_refl _⟩, by repeat (first | exact Drawn0.refl _ | apply Drawn0.step)⟩
               ·rw [if_neg c18] at H
                have c18b0 : decide ((wrap64 (bt a0 a1)) < 248) = false := decide_eq_false c18
                clear c18
                simp only [Option.some.injEq, Prod.mk.injEq] at H
                obtain ⟨rfl, rfl, rfl⟩ := H
                go_wp2
                go_ret3
                exact ⟨by first | rfl | (simp; done) | (simp [*]; done), by repeat (first | exact Drawn0.refl _ | apply Drawn0.step)⟩
              ·rw [if_neg c17] at H
               have c17b0 : decide (240 ≤ (wrap64 (bt a0 a1))) = false := decide_eq_false c17
               clear c17
               simp only [Option.some.injEq, Prod.mk.injEq] at H
               obtain ⟨rfl, rfl, rfl⟩ := H
               go_wp2
               go_ret3
               exact ⟨by first | rfl | (simp; done) | (simp [*]; done), by repeat (first | exact Drawn0.refl _ | apply Drawn0.step)⟩
      case rest =>
       clear HC9
       (try clear c1); (try clear c2); (try clear c5); (try clear c6); (try clear c6b0); (try clear p6); (try clear c7); (try clear c7b0); (try clear c8); (try clear p8); (try clear q8); (try clear hx8); (try clear c10); (try clear c10b0); (try clear c12); (try clear c12b0); (try clear c13); (try clear c15); (try clear c15b0); (try clear c16); (try clear c17); (try clear c17b0); (try clear c18); (try clear c18b0)
       obtain ⟨kq, x8_8, x9_8, x10_8, rfl, rfl, rfl, HA, HJ8, ⟨mc8, rfl⟩⟩ := hcut
       cases kq with
       | zero => exact absurd HA.out (by simp [utf_Decode.j3])
       | succ kj8 =>
        have H := HA.out
        clear HA
        simp only [utf_Decode.j3] at H
        have H' := Aside0.mk H
        clear H
        go_wp2
        go_loopg [9, 11] kj8 (fun kq v9 v11 w' => ∃ (x9_3 : Int) (x11_3 : Int), v9 = .int .i64 x9_3 ∧ v11 = .int .i64 x11_3 ∧ Aside0 (utf_Decode.l0 kq a0 a1 x8_8 x9_3 x10_8 x11_3 = some (r1, r2, r3)) ∧ Aside0 (kq ≤ kj8) ∧ Drawn0 w w')
        case atStart => exact ⟨(x9_8), (1), (by first | rfl | (simp; done) | (simp [*]; done)), (by first | rfl | (simp; done) | (simp [*]; done)), H', ⟨Nat.le_refl _⟩, by repeat (first | exact Drawn0.refl _ | apply Drawn0.step)⟩
        case round =>
         clear H'
         obtain ⟨x9_3, x11_3, rfl, rfl, HA, HK3, ⟨m3, rfl⟩⟩ := hrel
         cases gk with
         | zero => exact absurd HA.out (by simp [utf_Decode.l0])
         | succ k3 =>
          have H := HA.out
          clear HA
          simp only [utf_Decode.l0] at H
          by_cases c19 : x11_3 < x8_8
          ·rw [if_pos c19] at H
           have c19b0 : decide (x11_3 < x8_8) = true := decide_eq_true c19
           clear c19
           replace H := Option.bind_eq_some_iff.mp H
           obtain ⟨⟨t106, t107⟩, A200, H⟩ := H
           replace H : (if t107 = true then (utf_Decode.l0 k3 a0 a1 x8_8 (Go.bits .or .i64 (wrap64 (x9_3 * 64)) t106) x10_8 (wrap64 (x11_3 + 1))) else (some (0, 0, false))) = some (r1, r2, r3) := H
           have A20 := Aside0.mk A200
           clear A200
           by_cases c21 : t107 = true
           ·subst c21
            have H1 : (utf_Decode.l0 k3 a0 a1 x8_8 (Go.bits .or .i64 (wrap64 (x9_3 * 64)) t106) x10_8 (wrap64 (x11_3 + 1))) = some (r1, r2, r3) := by rw [if_pos rfl] at H; exact H
            clear H; have H := H1; clear H1
            have H' := Aside0.mk H
            clear H
            go_wp2_with (first | ((with_reducible refine gate_callee (f := 90) rfl ?_); refine goesL_ (some 67) rfl rfl Try.func90 (by kernel_rfl) rfl #[.string a0, .int .i64 (wrap64 (a1 + x11_3))] rfl (by (try simp only [List.map_toArray, List.map_cons, List.map_nil]); first | done | rfl | (simp only [List.length_drop, List.length_take]; rfl)) ?_; (with_reducible refine (utf_next.calls a0 (wrap64 (a1 + x11_3)) t106 true _ A20.out).mono ?_); rintro e w' ⟨rfl, ⟨nd, rfl⟩⟩; refine ⟨_, rfl, ?_⟩))
            go_roundg k3
            case measure => have := HJ2.out; have := HJ8.out; have := HK3.out; omega
            case rel => exact ⟨(Go.bits .or .i64 (wrap64 (x9_3 * 64)) t106), (wrap64 (x11_3 + 1)), (by first | rfl | (simp; done) | (simp [*]; done)), (by first | rfl | (simp; done) | (simp [*]; done)), H', ⟨by have := HJ2.out; have := HJ8.out; have := HK3.out; omega⟩, by repeat (first | exact Drawn0.refl _ | apply Drawn0.step)⟩
           ·replace c21 := Bool.eq_false_iff.mpr c21
            subst c21
            have H1 : (some (0, 0, false)) = some (r1, r2, r3) := by rw [if_neg (show ¬ (false = true) by decide)] at H; exact H
            clear H; have H := H1; clear H1
            simp only [Option.some.injEq, Prod.mk.injEq] at H
            obtain ⟨rfl, rfl, rfl⟩ := H
            go_wp2_with (first | ((with_reducible refine gate_callee (f := 90) rfl ?_); refine goesL_ (some 67) rfl rfl Try.func90 (by kernel_rfl) rfl #[.string a0, .int .i64 (wrap64 (a1 + x11_3))] rfl (by (try simp only [List.map_toArray, List.map_cons, List.map_nil]); first | done | rfl | (simp only [List.length_drop, List.length_take]; rfl)) ?_; (with_reducible refine (utf_next.calls a0 (wrap64 (a1 + x11_3)) t106 false _ A20.out).mono ?_); rintro e w' ⟨rfl, ⟨nd, rfl⟩⟩; refine ⟨_, rfl, ?_⟩))
            go_ret3
            exact ⟨by first | rfl | (simp; done) | (simp [*]; done), by repeat (first | exact Drawn0.refl _ | apply Drawn0.step)⟩
          ·rw [if_neg c19] at H
           have c19b0 : decide (x11_3 < x8_8) = false := decide_eq_false c19
           clear c19
           by_cases c22 : x9_3 < x10_8
           ·rw [if_pos c22] at H
            have c22b0 : decide (x9_3 < x10_8) = true := decide_eq_true c22
            clear c22
            simp only [Option.some.injEq, Prod.mk.injEq] at H
            obtain ⟨rfl, rfl, rfl⟩ := H
            go_wp2
            go_ret3
            exact ⟨by first | rfl | (simp; done) | (simp [*]; done), by repeat (first | exact Drawn0.refl _ | apply Drawn0.step)⟩
           ·rw [if_neg c22] at H
            have c22b0 : decide (x9_3 < x10_8) = false := decide_eq_false c22
            clear c22
            replace H := Option.bind_eq_some_iff.mp H
            obtain ⟨t108, A230, H⟩ := H
            replace H : (if t108 = true then (some (x9_3, x8_8, true)) else (some (0, 0, false))) = some (r1, r2, r3) := H
            have A23 := Aside0.mk A230
            clear A230
            by_cases c24 : t108 = true
            ·subst c24
             have H1 : (some (x9_3, x8_8, true)) = some (r1, r2, r3) := by rw [if_pos rfl] at H; exact H
             clear H; have H := H1; clear H1
             simp only [Option.some.injEq, Prod.mk.injEq] at H
             obtain ⟨rfl, rfl, rfl⟩ := H
             go_wp2_with (first | (go_at_call 91; (with_reducible refine (utf_point.calls x9_3 true _ A23.out).mono ?_); rintro e w' ⟨rfl, ⟨nd, rfl⟩⟩))
             go_ret3
             exact ⟨by first | rfl | (simp; done) | (simp [*]; done), by repeat (first | exact Drawn0.refl _ | apply Drawn0.step)⟩
            ·replace c24 := Bool.eq_false_iff.mpr c24
             subst c24
             have H1 : (some (0, 0, false)) = some (r1, r2, r3) := by rw [if_neg (show ¬ (false = true) by decide)] at H; exact H
             clear H; have H := H1; clear H1
             simp only [Option.some.injEq, Prod.mk.injEq] at H
             obtain ⟨rfl, rfl, rfl⟩ := H
             go_wp2_with (first | (go_at_call 91; (with_reducible refine (utf_point.calls x9_3 false _ A23.out).mono ?_); rintro e w' ⟨rfl, ⟨nd, rfl⟩⟩))
             go_ret3
             exact ⟨by first | rfl | (simp; done) | (simp [*]; done), by repeat (first | exact Drawn0.refl _ | apply Drawn0.step)⟩
     ·rw [if_neg c7] at H
      exact absurd H (by simp)
    ·rw [if_neg c6] at H
     exact absurd H (by simp)

/-! ### utf_Count: function 70 -/
def utf_Count.l0 : Nat → ByteArray → Int → Int → Option (Int × Bool)
  | 0, _, _, _ => none
  | k + 1, x0, x4, x5 => if x5 < (x0.size : Int) then ((utf_Decode.f k x0 x5).bind fun bt109 => (if bt109.2.2 = true then (utf_Count.l0 k x0 (wrap64 (x4 + 1)) (wrap64 (x5 + bt109.2.1))) else (some (0, false)))) else (some (x4, true))
def utf_Count.f (k : Nat) (a0 : ByteArray) : Option (Int × Bool) := utf_Count.l0 k a0 0 0
theorem utf_Count.mono_l : ∀ k, (∀ y0 y1 y2, LeO (utf_Count.l0 k y0 y1 y2) (utf_Count.l0 (k + 1) y0 y1 y2))
  | 0 => fun _ _ _ r h => by simp [utf_Count.l0] at h
  | k + 1 => by
    have ih0 := utf_Count.mono_l k
    · intro y0 y1 y2
      unfold utf_Count.l0
      repeat' first
      | (with_reducible exact ih0 _ _ _)
      | (with_reducible exact utf_Decode.mono _ _ _)
      | (with_reducible exact LeO.refl _)
      | (with_reducible exact LeO.none _)
      | (with_reducible refine LeO.ite ?_ ?_)
      | (with_reducible refine LeO.bind ?_ (fun _ => ?_))
      | exact ih0 _ _ _
      | exact utf_Decode.mono _ _ _
      | exact LeO.none _
      | refine LeO.ite ?_ ?_
      | refine LeO.bind ?_ (fun _ => ?_)
theorem utf_Count.mono : ∀ a0 k, LeO (utf_Count.f k a0) (utf_Count.f (k + 1) a0) := by
  intro a0 k
  have ih0 := utf_Count.mono_l k
  unfold utf_Count.f
  repeat' first
      | (with_reducible exact ih0 _ _ _)
      | (with_reducible exact utf_Decode.mono _ _ _)
      | (with_reducible exact LeO.refl _)
      | (with_reducible exact LeO.none _)
      | (with_reducible refine LeO.ite ?_ ?_)
      | (with_reducible refine LeO.bind ?_ (fun _ => ?_))
      | exact ih0 _ _ _
      | exact utf_Decode.mono _ _ _
      | exact LeO.none _
      | refine LeO.ite ?_ ?_
      | refine LeO.bind ?_ (fun _ => ?_)
set_option maxHeartbeats 8000000 in
set_option maxRecDepth 100000 in
theorem utf_Count.calls (k : Nat) (a0 : ByteArray) (r1 : Int) (r2 : Bool) (w : World) (h : utf_Count.f k a0 = some (r1, r2)) :
    Calls Try.prog 70 #[.string a0] w fun e w' => e = .returned (.tuple #[.int .i64 r1, .bool r2]) ∧ Drawn0 w w' := by
  have H : (utf_Count.l0 k a0 0 0) = some (r1, r2) := h
  clear h
  have H' := Aside0.mk H
  clear H
  go_enter Try.func70, Try.ntmps70
  go_wp2
  go_loopg [4, 5] k (fun kq v4 v5 w' => ∃ (x4_1 : Int) (x5_1 : Int), v4 = .int .i64 x4_1 ∧ v5 = .int .i64 x5_1 ∧ Aside0 (utf_Count.l0 kq a0 x4_1 x5_1 = some (r1, r2)) ∧ Aside0 (kq ≤ k) ∧ Drawn0 w w')
  case atStart => exact ⟨(0), (0), (by first | rfl | (simp; done) | (simp [*]; done)), (by first | rfl | (simp; done) | (simp [*]; done)), H', ⟨Nat.le_refl _⟩, by repeat (first | exact Drawn0.refl _ | apply Drawn0.step)⟩
  case round =>
    clear H'
    obtain ⟨x4_1, x5_1, rfl, rfl, HA, HK1, ⟨m1, rfl⟩⟩ := hrel
    cases gk with
    | zero => exact absurd HA.out (by simp [utf_Count.l0])
    | succ k1 =>
      have H := HA.out
      clear HA
      simp only [utf_Count.l0] at H
      by_cases c2 : x5_1 < (a0.size : Int)
      · rw [if_pos c2] at H
        have c2b0 : decide (x5_1 < (a0.size : Int)) = true := decide_eq_true c2
        clear c2
        replace H := Option.bind_eq_some_iff.mp H
        obtain ⟨⟨t109, t110, t111⟩, A30, H⟩ := H
        replace H : (if t111 = true then (utf_Count.l0 k1 a0 (wrap64 (x4_1 + 1)) (wrap64 (x5_1 + t110))) else (some (0, false))) = some (r1, r2) := H
        have A3 := Aside0.mk A30
        clear A30
        by_cases c4 : t111 = true
        · subst c4
          have H1 : (utf_Count.l0 k1 a0 (wrap64 (x4_1 + 1)) (wrap64 (x5_1 + t110))) = some (r1, r2) := by rw [if_pos rfl] at H; exact H
          clear H
          have H := H1
          clear H1
          have H' := Aside0.mk H
          clear H
          go_wp2_with (first | ((with_reducible refine gate_callee (f := 83) rfl ?_); refine goesL_ (some 18) rfl rfl Try.func83 (by kernel_rfl) rfl #[.string a0, .int .i64 x5_1] rfl (by (try simp only [List.map_toArray, List.map_cons, List.map_nil]); first | done | rfl | (simp only [List.length_drop, List.length_take]; rfl)) ?_; (with_reducible refine (utf_Decode.calls k1 a0 x5_1 t109 t110 true _ A3.out).mono ?_); rintro e w' ⟨rfl, ⟨nd, rfl⟩⟩; refine ⟨_, rfl, ?_⟩))
          go_roundg k1
          case measure => have := HK1.out; omega
          case rel => exact ⟨(wrap64 (x4_1 + 1)), (wrap64 (x5_1 + t110)), (by first | rfl | (simp; done) | (simp [*]; done)), (by first | rfl | (simp; done) | (simp [*]; done)), H', ⟨by have := HK1.out; omega⟩, by repeat (first | exact Drawn0.refl _ | apply Drawn0.step)⟩
        · replace c4 := Bool.eq_false_iff.mpr c4
          subst c4
          have H1 : (some (0, false)) = some (r1, r2) := by rw [if_neg (show ¬ (false = true) by decide)] at H; exact H
          clear H
          have H := H1
          clear H1
          simp only [Option.some.injEq, Prod.mk.injEq] at H
          obtain ⟨rfl, rfl⟩ := H
          go_wp2_with (first | ((with_reducible refine gate_callee (f := 83) rfl ?_); refine goesL_ (some 18) rfl rfl Try.func83 (by kernel_rfl) rfl #[.string a0, .int .i64 x5_1] rfl (by (try simp only [List.map_toArray, List.map_cons, List.map_nil]); first | done | rfl | (simp only [List.length_drop, List.length_take]; rfl)) ?_; (with_reducible refine (utf_Decode.calls k1 a0 x5_1 t109 t110 false _ A3.out).mono ?_); rintro e w' ⟨rfl, ⟨nd, rfl⟩⟩; refine ⟨_, rfl, ?_⟩))
          go_ret2
          exact ⟨by first | rfl | (simp; done) | (simp [*]; done), by repeat (first | exact Drawn0.refl _ | apply Drawn0.step)⟩
      · rw [if_neg c2] at H
        have c2b0 : decide (x5_1 < (a0.size : Int)) = false := decide_eq_false c2
        clear c2
        simp only [Option.some.injEq, Prod.mk.injEq] at H
        obtain ⟨rfl, rfl⟩ := H
        go_wp2
        go_ret2
        exact ⟨by first | rfl | (simp; done) | (simp [*]; done), by repeat (first | exact Drawn0.refl _ | apply Drawn0.step)⟩

/-! ### utf_Valid: function 43 -/
def utf_Valid.f (k : Nat) (a0 : ByteArray) : Option (Bool) := (utf_Count.f k a0).bind fun bt112 => (some bt112.2)
theorem utf_Valid.mono : ∀ a0 k, LeO (utf_Valid.f k a0) (utf_Valid.f (k + 1) a0) := by
  intro a0 k
  unfold utf_Valid.f
  repeat' first
      | (with_reducible exact utf_Count.mono _ _)
      | (with_reducible exact LeO.refl _)
      | (with_reducible exact LeO.none _)
      | (with_reducible refine LeO.ite ?_ ?_)
      | (with_reducible refine LeO.bind ?_ (fun _ => ?_))
      | exact utf_Count.mono _ _
      | exact LeO.none _
      | refine LeO.ite ?_ ?_
      | refine LeO.bind ?_ (fun _ => ?_)
set_option maxHeartbeats 8000000 in
set_option maxRecDepth 100000 in
theorem utf_Valid.calls (k : Nat) (a0 : ByteArray) (r : Bool) (w : World) (h : utf_Valid.f k a0 = some r) :
    Calls Try.prog 43 #[.string a0] w fun e w' => e = .returned (.bool r) ∧ Drawn0 w w' := by
  have H : ((utf_Count.f k a0).bind fun bt112 => (some bt112.2)) = some r := h
  clear h
  replace H := Option.bind_eq_some_iff.mp H
  obtain ⟨⟨t112, t113⟩, A20, H⟩ := H
  replace H : (some t113) = some r := H
  have A2 := Aside0.mk A20
  clear A20
  obtain rfl := Option.some.inj H
  go_enter Try.func43, Try.ntmps43
  go_wp2_with (first | ((with_reducible refine gate_callee (f := 70) rfl ?_); refine goesL_ (some 7) rfl rfl Try.func70 (by kernel_rfl) rfl #[.string a0] rfl (by (try simp only [List.map_toArray, List.map_cons, List.map_nil]); first | done | rfl | (simp only [List.length_drop, List.length_take]; rfl)) ?_; (with_reducible refine (utf_Count.calls k a0 t112 t113 _ A2.out).mono ?_); rintro e w' ⟨rfl, ⟨nd, rfl⟩⟩; refine ⟨_, rfl, ?_⟩))
  go_ret
  exact ⟨by first | rfl | (simp; done) | (simp [*]; done), by repeat (first | exact Drawn0.refl _ | apply Drawn0.step)⟩

end Go.Proofs.Ytgpjkojnmeaoiaa.QV

namespace Go.Proofs.Ytgpjkojnmeaoiaa.QV
open Go.RowKit Go.Proofs.YtgpjkojnmeaoiaaW.PrintWords Go.Proofs.YtgpjkojnmeaoiaaW.PrintLast Go.Proofs.YtgpjkojnmeaoiaaW.PrintMore
attribute [local go_sem] max2_int min2_int max_two min_two max_three min_three max_four min_four   -- for this text's walks alone
set_option linter.unusedVariables false
set_option linter.unusedSimpArgs false

/-! ### ndjqkeep_Strings: function 42 -/
def ndjqkeep_Strings.l0 : Nat → List ByteArray → List ByteArray → Int → Option (Bool)
  | 0, _, _, _ => none
  | k + 1, x0, x1, x5 => if x5 < (x0.length : Int) then (if 0 ≤ x5 then (if x5 < (x1.length : Int) then (if (rdOf ByteArray.empty x0 x5).toList = (rdOf ByteArray.empty x1 x5).toList then (ndjqkeep_Strings.l0 k x0 x1 (wrap64 (x5 + 1))) else (some false)) else (none)) else (none)) else (some true)
def ndjqkeep_Strings.f (k : Nat) (l0 : List ByteArray) (l1 : List ByteArray) : Option (Bool) := if (l0.length : Int) = (l1.length : Int) then (ndjqkeep_Strings.l0 k l0 l1 0) else (some false)
theorem ndjqkeep_Strings.mono_l : ∀ k, (∀ y0 y1 y2, LeO (ndjqkeep_Strings.l0 k y0 y1 y2) (ndjqkeep_Strings.l0 (k + 1) y0 y1 y2))
  | 0 => fun _ _ _ r h => by simp [ndjqkeep_Strings.l0] at h
  | k + 1 => by
    have ih0 := ndjqkeep_Strings.mono_l k
    · intro y0 y1 y2
      unfold ndjqkeep_Strings.l0
      repeat' first
      | (with_reducible exact ih0 _ _ _)
      | (with_reducible exact LeO.refl _)
      | (with_reducible exact LeO.none _)
      | (with_reducible refine LeO.ite ?_ ?_)
      | (with_reducible refine LeO.bind ?_ (fun _ => ?_))
      | exact ih0 _ _ _
      | exact LeO.none _
      | refine LeO.ite ?_ ?_
      | refine LeO.bind ?_ (fun _ => ?_)
theorem ndjqkeep_Strings.mono : ∀ a0 a1 k, LeO (ndjqkeep_Strings.f k a0 a1) (ndjqkeep_Strings.f (k + 1) a0 a1) := by
  intro a0 a1 k
  have ih0 := ndjqkeep_Strings.mono_l k
  unfold ndjqkeep_Strings.f
  repeat' first
      | (with_reducible exact ih0 _ _ _)
      | (with_reducible exact LeO.refl _)
      | (with_reducible exact LeO.none _)
      | (with_reducible refine LeO.ite ?_ ?_)
      | (with_reducible refine LeO.bind ?_ (fun _ => ?_))
      | exact ih0 _ _ _
      | exact LeO.none _
      | refine LeO.ite ?_ ?_
      | refine LeO.bind ?_ (fun _ => ?_)
set_option maxHeartbeats 8000000 in
set_option maxRecDepth 100000 in
theorem ndjqkeep_Strings.calls (k : Nat) (A0 : Option Addr) (c0 : Nat) (l0 : List ByteArray) (A1 : Option Addr) (c1 : Nat) (l1 : List ByteArray) (r : Bool) (w : World) (hr0 : Kd.C Kd.string w A0 l0.length l0) (hc0 : l0.length ≤ c0) (hr1 : Kd.C Kd.string w A1 l1.length l1) (hc1 : l1.length ≤ c1) (h : ndjqkeep_Strings.f k l0 l1 = some r) :
    Calls Try.prog 42 #[.slice A0 l0.length c0, .slice A1 l1.length c1] w fun e w' => e = .returned (.bool r) ∧ Drawn0 w w' := by
  have HR0 := Aside0.mk hr0
  have HC0 := Aside0.mk hc0
  clear hr0 hc0
  have HR1 := Aside0.mk hr1
  have HC1 := Aside0.mk hc1
  clear hr1 hc1
  have H : (if (l0.length : Int) = (l1.length : Int) then (ndjqkeep_Strings.l0 k l0 l1 0) else (some false)) = some r := h
  clear h
  by_cases c3 : (l0.length : Int) = (l1.length : Int)
  · rw [if_pos c3] at H
    have c3b0 : ((l0.length : Int) == (l1.length : Int)) = true := beq_iff_eq.mpr c3
    have c3b1 : ((l0.length : Int) != (l1.length : Int)) = false := bne_eq_false_iff_eq.mpr c3
    have c3b2 : (l0.length == l1.length) = true := by first | simpa using c3 | (simp at c3 ⊢; omega)
    clear c3
    have H' := Aside0.mk H
    clear H
    go_enter Try.func42, Try.ntmps42
    go_wp2
    repeat (go_quiet (fail); try go_wp2)
    go_loopg [5] k (fun kq v5 w' => ∃ (x5_1 : Int), v5 = .int .i64 x5_1 ∧ Aside0 (ndjqkeep_Strings.l0 kq l0 l1 x5_1 = some r) ∧ Aside0 (kq ≤ k) ∧ Drawn0 w w')
    case atStart => exact ⟨(0), (by first | rfl | (simp; done) | (simp [*]; done)), H', ⟨Nat.le_refl _⟩, by repeat (first | exact Drawn0.refl _ | apply Drawn0.step)⟩
    case round =>
      clear H'
      (try clear c1); (try clear p2); (try clear c3); (try clear c3b0); (try clear c3b1); (try clear c3b2)
      obtain ⟨x5_1, rfl, HA, HK1, ⟨m1, rfl⟩⟩ := hrel
      cases gk with
      | zero => exact absurd HA.out (by simp [ndjqkeep_Strings.l0])
      | succ k1 =>
        have H := HA.out
        clear HA
        simp only [ndjqkeep_Strings.l0] at H
        by_cases c4 : x5_1 < (l0.length : Int)
        · rw [if_pos c4] at H
          have c4b0 : decide (x5_1 < (l0.length : Int)) = true := decide_eq_true c4
          clear c4
          by_cases c5 : 0 ≤ x5_1
          · rw [if_pos c5] at H
            have c5b0 : decide (0 ≤ x5_1) = true := decide_eq_true c5
            clear c5
            by_cases c6 : x5_1 < (l1.length : Int)
            · rw [if_pos c6] at H
              have c6b0 : decide (x5_1 < (l1.length : Int)) = true := decide_eq_true c6
              clear c6
              by_cases c7 : (rdOf ByteArray.empty l0 x5_1).toList = (rdOf ByteArray.empty l1 x5_1).toList
              · rw [if_pos c7] at H
                have c7b0 : ((rdOf ByteArray.empty l0 x5_1).toList == (rdOf ByteArray.empty l1 x5_1).toList) = true := beq_iff_eq.mpr c7
                have c7b1 : ((rdOf ByteArray.empty l0 x5_1).toList != (rdOf ByteArray.empty l1 x5_1).toList) = false := bne_eq_false_iff_eq.mpr c7
                clear c7
                have H' := Aside0.mk H
                clear H
                have p134 : 0 ≤ (x5_1 : Int) := of_decide_eq_true (by first | (with_reducible assumption) | assumption)
                have q134 : x5_1 < (l0.length : Int) := of_decide_eq_true (by first | (with_reducible assumption) | assumption)
                obtain ⟨ad134, e134, hx134_0⟩ := Kd.at_string HR0.out x5_1 p134 q134
                cases e134
                replace p134 := eq_true p134
                replace q134 := eq_true q134
                have p135 : 0 ≤ (x5_1 : Int) := of_decide_eq_true (by first | (with_reducible assumption) | assumption)
                have q135 : x5_1 < (l1.length : Int) := of_decide_eq_true (by first | (with_reducible assumption) | assumption)
                obtain ⟨ad135, e135, hx135_0⟩ := Kd.at_string HR1.out x5_1 p135 q135
                cases e135
                replace p135 := eq_true p135
                replace q135 := eq_true q135
                go_wp2
                repeat (go_quiet (fail); try go_wp2)
                go_roundg k1
                case measure => have := HK1.out; omega
                case rel => exact ⟨(wrap64 (x5_1 + 1)), (by first | rfl | (simp; done) | (simp [*]; done)), H', ⟨by have := HK1.out; omega⟩, by repeat (first | exact Drawn0.refl _ | apply Drawn0.step)⟩
              · rw [if_neg c7] at H
                have c7b0 : ((rdOf ByteArray.empty l0 x5_1).toList == (rdOf ByteArray.empty l1 x5_1).toList) = false := beq_eq_false_iff_ne.mpr c7
                have c7b1 : ((rdOf ByteArray.empty l0 x5_1).toList != (rdOf ByteArray.empty l1 x5_1).toList) = true := bne_iff_ne.mpr c7
                obtain rfl := Option.some.inj H
                have p134 : 0 ≤ (x5_1 : Int) := of_decide_eq_true (by first | (with_reducible assumption) | assumption)
                have q134 : x5_1 < (l0.length : Int) := of_decide_eq_true (by first | (with_reducible assumption) | assumption)
                obtain ⟨ad134, e134, hx134_0⟩ := Kd.at_string HR0.out x5_1 p134 q134
                cases e134
                replace p134 := eq_true p134
                replace q134 := eq_true q134
                have p135 : 0 ≤ (x5_1 : Int) := of_decide_eq_true (by first | (with_reducible assumption) | assumption)
                have q135 : x5_1 < (l1.length : Int) := of_decide_eq_true (by first | (with_reducible assumption) | assumption)
                obtain ⟨ad135, e135, hx135_0⟩ := Kd.at_string HR1.out x5_1 p135 q135
                cases e135
                replace p135 := eq_true p135
                replace q135 := eq_true q135
                go_wp2
                repeat (go_quiet (fail); try go_wp2)
                go_ret
                exact ⟨by first | rfl | (simp; done) | (simp [*]; done), by repeat (first | exact Drawn0.refl _ | apply Drawn0.step)⟩
            · rw [if_neg c6] at H
              exact absurd H (by simp)
          · rw [if_neg c5] at H
            exact absurd H (by simp)
        · rw [if_neg c4] at H
          have c4b0 : decide (x5_1 < (l0.length : Int)) = false := decide_eq_false c4
          clear c4
          obtain rfl := Option.some.inj H
          go_wp2
          repeat (go_quiet (fail); try go_wp2)
          go_ret
          exact ⟨by first | rfl | (simp; done) | (simp [*]; done), by repeat (first | exact Drawn0.refl _ | apply Drawn0.step)⟩
  · rw [if_neg c3] at H
    have c3b0 : ((l0.length : Int) == (l1.length : Int)) = false := beq_eq_false_iff_ne.mpr c3
    have c3b1 : ((l0.length : Int) != (l1.length : Int)) = true := bne_iff_ne.mpr c3
    have c3b2 : (l0.length == l1.length) = false := by first | simpa using c3 | (simp at c3 ⊢; omega)
    obtain rfl := Option.some.inj H
    go_enter Try.func42, Try.ntmps42
    go_wp2
    repeat (go_quiet (fail); try go_wp2)
    go_ret
    exact ⟨by first | rfl | (simp; done) | (simp [*]; done), by repeat (first | exact Drawn0.refl _ | apply Drawn0.step)⟩

/-! ### ndjqref01_size: function 92 -/
def ndjqref01_size.j0 : Nat → Int → Bool → Option (Int)
  | 0, _, _ => none
  | k + 1, x0, x3 => if x3 = true then (some 0) else (if x0 < 128 then (some 1) else (if x0 < 2048 then (some 2) else (if x0 < 65536 then (some 3) else (some 4))))
def ndjqref01_size.f (k : Nat) (a0 : Int) : Option (Int) := if a0 < 0 then (ndjqref01_size.j0 k a0 true) else (if a0 > 1114111 then (ndjqref01_size.j0 k a0 true) else (if a0 ≥ 55296 then (ndjqref01_size.j0 k a0 (decide (a0 < 57344))) else (ndjqref01_size.j0 k a0 false)))
theorem ndjqref01_size.mono_l : ∀ k, (∀ y0 y1, LeO (ndjqref01_size.j0 k y0 y1) (ndjqref01_size.j0 (k + 1) y0 y1))
  | 0 => fun _ _ r h => by simp [ndjqref01_size.j0] at h
  | k + 1 => by
    have ih0 := ndjqref01_size.mono_l k
    · intro y0 y1
      unfold ndjqref01_size.j0
      repeat' first
      | (with_reducible exact ih0 _ _)
      | (with_reducible exact LeO.refl _)
      | (with_reducible exact LeO.none _)
      | (with_reducible refine LeO.ite ?_ ?_)
      | (with_reducible refine LeO.bind ?_ (fun _ => ?_))
      | exact ih0 _ _
      | exact LeO.none _
      | refine LeO.ite ?_ ?_
      | refine LeO.bind ?_ (fun _ => ?_)
theorem ndjqref01_size.mono : ∀ a0 k, LeO (ndjqref01_size.f k a0) (ndjqref01_size.f (k + 1) a0) := by
  intro a0 k
  have ih0 := ndjqref01_size.mono_l k
  unfold ndjqref01_size.f
  repeat' first
      | (with_reducible exact ih0 _ _)
      | (with_reducible exact LeO.refl _)
      | (with_reducible exact LeO.none _)
      | (with_reducible refine LeO.ite ?_ ?_)
      | (with_reducible refine LeO.bind ?_ (fun _ => ?_))
      | exact ih0 _ _
      | exact LeO.none _
      | refine LeO.ite ?_ ?_
      | refine LeO.bind ?_ (fun _ => ?_)
set_option maxHeartbeats 8000000 in
set_option maxRecDepth 100000 in
theorem ndjqref01_size.calls (k : Nat) (a0 : Int) (r : Int) (w : World) (h : ndjqref01_size.f k a0 = some r) :
    Calls Try.prog 92 #[.int .i64 a0] w fun e w' => e = .returned (.int .i64 r) ∧ Drawn0 w w' := by
  have H : (if a0 < 0 then (ndjqref01_size.j0 k a0 true) else (if a0 > 1114111 then (ndjqref01_size.j0 k a0 true) else (if a0 ≥ 55296 then (ndjqref01_size.j0 k a0 (decide (a0 < 57344))) else (ndjqref01_size.j0 k a0 false)))) = some r := h
  clear h
  have HC2 := Aside0.mk H
  clear H
  go_enter Try.func92, Try.ntmps92
  go_upto_region 1 with (fail)
  go_cut [3] (fun v3 wc => ∃ (kq : Nat) (x3_1 : Bool), v3 = .bool x3_1 ∧ Aside0 (ndjqref01_size.j0 kq a0 x3_1 = some r) ∧ Aside0 (kq ≤ k) ∧ Drawn0 w wc)
  case first =>
    have H := HC2.out
    clear HC2
    by_cases c3 : a0 < 0
    · rw [if_pos c3] at H
      have c3b0 : decide (a0 < 0) = true := decide_eq_true c3
      clear c3
      (first | rw [c3b0] | (simp only [i64_w, i32_w]; rw [c3b0]) | skip)
      have H' := Aside0.mk H
      clear H
      go_wp2
      go_meet
      case rel => exact ⟨_, (true), (by first | rfl | (simp; done) | (simp [*]; done)), H', ⟨by first | omega | exact Nat.le_refl _⟩, by repeat (first | exact Drawn0.refl _ | apply Drawn0.step)⟩
    · rw [if_neg c3] at H
      have c3b0 : decide (a0 < 0) = false := decide_eq_false c3
      clear c3
      (first | rw [c3b0] | (simp only [i64_w, i32_w]; rw [c3b0]) | skip)
      by_cases c4 : a0 > 1114111
      · rw [if_pos c4] at H
        have c4b0 : decide (1114111 < a0) = true := decide_eq_true c4
        clear c4
        have H' := Aside0.mk H
        clear H
        go_wp2
        go_meet
        case rel => exact ⟨_, (true), (by first | rfl | (simp; done) | (simp [*]; done)), H', ⟨by first | omega | exact Nat.le_refl _⟩, by repeat (first | exact Drawn0.refl _ | apply Drawn0.step)⟩
      · rw [if_neg c4] at H
        have c4b0 : decide (1114111 < a0) = false := decide_eq_false c4
        clear c4
        by_cases c5 : a0 ≥ 55296
        · rw [if_pos c5] at H
          have c5b0 : decide (55296 ≤ a0) = true := decide_eq_true c5
          clear c5
          have H' := Aside0.mk H
          clear H
          go_wp2
          go_meet
          case rel => exact ⟨_, (decide (a0 < 57344)), (by first | rfl | (simp; done) | (simp [*]; done)), H', ⟨by first | omega | exact Nat.le_refl _⟩, by repeat (first | exact Drawn0.refl _ | apply Drawn0.step)⟩
        · rw [if_neg c5] at H
          have c5b0 : decide (55296 ≤ a0) = false := decide_eq_false c5
          clear c5
          have H' := Aside0.mk H
          clear H
          go_wp2
          go_meet
          case rel => exact ⟨_, (false), (by first | rfl | (simp; done) | (simp [*]; done)), H', ⟨by first | omega | exact Nat.le_refl _⟩, by repeat (first | exact Drawn0.refl _ | apply Drawn0.step)⟩
  case rest =>
    clear HC2
    (try clear p2); (try clear c3); (try clear c3b0); (try clear c4); (try clear c4b0); (try clear c5); (try clear c5b0)
    obtain ⟨kq, x3_1, rfl, HA, HJ1, ⟨mc1, rfl⟩⟩ := hcut
    cases kq with
    | zero => exact absurd HA.out (by simp [ndjqref01_size.j0])
    | succ kj1 =>
      have H := HA.out
      clear HA
      simp only [ndjqref01_size.j0] at H
      by_cases c6 : x3_1 = true
      · subst c6
        have H1 : (some 0) = some r := by rw [if_pos rfl] at H; exact H
        clear H
        have H := H1
        clear H1
        obtain rfl := Option.some.inj H
        go_wp2
        go_ret
        exact ⟨by first | rfl | (simp; done) | (simp [*]; done), by repeat (first | exact Drawn0.refl _ | apply Drawn0.step)⟩
      · replace c6 := Bool.eq_false_iff.mpr c6
        subst c6
        have H1 : (if a0 < 128 then (some 1) else (if a0 < 2048 then (some 2) else (if a0 < 65536 then (some 3) else (some 4)))) = some r := by rw [if_neg (show ¬ (false = true) by decide)] at H; exact H
        clear H
        have H := H1
        clear H1
        by_cases c7 : a0 < 128
        · rw [if_pos c7] at H
          have c7b0 : decide (a0 < 128) = true := decide_eq_true c7
          clear c7
          obtain rfl := Option.some.inj H
          go_wp2
          go_ret
          exact ⟨by first | rfl | (simp; done) | (simp [*]; done), by repeat (first | exact Drawn0.refl _ | apply Drawn0.step)⟩
        · rw [if_neg c7] at H
          have c7b0 : decide (a0 < 128) = false := decide_eq_false c7
          clear c7
          by_cases c8 : a0 < 2048
          · rw [if_pos c8] at H
            have c8b0 : decide (a0 < 2048) = true := decide_eq_true c8
            clear c8
            obtain rfl := Option.some.inj H
            go_wp2
            go_ret
            exact ⟨by first | rfl | (simp; done) | (simp [*]; done), by repeat (first | exact Drawn0.refl _ | apply Drawn0.step)⟩
          · rw [if_neg c8] at H
            have c8b0 : decide (a0 < 2048) = false := decide_eq_false c8
            clear c8
            by_cases c9 : a0 < 65536
            · rw [if_pos c9] at H
              have c9b0 : decide (a0 < 65536) = true := decide_eq_true c9
              clear c9
              obtain rfl := Option.some.inj H
              go_wp2
              go_ret
              exact ⟨by first | rfl | (simp; done) | (simp [*]; done), by repeat (first | exact Drawn0.refl _ | apply Drawn0.step)⟩
            · rw [if_neg c9] at H
              have c9b0 : decide (a0 < 65536) = false := decide_eq_false c9
              clear c9
              obtain rfl := Option.some.inj H
              go_wp2
              go_ret
              exact ⟨by first | rfl | (simp; done) | (simp [*]; done), by repeat (first | exact Drawn0.refl _ | apply Drawn0.step)⟩

/-! ### ndjqref01_Decode: function 84 -/
mutual
def ndjqref01_Decode.j0 : Nat → ByteArray → Int → Bool → Option (Int × Int × Bool)
 | 0, _, _, _ => none
 | k + 1, x0, x1, x19 => if x19 = true then (some (0, 0, false)) else (if 0 ≤ x1 then (if x1 < (x0.size : Int) then (if (wrap64 (bt x0 x1)) < 128 then (some (wrap64 (bt x0 x1), 1, true)) else (if (wrap64 (bt x0 x1)) ≥ 192 then (ndjqref01_Decode.j1 k x0 x1 (wrap64 (bt x0 x1)) (decide ((wrap64 (bt x0 x1)) < 224))) else (ndjqref01_Decode.j1 k x0 x1 (wrap64 (bt x0 x1)) false))) else (none)) else (none))
def ndjqref01_Decode.j3 : Nat → ByteArray → Int → Int → Int → Option (Int × Int × Bool)
 | 0, _, _, _, _ => none
 | k + 1, x0, x1, x8, x9 => if x8 > (wrap64 ((x0.size : Int) - x1)) then (some (0, 0, false)) else (ndjqref01_Decode.l0 k x0 x1 x8 x9 1)
def ndjqref01_Decode.l0 : Nat → ByteArray → Int → Int → Int → Int → Option (Int × Int × Bool)
 | 0, _, _, _, _, _ => none
 | k + 1, x0, x1, x8, x9, x10 => if x10 < x8 then (if 0 ≤ (wrap64 (x1 + x10)) then (if (wrap64 (x1 + x10)) < (x0.size : Int) then (if (wrap64 (bt x0 (wrap64 (x1 + x10)))) < 128 then (some (0, 0, false)) else (if (wrap64 (bt x0 (wrap64 (x1 + x10)))) ≥ 192 then (some (0, 0, false)) else (ndjqref01_Decode.l0 k x0 x1 x8 (Go.bits .or .i64 (wrap64 (x9 * 64)) (Go.bits .and .i64 (wrap64 (bt x0 (wrap64 (x1 + x10)))) 63)) (wrap64 (x10 + 1))))) else (none)) else (none)) else ((ndjqref01_size.f k x9).bind fun t136 => (if t136 = x8 then (some (x9, x8, true)) else (some (0, 0, false))))
def ndjqref01_Decode.j1 : Nat → ByteArray → Int → Int → Bool → Option (Int × Int × Bool)
 | 0, _, _, _, _ => none
 | k + 1, x0, x1, x7, x28 => if x28 = true then (ndjqref01_Decode.j3 k x0 x1 2 (Go.bits .and .i64 x7 31)) else (if x7 ≥ 224 then (ndjqref01_Decode.j2 k x0 x1 x7 (decide (x7 < 240))) else (ndjqref01_Decode.j2 k x0 x1 x7 false))
def ndjqref01_Decode.j2 : Nat → ByteArray → Int → Int → Bool → Option (Int × Int × Bool)
 | 0, _, _, _, _ => none
 | k + 1, x0, x1, x7, x37 => if x37 = true then (ndjqref01_Decode.j3 k x0 x1 3 (Go.bits .and .i64 x7 15)) else (if x7 ≥ 240 then (if x7 < 248 then (ndjqref01_Decode.j3 k x0 x1 4 (Go.bits .and .i64 x7 7)) else (some (0, 0, false))) else (some (0, 0, false)))
end
def ndjqref01_Decode.f (k : Nat) (a0 : ByteArray) (a1 : Int) : Option (Int × Int × Bool) := if a1 < 0 then (ndjqref01_Decode.j0 k a0 a1 true) else (ndjqref01_Decode.j0 k a0 a1 (decide (a1 ≥ (a0.size : Int))))
theorem ndjqref01_Decode.mono_l : ∀ k, (∀ y0 y1 y2, LeO (ndjqref01_Decode.j0 k y0 y1 y2) (ndjqref01_Decode.j0 (k + 1) y0 y1 y2)) ∧ (∀ y0 y1 y2 y3, LeO (ndjqref01_Decode.j3 k y0 y1 y2 y3) (ndjqref01_Decode.j3 (k + 1) y0 y1 y2 y3)) ∧ (∀ y0 y1 y2 y3 y4, LeO (ndjqref01_Decode.l0 k y0 y1 y2 y3 y4) (ndjqref01_Decode.l0 (k + 1) y0 y1 y2 y3 y4)) ∧ (∀ y0 y1 y2 y3, LeO (ndjqref01_Decode.j1 k y0 y1 y2 y3) (ndjqref01_Decode.j1 (k + 1) y0 y1 y2 y3)) ∧ (∀ y0 y1 y2 y3, LeO (ndjqref01_Decode.j2 k y0 y1 y2 y3) (ndjqref01_Decode.j2 (k + 1) y0 y1 y2 y3))
 | 0 => ⟨fun _ _ _ r h => by simp [ndjqref01_Decode.j0] at h, fun _ _ _ _ r h => by simp [ndjqref01_Decode.j3] at h, fun _ _ _ _ _ r h => by simp [ndjqref01_Decode.l0] at h, fun _ _ _ _ r h => by simp [ndjqref01_Decode.j1] at h, fun _ _ _ _ r h => by simp [ndjqref01_Decode.j2] at h⟩
 | k + 1 => by
  obtain ⟨ih0, ih1, ih2, ih3, ih4⟩ := ndjqref01_Decode.mono_l k
  refine ⟨?_, ?_, ?_, ?_, ?_⟩
  ·intro y0 y1 y2
   unfold ndjqref01_Decode.j0
   repeat' first
   | (with_reducible exact ih0 _ _ _)
   | (with_reducible exact ih1 _ _ _ _)
   | (with_reducible exact ih2 _ _ _ _ _)
   | (with_reducible exact ih3 _ _ _ _)
   | (with_reducible exact ih4 _ _ _ _)
   | (with_reducible exact ndjqref01_size.mono _ _)
   | (with_reducible exact LeO.refl _)
   | (with_reducible exact LeO.none _)
   | (with_reducible refine LeO.ite ?_ ?_)
   | (with_reducible refine LeO.bind ?_ (fun _ => ?_))
   | exact ih0 _ _ _
   | exact ih1 _ _ _ _
   | exact ih2 _ _ _ _ _
   | exact ih3 _ _ _ _
   | exact ih4 _ _ _ _
   | exact ndjqref01_size.mono _ _
   | exact LeO.none _
   | refine LeO.ite ?_ ?_
   | refine LeO.bind ?_ (fun _ => ?_)
  ·intro y0 y1 y2 y3
   unfold ndjqref01_Decode.j3
   repeat' first
   | (with_reducible exact ih0 _ _ _)
   | (with_reducible exact ih1 _ _ _ _)
   | (with_reducible exact ih2 _ _ _ _ _)
   | (with_reducible exact ih3 _ _ _ _)
   | (with_reducible exact ih4 _ _ _ _)
   | (with_reducible exact ndjqref01_size.mono _ _)
   | (with_reducible exact LeO.refl _)
   | (with_reducible exact LeO.none _)
   | (with_reducible refine LeO.ite ?_ ?_)
   | (with_reducible refine LeO.bind ?_ (fun _ => ?_))
   | exact ih0 _ _ _
   | exact ih1 _ _ _ _
   | exact ih2 _ _ _ _ _
   | exact ih3 _ _ _ _
   | exact ih4 _ _ _ _
   | exact ndjqref01_size.mono _ _
   | exact LeO.none _
   | refine LeO.ite ?_ ?_
   | refine LeO.bind ?_ (fun _ => ?_)
  ·intro y0 y1 y2 y3 y4
   unfold ndjqref01_Decode.l0
   repeat' first
   | (with_reducible exact ih0 _ _ _)
   | (with_reducible exact ih1 _ _ _ _)
   | (with_reducible exact ih2 _ _ _ _ _)
   | (with_reducible exact ih3 _ _ _ _)
   | (with_reducible exact ih4 _ _ _ _)
   | (with_reducible exact ndjqref01_size.mono _ _)
   | (with_reducible exact LeO.refl _)
   | (with_reducible exact LeO.none _)
   | (with_reducible refine LeO.ite ?_ ?_)
   | (with_reducible refine LeO.bind ?_ (fun _ => ?_))
   | exact ih0 _ _ _
   | exact ih1 _ _ _ _
   | exact ih2 _ _ _ _ _
   | exact ih3 _ _ _ _
   | exact ih4 _ _ _ _
   | exact ndjqref01_size.mono _ _
   | exact LeO.none _
   | refine LeO.ite ?_ ?_
   | refine LeO.bind ?_ (fun _ => ?_)
  ·intro y0 y1 y2 y3
   unfold ndjqref01_Decode.j1
   repeat' first
   | (with_reducible exact ih0 _ _ _)
   | (with_reducible exact ih1 _ _ _ _)
   | (with_reducible exact ih2 _ _ _ _ _)
   | (with_reducible exact ih3 _ _ _ _)
   | (with_reducible exact ih4 _ _ _ _)
   | (with_reducible exact ndjqref01_size.mono _ _)
   | (with_reducible exact LeO.refl _)
   | (with_reducible exact LeO.none _)
   | (with_reducible refine LeO.ite ?_ ?_)
   | (with_reducible refine LeO.bind ?_ (fun _ => ?_))
   | exact ih0 _ _ _
   | exact ih1 _ _ _ _
   | exact ih2 _ _ _ _ _
   | exact ih3 _ _ _ _
   | exact ih4 _ _ _ _
   | exact ndjqref01_size.mono _ _
   | exact LeO.none _
   | refine LeO.ite ?_ ?_
   | refine LeO.bind ?_ (fun _ => ?_)
  ·intro y0 y1 y2 y3
   unfold ndjqref01_Decode.j2
   repeat' first
   | (with_reducible exact ih0 _ _ _)
   | (with_reducible exact ih1 _ _ _ _)
   | (with_reducible exact ih2 _ _ _ _ _)
   | (with_reducible exact ih3 _ _ _ _)
   | (with_reducible exact ih4 _ _ _ _)
   | (with_reducible exact ndjqref01_size.mono _ _)
   | (with_reducible exact LeO.refl _)
   | (with_reducible exact LeO.none _)
   | (with_reducible refine LeO.ite ?_ ?_)
   | (with_reducible refine LeO.bind ?_ (fun _ => ?_))
   | exact ih0 _ _ _
   | exact ih1 _ _ _ _
   | exact ih2 _ _ _ _ _
   | exact ih3 _ _ _ _
   | exact ih4 _ _ _ _
   | exact ndjqref01_size.mono _ _
   | exact LeO.none _
   | refine LeO.ite ?_ ?_
   | refine LeO.bind ?_ (fun _ => ?_)
theorem ndjqref01_Decode.mono : ∀ a0 a1 k, LeO (ndjqref01_Decode.f k a0 a1) (ndjqref01_Decode.f (k + 1) a0 a1) := by
 intro a0 a1 k
 obtain ⟨ih0, ih1, ih2, ih3, ih4⟩ := ndjqref01_Decode.mono_l k
 unfold ndjqref01_Decode.f
 repeat' first
   | (with_reducible exact ih0 _ _ _)
   | (with_reducible exact ih1 _ _ _ _)
   | (with_reducible exact ih2 _ _ _ _ _)
   | (with_reducible exact ih3 _ _ _ _)
   | (with_reducible exact ih4 _ _ _ _)
   | (with_reducible exact ndjqref01_size.mono _ _)
   | (with_reducible exact LeO.refl _)
   | (with_reducible exact LeO.none _)
   | (with_reducible refine LeO.ite ?_ ?_)
   | (with_reducible refine LeO.bind ?_ (fun _ => ?_))
   | exact ih0 _ _ _
   | exact ih1 _ _ _ _
   | exact ih2 _ _ _ _ _
   | exact ih3 _ _ _ _
   | exact ih4 _ _ _ _
   | exact ndjqref01_size.mono _ _
   | exact LeO.none _
   | refine LeO.ite ?_ ?_
   | refine LeO.bind ?_ (fun _ => ?_)
set_option maxHeartbeats 8000000 in
set_option maxRecDepth 100000 in
theorem ndjqref01_Decode.calls (k : Nat) (a0 : ByteArray) (a1 : Int) (r1 : Int) (r2 : Int) (r3 : Bool) (w : World) (h : ndjqref01_Decode.f k a0 a1 = some (r1, r2, r3)) :
  Calls Try.prog 84 #[.string a0, .int .i64 a1] w fun e w' => e = .returned (.tuple #[.int .i64 r1, .int .i64 r2, .bool r3]) ∧ Drawn0 w w' := by
 have H : (if a1 < 0 then (ndjqref01_Decode.j0 k a0 a1 true) else (ndjqref01_Decode.j0 k a0 a1 (decide (a1 ≥ (a0.size : Int))))) = some (r1, r2, r3) := h
 clear h
 have HC3 := Aside0.mk H
 clear H
 go_enter Try.func84, Try.ntmps84
 go_upto_region 1 with (fail)
 go_cut [19] (fun v19 wc => ∃ (kq : Nat) (x19_2 : Bool), v19 = .bool x19_2 ∧ Aside0 (ndjqref01_Decode.j0 kq a0 a1 x19_2 = some (r1, r2, r3)) ∧ Aside0 (kq ≤ k) ∧ Drawn0 w wc)
 case first =>
  have H := HC3.out
  clear HC3
  by_cases c4 : a1 < 0
  ·rw [if_pos c4] at H
   have c4b0 : decide (a1 < 0) = true := decide_eq_true c4
   clear c4
   (first | rw [c4b0] | (simp only [i64_w, i32_w]; rw [c4b0]) | skip)
   have H' := Aside0.mk H
   clear H
   go_wp2
   go_meet
   case rel => exact ⟨_, (true), (by first | rfl | (simp; done) | (simp [*]; done)), H', ⟨by first | omega | exact Nat.le_refl _⟩, by repeat (first | exact Drawn0.refl _ | apply Drawn0.step)⟩
  ·rw [if_neg c4] at H
   have c4b0 : decide (a1 < 0) = false := decide_eq_false c4
   clear c4
   (first | rw [c4b0] | (simp only [i64_w, i32_w]; rw [c4b0]) | skip)
   have H' := Aside0.mk H
   clear H
   go_wp2
   go_meet
   case rel => exact ⟨_, (decide (a1 ≥ (a0.size : Int))), (by first | rfl | (simp; done) | (simp [*]; done)), H', ⟨by first | omega | exact Nat.le_refl _⟩, by repeat (first | exact Drawn0.refl _ | apply Drawn0.step)⟩
 case rest =>
  clear HC3
  (try clear p2); (try clear c4); (try clear c4b0)
  obtain ⟨kq, x19_2, rfl, HA, HJ2, ⟨mc2, rfl⟩⟩ := hcut
  cases kq with
  | zero => exact absurd HA.out (by simp [ndjqref01_Decode.j0])
  | succ kj2 =>
   have H := HA.out
   clear HA
   simp only [ndjqref01_Decode.j0] at H
   by_cases c5 : x19_2 = true
   ·subst c5
    have H1 : (some (0, 0, false)) = some (r1, r2, r3) := by rw [if_pos rfl] at H; exact H
    clear H; have H := H1; clear H1
    simp only [Option.some.injEq, Prod.mk.injEq] at H
    obtain ⟨rfl, rfl, rfl⟩ := H
    go_wp2
    go_ret3
    exact ⟨by first | rfl | (simp; done) | (simp [*]; done), by repeat (first | exact Drawn0.refl _ | apply Drawn0.step)⟩
   ·replace c5 := Bool.eq_false_iff.mpr c5
    subst c5
    have H1 : (if 0 ≤ a1 then (if a1 < (a0.size : Int) then (if (wrap64 (bt a0 a1)) < 128 then (some (wrap64 (bt a0 a1), 1, true)) else (if (wrap64 (bt a0 a1)) ≥ 192 then (ndjqref01_Decode.j1 kj2 a0 a1 (wrap64 (bt a0 a1)) (decide ((wrap64 (bt a0 a1)) < 224))) else (ndjqref01_Decode.j1 kj2 a0 a1 (wrap64 (bt a0 a1)) false))) else (none)) else (none)) = some (r1, r2, r3) := by rw [if_neg (show ¬ (false = true) by decide)] at H; exact H
    clear H; have H := H1; clear H1
    by_cases c6 : 0 ≤ a1
    ·rw [if_pos c6] at H
     have c6b0 : decide (0 ≤ a1) = true := decide_eq_true c6
     clear c6
     by_cases c7 : a1 < (a0.size : Int)
     ·rw [if_pos c7] at H
      have c7b0 : decide (a1 < (a0.size : Int)) = true := decide_eq_true c7
      clear c7
      have HC9 := Aside0.mk H
      clear H
      have p8 : 0 ≤ (a1 : Int) := of_decide_eq_true (by first | (with_reducible assumption) | assumption)
      have q8 : a1 < (a0.size : Int) := of_decide_eq_true (by first | (with_reducible assumption) | assumption)
      have hx8 := bt_at a0 a1
      replace p8 := eq_true p8; replace q8 := eq_true q8
      go_upto_block 0 with (fail)
      go_cut [8, 9] (fun v8 v9 wc => ∃ (kq : Nat) (x8_8 : Int) (x9_8 : Int), v8 = .int .i64 x8_8 ∧ v9 = .int .i64 x9_8 ∧ Aside0 (ndjqref01_Decode.j3 kq a0 a1 x8_8 x9_8 = some (r1, r2, r3)) ∧ Aside0 (kq ≤ kj2) ∧ Drawn0 w wc)
      case first =>
       have H := HC9.out
       clear HC9
       by_cases c10 : (wrap64 (bt a0 a1)) < 128
       ·rw [if_pos c10] at H
        have c10b0 : decide ((wrap64 (bt a0 a1)) < 128) = true := decide_eq_true c10
        clear c10
        (first | rw [c10b0] | (simp only [i64_w, i32_w]; rw [c10b0]) | skip)
        simp only [Option.some.injEq, Prod.mk.injEq] at H
        obtain ⟨rfl, rfl, rfl⟩ := H
        go_wp2
        go_ret3
        exact ⟨by first | rfl | (simp; done) | (simp [*]; done), by repeat (first | exact Drawn0.refl _ | apply Drawn0.step)⟩
       ·rw [if_neg c10] at H
        have c10b0 : decide ((wrap64 (bt a0 a1)) < 128) = false := decide_eq_false c10
        clear c10
        (first | rw [c10b0] | (simp only [i64_w, i32_w]; rw [c10b0]) | skip)
        have HC11 := Aside0.mk H
        clear H
        go_upto_region 8 with (fail)
        go_cut [28] (fun v28 wc => ∃ (kq : Nat) (x28_10 : Bool), v28 = .bool x28_10 ∧ Aside0 (ndjqref01_Decode.j1 kq a0 a1 (wrap64 (bt a0 a1)) x28_10 = some (r1, r2, r3)) ∧ Aside0 (kq ≤ kj2) ∧ Drawn0 w wc)
        case first =>
         have H := HC11.out
         clear HC11
         by_cases c12 : (wrap64 (bt a0 a1)) ≥ 192
         ·rw [if_pos c12] at H
          have c12b0 : decide (192 ≤ (wrap64 (bt a0 a1))) = true := decide_eq_true c12
          clear c12
          (first | rw [c12b0] | (simp only [i64_w, i32_w]; rw [c12b0]) | skip)
          have H' := Aside0.mk H
          clear H
          go_wp2
          go_meet
          case rel => exact ⟨_, (decide ((wrap64 (bt a0 a1)) < 224)), (by first | rfl | (simp; done) | (simp [*]; done)), H', ⟨by have := HJ2.out; first | omega | exact Nat.le_refl _⟩, by repeat (first | exact Drawn0.refl _ | apply Drawn0.step)⟩
         ·rw [if_neg c12] at H
          have c12b0 : decide (192 ≤ (wrap64 (bt a0 a1))) = false := decide_eq_false c12
          clear c12
          (first | rw [c12b0] | (simp only [i64_w, i32_w]; rw [c12b0]) | skip)
          have H' := Aside0.mk H
          clear H
          go_wp2
          go_meet
          case rel => exact ⟨_, (false), (by first | rfl | (simp; done) | (simp [*]; done)), H', ⟨by have := HJ2.out; first | omega | exact Nat.le_refl _⟩, by repeat (first | exact Drawn0.refl _ | apply Drawn0.step)⟩
        case rest =>
         clear HC11
         (try clear c1); (try clear c2); (try clear c5); (try clear c6); (try clear c6b0); (try clear p6); (try clear c7); (try clear c7b0); (try clear c8); (try clear p8); (try clear q8); (try clear hx8); (try clear c10); (try clear c10b0); (try clear c12); (try clear c12b0)
         obtain ⟨kq, x28_10, rfl, HA, HJ10, ⟨mc10, rfl⟩⟩ := hcut
         cases kq with
         | zero => exact absurd HA.out (by simp [ndjqref01_Decode.j1])
         | succ kj10 =>
          have H := HA.out
          clear HA
          simp only [ndjqref01_Decode.j1] at H
          by_cases c13 : x28_10 = true
          ·subst c13
           have H1 : (ndjqref01_Decode.j3 kj10 a0 a1 2 (Go.bits .and .i64 (wrap64 (bt a0 a1)) 31)) = some (r1, r2, r3) := by rw [if_pos rfl] at H; exact H
           clear H; have H := H1; clear H1
           have H' := Aside0.mk H
           clear H
           go_wp2
           go_meet
           case rel => exact ⟨_, (2), (Go.bits .and .i64 (wrap64 (bt a0 a1)) 31), (by first | rfl | (simp; done) | (simp [*]; done)), (by first | rfl | (simp; done) | (simp [*]; done)), H', ⟨by have := HJ2.out; have := HJ10.out; first | omega | exact Nat.le_refl _⟩, by repeat (first | exact Drawn0.refl _ | apply Drawn0.step)⟩
          ·replace c13 := Bool.eq_false_iff.mpr c13
           subst c13
           have H1 : (if (wrap64 (bt a0 a1)) ≥ 224 then (ndjqref01_Decode.j2 kj10 a0 a1 (wrap64 (bt a0 a1)) (decide ((wrap64 (bt a0 a1)) < 240))) else (ndjqref01_Decode.j2 kj10 a0 a1 (wrap64 (bt a0 a1)) false)) = some (r1, r2, r3) := by rw [if_neg (show ¬ (false = true) by decide)] at H; exact H
           clear H; have H := H1; clear H1
           have HC14 := Aside0.mk H
           clear H
           go_upto_region 10 with (fail)
           go_cut [37] (fun v37 wc => ∃ (kq : Nat) (x37_13 : Bool), v37 = .bool x37_13 ∧ Aside0 (ndjqref01_Decode.j2 kq a0 a1 (wrap64 (bt a0 a1)) x37_13 = some (r1, r2, r3)) ∧ Aside0 (kq ≤ kj10) ∧ Drawn0 w wc)
           case first =>
            have H := HC14.out
            clear HC14
            by_cases c15 : (wrap64 (bt a0 a1)) ≥ 224
            ·rw [if_pos c15] at H
             have c15b0 : decide (224 ≤ (wrap64 (bt a0 a1))) = true := decide_eq_true c15
             clear c15
             (first | rw [c15b0] | (simp only [i64_w, i32_w]; rw [c15b0]) | skip)
             have H' := Aside0.mk H
             clear H
             go_wp2
             go_meet
             case rel => exact ⟨_, (decide ((wrap64 (bt a0 a1)) < 240)), (by first | rfl | (simp; done) | (simp [*]; done)), H', ⟨by have := HJ2.out; have := HJ10.out; first | omega | exact Nat.le_refl _⟩, by repeat (first | exact Drawn0.refl _ | apply Drawn0.step)⟩
            ·rw [if_neg c15] at H
             have c15b0 : decide (224 ≤ (wrap64 (bt a0 a1))) = false := decide_eq_false c15
             clear c15
             (first | rw [c15b0] | (simp only [i64_w, i32_w]; rw [c15b0]) | skip)
             have H' := Aside0.mk H
             clear H
             go_wp2
             go_meet
             case rel => exact ⟨_, (false), (by first | rfl | (simp; done) | (simp [*]; done)), H', ⟨by have := HJ2.out; have := HJ10.out; first | omega | exact Nat.le_refl _⟩, by repeat (first | exact Drawn0.refl _ | apply Drawn0.step)⟩
           case rest =>
            clear HC14
            (try clear c13); (try clear c15); (try clear c15b0)
            obtain ⟨kq, x37_13, rfl, HA, HJ13, ⟨mc13, rfl⟩⟩ := hcut
            cases kq with
            | zero => exact absurd HA.out (by simp [ndjqref01_Decode.j2])
            | succ kj13 =>
             have H := HA.out
             clear HA
             simp only [ndjqref01_Decode.j2] at H
             by_cases c16 : x37_13 = true
             ·subst c16
              have H1 : (ndjqref01_Decode.j3 kj13 a0 a1 3 (Go.bits .and .i64 (wrap64 (bt a0 a1)) 15)) = some (r1, r2, r3) := by rw [if_pos rfl] at H; exact H
              clear H; have H := H1; clear H1
              have H' := Aside0.mk H
              clear H
              go_wp2
              go_meet
              case rel => exact ⟨_, (3), (Go.bits .and .i64 (wrap64 (bt a0 a1)) 15), (by first | rfl | (simp; done) | (simp [*]; done)), (by first | rfl | (simp; done) | (simp [*]; done)), H', ⟨by have := HJ2.out; have := HJ10.out; have := HJ13.out; first | omega | exact Nat.le_refl _⟩, by repeat (first | exact Drawn0.refl _ | apply Drawn0.step)⟩
             ·replace c16 := Bool.eq_false_iff.mpr c16
              subst c16
              have H1 : (if (wrap64 (bt a0 a1)) ≥ 240 then (if (wrap64 (bt a0 a1)) < 248 then (ndjqref01_Decode.j3 kj13 a0 a1 4 (Go.bits .and .i64 (wrap64 (bt a0 a1)) 7)) else (some (0, 0, false))) else (some (0, 0, false))) = some (r1, r2, r3) := by rw [if_neg (show ¬ (false = true) by decide)] at H; exact H
              clear H; have H := H1; clear H1
              by_cases c17 : (wrap64 (bt a0 a1)) ≥ 240
              ·rw [if_pos c17] at H
               have c17b0 : decide (240 ≤ (wrap64 (bt a0 a1))) = true := decide_eq_true c17
               clear c17
               by_cases c18 : (wrap64 (bt a0 a1)) < 248
               ·rw [if_pos c18] at H
                have c18b0 : decide ((wrap64 (bt a0 a1)) < 248) = true := decide_eq_true c18
                clear c18
                have H' := Aside0.mk H
                clear H
                go_wp2
                go_meet
                case rel => exact ⟨_, (4), (Go.bits .and .i64 (wrap64 (bt a0 a1)) 7), (by first | rfl | (simp; done) | (simp [*]; done)), (by first | rfl | (simp; done) | (simp [*]; done)), H', ⟨by have := HJ2.out; have := HJ10.out; have := HJ13.out; first | omega | exact Nat.le_refl _⟩, by repeat (first | exact Drawn0.refl _ | apply Drawn0.step)⟩
               ·rw [if_neg c18] at H
                have c18b0 : decide ((wrap64 (bt a0 a1)) < 248) = false := decide_eq_false c18
                clear c18
                simp only [Option.some.injEq, Prod.mk.injEq] at H
                obtain ⟨rfl, rfl, rfl⟩ := H
                go_wp2
                go_ret3
                exact ⟨by first | rfl | (simp; done) | (simp [*]; done), by repeat (first | exact Drawn0.refl _ | apply Drawn0.step)⟩
              ·rw [if_neg c17] at H
               have c17b0 : decide (240 ≤ (wrap64 (bt a0 a1))) = false := decide_eq_false c17
               clear c17
               simp only [Option.some.injEq, Prod.mk.injEq] at H
               obtain ⟨rfl, rfl, rfl⟩ := H
               go_wp2
               go_ret3
               exact ⟨by first | rfl | (simp; done) | (simp [*]; done), by repeat (first | exact Drawn0.refl _ | apply Drawn0.step)⟩
      case rest =>
       clear HC9
       (try clear c1); (try clear c2); (try clear c5); (try clear c6); (try clear c6b0); (try clear p6); (try clear c7); (try clear c7b0); (try clear c8); (try clear p8); (try clear q8); (try clear hx8); (try clear c10); (try clear c10b0); (try clear c12); (try clear c12b0); (try clear c13); (try clear c15); (try clear c15b0); (try clear c16); (try clear c17); (try clear c17b0); (try clear c18); (try clear c18b0)
       obtain ⟨kq, x8_8, x9_8, rfl, rfl, HA, HJ8, ⟨mc8, rfl⟩⟩ := hcut
       cases kq with
       | zero => exact absurd HA.out (by simp [ndjqref01_Decode.j3])
       | succ kj8 =>
        have H := HA.out
        clear HA
        simp only [ndjqref01_Decode.j3] at H
        by_cases c19 : x8_8 > (wrap64 ((a0.size : Int) - a1))
        ·rw [if_pos c19] at H
         have c19b0 : decide ((wrap64 ((a0.size : Int) - a1)) < x8_8) = true := decide_eq_true c19
         clear c19
         simp only [Option.some.injEq, Prod.mk.injEq] at H
         obtain ⟨rfl, rfl, rfl⟩ := H
         go_wp2
         go_ret3
         exact ⟨by first | rfl | (simp; done) | (simp [*]; done), by repeat (first | exact Drawn0.refl _ | apply Drawn0.step)⟩
        ·rw [if_neg c19] at H
         have c19b0 : decide ((wrap64 ((a0.size : Int) - a1)) < x8_8) = false := decide_eq_false c19
         clear c19
         have H' := Aside0.mk H
         clear H
         go_wp2
         go_loopg [9, 10] kj8 (fun kq v9 v10 w' => ∃ (x9_3 : Int) (x10_3 : Int), v9 = .int .i64 x9_3 ∧ v10 = .int .i64 x10_3 ∧ Aside0 (ndjqref01_Decode.l0 kq a0 a1 x8_8 x9_3 x10_3 = some (r1, r2, r3)) ∧ Aside0 (kq ≤ kj8) ∧ Drawn0 w w')
         case atStart => exact ⟨(x9_8), (1), (by first | rfl | (simp; done) | (simp [*]; done)), (by first | rfl | (simp; done) | (simp [*]; done)), H', ⟨Nat.le_refl _⟩, by repeat (first | exact Drawn0.refl _ | apply Drawn0.step)⟩
         case round =>
          clear H'
          (try clear c19); (try clear c19b0)
          obtain ⟨x9_3, x10_3, rfl, rfl, HA, HK3, ⟨m3, rfl⟩⟩ := hrel
          cases gk with
          | zero => exact absurd HA.out (by simp [ndjqref01_Decode.l0])
          | succ k3 =>
           have H := HA.out
           clear HA
           simp only [ndjqref01_Decode.l0] at H
           by_cases c20 : x10_3 < x8_8
           ·rw [if_pos c20] at H
            have c20b0 : decide (x10_3 < x8_8) = true := decide_eq_true c20
            clear c20
            obtain ⟨ji21, hji21⟩ : ∃ j_ : Int, (wrap64 (a1 + x10_3)) = j_ := ⟨_, rfl⟩
            replace H : (if 0 ≤ (ji21) then (if (ji21) < (a0.size : Int) then (if (wrap64 (bt a0 (ji21))) < 128 then (some (0, 0, false)) else (if (wrap64 (bt a0 (ji21))) ≥ 192 then (some (0, 0, false)) else (ndjqref01_Decode.l0 k3 a0 a1 x8_8 (Go.bits .or .i64 (wrap64 (x9_3 * 64)) (Go.bits .and .i64 (wrap64 (bt a0 (ji21))) 63)) (wrap64 (x10_3 + 1))))) else (none)) else (none)) = some (r1, r2, r3) := by first | (rw [hji21] at H; exact H) | (simp only [hji21] at H ⊢; exact H)
            have hji21w : (IntKind.i64.wrap (a1 + x10_3)) = ji21 := (i64_w _).trans hji21
            by_cases c22 : 0 ≤ (ji21)
            ·rw [if_pos c22] at H
             have c22b0 : decide (0 ≤ (ji21)) = true := decide_eq_true c22
             clear c22
             by_cases c23 : (ji21) < (a0.size : Int)
             ·rw [if_pos c23] at H
              have c23b0 : decide ((ji21) < (a0.size : Int)) = true := decide_eq_true c23
              clear c23
              by_cases c25 : (wrap64 (bt a0 (ji21))) < 128
              ·rw [if_pos c25] at H
               have c25b0 : decide ((wrap64 (bt a0 (ji21))) < 128) = true := decide_eq_true c25
               clear c25
               simp only [Option.some.injEq, Prod.mk.injEq] at H
               obtain ⟨rfl, rfl, rfl⟩ := H
               have p24 : 0 ≤ ((ji21) : Int) := of_decide_eq_true (by first | (with_reducible assumption) | assumption)
               have q24 : (ji21) < (a0.size : Int) := of_decide_eq_true (by first | (with_reducible assumption) | assumption)
               have hx24 := bt_at a0 (ji21)
               replace p24 := eq_true p24; replace q24 := eq_true q24
               go_wp2
               go_ret3
               exact ⟨by first | rfl | (simp; done) | (simp only [← hji21] <;> (first | rfl | (simp; done))) | (simp [*]; done), by repeat (first | exact Drawn0.refl _ | apply Drawn0.step)⟩
              ·rw [if_neg c25] at H
               have c25b0 : decide ((wrap64 (bt a0 (ji21))) < 128) = false := decide_eq_false c25
               clear c25
               by_cases c26 : (wrap64 (bt a0 (ji21))) ≥ 192
               ·rw [if_pos c26] at H
                have c26b0 : decide (192 ≤ (wrap64 (bt a0 (ji21)))) = true := decide_eq_true c26
                clear c26
                simp only [Option.some.injEq, Prod.mk.injEq] at H
                obtain ⟨rfl, rfl, rfl⟩ := H
                have p24 : 0 ≤ ((ji21) : Int) := of_decide_eq_true (by first | (with_reducible assumption) | assumption)
                have q24 : (ji21) < (a0.size : Int) := of_decide_eq_true (by first | (with_reducible assumption) | assumption)
                have hx24 := bt_at a0 (ji21)
                replace p24 := eq_true p24; replace q24 := eq_true q24
                go_wp2
                go_ret3
                exact ⟨by first | rfl | (simp; done) | (simp only [← hji21] <;> (first | rfl | (simp; done))) | (simp [*]; done), by repeat (first | exact Drawn0.refl _ | apply Drawn0.step)⟩
               ·rw [if_neg c26] at H
                have c26b0 : decide (192 ≤ (wrap64 (bt a0 (ji21)))) = false := decide_eq_false c26
                clear c26
                have H' := Aside0.mk H
                clear H
                have p24 : 0 ≤ ((ji21) : Int) := of_decide_eq_true (by first | (with_reducible assumption) | assumption)
                have q24 : (ji21) < (a0.size : Int) := of_decide_eq_true (by first | (with_reducible assumption) | assumption)
                have hx24 := bt_at a0 (ji21)
                replace p24 := eq_true p24; replace q24 := eq_true q24
                go_wp2
                go_roundg k3
                case measure => have := HJ2.out; have := HJ8.out; have := HK3.out; omega
                case rel => exact ⟨(Go.bits .or .i64 (wrap64 (x9_3 * 64)) (Go.bits .and .i64 (wrap64 (bt a0 (ji21))) 63)), (wrap64 (x10_3 + 1)), (by first | rfl | (simp; done) | (simp only [← hji21] <;> (first | rfl | (simp; done))) | (simp [*]; done)), (by first | rfl | (simp; done) | (simp [*]; done)), H', ⟨by have := HJ2.out; have := HJ8.out; have := HK3.out; omega⟩, by repeat (first | exact Drawn0.refl _ | apply Drawn0.step)⟩
             ·rw [if_neg c23] at H
              exact absurd H (by simp)
            ·rw [if_neg c22] at H
             exact absurd H (by simp)
           ·rw [if_neg c20] at H
            have c20b0 : decide (x10_3 < x8_8) = false := decide_eq_false c20
            clear c20
            replace H := Option.bind_eq_some_iff.mp H
            obtain ⟨t136, A270, H⟩ := H
            replace H : (if t136 = x8_8 then (some (x9_3, x8_8, true)) else (some (0, 0, false))) = some (r1, r2, r3) := H
            have A27 := Aside0.mk A270
            clear A270
            by_cases c28 : t136 = x8_8
            ·rw [if_pos c28] at H
             have c28b0 : (t136 == x8_8) = true := beq_iff_eq.mpr c28
             have c28b1 : (t136 != x8_8) = false := bne_eq_false_iff_eq.mpr c28
             clear c28
             simp only [Option.some.injEq, Prod.mk.injEq] at H
             obtain ⟨rfl, rfl, rfl⟩ := H
             go_wp2_with (first | ((with_reducible refine gate_callee (f := 92) rfl ?_); refine goesL_ (some 84) rfl rfl Try.func92 (by kernel_rfl) rfl #[.int .i64 x9_3] rfl (by (try simp only [List.map_toArray, List.map_cons, List.map_nil]); first | done | rfl | (simp only [List.length_drop, List.length_take]; rfl)) ?_; (with_reducible refine (ndjqref01_size.calls k3 x9_3 t136 _ A27.out).mono ?_); rintro e w' ⟨rfl, ⟨nd, rfl⟩⟩; refine ⟨_, rfl, ?_⟩))
             go_ret3
             exact ⟨by first | rfl | (simp; done) | (simp [*]; done), by repeat (first | exact Drawn0.refl _ | apply Drawn0.step)⟩
            ·rw [if_neg c28] at H
             have c28b0 : (t136 == x8_8) = false := beq_eq_false_iff_ne.mpr c28
             have c28b1 : (t136 != x8_8) = true := bne_iff_ne.mpr c28
             simp only [Option.some.injEq, Prod.mk.injEq] at H
             obtain ⟨rfl, rfl, rfl⟩ := H
             go_wp2_with (first | ((with_reducible refine gate_callee (f := 92) rfl ?_); refine goesL_ (some 84) rfl rfl Try.func92 (by kernel_rfl) rfl #[.int .i64 x9_3] rfl (by (try simp only [List.map_toArray, List.map_cons, List.map_nil]); first | done | rfl | (simp only [List.length_drop, List.length_take]; rfl)) ?_; (with_reducible refine (ndjqref01_size.calls k3 x9_3 t136 _ A27.out).mono ?_); rintro e w' ⟨rfl, ⟨nd, rfl⟩⟩; refine ⟨_, rfl, ?_⟩))
             go_ret3
             exact ⟨by first | rfl | (simp; done) | (simp [*]; done), by repeat (first | exact Drawn0.refl _ | apply Drawn0.step)⟩
     ·rw [if_neg c7] at H
      exact absurd H (by simp)
    ·rw [if_neg c6] at H
     exact absurd H (by simp)

end Go.Proofs.Ytgpjkojnmeaoiaa.QV

namespace Go.Proofs.Ytgpjkojnmeaoiaa.QV
open Go.RowKit Go.Proofs.YtgpjkojnmeaoiaaW.PrintWords Go.Proofs.YtgpjkojnmeaoiaaW.PrintLast Go.Proofs.YtgpjkojnmeaoiaaW.PrintMore
attribute [local go_sem] max2_int min2_int max_two min_two max_three min_three max_four min_four   -- for this text's walks alone
set_option linter.unusedVariables false
set_option linter.unusedSimpArgs false

/-! ### ndjqref01_Runes: function 71 -/
def ndjqref01_Runes.l0 : Nat → ByteArray → List Int → Int → Option (List Int × Bool)
  | 0, _, _, _ => none
  | k + 1, x0, x4, x5 => if x5 < (x0.size : Int) then ((ndjqref01_Decode.f k x0 x5).bind fun bt137 => (if bt137.2.2 = true then (if x4.length < 17592186044416 then (ndjqref01_Runes.l0 k x0 (x4 ++ [bt137.1]) (wrap64 (x5 + bt137.2.1))) else (none)) else (some (([] : List Int), false)))) else (some (x4, true))
def ndjqref01_Runes.f (k : Nat) (a0 : ByteArray) : Option (List Int × Bool) := ndjqref01_Runes.l0 k a0 ([] : List Int) 0
theorem ndjqref01_Runes.mono_l : ∀ k, (∀ y0 y1 y2, LeO (ndjqref01_Runes.l0 k y0 y1 y2) (ndjqref01_Runes.l0 (k + 1) y0 y1 y2))
  | 0 => fun _ _ _ r h => by simp [ndjqref01_Runes.l0] at h
  | k + 1 => by
    have ih0 := ndjqref01_Runes.mono_l k
    · intro y0 y1 y2
      unfold ndjqref01_Runes.l0
      repeat' first
      | (with_reducible exact ih0 _ _ _)
      | (with_reducible exact ndjqref01_Decode.mono _ _ _)
      | (with_reducible exact LeO.refl _)
      | (with_reducible exact LeO.none _)
      | (with_reducible refine LeO.ite ?_ ?_)
      | (with_reducible refine LeO.bind ?_ (fun _ => ?_))
      | exact ih0 _ _ _
      | exact ndjqref01_Decode.mono _ _ _
      | exact LeO.none _
      | refine LeO.ite ?_ ?_
      | refine LeO.bind ?_ (fun _ => ?_)
theorem ndjqref01_Runes.mono : ∀ a0 k, LeO (ndjqref01_Runes.f k a0) (ndjqref01_Runes.f (k + 1) a0) := by
  intro a0 k
  have ih0 := ndjqref01_Runes.mono_l k
  unfold ndjqref01_Runes.f
  repeat' first
      | (with_reducible exact ih0 _ _ _)
      | (with_reducible exact ndjqref01_Decode.mono _ _ _)
      | (with_reducible exact LeO.refl _)
      | (with_reducible exact LeO.none _)
      | (with_reducible refine LeO.ite ?_ ?_)
      | (with_reducible refine LeO.bind ?_ (fun _ => ?_))
      | exact ih0 _ _ _
      | exact ndjqref01_Decode.mono _ _ _
      | exact LeO.none _
      | refine LeO.ite ?_ ?_
      | refine LeO.bind ?_ (fun _ => ?_)
set_option maxHeartbeats 8000000 in
set_option maxRecDepth 100000 in
theorem ndjqref01_Runes.calls (k : Nat) (a0 : ByteArray) (r1 : List Int) (r2 : Bool) (w : World) (h : ndjqref01_Runes.f k a0 = some (r1, r2)) :
    Calls Try.prog 71 #[.string a0] w fun e w' => ∃ v0_ : Value, e = .returned (.tuple #[v0_, .bool r2]) ∧ Kd.R (Kd.int .i64) 3 w' w.heap.size (fun _ => True) v0_ r1 ∧ Below w.heap.size w w' := by
  have HB := Aside0.mk (Below.refl w.heap.size w)
  have H : (ndjqref01_Runes.l0 k a0 ([] : List Int) 0) = some (r1, r2) := h
  clear h
  have H' := Aside0.mk H
  clear H
  go_enter Try.func71, Try.ntmps71
  go_wp2
  go_loopg [4, 5] k (fun kq v4 v5 w' => ∃ (x4_1 : List Int) (x5_1 : Int), v5 = .int .i64 x5_1 ∧ Aside0 (ndjqref01_Runes.l0 kq a0 x4_1 x5_1 = some (r1, r2)) ∧ Aside0 (kq ≤ k) ∧ Aside0 (Kd.R (Kd.int .i64) 3 w' w.heap.size (fun _ => True) v4 x4_1) ∧ Aside0 (Below w.heap.size w w'))
  case atStart => exact ⟨(([] : List Int)), (0), (by first | rfl | (simp; done) | (simp [*]; done)), H', ⟨Nat.le_refl _⟩, ⟨by first | exact Kd.R_nil _ _ _ _ _ | exact Kd.N_nil _ _ _ _ _ | exact Kd.V_nil _ _ _ _ _ | exact Kd.Q_nil _ _ _ _ _ | exact Kd.S_nil _ _ _ _ _⟩, ⟨by repeat (first | (with_reducible first | exact HB.out | apply below_alloc | apply pw_below_drewN | apply below_drew1) | exact HB.out)⟩⟩
  case round =>
    clear H'
    obtain ⟨x4_1, x5_1, rfl, HA, HK1, HO_4, HB⟩ := hrel
    cases gk with
    | zero => exact absurd HA.out (by simp [ndjqref01_Runes.l0])
    | succ k1 =>
      have H := HA.out
      clear HA
      simp only [ndjqref01_Runes.l0] at H
      by_cases c2 : x5_1 < (a0.size : Int)
      · rw [if_pos c2] at H
        have c2b0 : decide (x5_1 < (a0.size : Int)) = true := decide_eq_true c2
        clear c2
        replace H := Option.bind_eq_some_iff.mp H
        obtain ⟨⟨t137, t138, t139⟩, A30, H⟩ := H
        replace H : (if t139 = true then (if x4_1.length < 17592186044416 then (ndjqref01_Runes.l0 k1 a0 (x4_1 ++ [t137]) (wrap64 (x5_1 + t138))) else (none)) else (some (([] : List Int), false))) = some (r1, r2) := H
        have A3 := Aside0.mk A30
        clear A30
        by_cases c4 : t139 = true
        · subst c4
          have H1 : (if x4_1.length < 17592186044416 then (ndjqref01_Runes.l0 k1 a0 (x4_1 ++ [t137]) (wrap64 (x5_1 + t138))) else (none)) = some (r1, r2) := by rw [if_pos rfl] at H; exact H
          clear H
          have H := H1
          clear H1
          by_cases c5 : x4_1.length < 17592186044416
          · rw [if_pos c5] at H
            have LMc5 := Aside0.mk c5
            clear c5
            obtain ⟨y140, hy140⟩ : ∃ y_ : List Int, y_ = (x4_1 ++ [t137]) := ⟨_, rfl⟩
            replace H : (ndjqref01_Runes.l0 k1 a0 y140 (wrap64 (x5_1 + t138))) = some (r1, r2) := by first | (rw [hy140]; with_reducible exact H) | (have H2_ := (Option.bind_some _ _).symm.trans H; rw [hy140]; with_reducible exact H2_) | (have H2_ := (Option.bind_some _ _).symm.trans H; with_reducible exact H2_) | with_reducible exact H | (rw [hy140]; exact H) | exact H
            have Ny140 := Aside0.mk hy140
            clear hy140
            have H' := Aside0.mk H
            clear H
            go_wp2_with (first | ((with_reducible refine gate_callee (f := 84) rfl ?_); refine goesL_ (some 16) rfl rfl Try.func84 (by kernel_rfl) rfl #[.string a0, .int .i64 x5_1] rfl (by (try simp only [List.map_toArray, List.map_cons, List.map_nil]); first | done | rfl | (simp only [List.length_drop, List.length_take]; rfl)) ?_; (with_reducible refine (ndjqref01_Decode.calls k1 a0 x5_1 t137 t138 true _ A3.out).mono ?_); rintro e w' ⟨rfl, ⟨nd, rfl⟩⟩; refine ⟨_, rfl, ?_⟩) | ((with_reducible refine gate_builtin (b := .append) (xs := #[.tmp 22, .tmp 24]) rfl ?_); at_builtin; refine Kd.R_append (Kd.int .i64) (w0 := w) w.heap.size rfl (.tmp 22) (.tmp 24) 67 3 (.int .i64 0) 8 rfl Try.underlying67 info3 rfl (by decide) (by omega) u4 x4_1 t137 [.int .i64 t137] (fun _ => True) (fun _ => False) rfl rfl ?aP (fun _ hk => hk.elim) ?aF ?aO ?aB ?aS ?aL ?_; (case aP => exact rfl); (case aB => exact (by repeat (first | (with_reducible first | exact HB.out | apply below_alloc | apply pw_below_drewN | apply below_drew1) | exact HB.out))); (case aF => exact (fun _ _ => trivial)); (case aO => exact (by (with_reducible repeat (first | apply Kd.R_alloc | apply Kd.R_drewN | apply Kd.R_drew)); exact HO_4.out)); (case aS => exact (below_size (by repeat (first | (with_reducible first | exact HB.out | apply below_alloc | apply pw_below_drewN | apply below_drew1) | exact HB.out)))); (case aL => have := LMc5.out; first | omega | exact Nat.le_of_lt this); intro v141 w6 ho hb hg hat; rw [← Ny140.out] at ho; have n0_ := Aside0.mk (hb); have n1_ := Aside0.mk (ho); clear HB; clear HO_4; have HB := n0_; have HO142 := n1_; clear n0_ n1_; clear ho hb hg hat))
            go_roundg k1
            case measure => have := HK1.out; omega
            case rel => exact ⟨(y140), (wrap64 (x5_1 + t138)), (by first | rfl | (simp; done) | (simp [*]; done)), H', ⟨by have := HK1.out; omega⟩, ⟨by (with_reducible repeat (first | apply Kd.R_alloc | apply Kd.R_drewN | apply Kd.R_drew)); exact HO142.out⟩, ⟨by repeat (first | (with_reducible first | exact HB.out | apply below_alloc | apply pw_below_drewN | apply below_drew1) | exact HB.out)⟩⟩
          · rw [if_neg c5] at H
            exact absurd H (by simp)
        · replace c4 := Bool.eq_false_iff.mpr c4
          subst c4
          have H1 : (some (([] : List Int), false)) = some (r1, r2) := by rw [if_neg (show ¬ (false = true) by decide)] at H; exact H
          clear H
          have H := H1
          clear H1
          simp only [Option.some.injEq, Prod.mk.injEq] at H
          obtain ⟨rfl, rfl⟩ := H
          go_wp2_with (first | ((with_reducible refine gate_callee (f := 84) rfl ?_); refine goesL_ (some 16) rfl rfl Try.func84 (by kernel_rfl) rfl #[.string a0, .int .i64 x5_1] rfl (by (try simp only [List.map_toArray, List.map_cons, List.map_nil]); first | done | rfl | (simp only [List.length_drop, List.length_take]; rfl)) ?_; (with_reducible refine (ndjqref01_Decode.calls k1 a0 x5_1 t137 t138 false _ A3.out).mono ?_); rintro e w' ⟨rfl, ⟨nd, rfl⟩⟩; refine ⟨_, rfl, ?_⟩))
          go_ret2
          exact ⟨_, by first | rfl | (simp [errW_none, errW_some] <;> rfl) | (simp [*, errW_none, errW_some] <;> rfl), by first | exact Kd.R_nil _ _ _ _ _ | exact Kd.N_nil _ _ _ _ _ | exact Kd.V_nil _ _ _ _ _ | exact Kd.Q_nil _ _ _ _ _ | exact Kd.S_nil _ _ _ _ _, by repeat (first | (with_reducible first | exact HB.out | apply below_alloc | apply pw_below_drewN | apply below_drew1) | exact HB.out)⟩
      · rw [if_neg c2] at H
        have c2b0 : decide (x5_1 < (a0.size : Int)) = false := decide_eq_false c2
        clear c2
        simp only [Option.some.injEq, Prod.mk.injEq] at H
        obtain ⟨rfl, rfl⟩ := H
        go_wp2
        go_ret2
        exact ⟨_, by first | rfl | (simp [errW_none, errW_some] <;> rfl) | (simp [*, errW_none, errW_some] <;> rfl), by (with_reducible repeat (first | apply Kd.R_alloc | apply Kd.R_drewN | apply Kd.R_drew)); exact HO_4.out, by repeat (first | (with_reducible first | exact HB.out | apply below_alloc | apply pw_below_drewN | apply below_drew1) | exact HB.out)⟩

/-! ### ndjqref01_Valid: function 45 -/
def ndjqref01_Valid.f (k : Nat) (a0 : ByteArray) : Option (Bool) := (ndjqref01_Runes.f k a0).bind fun bt143 => (some bt143.2)
theorem ndjqref01_Valid.mono : ∀ a0 k, LeO (ndjqref01_Valid.f k a0) (ndjqref01_Valid.f (k + 1) a0) := by
  intro a0 k
  unfold ndjqref01_Valid.f
  repeat' first
      | (with_reducible exact ndjqref01_Runes.mono _ _)
      | (with_reducible exact LeO.refl _)
      | (with_reducible exact LeO.none _)
      | (with_reducible refine LeO.ite ?_ ?_)
      | (with_reducible refine LeO.bind ?_ (fun _ => ?_))
      | exact ndjqref01_Runes.mono _ _
      | exact LeO.none _
      | refine LeO.ite ?_ ?_
      | refine LeO.bind ?_ (fun _ => ?_)
set_option maxHeartbeats 8000000 in
set_option maxRecDepth 100000 in
theorem ndjqref01_Valid.calls (k : Nat) (a0 : ByteArray) (r : Bool) (w : World) (h : ndjqref01_Valid.f k a0 = some r) :
    Calls Try.prog 45 #[.string a0] w fun e w' => e = .returned (.bool r) ∧ Below w.heap.size w w' := by
  have HB := Aside0.mk (Below.refl w.heap.size w)
  have H : ((ndjqref01_Runes.f k a0).bind fun bt143 => (some bt143.2)) = some r := h
  clear h
  replace H := Option.bind_eq_some_iff.mp H
  obtain ⟨⟨t143, t144⟩, A20, H⟩ := H
  replace H : (some t144) = some r := H
  have A2 := Aside0.mk A20
  clear A20
  obtain rfl := Option.some.inj H
  go_enter Try.func45, Try.ntmps45
  go_wp2_with (first | ((with_reducible refine gate_callee (f := 71) rfl ?_); refine goesL_ (some 7) rfl rfl Try.func71 (by kernel_rfl) rfl #[.string a0] rfl (by (try simp only [List.map_toArray, List.map_cons, List.map_nil]); first | done | rfl | (simp only [List.length_drop, List.length_take]; rfl)) ?_; (with_reducible refine (ndjqref01_Runes.calls k a0 t143 t144 _ A2.out).mono ?_); rintro e w3 ⟨v145, rfl, ho0, hb⟩; refine ⟨_, rfl, ?_⟩; have n0_ := Aside0.mk (Kd.R_lower ho0 (below_size (by repeat (first | (with_reducible first | exact HB.out | apply below_alloc | apply pw_below_drewN | apply below_drew1) | exact HB.out)))); have n1_ := Aside0.mk (below_step (by repeat (first | (with_reducible first | exact HB.out | apply below_alloc | apply pw_below_drewN | apply below_drew1) | exact HB.out)) hb); clear HB; have HO146 := n0_; have HB := n1_; clear n0_ n1_; (try clear hb); (try clear hb2); (try clear hk); (try clear hi); (try clear ho0)))
  go_ret
  exact ⟨by first | rfl | (simp [errW_none, errW_some] <;> rfl) | (simp [*, errW_none, errW_some] <;> rfl), by repeat (first | (with_reducible first | exact HB.out | apply below_alloc | apply pw_below_drewN | apply below_drew1) | exact HB.out)⟩

end Go.Proofs.Ytgpjkojnmeaoiaa.QV

/- UTF-8 validity, for the program's and the reference's printed functions. -/
namespace Go.Proofs.Ytgpjkojnmeaoiaa.QV
open Go.RowKit Go.Proofs.YtgpjkojnmeaoiaaW.PrintWords Go.Proofs.YtgpjkojnmeaoiaaW.PrintLast
set_option linter.unusedVariables false
set_option linter.unusedSimpArgs false
/-! ### UTF-8, plain: code points, their encodings, and decoding at an offset -/
def pt (r : Int) : Bool := decide (0 ≤ r) && decide (r ≤ 1114111) && (decide (r < 55296) || decide (57343 < r))
theorem pt_iff (r : Int) : pt r = true ↔ 0 ≤ r ∧ r ≤ 1114111 ∧ (r < 55296 ∨ 57343 < r) := by
  simp only [pt, Bool.and_eq_true, Bool.or_eq_true, decide_eq_true_eq, and_assoc]
/-- A byte that continues an encoding: its six bits. -/
def cb (s : ByteArray) (i : Int) : Option Int := if 0 ≤ i ∧ i < (s.size : Int) ∧ 128 ≤ bt s i ∧ bt s i < 192 then some (bt s i - 128) else none
theorem cb_bd {s : ByteArray} {i a : Int} (h : cb s i = some a) : 0 ≤ a ∧ a < 64 ∧ i < (s.size : Int) ∧ 0 ≤ i ∧ bt s i = 128 + a := by
  unfold cb at h
  split at h
  · rename_i hc
    injection h with h
    omega
  · cases h
def bad : Int × Int × Bool := (0, 0, false)
def fin (r n least : Int) : Int × Int × Bool := if least ≤ r ∧ pt r = true then (r, n, true) else bad
def dec2 (s : ByteArray) (i r : Int) : Int × Int × Bool := match cb s (i + 1) with
  | some a => fin (r * 64 + a) 2 128
  | none => bad
def dec3 (s : ByteArray) (i r : Int) : Int × Int × Bool := match cb s (i + 1) with
  | some a => (match cb s (i + 2) with
    | some b => fin ((r * 64 + a) * 64 + b) 3 2048
    | none => bad)
  | none => bad
def dec4 (s : ByteArray) (i r : Int) : Int × Int × Bool := match cb s (i + 1) with
  | some a => (match cb s (i + 2) with
    | some b => (match cb s (i + 3) with
      | some c => fin (((r * 64 + a) * 64 + b) * 64 + c) 4 65536
      | none => bad)
    | none => bad)
  | none => bad
/-- What Decode answers. -/
def dec (s : ByteArray) (i : Int) : Int × Int × Bool :=
  if i < 0 then bad else if (s.size : Int) ≤ i then bad
  else if bt s i < 128 then (bt s i, 1, true)
  else if bt s i < 192 then bad
  else if bt s i < 224 then dec2 s i (bt s i - 192)
  else if bt s i < 240 then dec3 s i (bt s i - 224)
  else if bt s i < 248 then dec4 s i (bt s i - 240)
  else bad
/-- The encoding of a code point. -/
def enc (r : Int) : List Int :=
  if r < 128 then [r] else if r < 2048 then [192 + r / 64, 128 + r % 64]
  else if r < 65536 then [224 + r / 4096, 128 + r / 64 % 64, 128 + r % 64]
  else [240 + r / 262144, 128 + r / 4096 % 64, 128 + r / 64 % 64, 128 + r % 64]
theorem enc_len (r : Int) : 1 ≤ (enc r).length ∧ (enc r).length ≤ 4 := by unfold enc; split <;> (try split) <;> (try split) <;> simp
theorem enc_byte (r : Int) (h : pt r = true) : ∀ c ∈ enc r, 0 ≤ c ∧ c ≤ 255 := by
  rw [pt_iff] at h
  intro c hc
  unfold enc at hc
  split at hc
  · simp at hc; omega
  · split at hc
    · simp at hc; omega
    · split at hc
      · simp at hc; omega
      · simp at hc; omega
theorem wrap_id (n : Int) (h : -9223372036854775808 ≤ n) (h' : n ≤ 9223372036854775807) : wrap64 n = n := by unfold wrap64; omega
theorem i64_wraps (n : Int) (h₀ : 0 ≤ n) (h₁ : n < 2 ^ 62) : IntKind.i64.wrap n = n := by rw [IntKind.wrap_i64]; omega
theorem i64_mask (i : Nat) (hi : i ≤ 62) (x : Int) (h₀ : 0 ≤ x) (h₁ : x < 2 ^ 62) : bits .and .i64 x (2 ^ i - 1) = x % 2 ^ i := bits_mask .i64 62 (by decide) i64_wraps i hi x h₀ h₁
theorem i64_join (i : Nat) (x y : Int) (hx₀ : 0 ≤ x) (hx : x % 2 ^ i = 0) (hx₁ : x < 2 ^ 62) (hy₀ : 0 ≤ y) (hy : y < 2 ^ i) (hy₁ : y < 2 ^ 62) : bits .or .i64 x y = x + y :=
  bits_join .i64 62 (by decide) i64_wraps i x y hx₀ hx hx₁ hy₀ hy hy₁
theorem or6 (r c : Int) (h : 0 ≤ r) (h' : r < 1048576) (hc : 0 ≤ c) (hc' : c < 64) : bits .or .i64 (wrap64 (r * 64)) c = r * 64 + c := by
  rw [wrap_id _ (by omega) (by omega)]
  exact i64_join 6 (r * 64) c (by omega) (by omega) (by omega) hc (by omega) (by omega)
theorem and63 (x : Int) (h : 0 ≤ x) (h' : x < 4611686018427387904) : bits .and .i64 x 63 = x % 64 := i64_mask 6 (by decide) x h (by omega)
theorem and31 (x : Int) (h : 0 ≤ x) (h' : x < 4611686018427387904) : bits .and .i64 x 31 = x % 32 := i64_mask 5 (by decide) x h (by omega)
theorem and15 (x : Int) (h : 0 ≤ x) (h' : x < 4611686018427387904) : bits .and .i64 x 15 = x % 16 := i64_mask 4 (by decide) x h (by omega)
theorem and7 (x : Int) (h : 0 ≤ x) (h' : x < 4611686018427387904) : bits .and .i64 x 7 = x % 8 := i64_mask 3 (by decide) x h (by omega)
theorem u8_192 (x : Int) (h : 0 ≤ x) (h' : x ≤ 255) : bits .and .u8 x 192 = x / 64 * 64 := by
  obtain ⟨n, rfl⟩ := Int.eq_ofNat_of_zero_le h
  have hn : n < 256 := by omega
  have key : ∀ m : Fin 256, bits .and .u8 ((m.val : Nat) : Int) 192 = ((m.val : Nat) : Int) / 64 * 64 := by decide +kernel
  exact key ⟨n, hn⟩
/-! ### the program's Decode and the reference's -/
theorem next_at (s : ByteArray) (i : Int) (h : 0 ≤ i) : utf_next.f s i = some (match cb s i with
    | some a => (a, true)
    | none => (0, false)) := by
  have hb := bt_range s i
  unfold utf_next.f cb
  by_cases h1 : i ≥ (s.size : Int)
  · rw [if_pos h1, if_neg (by omega)]
  · rw [if_neg h1, if_pos h, if_pos (by omega), u8_192 _ hb.1 hb.2]
    by_cases h2 : bt s i / 64 * 64 = 128
    · rw [if_pos h2, if_pos (by omega), u8_and63 _ hb.1 (by omega), wrap_id _ (by omega) (by omega)]
      simp only [Option.some.injEq, Prod.mk.injEq, and_true]
      omega
    · rw [if_neg h2, if_neg (by omega)]
theorem point_at (r : Int) : utf_point.f r = some (pt r) := by
  unfold utf_point.f pt
  by_cases h1 : r ≥ 0
  · rw [if_pos h1]
    by_cases h2 : r ≤ 1114111
    · rw [if_pos h2]
      by_cases h3 : r < 55296
      · rw [if_pos h3]; simp [h1, h2, h3]
      · rw [if_neg h3]; simp [h1, h2, h3]
    · rw [if_neg h2]; simp [h2]
  · rw [if_neg h1]; simp [h1]
theorem dloop_end (s : ByteArray) (k : Nat) (i n r least j : Int) (h : ¬ j < n) : utf_Decode.l0 (k + 1) s i n r least j = some (fin r n least) := by
  simp only [utf_Decode.l0]
  rw [if_neg h, point_at]
  simp only [Option.bind_some]
  unfold fin bad
  by_cases h1 : r < least
  · rw [if_pos h1, if_neg (by omega)]
  · rw [if_neg h1]
    by_cases h2 : pt r = true
    · rw [if_pos h2, if_pos ⟨by omega, h2⟩]
    · rw [if_neg h2, if_neg (fun h => h2 h.2)]
theorem dloop_go (s : ByteArray) (k : Nat) (i n r least j : Int) (h : j < n) (hi : 0 ≤ i) (hi' : i < 4611686018427387904) (hj : 1 ≤ j) (hj' : j ≤ 4) (hr : 0 ≤ r) (hr' : r < 1048576) :
    utf_Decode.l0 (k + 1) s i n r least j = (match cb s (i + j) with
      | some a => utf_Decode.l0 k s i n (r * 64 + a) least (j + 1)
      | none => some bad) := by
  simp only [utf_Decode.l0]
  rw [if_pos h, wrap_id (i + j) (by omega) (by omega), next_at s _ (by omega)]
  cases hc : cb s (i + j) with
  | none => simp [bad]
  | some a =>
    have hb := cb_bd hc
    simp only [Option.bind_some, if_true]
    rw [or6 r a hr hr' (by omega) (by omega), wrap_id (j + 1) (by omega) (by omega)]
theorem dloop2 (s : ByteArray) (k : Nat) (i r : Int) (hi : 0 ≤ i) (hi' : i < 4611686018427387904) (hr : 0 ≤ r) (hr' : r < 32) : utf_Decode.l0 (k + 2) s i 2 r 128 1 = some (dec2 s i r) := by
  rw [dloop_go s (k + 1) i 2 r 128 1 (by omega) hi hi' (by omega) (by omega) hr (by omega)]
  unfold dec2
  cases hc : cb s (i + 1) with
  | none => rfl
  | some a => exact dloop_end _ _ _ _ _ _ _ (by omega)
theorem dloop3 (s : ByteArray) (k : Nat) (i r : Int) (hi : 0 ≤ i) (hi' : i < 4611686018427387904) (hr : 0 ≤ r) (hr' : r < 16) : utf_Decode.l0 (k + 3) s i 3 r 2048 1 = some (dec3 s i r) := by
  rw [dloop_go s (k + 2) i 3 r 2048 1 (by omega) hi hi' (by omega) (by omega) hr (by omega)]
  unfold dec3
  cases hc : cb s (i + 1) with
  | none => rfl
  | some a =>
    have hb := cb_bd hc
    show utf_Decode.l0 (k + 2) s i 3 (r * 64 + a) 2048 2 = _
    rw [dloop_go s (k + 1) i 3 _ 2048 2 (by omega) hi hi' (by omega) (by omega) (by omega) (by omega)]
    cases hd : cb s (i + 2) with
    | none => rfl
    | some b => exact dloop_end _ _ _ _ _ _ _ (by omega)
theorem dloop4 (s : ByteArray) (k : Nat) (i r : Int) (hi : 0 ≤ i) (hi' : i < 4611686018427387904) (hr : 0 ≤ r) (hr' : r < 8) : utf_Decode.l0 (k + 4) s i 4 r 65536 1 = some (dec4 s i r) := by
  rw [dloop_go s (k + 3) i 4 r 65536 1 (by omega) hi hi' (by omega) (by omega) hr (by omega)]
  unfold dec4
  cases hc : cb s (i + 1) with
  | none => rfl
  | some a =>
    have hb := cb_bd hc
    show utf_Decode.l0 (k + 3) s i 4 (r * 64 + a) 65536 2 = _
    rw [dloop_go s (k + 2) i 4 _ 65536 2 (by omega) hi hi' (by omega) (by omega) (by omega) (by omega)]
    cases hd : cb s (i + 2) with
    | none => rfl
    | some b =>
      have hb' := cb_bd hd
      show utf_Decode.l0 (k + 2) s i 4 ((r * 64 + a) * 64 + b) 65536 3 = _
      rw [dloop_go s (k + 1) i 4 _ 65536 3 (by omega) hi hi' (by omega) (by omega) (by omega) (by omega)]
      cases he : cb s (i + 3) with
      | none => rfl
      | some c => exact dloop_end _ _ _ _ _ _ _ (by omega)
theorem decode_at (s : ByteArray) (i : Int) (k : Nat) (hs : s.size ≤ 140737488351232) (hk : 9 ≤ k) : utf_Decode.f k s i = some (dec s i) := by
  obtain ⟨k, rfl⟩ : ∃ m, k = m + 9 := ⟨k - 9, by omega⟩
  have hb := bt_range s i
  unfold utf_Decode.f dec
  by_cases h0 : i < 0
  · rw [if_pos h0, if_pos h0]; simp only [utf_Decode.j0]; rfl
  rw [if_neg h0, if_neg h0]
  by_cases h1 : (s.size : Int) ≤ i
  · rw [if_pos h1, decide_eq_true (by omega)]; simp only [utf_Decode.j0]; rfl
  rw [if_neg h1, decide_eq_false (by omega)]
  simp only [utf_Decode.j0]
  rw [if_neg (by decide), if_pos (by omega), if_pos (by omega), wrap_id (bt s i) (by omega) (by omega)]
  by_cases h2 : bt s i < 128
  · rw [if_pos h2, if_pos h2]
  rw [if_neg h2, if_neg h2]
  by_cases h3 : bt s i < 192
  · rw [if_neg (by omega), if_pos h3]
    simp only [utf_Decode.j1]
    rw [if_neg (by decide), if_neg (by omega)]
    simp only [utf_Decode.j2]
    rw [if_neg (by decide), if_neg (by omega)]
    rfl
  rw [if_pos (by omega), if_neg h3]
  by_cases h4 : bt s i < 224
  · rw [if_pos h4, decide_eq_true h4]
    simp only [utf_Decode.j1, utf_Decode.j3]
    rw [if_pos trivial, and31 _ (by omega) (by omega), show bt s i % 32 = bt s i - 192 from by omega]
    exact dloop2 s _ i _ (by omega) (by omega) (by omega) (by omega)
  rw [if_neg h4, decide_eq_false h4]
  simp only [utf_Decode.j1]
  rw [if_neg (by decide), if_pos (by omega)]
  by_cases h5 : bt s i < 240
  · rw [if_pos h5, decide_eq_true h5]
    simp only [utf_Decode.j2, utf_Decode.j3]
    rw [if_pos trivial, and15 _ (by omega) (by omega), show bt s i % 16 = bt s i - 224 from by omega]
    exact dloop3 s _ i _ (by omega) (by omega) (by omega) (by omega)
  rw [if_neg h5, decide_eq_false h5]
  simp only [utf_Decode.j2]
  rw [if_neg (by decide), if_pos (by omega)]
  by_cases h6 : bt s i < 248
  · rw [if_pos h6, if_pos h6]
    simp only [utf_Decode.j3]
    rw [and7 _ (by omega) (by omega), show bt s i % 8 = bt s i - 240 from by omega]
    exact dloop4 s _ i _ (by omega) (by omega) (by omega) (by omega)
  · rw [if_neg h6, if_neg h6]; rfl
/-! ### the reference's Decode -/
theorem size_at (r : Int) (k : Nat) (hk : 1 ≤ k) : ndjqref01_size.f k r = some (if pt r = true then ((enc r).length : Int) else 0) := by
  obtain ⟨k, rfl⟩ : ∃ m, k = m + 1 := ⟨k - 1, by omega⟩
  unfold ndjqref01_size.f
  by_cases hp : pt r = true
  · rw [if_pos hp]
    rw [pt_iff] at hp
    rw [if_neg (by omega), if_neg (by omega)]
    have main : ndjqref01_size.j0 (k + 1) r false = some ((enc r).length : Int) := by
      simp only [ndjqref01_size.j0]
      rw [if_neg (by decide)]
      unfold enc
      by_cases a : r < 128
      · rw [if_pos a, if_pos a]; rfl
      rw [if_neg a, if_neg a]
      by_cases b : r < 2048
      · rw [if_pos b, if_pos b]; rfl
      rw [if_neg b, if_neg b]
      by_cases c : r < 65536
      · rw [if_pos c, if_pos c]; rfl
      rw [if_neg c, if_neg c]; rfl
    by_cases h : r ≥ 55296
    · rw [if_pos h, decide_eq_false (by omega)]; exact main
    · rw [if_neg h]; exact main
  · rw [if_neg hp]
    have hp' : ¬ (0 ≤ r ∧ r ≤ 1114111 ∧ (r < 55296 ∨ 57343 < r)) := fun h => hp ((pt_iff r).2 h)
    by_cases h0 : r < 0
    · rw [if_pos h0]; simp only [ndjqref01_size.j0]; rfl
    rw [if_neg h0]
    by_cases h1 : r > 1114111
    · rw [if_pos h1]; simp only [ndjqref01_size.j0]; rfl
    rw [if_neg h1, if_pos (by omega), decide_eq_true (by omega)]
    simp only [ndjqref01_size.j0]; rfl
theorem enc_len_iff (r : Int) : (enc r).length = (if r < 128 then 1 else if r < 2048 then 2 else if r < 65536 then 3 else 4 : Nat) := by
  unfold enc
  split
  · rfl
  · split
    · rfl
    · split <;> rfl
theorem fin_size (r n least : Int) (h : least ≤ r ∧ pt r = true ↔ (if pt r = true then ((enc r).length : Int) else 0) = n) (k : Nat) (hk : 1 ≤ k) :
    ((ndjqref01_size.f k r).bind fun t => if t = n then some (r, n, true) else some (0, 0, false)) = some (fin r n least) := by
  rw [size_at r k hk]
  simp only [Option.bind_some]
  unfold fin bad
  by_cases c : least ≤ r ∧ pt r = true
  · rw [if_pos c, if_pos (h.1 c)]
  · rw [if_neg c, if_neg (fun e => c (h.2 e))]
theorem rfit2 (r : Int) (h0 : 0 ≤ r) (h : r < 2048) : 128 ≤ r ∧ pt r = true ↔ (if pt r = true then ((enc r).length : Int) else 0) = 2 := by
  by_cases hp : pt r = true
  · rw [if_pos hp, enc_len_iff]
    constructor
    · intro ⟨a, _⟩; rw [if_neg (by omega), if_pos h]; rfl
    · intro e; refine ⟨?_, hp⟩
      by_cases a : r < 128
      · rw [if_pos a] at e; cases e
      · omega
  · rw [if_neg hp]; exact ⟨fun h => absurd h.2 hp, fun h => by cases h⟩
theorem rfit3 (r : Int) (h0 : 0 ≤ r) (h : r < 65536) : 2048 ≤ r ∧ pt r = true ↔ (if pt r = true then ((enc r).length : Int) else 0) = 3 := by
  by_cases hp : pt r = true
  · rw [if_pos hp, enc_len_iff]
    constructor
    · intro ⟨a, _⟩; rw [if_neg (by omega), if_neg (by omega), if_pos h]; rfl
    · intro e; refine ⟨?_, hp⟩
      by_cases a : r < 128
      · rw [if_pos a] at e; cases e
      · rw [if_neg a] at e
        by_cases b : r < 2048
        · rw [if_pos b] at e; cases e
        · omega
  · rw [if_neg hp]; exact ⟨fun h => absurd h.2 hp, fun h => by cases h⟩
theorem rfit4 (r : Int) (h0 : 0 ≤ r) : 65536 ≤ r ∧ pt r = true ↔ (if pt r = true then ((enc r).length : Int) else 0) = 4 := by
  by_cases hp : pt r = true
  · rw [if_pos hp, enc_len_iff]
    constructor
    · intro ⟨a, _⟩; rw [if_neg (by omega), if_neg (by omega), if_neg (by omega)]; rfl
    · intro e; refine ⟨?_, hp⟩
      by_cases a : r < 128
      · rw [if_pos a] at e; cases e
      · rw [if_neg a] at e
        by_cases b : r < 2048
        · rw [if_pos b] at e; cases e
        · rw [if_neg b] at e
          by_cases c : r < 65536
          · rw [if_pos c] at e; cases e
          · omega
  · rw [if_neg hp]; exact ⟨fun h => absurd h.2 hp, fun h => by cases h⟩
theorem rloop_end (s : ByteArray) (k : Nat) (i n r least j : Int) (h : ¬ j < n) (hf : least ≤ r ∧ pt r = true ↔ (if pt r = true then ((enc r).length : Int) else 0) = n) :
    ndjqref01_Decode.l0 (k + 2) s i n r j = some (fin r n least) := by
  simp only [ndjqref01_Decode.l0]
  rw [if_neg h]
  exact fin_size r n least hf _ (by omega)
theorem rloop_go (s : ByteArray) (k : Nat) (i n r j : Int) (h : j < n) (hi : 0 ≤ i) (hi' : i < 4611686018427387904) (hj : 1 ≤ j) (hj' : j ≤ 4) (hr : 0 ≤ r) (hr' : r < 1048576) (hn : i + j < (s.size : Int)) :
    ndjqref01_Decode.l0 (k + 1) s i n r j = (match cb s (i + j) with
      | some a => ndjqref01_Decode.l0 k s i n (r * 64 + a) (j + 1)
      | none => some bad) := by
  have hb := bt_range s (i + j)
  simp only [ndjqref01_Decode.l0]
  rw [if_pos h, wrap_id (i + j) (by omega) (by omega), if_pos (by omega), if_pos hn, wrap_id (bt s (i + j)) (by omega) (by omega)]
  unfold cb
  by_cases a : bt s (i + j) < 128
  · rw [if_pos a, if_neg (by omega)]; rfl
  rw [if_neg a]
  by_cases b : bt s (i + j) ≥ 192
  · rw [if_pos b, if_neg (by omega)]; rfl
  rw [if_neg b, if_pos (by omega), and63 _ (by omega) (by omega), or6 r _ hr hr' (by omega) (by omega), wrap_id (j + 1) (by omega) (by omega), show bt s (i + j) % 64 = bt s (i + j) - 128 from by omega]
theorem cb_out {s : ByteArray} {i : Int} (h : (s.size : Int) ≤ i) : cb s i = none := by
  unfold cb; rw [if_neg (by omega)]
theorem rj2 (s : ByteArray) (k : Nat) (i r : Int) (hs : s.size ≤ 140737488351232) (hi : 0 ≤ i) (hi' : i < (s.size : Int)) (hr : 0 ≤ r) (hr' : r < 32) : ndjqref01_Decode.j3 (k + 9) s i 2 r = some (dec2 s i r) := by
  simp only [ndjqref01_Decode.j3]
  rw [wrap_id ((s.size : Int) - i) (by omega) (by omega)]
  unfold dec2
  by_cases h : (2 : Int) > (s.size : Int) - i
  · rw [if_pos h, cb_out (by omega)]; rfl
  rw [if_neg h, rloop_go s (k + 7) i 2 r 1 (by omega) hi (by omega) (by omega) (by omega) hr (by omega) (by omega)]
  cases hc : cb s (i + 1) with
  | none => rfl
  | some a =>
    have hb := cb_bd hc
    exact rloop_end s (k + 5) i 2 (r * 64 + a) 128 2 (by omega) (rfit2 _ (by omega) (by omega))
theorem rj3 (s : ByteArray) (k : Nat) (i r : Int) (hs : s.size ≤ 140737488351232) (hi : 0 ≤ i) (hi' : i < (s.size : Int)) (hr : 0 ≤ r) (hr' : r < 16) : ndjqref01_Decode.j3 (k + 9) s i 3 r = some (dec3 s i r) := by
  simp only [ndjqref01_Decode.j3]
  rw [wrap_id ((s.size : Int) - i) (by omega) (by omega)]
  unfold dec3
  by_cases h : (3 : Int) > (s.size : Int) - i
  · rw [if_pos h]
    cases hc : cb s (i + 1) with
    | none => rfl
    | some a => simp only []; rw [cb_out (i := i + 2) (by omega)]; rfl
  rw [if_neg h, rloop_go s (k + 7) i 3 r 1 (by omega) hi (by omega) (by omega) (by omega) hr (by omega) (by omega)]
  cases hc : cb s (i + 1) with
  | none => rfl
  | some a =>
    have hb := cb_bd hc
    show ndjqref01_Decode.l0 (k + 7) s i 3 (r * 64 + a) 2 = _
    rw [rloop_go s (k + 6) i 3 _ 2 (by omega) hi (by omega) (by omega) (by omega) (by omega) (by omega) (by omega)]
    cases hd : cb s (i + 2) with
    | none => rfl
    | some b =>
      have hb' := cb_bd hd
      exact rloop_end s (k + 4) i 3 ((r * 64 + a) * 64 + b) 2048 3 (by omega) (rfit3 _ (by omega) (by omega))
theorem rj4 (s : ByteArray) (k : Nat) (i r : Int) (hs : s.size ≤ 140737488351232) (hi : 0 ≤ i) (hi' : i < (s.size : Int)) (hr : 0 ≤ r) (hr' : r < 8) : ndjqref01_Decode.j3 (k + 9) s i 4 r = some (dec4 s i r) := by
  simp only [ndjqref01_Decode.j3]
  rw [wrap_id ((s.size : Int) - i) (by omega) (by omega)]
  unfold dec4
  by_cases h : (4 : Int) > (s.size : Int) - i
  · rw [if_pos h]
    cases hc : cb s (i + 1) with
    | none => rfl
    | some a =>
      simp only []
      cases hd : cb s (i + 2) with
      | none => rfl
      | some b => simp only []; rw [cb_out (i := i + 3) (by omega)]; rfl
  rw [if_neg h, rloop_go s (k + 7) i 4 r 1 (by omega) hi (by omega) (by omega) (by omega) hr (by omega) (by omega)]
  cases hc : cb s (i + 1) with
  | none => rfl
  | some a =>
    have hb := cb_bd hc
    show ndjqref01_Decode.l0 (k + 7) s i 4 (r * 64 + a) 2 = _
    rw [rloop_go s (k + 6) i 4 _ 2 (by omega) hi (by omega) (by omega) (by omega) (by omega) (by omega) (by omega)]
    cases hd : cb s (i + 2) with
    | none => rfl
    | some b =>
      have hb' := cb_bd hd
      show ndjqref01_Decode.l0 (k + 6) s i 4 ((r * 64 + a) * 64 + b) 3 = _
      rw [rloop_go s (k + 5) i 4 _ 3 (by omega) hi (by omega) (by omega) (by omega) (by omega) (by omega) (by omega)]
      cases he : cb s (i + 3) with
      | none => rfl
      | some c =>
        have hb'' := cb_bd he
        exact rloop_end s (k + 3) i 4 (((r * 64 + a) * 64 + b) * 64 + c) 65536 4 (by omega) (rfit4 _ (by omega))
theorem rdecode_at (s : ByteArray) (i : Int) (k : Nat) (hs : s.size ≤ 140737488351232) (hk : 19 ≤ k) : ndjqref01_Decode.f k s i = some (dec s i) := by
  obtain ⟨k, rfl⟩ : ∃ m, k = m + 19 := ⟨k - 19, by omega⟩
  have hb := bt_range s i
  unfold ndjqref01_Decode.f dec
  by_cases h0 : i < 0
  · rw [if_pos h0, if_pos h0]; simp only [ndjqref01_Decode.j0]; rfl
  rw [if_neg h0, if_neg h0]
  by_cases h1 : (s.size : Int) ≤ i
  · rw [if_pos h1, decide_eq_true (by omega)]; simp only [ndjqref01_Decode.j0]; rfl
  rw [if_neg h1, decide_eq_false (by omega)]
  simp only [ndjqref01_Decode.j0]
  rw [if_neg (by decide), if_pos (by omega), if_pos (by omega), wrap_id (bt s i) (by omega) (by omega)]
  by_cases h2 : bt s i < 128
  · rw [if_pos h2, if_pos h2]
  rw [if_neg h2, if_neg h2]
  by_cases h3 : bt s i < 192
  · rw [if_neg (by omega), if_pos h3]
    simp only [ndjqref01_Decode.j1]
    rw [if_neg (by decide), if_neg (by omega)]
    simp only [ndjqref01_Decode.j2]
    rw [if_neg (by decide), if_neg (by omega)]
    rfl
  rw [if_pos (by omega), if_neg h3]
  by_cases h4 : bt s i < 224
  · rw [if_pos h4, decide_eq_true h4]
    simp only [ndjqref01_Decode.j1]
    rw [if_pos trivial, and31 _ (by omega) (by omega), show bt s i % 32 = bt s i - 192 from by omega]
    exact rj2 s (k + 8) i _ hs (by omega) (by omega) (by omega) (by omega)
  rw [if_neg h4, decide_eq_false h4]
  simp only [ndjqref01_Decode.j1]
  rw [if_neg (by decide), if_pos (by omega)]
  by_cases h5 : bt s i < 240
  · rw [if_pos h5, decide_eq_true h5]
    simp only [ndjqref01_Decode.j2]
    rw [if_pos trivial, and15 _ (by omega) (by omega), show bt s i % 16 = bt s i - 224 from by omega]
    exact rj3 s (k + 7) i _ hs (by omega) (by omega) (by omega) (by omega)
  rw [if_neg h5, decide_eq_false h5]
  simp only [ndjqref01_Decode.j2]
  rw [if_neg (by decide), if_pos (by omega)]
  by_cases h6 : bt s i < 248
  · rw [if_pos h6, if_pos h6, and7 _ (by omega) (by omega), show bt s i % 8 = bt s i - 240 from by omega]
    exact rj4 s (k + 7) i _ hs (by omega) (by omega) (by omega) (by omega)
  · rw [if_neg h6, if_neg h6]; rfl
/-! ### the code points from an offset on -/
def rn (s : ByteArray) : Nat → Int → Option (List Int)
  | 0, _ => none
  | m + 1, i => if i < (s.size : Int) then (if (dec s i).2.2 = true then (rn s m (i + (dec s i).2.1)).map ((dec s i).1 :: ·) else none) else some []
theorem fin_num (r n least : Int) : (fin r n least).2.2 = true → (fin r n least) = (r, n, true) := by
  unfold fin bad
  split
  · intro _; rfl
  · intro h; cases h
/-- A code point that is read takes one to four bytes and ends within the string. -/
theorem dec_len (s : ByteArray) (i : Int) (h : (dec s i).2.2 = true) : 0 ≤ i ∧ 1 ≤ (dec s i).2.1 ∧ (dec s i).2.1 ≤ 4 ∧ i + (dec s i).2.1 ≤ (s.size : Int) := by
  unfold dec at h ⊢
  by_cases h0 : i < 0
  · rw [if_pos h0] at h; cases h
  rw [if_neg h0] at h ⊢
  by_cases h1 : (s.size : Int) ≤ i
  · rw [if_pos h1] at h; cases h
  rw [if_neg h1] at h ⊢
  by_cases h2 : bt s i < 128
  · rw [if_pos h2] at h ⊢; simp only []; omega
  rw [if_neg h2] at h ⊢
  by_cases h3 : bt s i < 192
  · rw [if_pos h3] at h; cases h
  rw [if_neg h3] at h ⊢
  by_cases h4 : bt s i < 224
  · rw [if_pos h4] at h ⊢
    unfold dec2 at h ⊢
    cases hc : cb s (i + 1) with
    | none => rw [hc] at h; cases h
    | some a =>
      rw [hc] at h
      have := cb_bd hc
      simp only [] at h ⊢
      rw [fin_num _ _ _ h]; simp only []; omega
  rw [if_neg h4] at h ⊢
  by_cases h5 : bt s i < 240
  · rw [if_pos h5] at h ⊢
    unfold dec3 at h ⊢
    cases hc : cb s (i + 1) with
    | none => rw [hc] at h; cases h
    | some a =>
      rw [hc] at h
      simp only [] at h ⊢
      cases hd : cb s (i + 2) with
      | none => rw [hd] at h; cases h
      | some b =>
        rw [hd] at h
        have := cb_bd hd
        simp only [] at h ⊢
        rw [fin_num _ _ _ h]; simp only []; omega
  rw [if_neg h5] at h ⊢
  by_cases h6 : bt s i < 248
  · rw [if_pos h6] at h ⊢
    unfold dec4 at h ⊢
    cases hc : cb s (i + 1) with
    | none => rw [hc] at h; cases h
    | some a =>
      rw [hc] at h
      simp only [] at h ⊢
      cases hd : cb s (i + 2) with
      | none => rw [hd] at h; cases h
      | some b =>
        rw [hd] at h
        simp only [] at h ⊢
        cases he : cb s (i + 3) with
        | none => rw [he] at h; cases h
        | some c =>
          rw [he] at h
          have := cb_bd he
          simp only [] at h ⊢
          rw [fin_num _ _ _ h]; simp only []; omega
  · rw [if_neg h6] at h; cases h
/-- The code points from the beginning on. -/
def runes (s : ByteArray) : Option (List Int) := rn s (s.size + 1) 0
theorem rn_len (s : ByteArray) : ∀ (m : Nat) (i : Int) (l : List Int), 0 ≤ i → rn s m i = some l → i ≤ s.size → (l.length : Int) ≤ (s.size : Int) - i
  | 0, _, _, _, h, _ => by cases h
  | m + 1, i, l, h0, h, hi => by
    simp only [rn] at h
    by_cases c : i < (s.size : Int)
    · rw [if_pos c] at h
      by_cases d : (dec s i).2.2 = true
      · rw [if_pos d] at h
        have dl := dec_len s i d
        cases e : rn s m (i + (dec s i).2.1) with
        | none => rw [e] at h; cases h
        | some l' =>
          rw [e] at h
          injection h with h
          have := rn_len s m _ l' (by omega) e dl.2.2.2
          rw [← h]
          simp only [List.length_cons]
          omega
      · rw [if_neg d] at h; cases h
    · rw [if_neg c] at h
      injection h with h
      rw [← h]
      simp; omega
/-! ### Count -/
theorem count_loop (s : ByteArray) (hs : s.size ≤ 140737488351232) : ∀ (m : Nat) (i c : Int) (k : Nat), 0 ≤ i → i ≤ s.size → (s.size : Int) - i < m → 0 ≤ c → c ≤ i → m + 9 ≤ k →
    utf_Count.l0 k s c i = some (match rn s m i with
      | some l => (c + l.length, true)
      | none => (0, false))
  | 0, i, c, k, h0, hi, hm, _, _, _ => by omega
  | m + 1, i, c, k, h0, hi, hm, hc0, hc, hk => by
    obtain ⟨k, rfl⟩ : ∃ j, k = j + 1 := ⟨k - 1, by omega⟩
    simp only [utf_Count.l0, rn]
    by_cases a : i < (s.size : Int)
    · rw [if_pos a, if_pos a, decode_at s i k hs (by omega)]
      simp only [Option.bind_some]
      by_cases d : (dec s i).2.2 = true
      · rw [if_pos d, if_pos d]
        have dl := dec_len s i d
        rw [wrap_id (c + 1) (by omega) (by omega), wrap_id (i + (dec s i).2.1) (by omega) (by omega)]
        rw [count_loop s hs m (i + (dec s i).2.1) (c + 1) k (by omega) (by omega) (by omega) (by omega) (by omega) (by omega)]
        cases e : rn s m (i + (dec s i).2.1) with
        | none => rfl
        | some l => simp only [Option.map_some, List.length_cons, Option.some.injEq, Prod.mk.injEq, and_true]; omega
      · rw [if_neg d, if_neg d]
    · rw [if_neg a, if_neg a]; simp
theorem count_at (s : ByteArray) (hs : s.size ≤ 140737488351232) (k : Nat) (hk : s.size + 10 ≤ k) : utf_Count.f k s = some (match runes s with
      | some l => ((l.length : Int), true)
      | none => (0, false)) := by
  unfold utf_Count.f runes
  rw [count_loop s hs (s.size + 1) 0 0 k (by omega) (by omega) (by omega) (by omega) (by omega) (by omega)]
  cases rn s (s.size + 1) 0 with
  | none => rfl
  | some l => simp
/-! ### the reference's Runes -/
theorem rrunes_loop (s : ByteArray) (hs : s.size < 17592186044416) : ∀ (m : Nat) (i : Int) (acc : List Int) (k : Nat), 0 ≤ i → i ≤ s.size → (s.size : Int) - i < m → (acc.length : Int) ≤ i → m + 19 ≤ k →
    ndjqref01_Runes.l0 k s acc i = some (match rn s m i with
      | some l => (acc ++ l, true)
      | none => ([], false))
  | 0, i, c, k, h0, hi, hm, _, _ => by omega
  | m + 1, i, acc, k, h0, hi, hm, hc, hk => by
    obtain ⟨k, rfl⟩ : ∃ j, k = j + 1 := ⟨k - 1, by omega⟩
    simp only [ndjqref01_Runes.l0, rn]
    by_cases a : i < (s.size : Int)
    · rw [if_pos a, if_pos a, rdecode_at s i k (by omega) (by omega)]
      simp only [Option.bind_some]
      by_cases d : (dec s i).2.2 = true
      · rw [if_pos d, if_pos d, if_pos (by omega)]
        have dl := dec_len s i d
        rw [wrap_id (i + (dec s i).2.1) (by omega) (by omega)]
        rw [rrunes_loop s hs m (i + (dec s i).2.1) (acc ++ [(dec s i).1]) k (by omega) (by omega) (by omega) (by simp only [List.length_append, List.length_cons, List.length_nil]; omega) (by omega)]
        cases e : rn s m (i + (dec s i).2.1) with
        | none => rfl
        | some l => simp
      · rw [if_neg d, if_neg d]
    · rw [if_neg a, if_neg a]; simp
theorem rrunes_at (s : ByteArray) (hs : s.size < 17592186044416) (k : Nat) (hk : s.size + 20 ≤ k) : ndjqref01_Runes.f k s = some (match runes s with
      | some l => (l, true)
      | none => ([], false)) := by
  unfold ndjqref01_Runes.f runes
  rw [rrunes_loop s hs (s.size + 1) 0 [] k (by omega) (by omega) (by omega) (by simp) (by omega)]
  cases rn s (s.size + 1) 0 with
  | none => rfl
  | some l => simp
theorem valid_at (s : ByteArray) (hs : s.size ≤ 140737488351232) (k : Nat) (hk : s.size + 10 ≤ k) : utf_Valid.f k s = some (runes s).isSome := by
  unfold utf_Valid.f
  rw [count_at s hs k hk]
  cases runes s <;> rfl
def u8 (s : ByteArray) : Bool := (runes s).isSome
theorem rvalid_at (s : ByteArray) (hs : s.size < 17592186044416) (k : Nat) (hk : s.size + 20 ≤ k) : ndjqref01_Valid.f k s = some (runes s).isSome := by
  unfold ndjqref01_Valid.f
  rw [rrunes_at s hs k hk]
  cases runes s <;> rfl
end Go.Proofs.Ytgpjkojnmeaoiaa.QV

/-
  DERIVED: THE SHELF's CONTRACTS AT THIS DUMP, IN PLAIN WORDS (tools/lay-plain.mjs out of 'TryShelf.lean', which tools/lay-shelf.mjs wrote): THE SAME DECLARATIONS UNDER THE SAME NAMES: 'import', 'namespace', 'open', 'def', 'theorem' AND NOTHING ELSE: no command of the shelf's: FOR A HAND-IN. Each laying: the table of numbers ('.._ren') and one theorem, a field a fact of the dump's own or the kernel's comparison; each contract: ONE APPLICATION.
-/
namespace Go.Proofs
open Go.Shelf
def Try.lays213_ren : Go.Shelf.Ren := ⟨fun | 213 => 87 | 265 => 95 | n => n, fun | 9 => 9 | 3 => 3 | n => n, fun | n => n⟩
theorem Try.lays213 : Go.Proofs.Lays.n213 Try.prog Try.lays213_ren := {
  mixed := by kernel_rfl
  f213 := Try.func87.trans (congrArg some (by kernel_rfl))
  f265 := Try.func95.trans (congrArg some (by kernel_rfl))
  t3 := Try.underlying3
  a3 := Try.isAgg3
  z3 := Try.sizeOf3
  v3 := Try.zeroValue3
  t9 := Try.underlying9
  a9 := Try.isAgg9
  z9 := Try.sizeOf9
  v9 := Try.zeroValue9 }
open Go.RowKit in
/-- internal/bytealg.CompareString (what strings.Compare calls): IT RETURNS 'Lib.compareBytes a b'; the world is as it was. (LAID: no walk: one application.) -/
theorem Try.bytealg_CompareString (a b : ByteArray) (w : World) :
    Calls Try.prog 87 #[.string a, .string b] w fun e w' => e = .returned (.int .i64 (Lib.compareBytes a.data.toList b.data.toList)) ∧ w' = w := Any.bytealg_CompareString Try.lays213 a b w
def Try.lays106_ren : Go.Shelf.Ren := ⟨fun | 106 => 75 | 213 => 87 | 265 => 95 | n => n, fun | 9 => 9 | 3 => 3 | n => n, fun | n => n⟩
theorem Try.lays106 : Go.Proofs.Lays.n106 Try.prog Try.lays106_ren := {
  mixed := by kernel_rfl
  f106 := Try.func75.trans (congrArg some (by kernel_rfl))
  f213 := Try.func87.trans (congrArg some (by kernel_rfl))
  f265 := Try.func95.trans (congrArg some (by kernel_rfl))
  t3 := Try.underlying3
  a3 := Try.isAgg3
  z3 := Try.sizeOf3
  v3 := Try.zeroValue3
  t9 := Try.underlying9
  a9 := Try.isAgg9
  z9 := Try.sizeOf9
  v9 := Try.zeroValue9 }
open Go.RowKit in
/-- strings.Compare: "Compare returns an integer comparing two strings lexicographically. The result will be 0 if a == b, -1 if a < b, and +1 if a > b.": IT RETURNS 'Lib.compareBytes a b'; the world is as it was. (LAID: no walk: one application.) -/
theorem Try.strings_Compare (a b : ByteArray) (w : World) :
    Calls Try.prog 75 #[.string a, .string b] w fun e w' => e = .returned (.int .i64 (Lib.compareBytes a.data.toList b.data.toList)) ∧ w' = w := Any.strings_Compare Try.lays106 a b w
end Go.Proofs
