/- The meter of vals: fits, by hand. -/
import Derived.Test.YtgpjkojnmeaoiaaV2
import Derived.RegionTactic
import Derived.ChangeAlike
namespace Go.Proofs.Ytgpjkojnmeaoiaa.QV
open Go Go.RowKit Go.Proofs.YtgpjkojnmeaoiaaW.PrintWords Go.Proofs.YtgpjkojnmeaoiaaW.PrintLast Go.Proofs.YtgpjkojnmeaoiaaW.PrintMore
set_option linter.unusedVariables false
set_option linter.unusedSimpArgs false
set_option maxRecDepth 100000
set_option maxHeartbeats 4000000
def ksum : List ByteArray → Nat
  | [] => 0
  | k :: l => k.size + ksum l
theorem ksum_app (l m : List ByteArray) : ksum (l ++ m) = ksum l + ksum m := by
  induction l with
  | nil => simp [ksum]
  | cons k l ih => simp only [List.cons_append, ksum, ih]; omega
theorem ksum_take {l : List ByteArray} {i : Nat} {k : ByteArray} (h : l[i]? = some k) : ksum (l.take (i + 1)) = ksum (l.take i) + k.size := by
  rw [List.take_add_one, h, ksum_app]
  simp [ksum]
theorem ksum_ksz (l : List ByteArray) : ksum l ≤ ksz l := by
  induction l with
  | nil => simp [ksum, ksz]
  | cons k l ih => simp only [ksum, ksz]; omega
theorem ksum_le (l : List ByteArray) (i : Nat) : ksum (l.take i) ≤ ksum l := by
  have h := ksum_app (l.take i) (l.drop i)
  rw [List.take_append_drop] at h
  omega
mutual
def okv : Bool → Nat → S28 → Bool
  | form, ar, ⟨a, b, s, ks, es⟩ => decide (0 ≤ a) && decide (a ≤ 6) && !(a == 4 && decide (4096 < s.size)) && (!form || fm ⟨a, b, s, ks, es⟩) && (decide (a < 5) || (decide (ar < 32) && decide (es.length ≤ 1024) && okL form (ar + 1) es))
def okL : Bool → Nat → List S28 → Bool
  | _, _, [] => true
  | form, ar, e :: l => okv form ar e && okL form ar l
end
mutual
def nds : S28 → Nat
  | ⟨a, _, _, _, es⟩ => 1 + if a < 5 then 0 else ndsL es
def ndsL : List S28 → Nat
  | [] => 0
  | e :: l => nds e + ndsL l
end
mutual
def bts : S28 → Nat
  | ⟨a, _, s, ks, es⟩ => s.size + ksum ks + if a < 5 then 0 else btsL es
def btsL : List S28 → Nat
  | [] => 0
  | e :: l => bts e + btsL l
end
theorem okv_eq (form : Bool) (ar : Nat) (x : S28) : okv form ar x = (decide (0 ≤ x.f0) && decide (x.f0 ≤ 6) && !(x.f0 == 4 && decide (4096 < x.f2.size)) && (!form || fm x) && (decide (x.f0 < 5) || (decide (ar < 32) && decide (x.f4.length ≤ 1024) && okL form (ar + 1) x.f4))) := by obtain ⟨a, b, c, d, e⟩ := x; rw [okv]
theorem nds_eq (x : S28) : nds x = 1 + if x.f0 < 5 then 0 else ndsL x.f4 := by obtain ⟨a, b, c, d, e⟩ := x; rw [nds]
theorem bts_eq (x : S28) : bts x = x.f2.size + ksum x.f3 + if x.f0 < 5 then 0 else btsL x.f4 := by obtain ⟨a, b, c, d, e⟩ := x; rw [bts]
theorem okL_app (form : Bool) (ar : Nat) (l m : List S28) : okL form ar (l ++ m) = (okL form ar l && okL form ar m) := by
  induction l with
  | nil => simp [okL]
  | cons k l ih => simp only [List.cons_append, okL, ih, Bool.and_assoc]
theorem ndsL_app (l m : List S28) : ndsL (l ++ m) = ndsL l + ndsL m := by
  induction l with
  | nil => simp [ndsL]
  | cons k l ih => simp only [List.cons_append, ndsL, ih]; omega
theorem btsL_app (l m : List S28) : btsL (l ++ m) = btsL l + btsL m := by
  induction l with
  | nil => simp [btsL]
  | cons k l ih => simp only [List.cons_append, btsL, ih]; omega
theorem okL_take {form : Bool} {ar : Nat} {l : List S28} {i : Nat} {k : S28} (h : l[i]? = some k) : okL form ar (l.take (i + 1)) = (okL form ar (l.take i) && okv form ar k) := by
  rw [List.take_add_one, h, okL_app]
  simp [okL]
theorem ndsL_take {l : List S28} {i : Nat} {k : S28} (h : l[i]? = some k) : ndsL (l.take (i + 1)) = ndsL (l.take i) + nds k := by
  rw [List.take_add_one, h, ndsL_app]
  simp [ndsL]
theorem btsL_take {l : List S28} {i : Nat} {k : S28} (h : l[i]? = some k) : btsL (l.take (i + 1)) = btsL (l.take i) + bts k := by
  rw [List.take_add_one, h, btsL_app]
  simp [btsL]
theorem part_le {form : Bool} {ar : Nat} (l : List S28) (i : Nat) : ndsL (l.take i) ≤ ndsL l ∧ btsL (l.take i) ≤ btsL l ∧ (okL form ar l = true → okL form ar (l.take i) = true) := by
  have h := ndsL_app (l.take i) (l.drop i)
  have h' := btsL_app (l.take i) (l.drop i)
  have h'' := okL_app form ar (l.take i) (l.drop i)
  rw [List.take_append_drop] at h h' h''
  refine ⟨by omega, by omega, fun e => ?_⟩
  rw [h''] at e
  simpa using (Bool.and_eq_true_iff.1 e).1
/-- What the meter answers. -/
def fitR (form : Bool) (ar : Nat) (x : S28) (n b : Int) : Bool := okv form ar x && decide (n + nds x ≤ 4096) && decide (b + bts x ≤ 65536)
/-- Between two steps: the meter in block m, the boxed value in block v, all else as it was. -/
structure Ft (w0 w W : World) (m v : Nat) (n b : Int) (A3 : Option Addr) (c3 : Nat) (A4 : Option Addr) (c4 : Nat) (x : S28) : Prop where
  z : Below w0.heap.size w0 W
  mm : W.heap[m]? = some (.cells #[.int .i64 n, .int .i64 b] 72 (0, 0))
  vv : W.heap[v]? = some (.cells #[.int .i64 x.f0, .int .i64 x.f1, .string x.f2, .slice A3 x.f3.length c3, .slice A4 x.f4.length c4] 28 (0, 0))
  g : w.grownBy W (some m)
  ne : v ≠ m
  lt : w0.heap.size ≤ m
theorem grown_of_below {W W' : World} {r : Option Nat} (h : Below W.heap.size W W') : W.grownBy W' r := ⟨h.os, h.tape, h.output, h.size, fun k hk _ => h.block k hk⟩
theorem below_of_grown {B m : Nat} {w W W' : World} (h : Below B w W) (hB : B ≤ m) (hs : B ≤ W.heap.size) (hg : W.grownBy W' (some m)) : Below B w W' :=
  h.trans ⟨hg.os, hg.tape, hg.output, hg.size, fun k hk => hg.block k (by omega) (fun e => by have := Option.some.inj e; omega)⟩
theorem grownBy_cell (W : World) (b j : Nat) (v : Value) : W.grownBy (W.setCell ⟨b, j, none⟩ v) (some b) :=
  ⟨rfl, rfl, rfl, by simp, fun k _ hk => Below.heap_setCell _ _ _ k (fun e => hk (by rw [e]))⟩
section
variable {w0 w W W' : World} {m v : Nat} {n b n' b' : Int} {A3 : Option Addr} {c3 : Nat} {A4 : Option Addr} {c4 : Nat} {x : S28}
theorem Ft.cells (h : Ft w0 w W m v n b A3 c3 A4 c4 x) : W.cell? ⟨m, 0, none⟩ = some (.int .i64 n) ∧ W.cell? ⟨m, 1, none⟩ = some (.int .i64 b) ∧ (∀ j, W.frozen? ⟨m, j, none⟩ = false) ∧
    W.cell? ⟨v, 0, none⟩ = some (.int .i64 x.f0) ∧ W.cell? ⟨v, 1, none⟩ = some (.int .i64 x.f1) ∧ W.cell? ⟨v, 2, none⟩ = some (.string x.f2) ∧ W.cell? ⟨v, 3, none⟩ = some (.slice A3 x.f3.length c3) ∧ W.cell? ⟨v, 4, none⟩ = some (.slice A4 x.f4.length c4) := by
  have h1 := h.mm
  have h2 := h.vv
  refine ⟨?_, ?_, fun j => ?_, ?_, ?_, ?_, ?_, ?_⟩ <;> simp [World.cell?, World.frozen?, h1, h2]
theorem Ft.size (h : Ft w0 w W m v n b A3 c3 A4 c4 x) : w0.heap.size ≤ W.heap.size := by
  have := (Array.getElem?_eq_some_iff.1 h.mm).1
  have := h.lt
  omega
theorem Ft.put (h : Ft w0 w W m v n b A3 c3 A4 c4 x) (hg : W.grownBy W' (some m)) (hm : W'.heap[m]? = some (.cells #[.int .i64 n', .int .i64 b'] 72 (0, 0))) : Ft w0 w W' m v n' b' A3 c3 A4 c4 x :=
  ⟨below_of_grown h.z h.lt h.size hg, hm, (hg.block v (Array.getElem?_eq_some_iff.1 h.vv).1 (fun e => h.ne (Option.some.inj e))).trans h.vv, h.g.trans hg, h.ne, h.lt⟩
theorem Ft.set0 (h : Ft w0 w W m v n b A3 c3 A4 c4 x) : Ft w0 w (W.setCell ⟨m, 0, none⟩ (.int .i64 n')) m v n' b A3 c3 A4 c4 x := h.put (grownBy_cell _ _ _ _) (heap_setCell_same _ _ _ _ _ _ h.mm)
theorem Ft.set1 (h : Ft w0 w W m v n b A3 c3 A4 c4 x) : Ft w0 w (W.setCell ⟨m, 1, none⟩ (.int .i64 b')) m v n b' A3 c3 A4 c4 x := h.put (grownBy_cell _ _ _ _) (heap_setCell_same _ _ _ _ _ _ h.mm)
theorem Ft.below (h : Ft w0 w W m v n b A3 c3 A4 c4 x) (hb : Below W.heap.size W W') : Ft w0 w W' m v n b A3 c3 A4 c4 x := h.put (grown_of_below hb) ((hb.block m (Array.getElem?_eq_some_iff.1 h.mm).1).trans h.mm)
end
theorem Ft.count {w0 w W : World} {m v : Nat} {n b : Int} {A3 c3 A4 c4} {x : S28} (h : Ft w0 w W m v n b A3 c3 A4 c4 x) (d : Int) : ∃ W3, (W.setCell ⟨m, 1, none⟩ (.int .i64 (b + d))).drew = W3 ∧ Ft w0 w W3 m v n (b + d) A3 c3 A4 c4 x :=
  ⟨_, rfl, (h.set1 (b' := b + d)).below ((Below.refl _ _).drew)⟩
theorem Ft.add {w0 w W : World} {m v : Nat} {n b : Int} {A3 c3 A4 c4} {x : S28} (h : Ft w0 w W m v n b A3 c3 A4 c4 x) (d : Int) : ∃ W3, W.setCell ⟨m, 1, none⟩ (.int .i64 (b + d)) = W3 ∧ Ft w0 w W3 m v n (b + d) A3 c3 A4 c4 x :=
  ⟨_, rfl, h.set1 (b' := b + d)⟩
theorem bts_cnt (s : Nat) : ∀ x : S28, SizeOf.sizeOf x < s → bts x ≤ cnt x ∧ nds x ≤ cnt x := by
  induction s with
  | zero => intro x h; omega
  | succ s ih =>
    intro x h
    have hl : ∀ l : List S28, (∀ y ∈ l, SizeOf.sizeOf y < s) → btsL l ≤ cntL l ∧ ndsL l ≤ cntL l := fun l => by
      induction l with
      | nil => intro _; simp [btsL, ndsL, cntL]
      | cons y l ihl =>
        intro hy
        have h1 := ih y (hy y List.mem_cons_self)
        have h2 := ihl (fun z hz => hy z (List.mem_cons_of_mem _ hz))
        simp only [btsL, ndsL, cntL]
        omega
    have h1 := hl x.f4 (fun y hy => by have := sz_mem hy; omega)
    have h2 := ksum_ksz x.f3
    have h3 := cnt_eq x
    rw [bts_eq, nds_eq]
    split <;> omega
theorem nds_pos (x : S28) : 1 ≤ nds x := by rw [nds_eq]; omega
theorem bts_min (x : S28) : x.f2.size + ksum x.f3 ≤ bts x := by rw [bts_eq]; omega
section
variable {form : Bool} {ar : Nat} {x : S28} {n b : Int}
theorem fitR_n (h : 4096 < n + 1) : fitR form ar x n b = false := by
  unfold fitR
  have := nds_pos x
  rw [decide_eq_false (show ¬ n + nds x ≤ 4096 by omega)]
  simp
theorem fitR_b (h : 65536 < b + (x.f2.size + ksum x.f3 : Nat)) : fitR form ar x n b = false := by
  unfold fitR
  have := bts_min x
  rw [decide_eq_false (show ¬ b + bts x ≤ 65536 by omega)]
  simp
theorem fitR_o (h : okv form ar x = false) : fitR form ar x n b = false := by unfold fitR; rw [h]; rfl
theorem fitR_k0 (h : x.f0 < 0) : fitR form ar x n b = false := fitR_o (by rw [okv_eq, decide_eq_false (by omega)]; rfl)
theorem fitR_k6 (h : 6 < x.f0) : fitR form ar x n b = false := fitR_o (by rw [okv_eq, decide_eq_false (show ¬ x.f0 ≤ 6 by omega)]; simp)
theorem fitR_s (h : x.f0 = 4) (h2 : 4096 < x.f2.size) : fitR form ar x n b = false := fitR_o (by rw [okv_eq, h, decide_eq_true h2]; rfl)
theorem fitR_f (h : fm x = false) : fitR true ar x n b = false := fitR_o (by rw [okv_eq, h]; simp)
theorem fitR_ar (h : 5 ≤ x.f0) (h2 : 32 ≤ ar) : fitR form ar x n b = false := fitR_o (by rw [okv_eq, decide_eq_false (show ¬ x.f0 < 5 by omega), decide_eq_false (show ¬ ar < 32 by omega)]; simp)
theorem fitR_el (h : 5 ≤ x.f0) (h2 : 1024 < x.f4.length) : fitR form ar x n b = false := fitR_o (by rw [okv_eq, decide_eq_false (show ¬ x.f0 < 5 by omega), decide_eq_false (show ¬ x.f4.length ≤ 1024 by omega)]; simp)
/-- What has been asked when the bytes are counted. -/
structure Pass (form : Bool) (x : S28) (n : Int) : Prop where
  n1 : n + 1 ≤ 4096
  k0 : 0 ≤ x.f0
  k6 : x.f0 ≤ 6
  s : ¬ (x.f0 = 4 ∧ 4096 < x.f2.size)
  f : form = false ∨ fm x = true
theorem Pass.sB (h : Pass form x n) : (x.f0 == 4 && decide (4096 < x.f2.size)) = false := by
  have := h.s
  by_cases c : x.f0 = 4
  · rw [decide_eq_false (fun e => this ⟨c, e⟩)]; simp
  · simp [c]
theorem Pass.fB (h : Pass form x n) : (!form || fm x) = true := by
  rcases h.f with e | e <;> rw [e] <;> simp
theorem fitR_leaf (h : Pass form x n) (hb : b + (x.f2.size + ksum x.f3 : Nat) ≤ 65536) (hk : x.f0 < 5) : fitR form ar x n b = true ∧ nds x = 1 ∧ bts x = x.f2.size + ksum x.f3 := by
  have e1 : nds x = 1 := by rw [nds_eq, if_pos hk]
  have e2 : bts x = x.f2.size + ksum x.f3 := by rw [bts_eq, if_pos hk]; rfl
  refine ⟨?_, e1, e2⟩
  unfold fitR
  rw [okv_eq, decide_eq_true h.k0, decide_eq_true h.k6, h.sB, h.fB, decide_eq_true hk, e1, e2, decide_eq_true (show n + ((1 : Nat) : Int) ≤ 4096 from h.n1), decide_eq_true hb]
  rfl
theorem fitR_go (h : Pass form x n) (hk : 5 ≤ x.f0) (ha : ar < 32) (hl : x.f4.length ≤ 1024) : fitR form ar x n b = (okL form (ar + 1) x.f4 && decide (n + 1 + ndsL x.f4 ≤ 4096) && decide (b + (x.f2.size + ksum x.f3 : Nat) + btsL x.f4 ≤ 65536)) ∧ nds x = 1 + ndsL x.f4 ∧ bts x = x.f2.size + ksum x.f3 + btsL x.f4 := by
  have e1 : nds x = 1 + ndsL x.f4 := by rw [nds_eq, if_neg (by omega)]
  have e2 : bts x = x.f2.size + ksum x.f3 + btsL x.f4 := by rw [bts_eq, if_neg (by omega)]
  refine ⟨?_, e1, e2⟩
  unfold fitR
  rw [okv_eq, decide_eq_true h.k0, decide_eq_true h.k6, h.sB, h.fB, decide_eq_false (show ¬ x.f0 < 5 by omega), decide_eq_true ha, decide_eq_true hl, e1, e2]
  have a1 : (n + ((1 + ndsL x.f4 : Nat) : Int) ≤ 4096) = (n + 1 + (ndsL x.f4 : Int) ≤ 4096) := propext (by omega)
  have a2 : (b + ((x.f2.size + ksum x.f3 + btsL x.f4 : Nat) : Int) ≤ 65536) = (b + ((x.f2.size + ksum x.f3 : Nat) : Int) + (btsL x.f4 : Int) ≤ 65536) := propext (by omega)
  simp only [a1, a2]
  simp
end
end Go.Proofs.Ytgpjkojnmeaoiaa.QV
