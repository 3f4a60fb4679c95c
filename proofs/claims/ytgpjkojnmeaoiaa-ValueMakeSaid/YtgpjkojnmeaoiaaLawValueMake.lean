-- by a program of this session (print2.py): the machine's side of one law; Lean checks it.
import Derived.Test.YtgpjkojnmeaoiaaRows
import Derived.Test.YtgpjkojnmeaoiaaKValueMake
import Derived.WalkKit
import Derived.ProofKit
import Derived.OpenShut
import Derived.ShutString
import Derived.ChangeOld
import Derived.Below
import Derived.SizedLaws
import Derived.Test.YtgpjkojnmeaoiaaWSized
import Derived.Deep.Slices
namespace Go.Proofs.Ytgpjkojnmeaoiaa.valueMake
open Go.ChangeShapes Go.WideShapes Go.ChangeAt Go.RowKit
open Go.ChangeMaps (open_string shut_string)
set_option linter.unusedVariables false
theorem own : ownKnob Try.prog.godebug = none := by kernel_rfl
theorem laidOut : laidOutB Try.prog = true := by kernel_rfl
def IsRow (k : IntKind) (w : World) (a : Option Addr) (len cap : Nat) (zs : List Int) : Prop :=
  (a = none ∧ len = 0 ∧ cap = 0 ∧ zs = []) ∨
  ∃ x, a = some x ∧ len ≤ cap ∧ cap ≤ maxLen ∧ zs.length = cap ∧ (∀ i, i < zs.length → w.cell? (x.add i) = some (.int k (zs.getD i 0))) ∧ ∀ n ∈ zs, (Lit.int k n).wf = true
open Go.RowKit Go.Proofs.YtgpjkojnmeaoiaaW.PrintWords Go.Proofs.YtgpjkojnmeaoiaaW.PrintLast Go.Proofs.Ytgpjkojnmeaoiaa.QV
/-! What reads as data of a type is told by its kind: whole numbers, bools, strings, slices, structs, arrays told as structs, types nested in themselves. -/
section opens
variable {H : Type} (enc : TypeId × Value → H) (P : Program) (w : World)
/-- Read as data of type T with n rounds of fuel: told by the kind d; Wf: what else is known of it. -/
def Opens (T : TypeId) {α : Type} (d : Kd α) (Wf : α → Prop) (n : Nat) : Prop :=
  ∀ (cs : List Value) (x : DataW H × List MemPlace), DataW.trod enc P w 0 (fun _ => true) true n T cs = some x → (∀ b ∈ DataW.weights P T x.1, b ≤ 140737488351232) → ∃ a, d.K w a cs ∧ Wf a
variable {enc P w}
theorem Opens.imp {T : TypeId} {α : Type} {d : Kd α} {Wf Wf' : α → Prop} {n : Nat} (h : Opens enc P w T d Wf n) (hi : ∀ a, Wf a → Wf' a) : Opens enc P w T d Wf' n := fun cs x hx hb => by
  obtain ⟨a, ha, hw⟩ := h cs x hx hb
  exact ⟨a, ha, hi a hw⟩
theorem opens_int {T : TypeId} {k : IntKind} (ht : P.underlying T = some (.int k)) (n : Nat) : Opens enc P w T (Kd.int k) (fun z => (Lit.int k z).wf = true) n := by
  intro cs x h _
  obtain ⟨z, rfl, _, hw⟩ := DataW.trod_int ht h
  exact ⟨z, rfl, hw⟩
theorem opens_bool {T : TypeId} (ht : P.underlying T = some .bool) (n : Nat) : Opens enc P w T Kd.bool (fun _ => True) n := by
  intro cs x h _
  obtain ⟨z, rfl, _⟩ := DataW.trod_bool ht h
  exact ⟨z, rfl, trivial⟩
theorem opens_string {T : TypeId} (ht : P.underlying T = some .string) (n : Nat) : Opens enc P w T Kd.string (fun s => s.size ≤ 140737488351232) n := by
  intro cs x h hb
  obtain ⟨s, rfl, rfl, _⟩ := DataW.trod_string ht h
  refine ⟨s, rfl, ?_⟩
  have := hb s.data.toList.length (by simp [DataW.weights])
  rw [Array.length_toList] at this
  exact this
theorem list_of_each {α : Type} {Q : Nat → α → Prop} : ∀ n, (∀ i, i < n → ∃ a, Q i a) → ∃ l : List α, l.length = n ∧ ∀ i a, l[i]? = some a → Q i a
  | 0, _ => ⟨[], rfl, fun i a h => by simp at h⟩
  | n + 1, h => by
    obtain ⟨l, hl, hq⟩ := list_of_each n (fun i hi => h i (by omega))
    obtain ⟨a, ha⟩ := h n (by omega)
    refine ⟨l ++ [a], by simp [hl], fun i b hb => ?_⟩
    by_cases hi : i < l.length
    · rw [List.getElem?_append_left hi] at hb
      exact hq i b hb
    · rw [List.getElem?_append_right (by omega)] at hb
      by_cases e : i - l.length = 0
      · rw [e] at hb
        obtain rfl : a = b := by simpa using hb
        have : i = n := by omega
        rw [this]; exact ha
      · obtain ⟨m, hm⟩ : ∃ m, i - l.length = m + 1 := ⟨i - l.length - 1, by omega⟩
        rw [hm] at hb
        simp at hb
theorem weights_all_mem {e : TypeId} : ∀ {l : List (DataW H)} {d : DataW H}, d ∈ l → ∀ b ∈ DataW.weights P e d, b ∈ DataW.weightsAll P e l
  | [], _, h, _, _ => by simp at h
  | x :: l, d, h, b, hb => by
    rw [DataW.weightsAll]
    rcases List.mem_cons.1 h with rfl | h
    · exact List.mem_append_left _ hb
    · exact List.mem_append_right _ (weights_all_mem h b hb)
theorem opens_slice {T e : TypeId} {α : Type} {d : Kd α} {Wf : α → Prop} {n B : Nat} (ht : P.underlying T = some (.slice e)) (hc : P.cellsOf e = d.sz) (hB : P.bytesOf e = B) (he : ∀ m, n = m + 1 → Opens enc P w e d Wf m) :
    Opens enc P w T (Kd.slice e d) (fun l => l.length * B ≤ 140737488351232 ∧ ∀ a ∈ l, Wf a) n := by
  intro cs x h hb
  rcases DataW.trod_slice ht h with ⟨rfl, rfl⟩ | ⟨a, len, cap, elems, rest, m, hm, rfl, rfl, _, hl, hcap, hlen, hel, hsp, _⟩
  · exact ⟨[], ⟨none, 0, rfl, Nat.le_refl _, rfl, Nat.zero_le _, fun h => absurd h (Nat.lt_irrefl _)⟩, by simp, by simp⟩
  · have hwt : DataW.weights P T (DataW.slice (elems.map (·.1)) (rest.map (·.1))) = (elems.length + rest.length) * B :: (DataW.weightsAll P e (elems.map (·.1)) ++ DataW.weightsAll P e (rest.map (·.1))) := by
      rw [DataW.weights]
      simp only [ht, List.length_map, hB]
    have each : ∀ i, i < len → ∃ a' : α, (∃ c, c.length = d.sz ∧ d.K w a' c ∧ ∀ j u, c[j]? = some u → w.cell? (a.add (i * d.sz + j)) = some u) ∧ Wf a' := by
      intro i hi
      have h1 := hel i hi
      rw [List.getElem?_eq_getElem (by omega)] at h1
      obtain ⟨cs', h2, h3⟩ := Option.bind_eq_some_iff.1 h1
      obtain ⟨_, hcl, hcc⟩ := World.cells?_some h2
      obtain ⟨a', hk, hw⟩ := he m hm cs' _ h3 (fun b hbm => hb b (by
        show b ∈ DataW.weights P T (DataW.slice (elems.map (·.1)) (rest.map (·.1)))
        rw [hwt]
        exact List.mem_cons_of_mem _ (List.mem_append_left _ (weights_all_mem (List.mem_map.2 ⟨_, List.getElem_mem _, rfl⟩) b hbm))))
      refine ⟨a', ⟨cs', by rw [hcl, hc], hk, fun j u hj => ?_⟩, hw⟩
      have hj' : j < P.cellsOf e := by rw [← hcl]; exact (List.getElem?_eq_some_iff.1 hj).1
      rw [← Go.Deep.add_add, ← hc]
      exact (hcc j hj').trans hj
    obtain ⟨l, hll, hq⟩ := list_of_each len each
    have hlen2 : len * B ≤ 140737488351232 := by
      have h1 : (elems.length + rest.length) * B ≤ 140737488351232 := hb _ (by
        show _ ∈ DataW.weights P T (DataW.slice (elems.map (·.1)) (rest.map (·.1)))
        rw [hwt]
        exact List.mem_cons_self)
      exact Nat.le_trans (Nat.mul_le_mul_right _ (by omega)) h1
    refine ⟨l, ⟨some a, cap, by rw [hll], by omega, rfl, by unfold maxLen at hcap; omega, fun _ => ⟨a, rfl, fun j p hj => (hq j p hj).1⟩⟩, by rw [hll]; exact hlen2, fun p hp => ?_⟩
    obtain ⟨i, hi⟩ := List.mem_iff_getElem?.1 hp
    exact (hq i p hi).2
variable (enc P w) in
def OpensFs (fs : List Field) (o : Nat) {α : Type} (d : Kd α) (Wf : α → Prop) (n : Nat) : Prop :=
  ∀ (cs : List Value) (xs : List (DataW H × List MemPlace)), xs.length = fs.length → (∀ (i : Nat) (f : Field), fs[i]? = some f → DataW.trod enc P w 0 (fun _ => true) true n f.type ((cs.drop f.offset).take (P.cellsOf f.type)) = xs[i]?) →
    (∀ b ∈ DataW.weightsEach P (fs.map (·.type)) (xs.map (·.1)), b ≤ 140737488351232) → cs.length = o + d.sz → ∃ a, d.K w a (cs.drop o) ∧ Wf a
theorem opens_last {f : Field} {o : Nat} {α : Type} {d : Kd α} {Wf : α → Prop} {n : Nat} (ho : f.offset = o) (hc : P.cellsOf f.type = d.sz) (h : Opens enc P w f.type d Wf n) : OpensFs enc P w [f] o d Wf n := by
  intro cs xs hl hx hb hlen
  match xs, hl with
  | [y], _ =>
    have h1 := hx 0 f rfl
    have e : (cs.drop f.offset).take (P.cellsOf f.type) = cs.drop o := by rw [ho, hc]; exact List.take_of_length_le (by simp; omega)
    rw [e] at h1
    exact h _ y h1 (fun b hbm => hb b (by simpa [DataW.weightsEach] using hbm))
theorem opens_cons {f : Field} {rest : List Field} {o : Nat} {α β : Type} {d : Kd α} {d' : Kd β} {Wf : α → Prop} {Wf' : β → Prop} {n : Nat} (ho : f.offset = o) (hc : P.cellsOf f.type = d.sz) (h : Opens enc P w f.type d Wf n)
    (hr : OpensFs enc P w rest (o + d.sz) d' Wf' n) : OpensFs enc P w (f :: rest) o (Kd.pair d d') (fun a => Wf a.1 ∧ Wf' a.2) n := by
  intro cs xs hl hx hb hlen
  match xs, hl with
  | y :: ys, hl =>
    have h1 := hx 0 f rfl
    obtain ⟨a, ha, wa⟩ := h _ y h1 (fun b hbm => hb b (by simp only [List.map_cons, DataW.weightsEach]; exact List.mem_append_left _ hbm))
    obtain ⟨b, hb', wb⟩ := hr cs ys (by simpa using hl) (fun i g hg => by simpa using hx (i + 1) g (by simpa using hg)) (fun b hbm => hb b (by simp only [List.map_cons, DataW.weightsEach]; exact List.mem_append_right _ hbm)) (by simp only [Kd.pair] at hlen; omega)
    refine ⟨(a, b), ⟨_, _, ?_, ha, hb'⟩, wa, wb⟩
    rw [ho, hc, ← List.drop_drop]
    exact (List.take_append_drop _ _).symm
theorem opens_struct {T : TypeId} {fs : Array Field} {l : List Field} {α β : Type} {d : Kd α} {Wf : α → Prop} {n : Nat} (ht : P.underlying T = some (.struct fs)) (hs : fs.toList = l) (hc : P.cellsOf T = d.sz)
    (h : ∀ m, n = m + 1 → OpensFs enc P w l 0 d Wf m) (f : β → α) (g : α → β) (hfg : ∀ a, f (g a) = a) : Opens enc P w T (Kd.iso d f) (fun x => Wf (f x)) n := by
  intro cs x hx hb
  obtain ⟨xs, m, hm, rfl, hl, hlen, hf⟩ := DataW.trod_struct ht hx
  subst hs
  obtain ⟨a, ha, wa⟩ := h m hm cs xs (by simpa using hlen) (fun i f hi => hf i f (by simpa using hi)) (fun b hbm => hb b (by rw [DataW.weights]; simp only [ht]; exact hbm)) (by rw [hl, hc, Nat.zero_add])
  exact ⟨g a, show d.K w (f (g a)) cs by rw [hfg]; exact ha, by show Wf (f (g a)); rw [hfg]; exact wa⟩
def arrFields (e sz n : Nat) : List Field := (List.range n).map fun i => { (default : Field) with type := e, offset := i * sz }
theorem weights_each_all {e : TypeId} : ∀ (l : List (DataW H)) (ts : List TypeId), (∀ t ∈ ts, t = e) → ∀ b ∈ DataW.weightsEach P ts l, b ∈ DataW.weightsAll P e l
  | [], [], _, b, hb => by simp [DataW.weightsEach] at hb
  | [], _ :: _, _, b, hb => by simp [DataW.weightsEach] at hb
  | _ :: _, [], _, b, hb => by simp [DataW.weightsEach] at hb
  | x :: l, t :: ts, h, b, hb => by
    obtain rfl : t = e := h t List.mem_cons_self
    rw [DataW.weightsEach] at hb
    rw [DataW.weightsAll]
    rcases List.mem_append.1 hb with hb | hb
    · exact List.mem_append_left _ hb
    · exact List.mem_append_right _ (weights_each_all l ts (fun t ht => h t (List.mem_cons_of_mem _ ht)) b hb)
theorem opens_array {T e : TypeId} {k sz : Nat} {α β : Type} {d : Kd α} {Wf : α → Prop} {n : Nat} (ht : P.underlying T = some (.array k e)) (hz : P.cellsOf e = sz) (hc : P.cellsOf T = d.sz)
    (h : ∀ m, n = m + 1 → OpensFs enc P w (arrFields e sz k) 0 d Wf m) (f : β → α) (g : α → β) (hfg : ∀ a, f (g a) = a) : Opens enc P w T (Kd.iso d f) (fun x => Wf (f x)) n := by
  intro cs x hx hb
  subst hz
  obtain ⟨xs, m, hm, rfl, hl, hlen, hf⟩ := DataW.trod_array ht hx
  obtain ⟨a, ha, wa⟩ := h m hm cs xs (by simp [arrFields, hlen]) (fun i f hi => by
      simp only [arrFields, List.getElem?_map, Option.map_eq_some_iff] at hi
      obtain ⟨j, hj, rfl⟩ := hi
      obtain ⟨hlt, hj⟩ := List.getElem?_eq_some_iff.1 hj
      simp only [List.length_range] at hlt
      rw [List.getElem_range] at hj
      subst hj
      exact hf i hlt)
    (fun b hbm => hb b (by
      rw [DataW.weights]; simp only [ht]
      exact weights_each_all _ _ (fun t htm => by simp only [arrFields, List.map_map, List.mem_map] at htm; obtain ⟨i, _, rfl⟩ := htm; rfl) b hbm)) (by rw [hl, hc, Nat.zero_add])
  exact ⟨g a, show d.K w (f (g a)) cs by rw [hfg]; exact ha, by show Wf (f (g a)); rw [hfg]; exact wa⟩
/-- An argument, opened. -/
theorem opens_arg {T : TypeId} {α : Type} {d : Kd α} {Wf : α → Prop} (h : ∀ n, Opens enc P w T d Wf n) {v : Value} {x : DataW H} {p : List MemPlace} {ts : List TypeId} {ds : List (DataW H)} {j : Nat}
    (ht : DataW.Trod enc P w 0 (fun _ => true) true T v x p) (hsz : (DataW.weightsEach P ts ds).all (· ≤ reachBytes) = true) (hj : ts[j]? = some T) (hd : ds[j]? = some x) : ∃ a, d.K w a v.cells.toList ∧ Wf a := by
  obtain ⟨n, hn⟩ := ht
  refine h n _ _ hn (fun b hb => ?_)
  have := List.all_eq_true.1 hsz b (DataW.weights_mem_each hj hd b hb)
  exact Nat.le_trans (of_decide_eq_true this) (by decide)
end opens

theorem opens4 {H : Type} (enc : TypeId × Value → H) (W : World) (n : Nat) : Opens enc Try.prog W 4 Kd.bool (fun x => True) n := opens_bool Try.underlying4 n
theorem opens2 {H : Type} (enc : TypeId × Value → H) (W : World) (n : Nat) : Opens enc Try.prog W 2 (Kd.int .i64) (fun x => (Lit.int .i64 x).wf = true) n := opens_int Try.underlying2 n
theorem opens9 {H : Type} (enc : TypeId × Value → H) (W : World) (n : Nat) : Opens enc Try.prog W 9 Kd.string (fun x => x.size ≤ 140737488351232) n := opens_string Try.underlying9 n
theorem opens22 {H : Type} (enc : TypeId × Value → H) (W : World) (n : Nat) : Opens enc Try.prog W 22 (Kd.slice 9 Kd.string) (fun x => (x.length * 16 ≤ 140737488351232 ∧ ∀ q1 ∈ x, q1.size ≤ 140737488351232)) n := opens_slice Try.underlying22 ((show Try.prog.cellsOf 9 = 1 by kernel_rfl).trans rfl) (by kernel_rfl) (fun m _ => opens9 enc W m)
/-- What is known of a value that came in, as the row's opening tells it. -/
inductive Wf28 : S28 → Prop
  | mk (x : S28) : (Lit.int .i64 x.f0).wf = true → (Lit.int .i64 x.f1).wf = true → x.f2.size ≤ 140737488351232 → (x.f3.length * 16 ≤ 140737488351232 ∧ ∀ q1 ∈ x.f3, q1.size ≤ 140737488351232) → x.f4.length * 80 ≤ 140737488351232 → (∀ q ∈ x.f4, Wf28 q) → Wf28 x
theorem wf_i64 {z : Int} (h : (Lit.int .i64 z).wf = true) : -9223372036854775808 ≤ z ∧ z ≤ 9223372036854775807 := by simp [Lit.wf, IntKind.min, IntKind.max, IntKind.signed, IntKind.bits] at h; omega
theorem wv_of_ (s : Nat) : ∀ x : S28, SizeOf.sizeOf x < s → Wf28 x → Wv x := by
  induction s with
  | zero => intro x h; omega
  | succ s ih =>
    intro x hs h
    cases h with
    | mk _ h0 h1 h2 h3 h4 h5 => exact .mk x (wf_i64 h0) (wf_i64 h1) h2 (by omega) h3.2 (by omega) (fun q hq => ih q (by have := sz_mem hq; omega) (h5 q hq))
theorem wv_of {x : S28} (h : Wf28 x) : Wv x := wv_of_ _ x (Nat.lt_succ_self _) h
theorem opens3 {H : Type} (enc : TypeId × Value → H) (W : World) (n : Nat) : Opens enc Try.prog W 3 (Kd.int .i64) (fun x => (Lit.int .i64 x).wf = true) n := opens_int Try.underlying3 n
theorem opens28_ {H : Type} (enc : TypeId × Value → H) (W : World) : ∀ n m, m ≤ n → Opens enc Try.prog W 28 (Kd.upto F28 5 [9, 28] n) Wf28 m
  | 0, m, hm => fun cs x h _ => by
    obtain rfl : m = 0 := by omega
    simp [DataW.trod] at h
  | n + 1, m_, hm_ => by
    show Opens enc Try.prog W 28 (F28 (Kd.upto F28 5 [9, 28] n)) Wf28 m_
    unfold F28
    exact Opens.imp (opens_struct (l := [_, _, _, _, _]) Try.underlying28 rfl ((show Try.prog.cellsOf 28 = 5 by kernel_rfl).trans rfl) (fun m hm => opens_cons rfl ((show Try.prog.cellsOf 3 = 1 by kernel_rfl).trans rfl) (opens3 enc W m) (opens_cons rfl ((show Try.prog.cellsOf 2 = 1 by kernel_rfl).trans rfl) (opens2 enc W m) (opens_cons rfl ((show Try.prog.cellsOf 9 = 1 by kernel_rfl).trans rfl) (opens9 enc W m) (opens_cons rfl ((show Try.prog.cellsOf 22 = 1 by kernel_rfl).trans rfl) (opens22 enc W m) (opens_last rfl ((show Try.prog.cellsOf 23 = 1 by kernel_rfl).trans rfl) (opens_slice Try.underlying23 ((show Try.prog.cellsOf 28 = 5 by kernel_rfl).trans (sz28 n).symm) (by kernel_rfl) (fun j hj => opens28_ enc W n j (by omega)))))))) (fun x : S28 => (x.f0, x.f1, x.f2, x.f3, x.f4)) (fun a => (⟨a.1, a.2.1, a.2.2.1, a.2.2.2.1, a.2.2.2.2⟩ : S28)) (fun _ => rfl)) (fun x h => Wf28.mk x h.1 h.2.1 h.2.2.1 h.2.2.2.1 h.2.2.2.2.1 h.2.2.2.2.2)
theorem opens28 {H : Type} (enc : TypeId × Value → H) (W : World) (n : Nat) : Opens enc Try.prog W 28 k28 Wf28 n := fun cs x h hb => by
  obtain ⟨a, ha, hw⟩ := opens28_ enc W n n (Nat.le_refl _) cs x h hb
  exact ⟨a, ⟨n, ha⟩, hw⟩
theorem opens23 {H : Type} (enc : TypeId × Value → H) (W : World) (n : Nat) : Opens enc Try.prog W 23 (Kd.slice 28 k28) (fun x => (x.length * 80 ≤ 140737488351232 ∧ ∀ q1 ∈ x, Wf28 q1)) n := opens_slice Try.underlying23 ((show Try.prog.cellsOf 28 = 5 by kernel_rfl).trans rfl) (by kernel_rfl) (fun m _ => opens28 enc W m)
set_option maxRecDepth 100000 in
theorem lifted (os : Os) (started : os.Started) (H : Type) (enc : TypeId × Value → H) :
    ReturnsInHanded {} Try.checked os 3 .any (Rows.valueMakeSpec.pre6 enc Try.prog Try.f3 Rows.valueMakeRow.domain false) (Rows.valueMakeSpec.post enc Try.prog Try.f3 false true false false) := by
  refine returnsInHanded_of_change_sized (C := Try.checked) own started (by kernel_rfl) Try.func3
    (ChangeSpec.witness6 (enc := enc) (C := Try.checked) false ⟨#[], #[.bool false, .int .i64 0, .string ByteArray.empty, .slice none 0 0, .slice none 0 0], []⟩ 8 (by kernel_rfl) (by kernel_rfl) (by kernel_rfl) (by kernel_rfl)) ?_
  intro W base args ds gs before hval0 hW hcnd hsz0 _
  have hsz : (DataW.weightsEach Try.prog (Try.f3.params.toList ++ Rows.valueMakeSpec.plain.varTypes Try.prog) (ds ++ gs)).all (· ≤ reachBytes) = true := hsz0
  have hval : ∀ (j : Nat) t v, Try.f3.params[j]? = some t → args[j]? = some v → Value.okWide Try.prog W .any base t v := hval0
  have hW' := hW
  obtain ⟨p, q, hA0, hV, rfl, hfz, hnd⟩ := hW
  have hA : DataW.TrodAll enc Try.prog W 0 (fun _ => true) true Try.f3.params.toList args.toList ds p := hA0
  rw [Try.params3] at hA hval hsz
  obtain ⟨v0, vs0, d0, ds0, p0, q0, hargs, rfl, rfl, h0, r0⟩ := trodAll_cons hA
  obtain ⟨v1, vs1, d1, ds1, p1, q1, rfl, rfl, rfl, h1, r1⟩ := trodAll_cons r0
  obtain ⟨v2, vs2, d2, ds2, p2, q2, rfl, rfl, rfl, h2, r2⟩ := trodAll_cons r1
  obtain ⟨v3, vs3, d3, ds3, p3, q3, rfl, rfl, rfl, h3, r3⟩ := trodAll_cons r2
  obtain ⟨v4, vs4, d4, ds4, p4, q4, rfl, rfl, rfl, h4, r4⟩ := trodAll_cons r3
  obtain ⟨rfl, rfl, rfl⟩ := trodAll_nil r4
  obtain rfl : args = #[v0, v1, v2, v3, v4] := by cases args; simp_all
  obtain ⟨rfl, rfl⟩ := trodVars_none hV
  obtain ⟨a0, rfl, rfl, rfl⟩ := open_bool Try.underlying4 (hval 0 4 v0 rfl rfl) h0
  obtain ⟨a1, rfl, rfl, rfl, w1⟩ := open_int Try.underlying2 (hval 1 2 v1 rfl rfl) h1
  obtain ⟨a2, rfl, rfl, rfl, y2⟩ := open_string Try.underlying9 (hval 2 9 v2 rfl rfl) h2
  have w2 : a2.size ≤ 140737488351232 := by
    have z := sized_string hsz (j := 2) (t := 9) rfl rfl
    rw [Array.length_toList] at z
    exact z
  have k3 := h3
  have lt3 : ∀ x ∈ p3, x.block < W.heap.size := by obtain ⟨m, hm⟩ := k3; exact DataW.trod_lt m _ _ _ hm
  obtain ⟨a3, len3, cap3, rfl⟩ := okWide_slice Try.underlying22 (hval 3 22 v3 rfl rfl)
  obtain ⟨z3, ⟨A3_, c3_, he3, l3_, g3_⟩, wz3⟩ := opens_arg (fun n => opens22 enc W n) h3 hsz (j := 3) rfl rfl
  obtain ⟨rfl, rfl, rfl⟩ : a3 = A3_ ∧ len3 = z3.length ∧ cap3 = c3_ := by simpa [Value.cells] using he3
  have k4 := h4
  have lt4 : ∀ x ∈ p4, x.block < W.heap.size := by obtain ⟨m, hm⟩ := k4; exact DataW.trod_lt m _ _ _ hm
  obtain ⟨a4, len4, cap4, rfl⟩ := okWide_slice Try.underlying23 (hval 4 23 v4 rfl rfl)
  obtain ⟨z4, ⟨A4_, c4_, he4, l4_, g4_⟩, wz4⟩ := opens_arg (fun n => opens23 enc W n) h4 hsz (j := 4) rfl rfl
  obtain ⟨rfl, rfl, rfl⟩ : a4 = A4_ ∧ len4 = z4.length ∧ cap4 = c4_ := by simpa [Value.cells] using he4
  clear hA0 hval0 hsz0 hsz
  refine (QV.law_make a0 a1 a2 z3 z4 W g3_ l3_ g4_ (fun y hy => wv_of (wz4.2 y hy)) (by have := wz3.1; omega) (by have := wz4.1; omega) w2 (wf_i64 w1)).mono fun e W' ⟨he, bel⟩ => ?_
  subst he
  exact ⟨_, rfl, _, _, _, [], _, [], hW', trodAll_mk1 (shut_bool Try.underlying4 _), (trodAll_cons_mk (shut_bool Try.underlying4 _) (trodAll_cons_mk (shut_int Try.underlying2 w1) (trodAll_cons_mk (shut_string Try.underlying9 y2) (trodAll_cons_mk (Below.trod laidOut (by kernel_rfl) (of_decide_eq_true (by kernel_rfl)) k3 bel lt3) (trodAll_cons_mk (Below.trod laidOut (by kernel_rfl) (of_decide_eq_true (by kernel_rfl)) k4 bel lt4) trodAll_mk0))))), rfl, bel.frame _, fun h => by cases h⟩
theorem over : Rows.valueMakeRow.holds Try.pinned (OpenSpec.ofChange Rows.valueMakeSpec) :=
  OpenClaim.holds_of_wide 3 Try.f3 rfl rfl rfl rfl rfl rfl rfl ⟨rfl, rfl, rfl, rfl, rfl⟩ rfl rfl rfl rfl rfl (by kernel_rfl) Try.func3 (by kernel_rfl)
    (of_decide_eq_true (by kernel_rfl)) (by unfold Func.isWrapper; first | (rw [if_pos (by decide +kernel)]; kernel_rfl) | (rw [if_neg (by decide +kernel)]; exact ⟨rfl, rfl⟩))
    (fun os started H enc _ => lifted os started H enc)
theorem proved : Rows.ValueMakeSaid := over
#print axioms proved
end Go.Proofs.Ytgpjkojnmeaoiaa.valueMake
namespace Go.Proofs.Ytgpjkojnmeaoiaa
/-- The row, under a short name, for the claim. -/
theorem valueMake_holds : Rows.ValueMakeSaid := valueMake.proved
end Go.Proofs.Ytgpjkojnmeaoiaa
