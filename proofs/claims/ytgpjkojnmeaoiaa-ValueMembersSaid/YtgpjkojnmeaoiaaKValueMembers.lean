/- The walk of the law ValueMembers, by hand. -/
import Derived.Test.YtgpjkojnmeaoiaaKD
import Derived.Deep.Slices
import Derived.RegionTactic
import Derived.BigQuiet
import Derived.Test.YtgpjkojnmeaoiaaKB
import Derived.Test.YtgpjkojnmeaoiaaKY
/- What an object is made of: the plain half of ValueMembers. -/
namespace Go.Proofs.Ytgpjkojnmeaoiaa.QV
open Go Go.RowKit Go.Proofs.YtgpjkojnmeaoiaaW.PrintWords Go.Proofs.YtgpjkojnmeaoiaaW.PrintLast Go.Proofs.YtgpjkojnmeaoiaaW.PrintMore
set_option linter.unusedVariables false
set_option linter.unusedSimpArgs false
set_option maxRecDepth 100000
set_option maxHeartbeats 4000000
theorem dd_cons2 (a b : Mem) (l : List Mem) : dd (a :: b :: l) = if b.1 = a.1 then dd (b :: l) else a :: dd (b :: l) := by rw [dd]
theorem dd_sub : ∀ l : List Mem, (dd l).Sublist l
  | [] => by simp [dd]
  | [a] => by simp [dd]
  | a :: b :: l => by
    rw [dd_cons2]
    split
    · exact (dd_sub (b :: l)).cons a
    · exact (dd_sub (b :: l)).cons_cons a
theorem dd_sk : ∀ l : List Mem, l.Pairwise lexM → Sk ((dd l).map (·.1))
  | [], _ => List.Pairwise.nil
  | [a], _ => by simp [dd, Sk]
  | a :: b :: l, h => by
    have h1 := List.pairwise_cons.1 h
    have ih := dd_sk (b :: l) h1.2
    rw [dd_cons2]
    split
    · exact ih
    · rename_i c
      refine List.pairwise_cons.2 ⟨fun k hk => ?_, ih⟩
      obtain ⟨m, hm, rfl⟩ := List.mem_map.1 hk
      have hab : blt a.1 b.1 = true := (h1.1 b List.mem_cons_self).resolve_right (fun e => c e.1.symm)
      rcases List.mem_cons.1 (dd_mem hm) with rfl | hm
      · exact hab
      · rcases (List.pairwise_cons.1 h1.2).1 m hm with q | ⟨q, _⟩
        · exact blt_trans hab q
        · rw [← q]; exact hab
theorem dd_max : ∀ l : List Mem, l.Pairwise lexM → ∀ m ∈ l, ∃ q ∈ dd l, q.1 = m.1 ∧ m.2 ≤ q.2
  | [], _, m, h => by simp at h
  | [a], _, m, h => by
    obtain rfl := List.mem_singleton.1 h
    exact ⟨m, by simp [dd], rfl, by omega⟩
  | a :: b :: l, h, m, hm => by
    have h1 := List.pairwise_cons.1 h
    have ih := dd_max (b :: l) h1.2
    rw [dd_cons2]
    rcases List.mem_cons.1 hm with rfl | hm
    · split
      · rename_i c
        obtain ⟨q, hq, e1, e2⟩ := ih b List.mem_cons_self
        rcases h1.1 b List.mem_cons_self with k | ⟨_, k⟩
        · rw [c, blt_irrefl] at k; cases k
        · exact ⟨q, hq, e1.trans c, by omega⟩
      · exact ⟨m, List.mem_cons_self, rfl, by omega⟩
    · obtain ⟨q, hq, e1, e2⟩ := ih m hm
      split
      · exact ⟨q, hq, e1, e2⟩
      · exact ⟨q, List.mem_cons_of_mem _ hq, e1, e2⟩
theorem mem_mems {ks : List ByteArray} {i : Nat} {k : ByteArray} (h : ks[i]? = some k) : (k, (i : Int)) ∈ mems ks := by
  obtain ⟨h1, rfl⟩ := List.getElem?_eq_some_iff.1 h
  unfold mems
  exact List.mem_mapIdx.2 ⟨i, h1, rfl⟩
/-- A key's value is that of its last index. -/
theorem ov_get {ks : List ByteArray} {es : List S28} {ms : List Mem} (hp : ms.Perm (mems ks)) (hs : ms.Pairwise lexM) (hl : ks.length = es.length) {i last : Nat} {k : ByteArray} (hi : ks[i]? = some k) (hla : ks[last]? = some k) (hm : ∀ j, ks[j]? = some k → j ≤ last) : getV (ov es ms).f3 (ov es ms).f4 k = es[last]? := by
  obtain ⟨q, hq, e1, e2⟩ := dd_max ms hs (k, (last : Int)) (hp.mem_iff.2 (mem_mems hla))
  obtain ⟨kq, ix⟩ := q
  obtain rfl : kq = k := e1
  obtain ⟨p, hp2, rfl, hkp⟩ := mems_mem (hp.mem_iff.1 (dd_mem hq))
  have hpl : p = last := by
    have := hm p hkp
    have : (last : Int) ≤ (p : Int) := e2
    omega
  subst hpl
  obtain ⟨j, hj⟩ := List.mem_iff_getElem?.1 hq
  have h1 : (ov es ms).f3[j]? = some kq := by simp [ov, hj]
  rw [getV_at (show Sk (ov es ms).f3 from dd_sk ms hs) (by simp [ov]) h1]
  have hpe : p < es.length := by have := (List.getElem?_eq_some_iff.1 hkp).1; omega
  simp [ov, hj, ge, hpe]
theorem ov_dup {ks : List ByteArray} {ms : List Mem} (hp : ms.Perm (mems ks)) (hs : ms.Pairwise lexM) {i j : Nat} {k : ByteArray} (hij : i < j) (hi : ks[i]? = some k) (hj : ks[j]? = some k) : (dd ms).length < ks.length := by
  have h1 := dd_len ms
  have h2 := hp.length_eq
  rw [mems_len] at h2
  rcases Nat.lt_or_ge (dd ms).length ks.length with h | h
  · exact h
  · exfalso
    have e : dd ms = ms := (dd_sub ms).eq_of_length (by omega)
    have hk := dd_sk ms hs
    rw [e] at hk
    obtain ⟨a, ha⟩ := List.mem_iff_getElem?.1 (hp.mem_iff.2 (mem_mems hi))
    obtain ⟨b, hb⟩ := List.mem_iff_getElem?.1 (hp.mem_iff.2 (mem_mems hj))
    have ka : (ms.map (·.1))[a]? = some k := by simp [ha]
    have kb : (ms.map (·.1))[b]? = some k := by simp [hb]
    rcases Nat.lt_trichotomy a b with h | h | h
    · have := hk.at h ka kb; rw [blt_irrefl] at this; cases this
    · subst h
      rw [ha] at hb
      have := congrArg (fun x : Mem => x.2) (Option.some.inj hb)
      simp at this
      omega
    · have := hk.at h kb ka; rw [blt_irrefl] at this; cases this
theorem dd_distinct {ks : List ByteArray} {ms : List Mem} (hp : ms.Perm (mems ks)) (hs : ms.Pairwise lexM) (hd : ∀ (i j : Nat) (k : ByteArray), ks[i]? = some k → ks[j]? = some k → i = j) : dd ms = ms := by
  have h : ∀ l : List Mem, l.Pairwise lexM → (∀ x ∈ l, ∀ y ∈ l, x.1 = y.1 → x.2 = y.2) → dd l = l := fun l => by
    induction l with
    | nil => intro _ _; rfl
    | cons a l ih =>
      intro h1 h2
      cases l with
      | nil => rfl
      | cons b l =>
        rw [dd_cons2, if_neg, ih (List.pairwise_cons.1 h1).2 (fun x hx y hy => h2 x (List.mem_cons_of_mem _ hx) y (List.mem_cons_of_mem _ hy))]
        intro e
        have := h2 b (List.mem_cons_of_mem _ List.mem_cons_self) a List.mem_cons_self e
        rcases (List.pairwise_cons.1 h1).1 b List.mem_cons_self with k | ⟨_, k⟩
        · rw [e, blt_irrefl] at k; cases k
        · omega
  refine h ms hs (fun x hx y hy e => ?_)
  obtain ⟨kx, ix⟩ := x
  obtain ⟨ky, iy⟩ := y
  obtain ⟨p, _, rfl, hkp⟩ := mems_mem (hp.mem_iff.1 hx)
  obtain ⟨q, _, rfl, hkq⟩ := mems_mem (hp.mem_iff.1 hy)
  obtain rfl : kx = ky := e
  rw [hd p q kx hkp hkq]
/-- The members as pairs. -/
def prs (es : List S28) (ms : List Mem) : List (ByteArray × S28) := ms.map (fun m => (m.1, ge es m))
theorem mems_zip (ks : List ByteArray) (es : List S28) (hl : ks.length = es.length) : prs es (mems ks) = ks.zip es := by
  apply List.ext_getElem?
  intro i
  unfold prs mems
  by_cases c : i < ks.length
  · have c2 : i < es.length := by omega
    rw [List.getElem?_eq_getElem (by simp; omega), List.getElem?_eq_getElem (by simp; omega)]
    simp [ge, c2]
  · rw [List.getElem?_eq_none (by simp; omega), List.getElem?_eq_none (by simp; omega)]
theorem rot_perm {α : Type} (l : List α) (s : Nat) : (l.drop s ++ l.take s).Perm l := by
  have h := List.perm_append_comm (l₁ := l.drop s) (l₂ := l.take s)
  rw [List.take_append_drop] at h
  exact h
theorem ov_rot {ks ks' : List ByteArray} {es es' : List S28} {ms ms' : List Mem} (hp : ms.Perm (mems ks)) (hs : ms.Pairwise lexM) (hp' : ms'.Perm (mems ks')) (hs' : ms'.Pairwise lexM) (hl : ks.length = es.length) (hl' : ks'.length = es'.length)
    (hd : ∀ (i j : Nat) (k : ByteArray), ks[i]? = some k → ks[j]? = some k → i = j) (hd' : ∀ (i j : Nat) (k : ByteArray), ks'[i]? = some k → ks'[j]? = some k → i = j) (hz : (ks'.zip es').Perm (ks.zip es)) : ov es' ms' = ov es ms := by
  have e := dd_distinct hp hs hd
  have e' := dd_distinct hp' hs' hd'
  have k1 := dd_sk ms hs
  have k1' := dd_sk ms' hs'
  rw [e] at k1
  rw [e'] at k1'
  have q : prs es' ms' = prs es ms := by
    refine perm_unique (r := fun a b : ByteArray × S28 => blt a.1 b.1 = true) (fun a b h k => ?_) _ _ ?_ ?_ ?_
    · have := blt_trans h k; rw [blt_irrefl] at this; cases this
    · have a1 : (prs es' ms').Perm (prs es' (mems ks')) := hp'.map _
      have a2 : (prs es ms).Perm (prs es (mems ks)) := hp.map _
      rw [mems_zip ks' es' hl'] at a1
      rw [mems_zip ks es hl] at a2
      exact a1.trans (hz.trans a2.symm)
    · unfold prs; exact List.pairwise_map.2 (List.pairwise_map.1 k1')
    · unfold prs; exact List.pairwise_map.2 (List.pairwise_map.1 k1)
  unfold ov
  rw [e, e']
  have q1 := congrArg (List.map (·.1)) q
  have q2 := congrArg (List.map (·.2)) q
  unfold prs at q1 q2
  simp only [List.map_map] at q1 q2
  have f1 : (fun x : ByteArray × S28 => x.1) ∘ (fun m : Mem => (m.1, ge es' m)) = fun m : Mem => m.1 := rfl
  have f2 : (fun x : ByteArray × S28 => x.1) ∘ (fun m : Mem => (m.1, ge es m)) = fun m : Mem => m.1 := rfl
  have f3 : (fun x : ByteArray × S28 => x.2) ∘ (fun m : Mem => (m.1, ge es' m)) = ge es' := rfl
  have f4 : (fun x : ByteArray × S28 => x.2) ∘ (fun m : Mem => (m.1, ge es m)) = ge es := rfl
  rw [f1, f2] at q1
  rw [f3, f4] at q2
  rw [q1, q2]
/-- A valid value at another depth: its form holds all the same. -/
theorem okf (st : Nat) : ∀ (x : S28) (ar : Nat), SizeOf.sizeOf x < st → okv true 0 x = true → okv true ar x = okv false ar x := by
  induction st with
  | zero => intro x ar h; omega
  | succ st ih =>
  intro x ar hs h
  have h0 := h
  rw [okv_eq] at h
  simp only [Bool.and_eq_true, Bool.or_eq_true, decide_eq_true_eq, Bool.not_true, Bool.false_or] at h
  have hf : fm x = true := h.1.2
  have hl : ∀ l : List S28, (∀ q ∈ l, SizeOf.sizeOf q < st ∧ okv true 0 q = true) → okL true (ar + 1) l = okL false (ar + 1) l := fun l => by
    induction l with
    | nil => intro _; rfl
    | cons a l ihl =>
      intro hq
      rw [okL, okL, ih a (ar + 1) (hq a List.mem_cons_self).1 (hq a List.mem_cons_self).2, ihl (fun q hm => hq q (List.mem_cons_of_mem _ hm))]
  rw [okv_eq, okv_eq, hf]
  simp only [Bool.not_true, Bool.false_or, Bool.not_false, Bool.true_or, Bool.and_true]
  by_cases h5 : x.f0 < 5
  · simp only [decide_eq_true h5, Bool.true_or]
  · rcases h.2 with h2 | h2
    · exact absurd h2 h5
    · rw [hl x.f4 (fun q hq => ⟨by have := sz_mem hq; omega, okv_mono _ q true 0 1 (Nat.lt_succ_self _) (by omega) (okL_mem h2.2 hq)⟩)]
theorem vd_okv {x : S28} (h : vd x = true) : okv true 0 x = true := by
  rw [vd_eq] at h
  simp only [Bool.and_eq_true] at h
  exact h.1.1
theorem okL_f {l : List S28} (h : ∀ q ∈ l, vd q = true) : okL true 1 l = okL false 1 l := by
  induction l with
  | nil => rfl
  | cons a l ih => rw [okL, okL, okf _ a 1 (Nat.lt_succ_self _) (vd_okv (h a List.mem_cons_self)), ih (fun q hq => h q (List.mem_cons_of_mem _ hq))]
theorem sk_ko : ∀ {l : List ByteArray} {p : Option ByteArray}, Sk l → (∀ k ∈ l, k.size ≤ 4096 ∧ u8 k = true) → (∀ q, p = some q → ∀ k ∈ l, blt q k = true) → ko p l = true := by
  intro l
  induction l with
  | nil => intro p _ _ _; exact ko_nil p
  | cons k l ih =>
    intro p h1 h2 h3
    rw [ko_cons, ih (List.pairwise_cons.1 h1).2 (fun a ha => h2 a (List.mem_cons_of_mem _ ha)) (fun q hq a ha => by obtain rfl := Option.some.inj hq; exact (List.pairwise_cons.1 h1).1 a ha), decide_eq_true (h2 k List.mem_cons_self).1, (h2 k List.mem_cons_self).2]
    cases p with
    | none => rfl
    | some q => simp [h3 q rfl k List.mem_cons_self]
theorem ov_vd {ks : List ByteArray} {es : List S28} {ms : List Mem} (hp : ms.Perm (mems ks)) (hs : ms.Pairwise lexM) (hl : ks.length = es.length) (hn : ks.length ≤ 20) (hk : ∀ k ∈ ks, k.size ≤ 4096 ∧ u8 k = true) (hv : ∀ y ∈ es, vd y = true) : vd (ov es ms) = ft (ov es ms) := by
  unfold vd ft fitR
  have hlen : (dd ms).length ≤ 20 := by
    have := dd_len ms
    have h2 := hp.length_eq
    rw [mems_len] at h2
    omega
  have hf : fm (ov es ms) = true := by
    have hko : ko none ((dd ms).map (·.1)) = true := sk_ko (dd_sk ms hs) (fun k h => hk k (ov_keys hp h)) (by simp)
    unfold fm kz
    simp only [ov, hko, u8E, List.length_map]
    simp
    omega
  have e : okv true 0 (ov es ms) = okv false 0 (ov es ms) := by
    rw [okv_eq, okv_eq, hf, okL_f (l := (ov es ms).f4) (fun q hq => hv q (ov_elems hp hl hq))]
    simp
  rw [e]
end Go.Proofs.Ytgpjkojnmeaoiaa.QV

/- keep.Short; value.Obj in all; two rows that are made in any order. -/
namespace Go.Proofs.Ytgpjkojnmeaoiaa.QV
open Go Go.RowKit Go.Proofs.YtgpjkojnmeaoiaaW.PrintWords Go.Proofs.YtgpjkojnmeaoiaaW.PrintLast Go.Proofs.YtgpjkojnmeaoiaaW.PrintMore
set_option linter.unusedVariables false
set_option linter.unusedSimpArgs false
set_option maxRecDepth 100000
set_option maxHeartbeats 4000000
theorem short_loop (m : Int) (l : List ByteArray) (hl : l.length ≤ 4611686018427387904) : ∀ (d : Nat) (i : Nat) (k : Nat), l.length - i ≤ d → d < k → i ≤ l.length → ndjqkeep_Short.l0 k m l (i : Int) = some ((l.drop i).all fun s => decide ((s.size : Int) ≤ m))
  | d, i, k, hd, hk, hi => by
    obtain ⟨k, rfl⟩ : ∃ j, k = j + 1 := ⟨k - 1, by omega⟩
    simp only [ndjqkeep_Short.l0]
    by_cases c : i < l.length
    · rw [if_pos (by omega), if_pos (by omega)]
      have h1 := List.drop_eq_getElem_cons c
      have e1 : rdOf ByteArray.empty l (i : Int) = l[i] := by unfold rdOf; simp [c]
      rw [e1, h1, List.all_cons]
      by_cases q : (l[i].size : Int) > m
      · rw [if_pos q, decide_eq_false (by omega)]; rfl
      · rw [if_neg q, decide_eq_true (by omega), Bool.true_and]
        obtain ⟨d, rfl⟩ : ∃ j, d = j + 1 := ⟨d - 1, by omega⟩
        rw [wrap_id ((i : Int) + 1) (by omega) (by omega)]
        exact short_loop m l hl d (i + 1) k (by omega) (by omega) (by omega)
    · rw [if_neg (by omega), List.drop_eq_nil_of_le (by omega)]
      rfl
theorem shortC (m : Int) (l : List ByteArray) (w : World) {A : Option Addr} {c : Nat} (hl : Kd.C Kd.string w A l.length l) (hc : l.length ≤ c) (hn : l.length ≤ 140737488351232) :
    Calls Try.prog 10 #[.int .i64 m, .slice A l.length c] w fun e w' => e = .returned (.bool (l.all fun s => decide ((s.size : Int) ≤ m))) ∧ Below w.heap.size w w' := by
  refine (ndjqkeep_Short.calls (l.length + 1) m A c l _ w hl hc (short_loop m l (by omega) l.length 0 _ (by omega) (by omega) (by omega))).mono ?_
  rintro e w' ⟨rfl, hb⟩
  exact ⟨by rw [List.drop_zero], drawn_below hb⟩
/-- What value.Obj answers for keys that are short: an error, or the valid object of the sorted members. -/
def ObjT (ks : List ByteArray) (es : List S28) (w : World) (e : Ending) (w' : World) : Prop :=
  (¬ (∀ y ∈ es, vd y = true) ∨ ¬ (∀ k ∈ ks, u8 k = true) ∨ ∃ ms : List Mem, ms.Perm (mems ks) ∧ ms.Pairwise lexM ∧ ft (ov es ms) = false) ∧ (∃ n : Int, n ≠ 0 ∧ BadObj w n e w') ∨
  (∀ y ∈ es, vd y = true) ∧ (∀ k ∈ ks, u8 k = true) ∧ ∃ (ms : List Mem) (X3 : Option Addr) (d3 : Nat) (X4 : Option Addr) (d4 : Nat), e = .returned (.tuple #[.agg #[.int .i64 ((ov es ms)).f0, .int .i64 ((ov es ms)).f1, .string ((ov es ms)).f2, .slice X3 ((ov es ms)).f3.length d3, .slice X4 ((ov es ms)).f4.length d4], .int .i64 0]) ∧ Rd w' X3 d3 X4 d4 (ov es ms) ∧ ms.Perm (mems ks) ∧ ms.Pairwise lexM ∧ Below w.heap.size w w' ∧ vd (ov es ms) = true ∧ ∀ (W2 : World) (b : Nat), b < w.heap.size → (∀ k, k ≠ b → k < w'.heap.size → W2.heap[k]? = w'.heap[k]?) → Rd W2 X3 d3 X4 d4 (ov es ms)
theorem valueObjT (ks : List ByteArray) (es : List S28) (w : World) {A : Option Addr} {c : Nat} {B : Option Addr} {d : Nat} (hlen : ks.length = es.length) (hk : Kd.C Kd.string w A ks.length ks) (hks : ∀ q ∈ ks, q.size ≤ 4096) (he : Kd.C k28 w B es.length es) (hw : ∀ y ∈ es, Wv y ∧ cnt y ≤ 1000000000000) (hn : ks.length ≤ 20) :
    Calls Try.prog 17 #[.slice A ks.length c, .slice B es.length d] w (ObjT ks es w) := by
  cases hall : es.all vd with
  | false =>
    have h := valueObj_inv (c := c) (d := d) (A := A) ks es w hlen he (fun y hy => ⟨(hw y hy).1, by have := (hw y hy).2; omega⟩) (by omega) hall
    exact h.mono (fun e w' hb => Or.inl ⟨Or.inl (fun hh => by rw [List.all_eq_true.2 hh] at hall; cases hall), 1, by decide, hb⟩)
  | true =>
    have hv : ∀ y ∈ es, vd y = true := List.all_eq_true.1 hall
    cases hu : ks.all u8 with
    | false =>
      have h := valueObj_bad (c := c) (d := d) ks es w hlen hk (fun q hq => by have := hks q hq; omega) he (fun y hy => ⟨(hw y hy).1, by have := (hw y hy).2; omega⟩) (by omega) hall hu
      exact h.mono (fun e w' hb => Or.inl ⟨Or.inr (Or.inl (fun hh => by rw [List.all_eq_true.2 hh] at hu; cases hu)), 6, by decide, hb⟩)
    | true =>
      have hk8 : ∀ k ∈ ks, u8 k = true := List.all_eq_true.1 hu
      have h := valueObj_ok (c := c) (d := d) ks es w hlen hk (fun q hq => by have := hks q hq; omega) he hw hn hall hu
      refine h.mono (fun e w' hb => ?_)
      unfold UObj at hb
      rw [if_neg (by
        unfold lg
        rw [List.any_eq_true]
        rintro ⟨k, hk, h⟩
        have := hks k hk
        have := of_decide_eq_true h
        omega)] at hb
      obtain ⟨ms, X3, d3, X4, d4, rfl, hr, hp, hs, hbb, hmv⟩ := hb
      have hvd := ov_vd hp hs hlen hn (fun k hk => ⟨hks k hk, hk8 k hk⟩) hv
      cases hft : ft (ov es ms) with
      | false =>
        rw [if_neg (by simp)]
        exact Or.inl ⟨Or.inr (Or.inr ⟨ms, hp, hs, hft⟩), 2, by decide, rfl, hbb⟩
      | true =>
        rw [if_pos rfl]
        exact Or.inr ⟨hv, hk8, ms, X3, d3, X4, d4, rfl, hr, hp, hs, hbb, by rw [hvd, hft], hmv⟩
/-! ### two rows and a block, made in any order -/
/-- A kind of elements that is told by a fixed relation. -/
def kRel {α : Type} (R : α → List Value → Prop) (sz : Nat) (h1 : ∀ x cs, R x cs → cs.length = sz) (h2 : ∀ x cs, R x cs → ∀ u ∈ cs, u.oneCell' = true) : Kd α where
  sz := sz
  E := []
  K := fun _ => R
  M := fun _ _ _ => R
  K_len := fun h => h1 _ _ h
  K_one := fun h => h2 _ _ h
  K_below := fun _ h => h
  K_of_M := fun h => h
  M_mono := fun _ h => h
  M_bound := fun h => h
  M_move := fun _ h => h
  M_lower := fun _ h => h
structure Rg (w W : World) (va : Option (Value × List ByteArray)) (vb : Option (Value × List S28)) (bz : Option Nat) : Prop where
  z : Below w.heap.size w W
  a : ∀ v l, va = some (v, l) → OwnRow kR 9 1 W w.heap.size v l
  b : ∀ v l, vb = some (v, l) → OwnRow (k28.K w) 28 5 W w.heap.size v l
  c : ∀ g, bz = some g → w.heap.size ≤ g ∧ W.heap[g]? = some (.cells #[.int .i64 0, .int .i64 0, .string ⟨#[]⟩, .slice none 0 0, .slice none 0 0] 28 (0, 0)) ∧ ∀ v l, vb = some (v, l) → v.ownBlock ≠ some g
theorem Rg.below {w W W' : World} {va vb bz} (h : Rg w W va vb bz) (hb : Below W.heap.size W W') : Rg w W' va vb bz :=
  ⟨below_step h.z hb, fun v l e => (h.a v l e).below hb, fun v l e => (h.b v l e).below hb, fun g e => ⟨(h.c g e).1, (hb.block g (Array.getElem?_eq_some_iff.1 (h.c g e).2.1).1).trans (h.c g e).2.1, (h.c g e).2.2⟩⟩
theorem Rg.newA {w W : World} {vb bz} (h : Rg w W none vb bz) : Rg w (W.alloc (.cells #[] 9)) (some (.slice (some ⟨W.heap.size, 0, none⟩) 0 0, [])) vb bz := by
  have h1 := h.below (new_below W (.cells #[] 9))
  refine ⟨h1.z, fun v l e => ?_, h1.b, h1.c⟩
  injection e with e
  injection e with e1 e2
  subst e1 e2
  exact OwnRow.lit (R := kR) (e := 9) (size := 1) W w.heap.size (ps := []) (inner := []) (Reps.none _ _) (Below.size h.z) (by simp)
theorem Rg.newB {w W : World} {va bz} (h : Rg w W va none bz) : Rg w (W.alloc (.cells #[] 28)) va (some (.slice (some ⟨W.heap.size, 0, none⟩) 0 0, [])) bz := by
  have h1 := h.below (new_below W (.cells #[] 28))
  refine ⟨h1.z, h1.a, fun v l e => ?_, fun g e => ⟨(h1.c g e).1, (h1.c g e).2.1, fun v l e2 => ?_⟩⟩
  · injection e with e
    injection e with e1 e2
    subst e1 e2
    exact OwnRow.lit (R := k28.K w) (e := 28) (size := 5) W w.heap.size (ps := []) (inner := []) (Reps.none _ _) (Below.size h.z) (by simp)
  · injection e2 with e2
    injection e2 with e1 e2
    subst e1
    intro e3
    have := (Array.getElem?_eq_some_iff.1 (h.c g e).2.1).1
    have := Option.some.inj e3
    simp at this
    omega
theorem Rg.newZ {w W : World} {va vb} (h : Rg w W va vb none) : Rg w (W.alloc (.cells #[.int .i64 0, .int .i64 0, .string ⟨#[]⟩, .slice none 0 0, .slice none 0 0] 28)) va vb (some W.heap.size) := by
  have h1 := h.below (new_below W (.cells #[.int .i64 0, .int .i64 0, .string ⟨#[]⟩, .slice none 0 0, .slice none 0 0] 28))
  refine ⟨h1.z, h1.a, h1.b, fun g e => ?_⟩
  obtain rfl := Option.some.inj e
  refine ⟨Below.size h.z, heap_alloc_new W _, fun v l e2 e3 => ?_⟩
  obtain ⟨inner, ho, _⟩ := h.b v l e2
  have := Go.Proofs.YtgpjkojnmeaoiaaW.PrintWords.own_lt ho _ e3
  omega
theorem Rg.moveA {w W W1 : World} {v v1 : Value} {xs xs1 : List ByteArray} {vb bz} (h : Rg w W (some (v, xs)) vb bz) (ho : OwnRow kR 9 1 W1 w.heap.size v1 xs1) (hb : Below w.heap.size w W1) (hg : W.grownBy W1 v.ownBlock) : Rg w W1 (some (v1, xs1)) vb bz := by
  obtain ⟨i0, o0, _⟩ := h.a v xs rfl
  refine ⟨hb, fun v2 l e => ?_, fun v2 l e => ?_, fun g e => ?_⟩
  · injection e with e
    injection e with e1 e2
    subst e1 e2
    exact ho
  · obtain ⟨i2, o2, r2⟩ := h.b v2 l e
    exact OwnRow.other ⟨i2, o2, r2⟩ hg (Go.Proofs.YtgpjkojnmeaoiaaW.PrintWords.own_type_ne o2 o0 (by decide))
  · obtain ⟨c1, c2, c3⟩ := h.c g e
    refine ⟨c1, (hg.block g (Array.getElem?_eq_some_iff.1 c2).1 (fun e2 => ?_)).trans c2, c3⟩
    obtain ⟨cells, hc⟩ := own_typed o0 g e2.symm
    rw [hc] at c2
    injection c2 with c2
    injection c2 with _ c2
    exact absurd c2 (by decide)
theorem Rg.moveB {w W W1 : World} {v v1 : Value} {xs xs1 : List S28} {va bz} (h : Rg w W va (some (v, xs)) bz) (ho : OwnRow (k28.K w) 28 5 W1 w.heap.size v1 xs1) (hb : Below w.heap.size w W1) (hg : W.grownBy W1 v.ownBlock) (hn : v1.ownBlock = v.ownBlock ∨ ∃ b, v1.ownBlock = some b ∧ W.heap.size ≤ b) : Rg w W1 va (some (v1, xs1)) bz := by
  obtain ⟨i0, o0, _⟩ := h.b v xs rfl
  refine ⟨hb, fun v2 l e => ?_, fun v2 l e => ?_, fun g e => ?_⟩
  · obtain ⟨i2, o2, r2⟩ := h.a v2 l e
    exact OwnRow.other ⟨i2, o2, r2⟩ hg (Go.Proofs.YtgpjkojnmeaoiaaW.PrintWords.own_type_ne o2 o0 (by decide))
  · injection e with e
    injection e with e1 e2
    subst e1 e2
    exact ho
  · obtain ⟨c1, c2, c3⟩ := h.c g e
    have hlt := (Array.getElem?_eq_some_iff.1 c2).1
    refine ⟨c1, (hg.block g hlt (fun e2 => c3 v xs rfl e2.symm)).trans c2, fun v2 l e2 e3 => ?_⟩
    injection e2 with e2
    injection e2 with e4 e5
    subst e4
    rcases hn with hn | ⟨b, hn, hlb⟩
    · exact c3 v xs rfl (hn ▸ e3)
    · rw [hn] at e3
      have := Option.some.inj e3
      omega
end Go.Proofs.Ytgpjkojnmeaoiaa.QV

/- Appends to two rows: the steps. -/
namespace Go.Proofs.Ytgpjkojnmeaoiaa.QV
open Go Go.RowKit Go.Proofs.YtgpjkojnmeaoiaaW.PrintWords Go.Proofs.YtgpjkojnmeaoiaaW.PrintLast Go.Proofs.YtgpjkojnmeaoiaaW.PrintMore
set_option linter.unusedVariables false
set_option linter.unusedSimpArgs false
set_option maxRecDepth 100000
set_option maxHeartbeats 4000000
theorem stepA {w W : World} {ops : Array Oper} {o : Oper} {a : Act} {Q : Exit → Act → World → Prop} {Kc : Act → World → Prop} {vb : Option (Value × List S28)} {bz : Option Nat} (hw : Region.wanted o (yielded ops a.tmps) = true) (s x : Operand)
    (ho : o.op = .call { callee := .builtin .append, args := #[s, x], argTypes := #[22, 22] }) (v : Value) (xs ys : List ByteArray) (A : Option Addr) (m c : Nat) (hs : a.eval s = v) (hx : a.eval x = .slice A m c)
    (H : Rg w W (some (v, xs)) vb bz) (HR : ReadsRow kR 1 W A m ys) (hl : xs.length + m ≤ 1000) (h : ∀ v1 w1, Rg w w1 (some (v1, xs ++ ys)) vb bz → Kc (a.put o.dst v1) w1) :
    if Region.wanted o (yielded ops a.tmps) = true then Oper.wp Try.prog o a W Kc Q else Kc (a.put o.dst undef) W :=
  Kd.R_append_rows_step (P := Try.prog) (kRel kR 1 (fun _ _ h => by rw [show _ = [Value.string _] from h]; rfl) (fun _ _ h => by rw [show _ = [Value.string _] from h]; simp [Value.oneCell'])) (Rr := kR) (w0 := w) (W := W) w.heap.size hw s x 22 9 (.string ⟨#[]⟩) 16 ho Try.underlying22 clone_info9 rfl (show 0 < 1 by decide) (by decide) v xs ys A m c (fun _ => True) (fun _ => False) hs hx
    ⟨fun _ _ => trivial, H.a v xs rfl⟩ HR (fun _ _ h => h) (fun _ h => h.elim) (fun _ _ => trivial) H.z (Below.size H.z) (by omega) (fun v1 w1 h1 h2 h3 _ => h v1 w1 (H.moveA h1.2 h2 h3))
theorem stepB {w W : World} {ops : Array Oper} {o : Oper} {a : Act} {Q : Exit → Act → World → Prop} {Kc : Act → World → Prop} {va : Option (Value × List ByteArray)} {bz : Option Nat} (hw : Region.wanted o (yielded ops a.tmps) = true) (s x : Operand)
    (ho : o.op = .call { callee := .builtin .append, args := #[s, x], argTypes := #[23, 23] }) (v : Value) (xs ys : List S28) (A : Option Addr) (m c : Nat) (hs : a.eval s = v) (hx : a.eval x = .slice A m c)
    (H : Rg w W va (some (v, xs)) bz) (HR : ReadsRow (k28.K w) 5 W A m ys) (hl : xs.length + m ≤ 1000) (h : ∀ v1 w1, Rg w w1 va (some (v1, xs ++ ys)) bz → Kc (a.put o.dst v1) w1) :
    if Region.wanted o (yielded ops a.tmps) = true then Oper.wp Try.prog o a W Kc Q else Kc (a.put o.dst undef) W :=
  Kd.R_append_rows_step (P := Try.prog) (kRel (k28.K w) 5 (fun _ _ h => k28.K_len h) (fun _ _ h => k28.K_one h)) (Rr := k28.K w) (w0 := w) (W := W) w.heap.size hw s x 23 28 (.agg #[.int .i64 0, .int .i64 0, .string ⟨#[]⟩, .slice none 0 0, .slice none 0 0]) 80 ho Try.underlying23 info28 rfl (show 0 < 5 by decide) (by decide) v xs ys A m c (fun _ => True) (fun _ => False) hs hx
    ⟨fun _ _ => trivial, H.b v xs rfl⟩ HR (fun _ _ h => h) (fun _ h => h.elim) (fun _ _ => trivial) H.z (Below.size H.z) (by omega) (fun v1 w1 h1 h2 h3 h4 => h v1 w1 (H.moveB h1.2 h2 h3 h4))
/-- A row of strings, read in a world above. -/
theorem rowA {w W : World} {A : Option Addr} {n : Nat} {l : List ByteArray} (h : Kd.C Kd.string w A n l) (hb : Below w.heap.size w W) : ReadsRow kR 1 W A n l := by
  have h2 := Kd.C_below h hb
  exact h2
theorem rowB {w W : World} {A : Option Addr} {n : Nat} {l : List S28} (h : Kd.C k28 w A n l) (hb : Below w.heap.size w W) : ReadsRow (k28.K w) 5 W A n l := ReadsRow.imp_ h hb (fun _ _ hp => hp)
theorem C_take {α : Type} {d : Kd α} {w : World} {A : Option Addr} {n : Nat} {l : List α} (h : Kd.C d w A n l) (m : Nat) (hm : m ≤ n) : Kd.C d w A m (l.take m) := by
  obtain ⟨h1, h2, h3⟩ := h
  refine ⟨by rw [List.length_take]; omega, by omega, fun hp => ?_⟩
  obtain ⟨ad, e, hc⟩ := h3 (by omega)
  refine ⟨ad, e, fun j p hj => hc j p ?_⟩
  rw [List.getElem?_take] at hj
  split at hj
  · exact hj
  · cases hj
theorem C_drop {α : Type} {d : Kd α} {w : World} {ad : Addr} {n : Nat} {l : List α} (h : Kd.C d w (some ad) n l) (m : Nat) (hm : m ≤ n) : Kd.C d w (some (ad.add (m * d.sz))) (n - m) (l.drop m) := by
  obtain ⟨h1, h2, h3⟩ := h
  refine ⟨by rw [List.length_drop]; omega, by omega, fun hp => ?_⟩
  obtain ⟨ad2, e, hc⟩ := h3 (by omega)
  obtain rfl := Option.some.inj e
  refine ⟨_, rfl, fun j p hj => ?_⟩
  rw [List.getElem?_drop] at hj
  obtain ⟨c, c1, c2, c3⟩ := hc (m + j) p hj
  refine ⟨c, c1, c2, fun i u hu => ?_⟩
  have := c3 i u hu
  rw [Go.Deep.add_add, show m * d.sz + (j * d.sz + i) = (m + j) * d.sz + i by rw [Nat.add_mul]; omega]
  exact this
/-- value.Obj on the rotated members: the same object. -/
theorem rotC {w W : World} {ks : List ByteArray} {es : List S28} {ms : List Mem} {n s : Nat} {v1 v2 : Value} {bz : Option Nat} (hR : Rg w W (some (v1, ks.drop s ++ ks.take s)) (some (v2, es.drop s ++ es.take s)) bz) (hl : ks.length = n ∧ es.length = n) (hn : n ≤ 10) (hp : ms.Perm (mems ks)) (hs : ms.Pairwise lexM) (hsz : ∀ q ∈ ks, q.size ≤ 20)
    (hw : ∀ y ∈ es, Wv y ∧ cnt y ≤ 50) (hv : ∀ y ∈ es, vd y = true) (hu : ∀ k ∈ ks, u8 k = true) (hd : ∀ (i j : Nat) (k : ByteArray), ks[i]? = some k → ks[j]? = some k → i = j) (hvd : vd (ov es ms) = true) :
    ∃ (A : Option Addr) (c : Nat) (B : Option Addr) (d : Nat), v1 = .slice A n c ∧ v2 = .slice B n d ∧ Calls Try.prog 17 #[.slice A n c, .slice B n d] W fun e w' => ∃ (Y3 : Option Addr) (y3 : Nat) (Y4 : Option Addr) (y4 : Nat), e = .returned (.tuple #[.agg #[.int .i64 ((ov es ms)).f0, .int .i64 ((ov es ms)).f1, .string ((ov es ms)).f2, .slice Y3 ((ov es ms)).f3.length y3, .slice Y4 ((ov es ms)).f4.length y4], .int .i64 0]) ∧ Rd w' Y3 y3 Y4 y4 (ov es ms) ∧ Below W.heap.size W w' ∧
      ∀ (W2 : World) (b : Nat), b < W.heap.size → (∀ k, k ≠ b → k < w'.heap.size → W2.heap[k]? = w'.heap[k]?) → Rd W2 Y3 y3 Y4 y4 (ov es ms) := by
  have hl1 : (ks.drop s ++ ks.take s).length = n := by rw [(rot_perm ks s).length_eq]; exact hl.1
  have hl2 : (es.drop s ++ es.take s).length = n := by rw [(rot_perm es s).length_eq]; exact hl.2
  obtain ⟨A, c, e1, l1, g1⟩ := (hR.a _ _ rfl).reads
  obtain ⟨B, d, e2, l2, g2⟩ := ((hR.b _ _ rfl).imp_ (fun _ _ h => k28.K_below hR.z h)).reads
  have hm1 : ∀ q, q ∈ ks.drop s ++ ks.take s → q ∈ ks := fun q hq => (rot_perm ks s).mem_iff.1 hq
  have hm2 : ∀ q, q ∈ es.drop s ++ es.take s → q ∈ es := fun q hq => (rot_perm es s).mem_iff.1 hq
  have h := valueObjT (A := A) (B := B) (c := c) (d := d) (ks.drop s ++ ks.take s) (es.drop s ++ es.take s) W (by omega) g1 (fun q hq => by have := hsz q (hm1 q hq); omega) g2 (fun y hy => ⟨(hw y (hm2 y hy)).1, by have := (hw y (hm2 y hy)).2; omega⟩) (by omega)
  have hd' : ∀ (i j : Nat) (k : ByteArray), (ks.drop s ++ ks.take s)[i]? = some k → (ks.drop s ++ ks.take s)[j]? = some k → i = j := by
    have nd : ks.Nodup := by
      refine List.pairwise_iff_getElem.2 (fun i j hi hj hij he => ?_)
      have := hd i j _ (List.getElem?_eq_getElem hi) ((List.getElem?_eq_getElem hj).trans (congrArg some he.symm))
      omega
    have nd' := (rot_perm ks s).nodup_iff.2 nd
    intro i j k hi hj
    obtain ⟨ai, ai2⟩ := List.getElem?_eq_some_iff.1 hi
    obtain ⟨aj, aj2⟩ := List.getElem?_eq_some_iff.1 hj
    have hpw := List.pairwise_iff_getElem.1 nd'
    rcases Nat.lt_trichotomy i j with h | h | h
    · exact absurd (ai2.trans aj2.symm) (hpw i j ai aj h)
    · exact h
    · exact absurd (aj2.trans ai2.symm) (hpw j i aj ai h)
  have hz : ((ks.drop s ++ ks.take s).zip (es.drop s ++ es.take s)).Perm (ks.zip es) := by
    rw [List.zip_append (by simp only [List.length_drop]; omega), show (ks.drop s).zip (es.drop s) = (ks.zip es).drop s from List.drop_zipWith.symm, show (ks.take s).zip (es.take s) = (ks.zip es).take s from List.take_zipWith.symm]
    exact rot_perm _ _
  have hov : ∀ ms2 : List Mem, ms2.Perm (mems (ks.drop s ++ ks.take s)) → ms2.Pairwise lexM → ov (es.drop s ++ es.take s) ms2 = ov es ms := fun ms2 q1 q2 => ov_rot hp hs q1 q2 (by omega) (by omega) hd hd' hz
  rw [hl1] at e1 l1 h
  rw [hl2] at e2 l2 h
  refine ⟨A, c, B, d, e1, e2, h.mono ?_⟩
  rintro e w' (⟨hb, _⟩ | ⟨_, _, ms2, X3, d3, X4, d4, rfl, hr, q1, q2, hb, _, hf⟩)
  · rcases hb with hb | hb | ⟨ms2, q1, q2, q3⟩
    · exact absurd (fun y hy => hv y (hm2 y hy)) hb
    · exact absurd (fun y hy => hu y (hm1 y hy)) hb
    · rw [hov ms2 q1 q2, ← ov_vd hp hs (by omega) (by omega) (fun k hk => ⟨by have := hsz k hk; omega, hu k hk⟩) hv, hvd] at q3
      cases q3
  · rw [hov ms2 q1 q2] at hr hf
    rw [hov ms2 q1 q2]
    exact ⟨X3, d3, X4, d4, rfl, hr, hb, hf⟩
/-! ### a region in any order: joins -/
section
variable {P : Program} {ops : Array Oper} {Q : Exit → Act → World → Prop} {md : Region.Mode}
theorem startA {id n : Nat} {a : Act} {w : World} (l : Array Bool) (hm : P.follows .mixedOrders = true) (hn : ops.size = n) (hl : Array.replicate n false = l) (h : wpAny P .any ops Q n l a w.drew) : (Code.region id ops true).wp P Q a w := by
  subst hn
  subst hl
  exact wp_region_any hm h
theorem takeA {i : Nat} {N : Option Tmp} {oi : Oper} (v : Value) {n : Nat} {l : Array Bool} {a : Act} {w : World} (l' : Array Bool) (hi : ops[i]? = some oi) (hN : oi.dst = N) (hc : (Region.noSelect ops && Region.free md ops l i && (Region.ready md ops l).contains i && (l.setIfInBounds i true == l')) = true)
    (hQ : ∀ c a w, Q (.panic c) (a.put oi.dst v) w → Q (.panic c) a w) (hw : Region.wanted oi (yielded ops a.tmps) = true) (hv : ∀ w, (execOp a.eval oi).run P w = .ok (.value v) w) {a' : Act} (ha : a.put N v = a') (h : wpAny P md ops Q n l' a' w) : wpAny P md ops Q (n + 1) l a w := by
  subst ha
  subst hN
  simp only [Bool.and_eq_true, beq_iff_eq] at hc
  obtain ⟨⟨⟨h1, h2⟩, h3⟩, h4⟩ := hc
  subst h4
  exact wpAny_take hi h1 h2 h3 hQ (Or.inl ⟨hw, hv⟩) h
theorem joinA {σ : Type} {n : Nat} {l : Array Bool} {a : Act} {w : World} (n' : Nat) (l' : Array Bool) (ns : σ → List (Tmp × Value)) (F : σ → World → Prop) (hcont : ∀ s w', F s w' → wpAny P md ops Q n' l' (Go.Up.putAll a (ns s)) w')
    (h : (∀ s w', F s w' → wpAny P md ops Q n' l' (Go.Up.putAll a (ns s)) w') → wpAny P md ops Q n l a w) : wpAny P md ops Q n l a w := h hcont
def Stp (P : Program) (md : Region.Mode) (ops : Array Oper) (Q : Exit → Act → World → Prop) (n : Nat) (l : Array Bool) (a : Act) (w : World) (i : Nat) : Prop := wpOp P ops Q i (wpAny P md ops Q n (l.setIfInBounds i true)) a w
theorem stA {i : Nat} {o : Oper} {N : Option Tmp} {n : Nat} {l : Array Bool} {a : Act} {w : World} (l' : Array Bool) (ho : ops[i]? = some o) (hN : o.dst = N) (hl : (l.setIfInBounds i true == l') = true)
    (h : ∀ K : Act → World → Prop, Shut (∀ a' w', wpAny P md ops Q n l' a' w' → K a' w') → if Region.wanted o (yielded ops a.tmps) = true then Oper.wp P o a w K Q else K (a.put N undef) w) : Stp P md ops Q n l a w i := by
  subst hN
  rw [beq_iff_eq] at hl
  subst hl
  exact wpOp_step ho (fun K hK => h K hK)
theorem al1 {i : Nat} {n : Nat} {l : Array Bool} {a : Act} {w : World} (hc : (Region.ready md ops l == [i]) = true) (h : Stp P md ops Q n l a w i) : wpAny P md ops Q (n + 1) l a w :=
  wpAny_all (by simpa using hc) (by simp) (fun k hk => by obtain rfl := List.mem_singleton.1 hk; exact h)
theorem al2 {i j : Nat} {n : Nat} {l : Array Bool} {a : Act} {w : World} (hc : (Region.ready md ops l == [i, j]) = true) (h : Stp P md ops Q n l a w i) (h2 : Stp P md ops Q n l a w j) : wpAny P md ops Q (n + 1) l a w :=
  wpAny_all (rs := [i, j]) (by simpa using hc) (by simp) (fun k hk => by
    rcases List.mem_cons.1 hk with rfl | hk
    · exact h
    · obtain rfl := List.mem_singleton.1 hk; exact h2)
theorem al3 {i j m : Nat} {n : Nat} {l : Array Bool} {a : Act} {w : World} (hc : (Region.ready md ops l == [i, j, m]) = true) (h : Stp P md ops Q n l a w i) (h2 : Stp P md ops Q n l a w j) (h3 : Stp P md ops Q n l a w m) : wpAny P md ops Q (n + 1) l a w :=
  wpAny_all (rs := [i, j, m]) (by simpa using hc) (by simp) (fun k hk => by
    rcases List.mem_cons.1 hk with rfl | hk
    · exact h
    · rcases List.mem_cons.1 hk with rfl | hk
      · exact h2
      · obtain rfl := List.mem_singleton.1 hk; exact h3)
theorem doneA {l : Array Bool} {a : Act} {w : World} (n : Nat) (hr : (Region.ready md ops l == []) = true) (h : Q .normal a w) : wpAny P md ops Q n l a w := wpAny_done (by simpa using hr) h n
end
end Go.Proofs.Ytgpjkojnmeaoiaa.QV

/- keep.Mod, by hand; nested arrays. -/
namespace Go.Proofs.Ytgpjkojnmeaoiaa.QV
open Go Go.RowKit Go.Proofs.YtgpjkojnmeaoiaaW.PrintWords Go.Proofs.YtgpjkojnmeaoiaaW.PrintLast Go.Proofs.YtgpjkojnmeaoiaaW.PrintMore
set_option linter.unusedVariables false
set_option linter.unusedSimpArgs false
set_option maxRecDepth 100000
set_option maxHeartbeats 4000000
theorem fillb {W : World} {b t : Nat} {c0 c1 c2 c3 c4 : Value} (h : W.heap[b]? = some (.cells #[c0, c1, c2, c3, c4] t (0, 0))) (v0 v1 v2 v3 v4 : Value) : ∃ W', ((((W.setCell ⟨b, 0, none⟩ v0).setCell ⟨b, 1, none⟩ v1).setCell ⟨b, 2, none⟩ v2).setCell ⟨b, 3, none⟩ v3).setCell ⟨b, 4, none⟩ v4 = W' ∧
    W'.heap[b]? = some (.cells #[v0, v1, v2, v3, v4] t (0, 0)) ∧ W.grownBy W' (some b) := by
  have gc : ∀ (W : World) (j : Nat) (v : Value), W.grownBy (W.setCell ⟨b, j, none⟩ v) (some b) := fun W j v => ⟨rfl, rfl, rfl, by simp, fun k _ hk => Below.heap_setCell _ _ _ k (fun e => hk (by rw [e]))⟩
  have hg := ((((gc W 0 v0).trans (gc _ 1 v1)).trans (gc _ 2 v2)).trans (gc _ 3 v3)).trans (gc _ 4 v4)
  refine ⟨_, rfl, ?_, hg⟩
  rw [heap_setCell_same _ _ _ _ _ _ (heap_setCell_same _ _ _ _ _ _ (heap_setCell_same _ _ _ _ _ _ (heap_setCell_same _ _ _ _ _ _ (heap_setCell_same _ _ _ _ _ _ h))))]
  rfl
theorem modC (n m : Int) (hm : 0 < m ∧ m ≤ 1000) (hn : -9223372036854775808 ≤ n ∧ n ≤ 9223372036854775807) (w : World) : Calls Try.prog 34 #[.int .i64 n, .int .i64 m] w fun e w' => e = .returned (.int .i64 (n % m)) ∧ w' = w := by
  have h0 : (m == 0) = false := by rw [beq_eq_false_iff_ne]; omega
  have e := Int.tmod_eq_emod (a := n) (b := m)
  have h1 := Int.emod_nonneg n (show m ≠ 0 by omega)
  have h2 := Int.emod_lt_of_pos n hm.1
  have h3 : (m.natAbs : Int) = m := by omega
  have hT : Aside0 ((0 ≤ n.tmod m → n.tmod m = n % m) ∧ (n.tmod m < 0 → n.tmod m + m = n % m)) := ⟨by
    split at e <;> omega⟩
  obtain ⟨r, hr⟩ : ∃ r, n.tmod m = r := ⟨_, rfl⟩
  have hb : -1000 < r ∧ r < 1000 := by
    rw [← hr]
    have a1 := Int.tmod_lt_of_pos n hm.1
    have a2 := Int.lt_tmod_of_pos n hm.1
    omega
  have HT : Aside0 ((0 ≤ r → r = n % m) ∧ (r < 0 → r + m = n % m)) := ⟨by rw [← hr]; exact hT.out⟩
  clear e h1 h2 h3 hT
  by_cases c : r < 0
  · have g0 : decide (r < 0) = true := decide_eq_true c
    have HR : Aside0 (r + m = n % m) := ⟨HT.out.2 c⟩
    clear HT c
    go_enter Try.func34, Try.ntmps34
    go_wp2
    go_ret
    exact ⟨by rw [← HR.out]; rfl, rfl⟩
  · have g0 : decide (r < 0) = false := decide_eq_false c
    have HR : Aside0 (r = n % m) := ⟨HT.out.1 (by omega)⟩
    clear HT c
    go_enter Try.func34, Try.ntmps34
    go_wp2
    go_ret
    exact ⟨by rw [← HR.out]; rfl, rfl⟩
/-! ### the plain half of ValueLimits -/
def nest : Nat → S28
  | 0 => nm1 1
  | n + 1 => ⟨5, 0, ⟨#[]⟩, [], [nest n]⟩
theorem okv_nest (n : Nat) : ∀ ar, ar + n ≤ 70 → okv true ar (nest n) = decide (ar + n ≤ 32 ∨ n = 0) := by
  induction n with
  | zero => intro ar _; rw [show nest 0 = nm1 1 from rfl, okv_nm]; simp
  | succ n ih =>
    intro ar h
    rw [okv_eq]
    simp only [nest, okL, ih (ar + 1) (by omega)]
    rw [Bool.eq_iff_iff]
    simp [fm, kz, u8E]
    omega
theorem nds_nest (n : Nat) : nds (nest n) = n + 1 := by
  induction n with
  | zero => exact nds_nm 1
  | succ n ih => rw [nds_eq]; simp [nest, ndsL, ih]; omega
theorem bts_nest (n : Nat) : bts (nest n) = 0 := by
  induction n with
  | zero => exact bts_nm 1
  | succ n ih => rw [bts_eq]; simp [nest, btsL, ih, ksum]; rfl
theorem nest_le (n : Nat) (h : n ≤ 64) : vd (nest n) = decide (n ≤ 32) := by
  rw [vd_eq, okv_nest n 0 (by omega), nds_nest, bts_nest]
  by_cases c : n ≤ 32
  · simp [c]; omega
  · simp [c]; omega
theorem dpt_nest (n : Nat) : dpt (nest n) = n := by
  induction n with
  | zero => rfl
  | succ n ih => rw [dpt_eq]; simp [nest, dptL, ih]
theorem nda_nest (n : Nat) : nda (nest n) = n + 1 := by
  induction n with
  | zero => rfl
  | succ n ih => rw [nda_eq]; simp [nest, ndaL, ih]; omega
theorem cnt_nest (n : Nat) : cnt (nest n) = n + 1 := by
  induction n with
  | zero => exact cnt_nm 1
  | succ n ih => rw [cnt_eq]; simp [nest, cntL, ksz, ih]; show 1 + 0 + (n + 1) = _; omega
theorem wv_nest (n : Nat) : Wv (nest n) := by
  induction n with
  | zero => exact wv_nm 1 (by omega)
  | succ n ih => exact .mk _ (by simp [nest]) (by simp [nest]) (show (⟨#[]⟩ : ByteArray).size ≤ 140737488351232 from Nat.zero_le _) (by simp [nest]) (by simp [nest]) (by simp [nest]) (by simp [nest]; exact ih)
/-- An array of zero values. -/
def zarr (n : Nat) : S28 := ⟨5, 0, ⟨#[]⟩, [], List.replicate n ⟨0, 0, ⟨#[]⟩, [], []⟩⟩
theorem okL_rep (n : Nat) : okL true 1 (List.replicate n ⟨0, 0, ⟨#[]⟩, [], []⟩) = true := by
  induction n with
  | zero => rfl
  | succ n ih => rw [List.replicate_succ, okL, ih, okv_eq]; simp [fm, kz, u8E]
theorem ndsL_rep (n : Nat) : ndsL (List.replicate n ⟨0, 0, ⟨#[]⟩, [], []⟩) = n := by
  induction n with
  | zero => rfl
  | succ n ih => rw [List.replicate_succ, ndsL, ih, nds_eq]; simp; omega
theorem btsL_rep (n : Nat) : btsL (List.replicate n ⟨0, 0, ⟨#[]⟩, [], []⟩) = 0 := by
  induction n with
  | zero => rfl
  | succ n ih => rw [List.replicate_succ, btsL, ih, bts_eq]; simp [ksum]; rfl
theorem cntL_rep (n : Nat) : cntL (List.replicate n ⟨0, 0, ⟨#[]⟩, [], []⟩) = n := by
  induction n with
  | zero => rfl
  | succ n ih => rw [List.replicate_succ, cntL, ih, cnt_eq]; simp [ksz, cntL]; show 1 + 0 + n = _; omega
theorem vd_zarr (n : Nat) (h : n ≤ 2000) : vd (zarr n) = decide (n ≤ 1024) := by
  rw [vd_eq, okv_eq, nds_eq, bts_eq]
  simp [zarr, fm, kz, u8E, okL_rep, ndsL_rep, btsL_rep, ksum]
  have e : (⟨#[]⟩ : ByteArray).size = 0 := rfl
  rw [e]
  by_cases c : n ≤ 1024
  · simp [c]; omega
  · simp [c]
theorem wv_zarr (n : Nat) (h : n ≤ 2000) : Wv (zarr n) := .mk _ (by simp [zarr]) (by simp [zarr]) (show (⟨#[]⟩ : ByteArray).size ≤ 140737488351232 from Nat.zero_le _) (by simp [zarr]) (by simp [zarr]) (by simp [zarr]; omega) (by
  intro q hq
  obtain rfl := List.eq_of_mem_replicate hq
  exact .mk _ (by simp) (by simp) (show (⟨#[]⟩ : ByteArray).size ≤ 140737488351232 from Nat.zero_le _) (by simp) (by simp) (by simp) (by simp))
theorem cnt_zarr (n : Nat) : cnt (zarr n) = n + 1 := by rw [cnt_eq]; simp [zarr, cntL_rep, ksz]; show 1 + 0 + n = _; omega
end Go.Proofs.Ytgpjkojnmeaoiaa.QV

/- An object does not depend on the order of its members: the walk of the law, by hand. -/
namespace Go.Proofs.Ytgpjkojnmeaoiaa.QV
open Go Go.RowKit Go.Proofs.YtgpjkojnmeaoiaaW.PrintWords Go.Proofs.YtgpjkojnmeaoiaaW.PrintLast Go.Proofs.YtgpjkojnmeaoiaaW.PrintMore
set_option linter.unusedVariables false
set_option linter.unusedSimpArgs false
set_option maxRecDepth 100000
set_option maxHeartbeats 4000000
theorem law_members (ks0 : List ByteArray) (es0 : List S28) (sh : Int) (w : World) {A : Option Addr} {c0 : Nat} {B : Option Addr} {c1 : Nat} (hk : Kd.C Kd.string w A ks0.length ks0) (hc0 : ks0.length ≤ c0) (he : Kd.C k28 w B es0.length es0) (hc1 : es0.length ≤ c1) (hw : ∀ y ∈ es0, Wv y) (hks : ks0.length ≤ 140737488351232) (hes : es0.length ≤ 140737488351232) (hsh : -9223372036854775808 ≤ sh ∧ sh ≤ 9223372036854775807) :
    Calls Try.prog 7 #[.slice A ks0.length c0, .slice B es0.length c1, .int .i64 sh] w fun e w' => e = .returned (.bool true) ∧ Below w.heap.size w w' := by
  obtain ⟨n, hn⟩ : ∃ n, min (min ks0.length es0.length) 10 = n := ⟨_, rfl⟩
  have hn1 : n ≤ ks0.length ∧ n ≤ es0.length ∧ n ≤ 10 := by omega
  have HK := Aside0.mk (C_take hk n hn1.1)
  have HE := Aside0.mk (C_take he n hn1.2.1)
  obtain ⟨ks, hks2⟩ : ∃ ks, ks0.take n = ks := ⟨_, rfl⟩
  obtain ⟨es, hes2⟩ : ∃ es, es0.take n = es := ⟨_, rfl⟩
  have hl1 : ks.length = n := by rw [← hks2, List.length_take]; omega
  have hl2 : es.length = n := by rw [← hes2, List.length_take]; omega
  have HWv : Aside0 (∀ y ∈ es, Wv y) := ⟨fun y hy => hw y (by rw [← hes2] at hy; exact List.mem_of_mem_take hy)⟩
  rw [hks2] at HK
  rw [hes2] at HE
  have hmn : (if (10 : Int) < (if es0.length < ks0.length then (es0.length : Int) else (ks0.length : Int)) then (10 : Int) else if es0.length < ks0.length then (es0.length : Int) else (ks0.length : Int)) = (n : Int) := by
    split <;> split at * <;> omega
  clear hk he hw hks2 hes2
  go_enter Try.func7, Try.ntmps7
  go_upto_region 2 with fail
  have g1 : (0 ≤ (n : Int)) = True := eq_true (by omega)
  have g2 : ((n : Int) ≤ (c0 : Int)) = True := eq_true (by omega)
  have g3 : ((n : Int) ≤ (c1 : Int)) = True := eq_true (by omega)
  clear hmn
  go_quiet (fail)
  obtain ⟨W0, hW0⟩ : ∃ W0, w.drewN nq = W0 := ⟨_, rfl⟩
  have hB0 : Below w.heap.size w (w.drewN nq) := drawn_below ⟨_, rfl⟩
  rw [hW0] at hB0
  rw [hW0]
  have HB0 := Aside0.mk hB0
  have HK0 := Aside0.mk (Kd.C_below HK.out hB0)
  have HE0 := Aside0.mk (Kd.C_below HE.out hB0)
  clear hW0 hB0 g1 g2 g3 hks hes
  obtain ⟨b1, hb1⟩ : ∃ b, (ks.all fun s => decide ((s.size : Int) ≤ 20)) = b := ⟨_, rfl⟩
  obtain ⟨b2, hb2⟩ : ∃ b, (es.all fun y => decide ((cnt y : Int) ≤ 50)) = b := ⟨_, rfl⟩
  have HSh : Aside0 (Calls Try.prog 10 #[.int .i64 20, .slice A n c0] W0 fun e w' => e = .returned (.bool b1) ∧ Below W0.heap.size W0 w') := ⟨by
    have h := shortC 20 ks W0 (A := A) (c := c0) (by rw [hl1]; exact HK0.out) (by omega) (by omega)
    rw [hb1, hl1] at h
    exact h⟩
  have HSm : Aside0 (∀ W, Below W0.heap.size W0 W → Calls Try.prog 11 #[.int .i64 50, .slice B n c1] W fun e w' => e = .returned (.bool b2) ∧ Below W.heap.size W w') := ⟨fun W hb => by
    have h := smallC 50 es W (A := B) (c := c1) (by decide) (by decide) (by rw [hl2]; exact Kd.C_below HE0.out hb) HWv.out (by omega)
    rw [hb2, hl2] at h
    exact h⟩
  have HB12 := Aside0.mk (And.intro hb1 hb2)
  have HLn := Aside0.mk (And.intro hl1 hl2)
  have hn10 : n ≤ 10 := hn1.2.2
  have HNc : Aside0 (n ≤ c0 ∧ n ≤ c1) := ⟨by omega⟩
  clear hb1 hb2 hl1 hl2 hn hn1 HK HE
  cases b1 with
  | false =>
    go_wp2_with (first | (go_at_call 10; (with_reducible refine HSh.out.mono ?_); rintro e v1 ⟨rfl, hb⟩; have HB1 := Aside0.mk (below_step HB0.out hb); clear hb) | (go_at_call 12; (with_reducible refine (awakeC _).mono ?_); rintro e v2 ⟨rfl, hb⟩; have HB2 := Aside0.mk (below_step HB1.out hb); clear hb))
    go_ret
    exact ⟨rfl, HB2.out⟩
  | true =>
  cases b2 with
  | false =>
    go_wp2_with (first | (go_at_call 10; (with_reducible refine HSh.out.mono ?_); rintro e v1 ⟨rfl, hb⟩; have HD1 := Aside0.mk hb; clear hb) | (go_at_call 11; (with_reducible refine (HSm.out _ HD1.out).mono ?_); rintro e v2 ⟨rfl, hb⟩; have HB1 := Aside0.mk (below_step HB0.out (below_step HD1.out hb)); clear hb) | (go_at_call 12; (with_reducible refine (awakeC _).mono ?_); rintro e v3 ⟨rfl, hb⟩; have HB2 := Aside0.mk (below_step HB1.out hb); clear hb))
    go_ret
    exact ⟨rfl, HB2.out⟩
  | true =>
  go_upto_region 5 with (first | (go_at_call 10; (with_reducible refine HSh.out.mono ?_); rintro e v1 ⟨rfl, hb⟩; have HD1 := Aside0.mk hb; clear hb) | (go_at_call 11; (with_reducible refine (HSm.out _ HD1.out).mono ?_); rintro e v2 ⟨rfl, hb⟩; have HD2 := Aside0.mk (below_step HD1.out hb); clear hb))
  have HSz : Aside0 ((∀ q ∈ ks, q.size ≤ 20) ∧ (∀ y ∈ es, cnt y ≤ 50)) := ⟨⟨fun q hq => by have h := List.all_eq_true.1 HB12.out.1 q hq; have := of_decide_eq_true h; omega, fun y hy => by have h := List.all_eq_true.1 HB12.out.2 y hy; have := of_decide_eq_true h; omega⟩⟩
  have HO : Aside0 (Calls Try.prog 17 #[.slice A n c0, .slice B n c1] v2 (ObjT ks es v2)) := ⟨by
    have hl := HLn.out
    have h := valueObjT (A := A) (B := B) (c := c0) (d := c1) ks es v2 (by omega) (by rw [hl.1]; exact Kd.C_below HK0.out HD2.out) (fun q hq => by have := HSz.out.1 q hq; omega) (by rw [hl.2]; exact Kd.C_below HE0.out HD2.out) (fun y hy => ⟨HWv.out y hy, by have := HSz.out.2 y hy; omega⟩) (by omega)
    rw [hl.1, hl.2] at h
    exact h⟩
  have HB2 := Aside0.mk (below_step HB0.out HD2.out)
  have HK2 := Aside0.mk (Kd.C_below HK0.out HD2.out)
  have HE2 := Aside0.mk (Kd.C_below HE0.out HD2.out)
  clear HSh HSm HB12 HD1 HD2 HK0 HE0 HB0
  go_wp2_with fail
  go_at_call 17
  refine HO.out.mono ?_
  rintro e w3 (⟨_, m, hm, rfl, hb⟩ | ⟨hv, hu, ms, X3, d3, X4, d4, rfl, hr, hp, hs, hb, hvd, _⟩)
  · have g1 : (m != 0) = true := by simpa using hm
    have HB3 := Aside0.mk (below_step HB2.out (below_step hb (new_below w3 (.cells #[.int .i64 0, .int .i64 0, .string ⟨#[]⟩, .slice none 0 0, .slice none 0 0] 28))))
    clear hb hm HO
    go_wp2_with (first | (go_at_call 12; (with_reducible refine (awakeC _).mono ?_); rintro e v3 ⟨rfl, hb⟩; have HB4 := Aside0.mk (below_step HB3.out hb); clear hb))
    go_ret
    exact ⟨rfl, HB4.out⟩
  have HP := Aside0.mk (And.intro hp hs)
  have HVd := Aside0.mk hvd
  have HBv := Aside0.mk (Bv.new hr)
  have hb4 := below_step hb (new_below w3 (.cells #[.int .i64 ((ov es ms)).f0, .int .i64 ((ov es ms)).f1, .string ((ov es ms)).f2, .slice X3 ((ov es ms)).f3.length d3, .slice X4 ((ov es ms)).f4.length d4] 28))
  have HB4 := Aside0.mk (below_step HB2.out hb4)
  have HK4 := Aside0.mk (Kd.C_below HK2.out hb4)
  have HE4 := Aside0.mk (Kd.C_below HE2.out hb4)
  have HVw : Aside0 (Wv (ov es ms) ∧ cnt (ov es ms) ≤ 1000000000) := ⟨by
    have hl := HLn.out
    have h1 := ov_wv (es := es) hp (by omega) (fun q hq => by have := HSz.out.1 q hq; omega) (fun y hy => ⟨HWv.out y hy, by have := HSz.out.2 y hy; omega⟩) (by omega)
    refine ⟨h1.1, ?_⟩
    have hd := dd_len ms
    have hpl := hp.length_eq
    rw [mems_len] at hpl
    have h2 := ksz_bound (l := (dd ms).map (·.1)) (n := 20) (fun q hq => HSz.out.1 q (ov_keys hp hq))
    have h3 := cntL_bound (l := (dd ms).map (ge es)) (n := 50) (fun q hq => HSz.out.2 q (ov_elems hp (by omega) hq))
    rw [cnt_eq]
    simp only [ov, List.length_map] at *
    have h6 : (⟨#[]⟩ : ByteArray).size = 0 := rfl
    omega⟩
  clear hp hs hr hb hb4 HO HB2 HK2 HE2 hvd
  by_cases hn0 : n = 0
  · subst hn0
    go_wp2_with (first | (go_at_call 12; (with_reducible refine (awakeC _).mono ?_); rintro e v3 ⟨rfl, hb⟩; have HB5 := Aside0.mk (below_step HB4.out hb); clear hb))
    go_ret
    exact ⟨rfl, HB5.out⟩
  have hn0' : ((n : Int) == 0) = false := by rw [beq_eq_false_iff_ne]; omega
  have hn0'' : (n == 0) = false := by rw [beq_eq_false_iff_ne]; exact hn0
  go_upto_region 8 with fail
  obtain ⟨bv, hbv⟩ : ∃ b, w3.heap.size = b := ⟨_, rfl⟩
  obtain ⟨w4, hw4⟩ : ∃ w4, w3.alloc (.cells #[.int .i64 ((ov es ms)).f0, .int .i64 ((ov es ms)).f1, .string ((ov es ms)).f2, .slice X3 ((ov es ms)).f3.length d3, .slice X4 ((ov es ms)).f4.length d4] 28) = w4 := ⟨_, rfl⟩
  rw [hw4] at HBv HB4 HK4 HE4 ⊢
  rw [hbv] at HBv ⊢
  have HSt0 : Aside0 (Below w.heap.size w w4 ∧ Below w4.heap.size w4 w4) := ⟨HB4.out, Below.refl _ _⟩
  clear hbv hw4 hn0' hn0''
  go_wp2_with fail
  go_loopg [10, 11] n (fun kq v10 v11 w' => ∃ (i : Nat) (f : Bool), kq + i = n ∧ v11 = .int .i64 (i : Int) ∧ v10 = .bool f ∧ Aside0 (f = true ↔ ∀ (p q : Nat) (k : ByteArray), p < i → p < q → ks[p]? = some k → ks[q]? ≠ some k) ∧ Aside0 (Below w.heap.size w w' ∧ Below w4.heap.size w4 w'))
  case atStart => exact ⟨0, true, by omega, rfl, rfl, ⟨by simp⟩, HSt0⟩
  case round =>
    clear HSt0
    obtain ⟨i, f, hi, rfl, rfl, HF, HS⟩ := hrel
    by_cases ci : i < n
    · have f0 : decide ((i : Int) < (n : Int)) = true := decide_eq_true (by omega)
      have f0' : decide (i < n) = true := decide_eq_true ci
      obtain ⟨j1, rfl⟩ : ∃ j1, gk = j1 + 1 := ⟨gk - 1, by omega⟩
      have HII := Aside0.mk hi
      have hib : i < 10 := by omega
      have hil : ks[i]? = some (ks[i]'(by have := HLn.out; omega)) := List.getElem?_eq_getElem _
      obtain ⟨y, hy⟩ : ∃ y, ks[i]'(by have := HLn.out; omega) = y := ⟨_, rfl⟩
      rw [hy] at hil
      have HY := Aside0.mk hil
      clear hy hil hi
      have HI0 : Aside0 ((∀ j, ks[j]? = some y → j < i + 1 → j ≤ i) ∧ (f = true ↔ (∀ (p q : Nat) (k : ByteArray), p < i → p < q → ks[p]? = some k → ks[q]? ≠ some k) ∧ ∀ j, i < j → j < i + 1 → ks[j]? ≠ some y)) := ⟨fun j _ h => by omega, HF.out.trans ⟨fun h => ⟨h, fun j h1 h2 => by omega⟩, fun h => h.1⟩⟩
      clear HF
      go_upto_region 13 with fail
      go_wp2_with fail
      go_loopg [10, 12, 13] (n - (i + 1)) (fun kq v10 v12 v13 w' => ∃ (k la : Nat) (g : Bool), kq + k = n ∧ i < k ∧ la < n ∧ v13 = .int .i64 (k : Int) ∧ v12 = .int .i64 (la : Int) ∧ v10 = .bool g ∧ Aside0 (i ≤ la ∧ ks[la]? = some y) ∧ Aside0 ((∀ j, ks[j]? = some y → j < k → j ≤ la) ∧ (g = true ↔ (∀ (p q : Nat) (k : ByteArray), p < i → p < q → ks[p]? = some k → ks[q]? ≠ some k) ∧ ∀ j, i < j → j < k → ks[j]? ≠ some y)) ∧ Aside0 (Below w.heap.size w w' ∧ Below w4.heap.size w4 w'))
      case atStart => exact ⟨i + 1, i, f, by have := HII.out; omega, by omega, by omega, rfl, rfl, rfl, ⟨by omega, HY.out⟩, HI0, HS⟩
      case round =>
        clear HI0 HS
        obtain ⟨k, la, g, hk, hik, hla, rfl, rfl, rfl, HLa, HG, HS⟩ := hrel
        by_cases ck : k < n
        · have f1 : decide ((k : Int) < (n : Int)) = true := decide_eq_true (by omega)
          have f1' : decide (k < n) = true := decide_eq_true ck
          obtain ⟨j2, rfl⟩ : ∃ j2, gk = j2 + 1 := ⟨gk - 1, by omega⟩
          have HKK := Aside0.mk hk
          have hkl : ks[k]? = some (ks[k]'(by have := HLn.out; omega)) := List.getElem?_eq_getElem _
          obtain ⟨z, hz⟩ : ∃ z, ks[k]'(by have := HLn.out; omega) = z := ⟨_, rfl⟩
          rw [hz] at hkl
          have hl := HLn.out
          obtain ⟨ad, e1, he1⟩ := str_at (Kd.C_below HK4.out HS.out.2) i (by omega) HY.out
          obtain ⟨ad2, e2, he2⟩ := str_at (Kd.C_below HK4.out HS.out.2) k (by omega) hkl
          rw [e1] at e2
          obtain rfl := Option.some.inj e2
          subst e1
          have g2 : (0 ≤ (i : Int)) = True := eq_true (by omega)
          have g3 : ((i : Int) < (n : Int)) = True := eq_true (by omega)
          have g4 : (0 ≤ (k : Int)) = True := eq_true (by omega)
          have g5 : ((k : Int) < (n : Int)) = True := eq_true (by omega)
          have hkb : k < 10 := by omega
          have HKl := Aside0.mk hkl
          clear hz hkl hk ck hl e2
          by_cases cz : z = y
          · have g6 : (z.toList == y.toList) = true := by rw [cz]; simp
            have HG2 : Aside0 ((∀ j, ks[j]? = some y → j < k + 1 → j ≤ k) ∧ (false = true ↔ (∀ (p q : Nat) (k : ByteArray), p < i → p < q → ks[p]? = some k → ks[q]? ≠ some k) ∧ ∀ j, i < j → j < k + 1 → ks[j]? ≠ some y) ∧ ks[k]? = some y) := ⟨fun j _ h => by omega, ⟨fun h => (by cases h), fun h => absurd (cz ▸ HKl.out) (h.2 k hik (by omega))⟩, cz ▸ HKl.out⟩
            clear cz
            go_upto_region 16 with fail
            go_quiet (fail)
            go_wp2_with fail
            go_roundg j2
            case measure => omega
            case rel => exact ⟨k + 1, k, false, by have := HKK.out; omega, by omega, by have := HKK.out; omega, rfl, rfl, rfl, ⟨by omega, HG2.out.2.2⟩, ⟨HG2.out.1, ⟨fun h => (by cases h), fun h => absurd HG2.out.2.2 (h.2 k hik (by omega))⟩⟩, ⟨below_step HS.out.1 (drawn_below ⟨_, rfl⟩), below_step HS.out.2 (drawn_below ⟨_, rfl⟩)⟩⟩
          · have g6 : (z.toList == y.toList) = false := by rw [beq_eq_false_iff_ne]; exact fun h => cz (tl_inj.1 h)
            have HG2 : Aside0 ((∀ j, ks[j]? = some y → j < k + 1 → j ≤ la) ∧ (g = true ↔ (∀ (p q : Nat) (k : ByteArray), p < i → p < q → ks[p]? = some k → ks[q]? ≠ some k) ∧ ∀ j, i < j → j < k + 1 → ks[j]? ≠ some y)) := ⟨fun j hj h => by
                rcases Nat.lt_or_ge j k with q | q
                · exact HG.out.1 j hj q
                · obtain rfl : j = k := by omega
                  rw [HKl.out] at hj
                  exact absurd (Option.some.inj hj) cz, HG.out.2.trans ⟨fun h => ⟨h.1, fun j h1 h2 hj => by
                rcases Nat.lt_or_ge j k with q | q
                · exact h.2 j h1 q hj
                · obtain rfl : j = k := by omega
                  rw [HKl.out] at hj
                  exact absurd (Option.some.inj hj) cz⟩, fun h => ⟨h.1, fun j h1 h2 => h.2 j h1 (by omega)⟩⟩⟩
            clear cz
            go_upto_region 16 with fail
            go_quiet (fail)
            go_wp2_with fail
            go_roundg j2
            case measure => omega
            case rel => exact ⟨k + 1, la, g, by have := HKK.out; omega, by omega, hla, rfl, rfl, rfl, HLa, HG2, ⟨below_step HS.out.1 (drawn_below ⟨_, rfl⟩), below_step HS.out.2 (drawn_below ⟨_, rfl⟩)⟩⟩
        · have f1 : decide ((k : Int) < (n : Int)) = false := decide_eq_false (by omega)
          have f1' : decide (k < n) = false := decide_eq_false ck
          obtain rfl : n = k := by omega
          have HM : Aside0 (∀ j, ks[j]? = some y → j ≤ la) := ⟨fun j hj => HG.out.1 j hj (by have := (List.getElem?_eq_some_iff.1 hj).1; have := HLn.out; omega)⟩
          have HF2 : Aside0 (g = true ↔ ∀ (p q : Nat) (k : ByteArray), p < i + 1 → p < q → ks[p]? = some k → ks[q]? ≠ some k) := ⟨HG.out.2.trans ⟨fun h p q k2 hp hpq hk hq => by
              rcases Nat.lt_or_ge p i with c | c
              · exact h.1 p q k2 c hpq hk hq
              · obtain rfl : p = i := by omega
                have := hk.symm.trans HY.out
                obtain rfl := Option.some.inj this
                exact h.2 q hpq (by have := (List.getElem?_eq_some_iff.1 hq).1; have := HLn.out; omega) hq, fun h => ⟨fun p q k2 hp => h p q k2 (by omega), fun j h1 h2 => h i j y (by omega) h1 HY.out⟩⟩⟩
          have hget : getV (ov es ms).f3 (ov es ms).f4 y = es[la]? := ov_get HP.out.1 HP.out.2 (by have := HLn.out; omega) HY.out HLa.out.2 HM.out
          have hlae : la < es.length := by have := HLn.out; omega
          obtain ⟨v, hv⟩ : ∃ v, es[la]'hlae = v := ⟨_, rfl⟩
          have hvl : es[la]? = some v := by rw [← hv]; exact List.getElem?_eq_getElem hlae
          have HGr : Aside0 (gr (ov es ms) y = some v) := ⟨by unfold gr; rw [if_pos ⟨HVd.out, rfl⟩, hget, hvl]⟩
          have HVl := Aside0.mk hvl
          have hl := HLn.out
          obtain ⟨ad, e1, he1⟩ := str_at HK4.out i (by omega) HY.out
          subst e1
          have g2 : (0 ≤ (i : Int)) = True := eq_true (by omega)
          have g3 : ((i : Int) < (n : Int)) = True := eq_true (by omega)
          have HSt : Aside0 (∀ W, Below wr.heap.size wr W → (W.cell? ⟨bv, 0, none⟩ = some (.int .i64 (ov es ms).f0) ∧ W.cell? ⟨bv, 1, none⟩ = some (.int .i64 (ov es ms).f1) ∧ W.cell? ⟨bv, 2, none⟩ = some (.string (ov es ms).f2) ∧ W.cell? ⟨bv, 3, none⟩ = some (.slice X3 (ov es ms).f3.length d3) ∧ W.cell? ⟨bv, 4, none⟩ = some (.slice X4 (ov es ms).f4.length d4)) ∧ W.cell? (ad.add i) = some (.string y)) := ⟨fun W hb => ⟨((HBv.out.below HS.out.2).below hb).cells, ((below_step HS.out.2 hb).cell (World.block_lt_of_cell? _ _ he1)).trans he1⟩⟩
          have HGet : Aside0 (∀ W, Below wr.heap.size wr W → Calls Try.prog 35 #[.agg #[.int .i64 ((ov es ms)).f0, .int .i64 ((ov es ms)).f1, .string ((ov es ms)).f2, .slice X3 ((ov es ms)).f3.length d3, .slice X4 ((ov es ms)).f4.length d4], .string y] W fun e w' => ∃ (Y3 : Option Addr) (y3 : Nat) (Y4 : Option Addr) (y4 : Nat), e = .returned (.tuple #[.agg #[.int .i64 v.f0, .int .i64 v.f1, .string v.f2, .slice Y3 v.f3.length y3, .slice Y4 v.f4.length y4], .bool true]) ∧ Rd w' Y3 y3 Y4 y4 v ∧ Below W.heap.size W w' ∧ ∀ (W' : World) (b : Nat), b < W.heap.size → (∀ k, k ≠ b → k < w'.heap.size → W'.heap[k]? = w'.heap[k]?) → Rd W' Y3 y3 Y4 y4 v) := ⟨fun W hb => by
            have h := valueGetM (ov es ms) y W HVw.out.1 (by have := HVw.out.2; omega) ((HBv.out.below HS.out.2).below hb).rd
            rw [HGr.out] at h
            exact h⟩
          have HX0 : Aside0 (Below wr.heap.size wr wr.drew) := ⟨drawn_below ⟨1, rfl⟩⟩
          clear HG hk ck hget hv hvl hlae hl he1 HGr
          go_upto_region 18 with fail
          refine start_ (n := 12) (S := fun w' => (w'.cell? ⟨bv, 0, none⟩ = some (.int .i64 (ov es ms).f0) ∧ w'.cell? ⟨bv, 1, none⟩ = some (.int .i64 (ov es ms).f1) ∧ w'.cell? ⟨bv, 2, none⟩ = some (.string (ov es ms).f2) ∧ w'.cell? ⟨bv, 3, none⟩ = some (.slice X3 (ov es ms).f3.length d3) ∧ w'.cell? ⟨bv, 4, none⟩ = some (.slice X4 (ov es ms).f4.length d4)) ∧ w'.cell? (ad.add i) = some (.string y)) (ds := []) #[false, false, false, false, false, false, false, false, false, false, false, false] (by kernel_rfl) rfl (by rfl) (HSt.out _ HX0.out) (fun hS => ?_)
          refine take_ (i := 0) (N := some 75) (v := (.agg #[.int .i64 ((ov es ms)).f0, .int .i64 ((ov es ms)).f1, .string ((ov es ms)).f2, .slice X3 ((ov es ms)).f3.length d3, .slice X4 ((ov es ms)).f4.length d4])) #[true, false, false, false, false, false, false, false, false, false, false, false] rfl rfl (by kernel_rfl) (fun _ _ _ h => h) (Or.inl ⟨by rfl, by intro w hSw; (try dsimp only at hSw); go_simp⟩) hS rfl ?_
          try simp only [Act.put, List.setIfInBounds_toArray, List.set_cons_zero, List.set_cons_succ]
          refine take_ (i := 1) (N := some 76) (v := (.slice (some ad) n c0)) #[true, true, false, false, false, false, false, false, false, false, false, false] rfl rfl (by kernel_rfl) (fun _ _ _ h => h) (Or.inl ⟨by rfl, by intro w hSw; (try dsimp only at hSw); go_simp⟩) hS rfl ?_
          try simp only [Act.put, List.setIfInBounds_toArray, List.set_cons_zero, List.set_cons_succ]
          refine take_ (i := 2) (N := some 77) (v := (.int .i64 (i : Int))) #[true, true, true, false, false, false, false, false, false, false, false, false] rfl rfl (by kernel_rfl) (fun _ _ _ h => h) (Or.inl ⟨by rfl, by intro w hSw; (try dsimp only at hSw); go_simp⟩) hS rfl ?_
          try simp only [Act.put, List.setIfInBounds_toArray, List.set_cons_zero, List.set_cons_succ]
          refine take_ (i := 3) (N := some 78) (v := (.pointer (some (ad.add i)))) #[true, true, true, true, false, false, false, false, false, false, false, false] rfl rfl (by kernel_rfl) (fun _ _ _ h => h) (Or.inl ⟨by rfl, by intro w hSw; (try dsimp only at hSw); go_simp⟩) hS rfl ?_
          try simp only [Act.put, List.setIfInBounds_toArray, List.set_cons_zero, List.set_cons_succ]
          refine take_ (i := 4) (N := some 79) (v := (.string y)) #[true, true, true, true, true, false, false, false, false, false, false, false] rfl rfl (by kernel_rfl) (fun _ _ _ h => h) (Or.inl ⟨by rfl, by intro w hSw; (try dsimp only at hSw); go_simp⟩) hS rfl ?_
          try simp only [Act.put, List.setIfInBounds_toArray, List.set_cons_zero, List.set_cons_succ]
          refine two_ (i := 5) (j := 9) (Ni := some 80) (Nj := some 14) #[true, true, true, true, true, true, false, false, false, false, false, false] #[true, true, true, true, true, false, false, false, false, true, false, false] rfl rfl rfl rfl (by kernel_rfl) (by decide) (by decide) ?_ ?_
          · intro K hK
            go_simp
            go_at_call 35; (with_reducible refine (HGet.out _ HX0.out).mono ?_); rintro e u1 ⟨Y3, y3, Y4, y4, rfl, hrd, hb, hmv⟩
            have HXa := Aside0.mk (below_step HX0.out hb)
            have HRy := Aside0.mk hrd
            clear hrd hb
            refine hK.out _ _ (HSt.out _ HXa.out) (fun hS => ?_)
            clear hK K
            try simp only [Act.put, List.setIfInBounds_toArray, List.set_cons_zero, List.set_cons_succ]
            refine take_ (i := 6) (N := some 74) (v := (.tuple #[.agg #[.int .i64 v.f0, .int .i64 v.f1, .string v.f2, .slice Y3 v.f3.length y3, .slice Y4 v.f4.length y4], .bool true])) #[true, true, true, true, true, true, true, false, false, false, false, false] rfl rfl (by kernel_rfl) (fun _ _ _ h => h) (Or.inl ⟨by rfl, by intro w hSw; (try dsimp only at hSw); go_simp⟩) hS rfl ?_
            try simp only [Act.put, List.setIfInBounds_toArray, List.set_cons_zero, List.set_cons_succ]
            refine take_ (i := 7) (N := some 81) (v := (.agg #[.int .i64 v.f0, .int .i64 v.f1, .string v.f2, .slice Y3 v.f3.length y3, .slice Y4 v.f4.length y4])) #[true, true, true, true, true, true, true, true, false, false, false, false] rfl rfl (by kernel_rfl) (fun _ _ _ h => h) (Or.inl ⟨by rfl, by intro w hSw; (try dsimp only at hSw); go_simp⟩) hS rfl ?_
            try simp only [Act.put, List.setIfInBounds_toArray, List.set_cons_zero, List.set_cons_succ]
            refine take_ (i := 8) (N := some 82) (v := (.bool true)) #[true, true, true, true, true, true, true, true, true, false, false, false] rfl rfl (by kernel_rfl) (fun _ _ _ h => h) (Or.inl ⟨by rfl, by intro w hSw; (try dsimp only at hSw); go_simp⟩) hS rfl ?_
            try simp only [Act.put, List.setIfInBounds_toArray, List.set_cons_zero, List.set_cons_succ]
            refine one_ (i := 9) (N := some 14) #[true, true, true, true, true, true, true, true, true, true, false, false] rfl rfl (by kernel_rfl) (by decide) ?_
            intro K hK
            go_simp
            have hz9 := heap_alloc_new u1 (.cells #[.int .i64 0, .int .i64 0, .string ⟨#[]⟩, .slice none 0 0, .slice none 0 0] 28)
            have hb9 := new_below u1 (.cells #[.int .i64 0, .int .i64 0, .string ⟨#[]⟩, .slice none 0 0, .slice none 0 0] 28)
            have HRy2 := Aside0.mk (HRy.out.below hb9)
            have HXb := Aside0.mk (below_step HXa.out hb9)
            refine hK.out _ _ (HSt.out _ HXb.out) (fun hS => ?_)
            clear hK K
            try simp only [Act.put, List.setIfInBounds_toArray, List.set_cons_zero, List.set_cons_succ]
            obtain ⟨b14, hb14⟩ : ∃ b, u1.heap.size = b := ⟨_, rfl⟩
            obtain ⟨W9, hW9⟩ : ∃ W9, u1.alloc (.cells #[.int .i64 0, .int .i64 0, .string ⟨#[]⟩, .slice none 0 0, .slice none 0 0] 28) = W9 := ⟨_, rfl⟩
            have H14 : Aside0 (wr.heap.size ≤ b14) := ⟨by rw [← hb14]; exact Below.size HXa.out⟩
            have HNew : Aside0 (∀ W', W9.grownBy W' (some b14) → Rd W' Y3 y3 Y4 y4 v) := ⟨fun W' hg => HRy.out.below (by rw [← hW9, ← hb14] at hg; exact (new_below u1 _).trans ⟨hg.os, hg.tape, hg.output, hg.size, fun k hk => hg.block k (by simp; omega) (fun e => by have := Option.some.inj e; omega)⟩)⟩
            rw [hb14] at hz9
            rw [hW9] at hz9 HXb HRy2 hS ⊢
            try rw [hb14]
            try simp only [hb14]
            have HZ := Aside0.mk hz9
            clear hb9 hb14 hW9 hz9
            obtain ⟨t0, t1, t2, t3, t4, t5⟩ := zero5 HZ.out
            obtain ⟨W', hW', hblk, hgb⟩ := fillb HZ.out (.int .i64 v.f0) (.int .i64 v.f1) (.string v.f2) (.slice Y3 v.f3.length y3) (.slice Y4 v.f4.length y4)
            have HXc : Aside0 (Below wr.heap.size wr W') := ⟨HXb.out.trans ⟨hgb.os, hgb.tape, hgb.output, hgb.size, fun k hk => hgb.block k (by have := Below.size HXb.out; omega) (fun e => by have := Option.some.inj e; have := H14.out; omega)⟩⟩
            refine one_ (i := 10) (N := none) #[true, true, true, true, true, true, true, true, true, true, true, false] rfl rfl (by kernel_rfl) (by decide) ?_
            intro K hK
            go_simp
            try rw [hW']
            refine hK.out _ _ (HSt.out _ HXc.out) (fun hS => ?_)
            clear hK K
            try simp only [Act.put, List.setIfInBounds_toArray, List.set_cons_zero, List.set_cons_succ]
            have HB14 : Aside0 (Bv W' b14 Y3 y3 Y4 y4 v) := ⟨⟨hblk, HNew.out W' hgb⟩⟩
            have HE := Aside0.mk HXc.out
            clear t0 t1 t2 t3 t4 t5 hW' hblk hgb HZ HNew HXc HXb HXa HRy HRy2 H14
            refine take_ (i := 11) (N := some 15) (v := (.bool true)) #[true, true, true, true, true, true, true, true, true, true, true, true] rfl rfl (by kernel_rfl) (fun _ _ _ h => h) (Or.inl ⟨by rfl, by intro w hSw; (try dsimp only at hSw); go_simp⟩) hS rfl ?_
            try simp only [Act.put, List.setIfInBounds_toArray, List.set_cons_zero, List.set_cons_succ]
            refine done_ (by kernel_rfl) ?_
            obtain ⟨we, hwe⟩ : ∃ we, W' = we := ⟨_, rfl⟩
            rw [hwe] at HB14 HE ⊢
            clear hwe hS
            have HS2 : Aside0 (Below w.heap.size w we ∧ Below w4.heap.size w4 we) := ⟨below_step HS.out.1 HE.out, below_step HS.out.2 HE.out⟩
            obtain ⟨ad2, Z3, z3, Z4, z4, e2, hce⟩ := el_at (Kd.C_below HE4.out HS2.out.2) la (by omega) HVl.out
            have HD : Aside0 (∀ w1, AB we.drew w1 → Below we.heap.size we w1) := ⟨fun w1 h1 => below_step (drawn_below ⟨1, rfl⟩) h1⟩
            have HL : Aside0 (∀ w1, AB we.drew w1 → (w1.cell? ⟨b14, 0, none⟩ = some (.int .i64 v.f0) ∧ w1.cell? ⟨b14, 1, none⟩ = some (.int .i64 v.f1) ∧ w1.cell? ⟨b14, 2, none⟩ = some (.string v.f2) ∧ w1.cell? ⟨b14, 3, none⟩ = some (.slice Y3 v.f3.length y3) ∧ w1.cell? ⟨b14, 4, none⟩ = some (.slice Y4 v.f4.length y4)) ∧ (w1.cell? (ad2.add (la * 5)) = some (.int .i64 v.f0) ∧ w1.cell? ⟨(ad2.add (la * 5)).block, (ad2.add (la * 5)).off + 1, none⟩ = some (.int .i64 v.f1) ∧ w1.cell? ⟨(ad2.add (la * 5)).block, (ad2.add (la * 5)).off + 2, none⟩ = some (.string v.f2) ∧ w1.cell? ⟨(ad2.add (la * 5)).block, (ad2.add (la * 5)).off + 3, none⟩ = some (.slice Z3 v.f3.length z3) ∧ w1.cell? ⟨(ad2.add (la * 5)).block, (ad2.add (la * 5)).off + 4, none⟩ = some (.slice Z4 v.f4.length z4))) := ⟨fun w1 h1 => by
              obtain ⟨q0, q1, q2, q3, q4, _⟩ := hce.below (HD.out w1 h1)
              exact ⟨(HB14.out.below (HD.out w1 h1)).cells, q0, q1, q2, q3, q4⟩⟩
            have HC19 : Aside0 (∀ w1, AB we.drew w1 → Calls Try.prog 19 #[.agg #[.int .i64 v.f0, .int .i64 v.f1, .string v.f2, .slice Y3 v.f3.length y3, .slice Y4 v.f4.length y4], .agg #[.int .i64 v.f0, .int .i64 v.f1, .string v.f2, .slice Z3 v.f3.length z3, .slice Z4 v.f4.length z4]] w1 fun e w2 => e = .returned (.bool true) ∧ AB w1 w2) := ⟨fun w1 h1 => (sameC _ v v w1 (Nat.lt_succ_self _) (HWv.out v (List.mem_of_getElem? HVl.out)) (HB14.out.below (HD.out w1 h1)).rd (hce.rd.below (HD.out w1 h1))).mono (by
              rintro e w2 ⟨r, rfl, h, hb⟩
              rw [h.2 rfl]
              exact ⟨rfl, hb⟩)⟩
            have g7 : (0 ≤ (la : Int)) = True := eq_true (by omega)
            have g8 : ((la : Int) < (n : Int)) = True := eq_true (by omega)
            clear hce
            subst e2
            go_upto_region 19 with fail
            · refine Go.Up.start_ preB (n := 11) (R := AB) (ds := []) #[false, false, false, false, false, false, false, false, false, false, false] (by kernel_rfl) rfl (by rfl) ?_
              refine Go.Up.take_ preB (i := 0) (N := some 83) (v := (.bool true)) #[true, false, false, false, false, false, false, false, false, false, false] rfl rfl (by kernel_rfl) (fun _ _ _ h => h) (Go.Up.value_ preB rfl (fun w1 h1 => by (skip); go_simp)) rfl ?_
              try simp only [Act.put, List.setIfInBounds_toArray, List.set_cons_zero, List.set_cons_succ]
              refine Go.Up.take_ preB (i := 1) (N := some 84) (v := (.bool false)) #[true, true, false, false, false, false, false, false, false, false, false] rfl rfl (by kernel_rfl) (fun _ _ _ h => h) (Go.Up.value_ preB rfl (fun w1 h1 => by (skip); go_simp)) rfl ?_
              try simp only [Act.put, List.setIfInBounds_toArray, List.set_cons_zero, List.set_cons_succ]
              refine Go.Up.take_ preB (i := 2) (N := some 85) (v := (.bool false)) #[true, true, true, false, false, false, false, false, false, false, false] rfl rfl (by kernel_rfl) (fun _ _ _ h => h) (Go.Up.value_ preB rfl (fun w1 h1 => by (skip); go_simp)) rfl ?_
              try simp only [Act.put, List.setIfInBounds_toArray, List.set_cons_zero, List.set_cons_succ]
              refine Go.Up.take_ preB (i := 3) (N := some 86) (v := (.agg #[.int .i64 v.f0, .int .i64 v.f1, .string v.f2, .slice Y3 v.f3.length y3, .slice Y4 v.f4.length y4])) #[true, true, true, true, false, false, false, false, false, false, false] rfl rfl (by kernel_rfl) (fun _ _ _ h => h) (Go.Up.value_ preB rfl (fun w1 h1 => by (obtain ⟨⟨p0, p1, p2, p3, p4⟩, _⟩ := HL.out w1 h1); go_simp)) rfl ?_
              try simp only [Act.put, List.setIfInBounds_toArray, List.set_cons_zero, List.set_cons_succ]
              refine Go.Up.take_ preB (i := 4) (N := some 87) (v := (.slice (some ad2) n c1)) #[true, true, true, true, true, false, false, false, false, false, false] rfl rfl (by kernel_rfl) (fun _ _ _ h => h) (Go.Up.value_ preB rfl (fun w1 h1 => by (skip); go_simp)) rfl ?_
              try simp only [Act.put, List.setIfInBounds_toArray, List.set_cons_zero, List.set_cons_succ]
              refine Go.Up.take_ preB (i := 5) (N := some 88) (v := (.int .i64 (la : Int))) #[true, true, true, true, true, true, false, false, false, false, false] rfl rfl (by kernel_rfl) (fun _ _ _ h => h) (Go.Up.value_ preB rfl (fun w1 h1 => by (skip); go_simp)) rfl ?_
              try simp only [Act.put, List.setIfInBounds_toArray, List.set_cons_zero, List.set_cons_succ]
              refine Go.Up.take_ preB (i := 6) (N := some 89) (v := (.pointer (some (ad2.add (la * 5))))) #[true, true, true, true, true, true, true, false, false, false, false] rfl rfl (by kernel_rfl) (fun _ _ _ h => h) (Go.Up.value_ preB rfl (fun w1 h1 => by (skip); go_simp)) rfl ?_
              try simp only [Act.put, List.setIfInBounds_toArray, List.set_cons_zero, List.set_cons_succ]
              refine Go.Up.take_ preB (i := 7) (N := some 90) (v := (.agg #[.int .i64 v.f0, .int .i64 v.f1, .string v.f2, .slice Z3 v.f3.length z3, .slice Z4 v.f4.length z4])) #[true, true, true, true, true, true, true, true, false, false, false] rfl rfl (by kernel_rfl) (fun _ _ _ h => h) (Go.Up.value_ preB rfl (fun w1 h1 => by (obtain ⟨_, ⟨p0, p1, p2, p3, p4⟩⟩ := HL.out w1 h1); go_simp)) rfl ?_
              try simp only [Act.put, List.setIfInBounds_toArray, List.set_cons_zero, List.set_cons_succ]
              refine Go.Up.take_ preB (i := 8) (N := some 91) (v := (.bool true)) #[true, true, true, true, true, true, true, true, true, false, false] rfl rfl (by kernel_rfl) (fun _ _ _ h => h) (Go.Up.call_ (f := 19) Try.func19 rfl rfl #[.agg #[.int .i64 v.f0, .int .i64 v.f1, .string v.f2, .slice Y3 v.f3.length y3, .slice Y4 v.f4.length y4], .agg #[.int .i64 v.f0, .int .i64 v.f1, .string v.f2, .slice Z3 v.f3.length z3, .slice Z4 v.f4.length z4]] rfl rfl (by simp [Act.eval]) (fun w1 h1 => HC19.out w1 h1)) rfl ?_
              try simp only [Act.put, List.setIfInBounds_toArray, List.set_cons_zero, List.set_cons_succ]
              refine Go.Up.take_ preB (i := 9) (N := some 92) (v := (.bool false)) #[true, true, true, true, true, true, true, true, true, true, false] rfl rfl (by kernel_rfl) (fun _ _ _ h => h) (Go.Up.value_ preB rfl (fun w1 h1 => by (skip); go_simp)) rfl ?_
              try simp only [Act.put, List.setIfInBounds_toArray, List.set_cons_zero, List.set_cons_succ]
              refine Go.Up.take_ preB (i := 10) (N := some 93) (v := (.bool false)) #[true, true, true, true, true, true, true, true, true, true, true] rfl rfl (by kernel_rfl) (fun _ _ _ h => h) (Go.Up.value_ preB rfl (fun w1 h1 => by (skip); go_simp)) rfl ?_
              try simp only [Act.put, List.setIfInBounds_toArray, List.set_cons_zero, List.set_cons_succ]
              refine Go.Up.done_ preB (by kernel_rfl) ?_
              intro w1 h1
              have HS3 : Aside0 (Below w.heap.size w w1 ∧ Below w4.heap.size w4 w1) := ⟨below_step HS2.out.1 (HD.out w1 h1), below_step HS2.out.2 (HD.out w1 h1)⟩
              clear h1 HL HC19 HD HB14 HE HS2
              go_wp2_with fail
              go_roundg j1
              case measure => omega
              case rel => exact ⟨i + 1, g, by have := HII.out; omega, rfl, rfl, HF2, HS3⟩
          · intro K hK
            go_simp
            have hz9 : (wr.alloc (.cells #[.int .i64 0, .int .i64 0, .string ⟨#[]⟩, .slice none 0 0, .slice none 0 0] 28)).drew.heap[wr.heap.size]? = some (.cells #[.int .i64 0, .int .i64 0, .string ⟨#[]⟩, .slice none 0 0, .slice none 0 0] 28 (0, 0)) := heap_alloc_new wr _
            have hb9 : Below wr.heap.size wr (wr.alloc (.cells #[.int .i64 0, .int .i64 0, .string ⟨#[]⟩, .slice none 0 0, .slice none 0 0] 28)).drew := (new_below wr _).drew
            have HXa := Aside0.mk hb9
            refine hK.out _ _ (HSt.out _ HXa.out) (fun hS => ?_)
            clear hK K
            try simp only [Act.put, List.setIfInBounds_toArray, List.set_cons_zero, List.set_cons_succ]
            obtain ⟨W9, hW9⟩ : ∃ W9, (wr.alloc (.cells #[.int .i64 0, .int .i64 0, .string ⟨#[]⟩, .slice none 0 0, .slice none 0 0] 28)).drew = W9 := ⟨_, rfl⟩
            obtain ⟨b14, hb14⟩ : ∃ b, wr.heap.size = b := ⟨_, rfl⟩
            have H14 : Aside0 (wr.heap.size ≤ b14) := ⟨by omega⟩
            rw [hb14] at hz9
            rw [hW9] at hz9 HXa hS ⊢
            rw [hb14]
            have HW9 : Aside0 (wr.heap.size = b14) := ⟨hb14⟩
            clear hb9 hb14 hW9
            refine one_ (i := 5) (N := some 80) #[true, true, true, true, true, true, false, false, false, true, false, false] rfl rfl (by kernel_rfl) (by decide) ?_
            intro K hK
            go_simp
            go_at_call 35; (with_reducible refine (HGet.out _ HXa.out).mono ?_); rintro e u1 ⟨Y3, y3, Y4, y4, rfl, hrd, hb, hmv⟩
            have HXb := Aside0.mk (below_step HXa.out hb)
            have HZ := Aside0.mk ((hb.block _ (Array.getElem?_eq_some_iff.1 hz9).1).trans hz9)
            have HMv := Aside0.mk hmv
            have HLt := Aside0.mk (Array.getElem?_eq_some_iff.1 hz9).1
            clear hmv
            have HRy := Aside0.mk hrd
            clear hrd hb hz9
            refine hK.out _ _ (HSt.out _ HXb.out) (fun hS => ?_)
            clear hK K
            try simp only [Act.put, List.setIfInBounds_toArray, List.set_cons_zero, List.set_cons_succ]
            refine take_ (i := 6) (N := some 74) (v := (.tuple #[.agg #[.int .i64 v.f0, .int .i64 v.f1, .string v.f2, .slice Y3 v.f3.length y3, .slice Y4 v.f4.length y4], .bool true])) #[true, true, true, true, true, true, true, false, false, true, false, false] rfl rfl (by kernel_rfl) (fun _ _ _ h => h) (Or.inl ⟨by rfl, by intro w hSw; (try dsimp only at hSw); go_simp⟩) hS rfl ?_
            try simp only [Act.put, List.setIfInBounds_toArray, List.set_cons_zero, List.set_cons_succ]
            refine take_ (i := 7) (N := some 81) (v := (.agg #[.int .i64 v.f0, .int .i64 v.f1, .string v.f2, .slice Y3 v.f3.length y3, .slice Y4 v.f4.length y4])) #[true, true, true, true, true, true, true, true, false, true, false, false] rfl rfl (by kernel_rfl) (fun _ _ _ h => h) (Or.inl ⟨by rfl, by intro w hSw; (try dsimp only at hSw); go_simp⟩) hS rfl ?_
            try simp only [Act.put, List.setIfInBounds_toArray, List.set_cons_zero, List.set_cons_succ]
            refine take_ (i := 8) (N := some 82) (v := (.bool true)) #[true, true, true, true, true, true, true, true, true, true, false, false] rfl rfl (by kernel_rfl) (fun _ _ _ h => h) (Or.inl ⟨by rfl, by intro w hSw; (try dsimp only at hSw); go_simp⟩) hS rfl ?_
            try simp only [Act.put, List.setIfInBounds_toArray, List.set_cons_zero, List.set_cons_succ]
            have HNew : Aside0 (∀ W', u1.grownBy W' (some b14) → Rd W' Y3 y3 Y4 y4 v) := ⟨fun W' hg => HMv.out W' b14 HLt.out (fun k hk hlt => hg.block k hlt (fun e => hk (Option.some.inj e)))⟩
            obtain ⟨t0, t1, t2, t3, t4, t5⟩ := zero5 HZ.out
            obtain ⟨W', hW', hblk, hgb⟩ := fillb HZ.out (.int .i64 v.f0) (.int .i64 v.f1) (.string v.f2) (.slice Y3 v.f3.length y3) (.slice Y4 v.f4.length y4)
            have HXc : Aside0 (Below wr.heap.size wr W') := ⟨HXb.out.trans ⟨hgb.os, hgb.tape, hgb.output, hgb.size, fun k hk => hgb.block k (by have := Below.size HXb.out; omega) (fun e => by have := Option.some.inj e; have := H14.out; omega)⟩⟩
            refine one_ (i := 10) (N := none) #[true, true, true, true, true, true, true, true, true, true, true, false] rfl rfl (by kernel_rfl) (by decide) ?_
            intro K hK
            go_simp
            try rw [hW']
            refine hK.out _ _ (HSt.out _ HXc.out) (fun hS => ?_)
            clear hK K
            try simp only [Act.put, List.setIfInBounds_toArray, List.set_cons_zero, List.set_cons_succ]
            have HB14 : Aside0 (Bv W' b14 Y3 y3 Y4 y4 v) := ⟨⟨hblk, HNew.out W' hgb⟩⟩
            have HE := Aside0.mk HXc.out
            clear t0 t1 t2 t3 t4 t5 hW' hblk hgb HZ HNew HXc HXb HXa HRy H14
            refine take_ (i := 11) (N := some 15) (v := (.bool true)) #[true, true, true, true, true, true, true, true, true, true, true, true] rfl rfl (by kernel_rfl) (fun _ _ _ h => h) (Or.inl ⟨by rfl, by intro w hSw; (try dsimp only at hSw); go_simp⟩) hS rfl ?_
            try simp only [Act.put, List.setIfInBounds_toArray, List.set_cons_zero, List.set_cons_succ]
            refine done_ (by kernel_rfl) ?_
            obtain ⟨we, hwe⟩ : ∃ we, W' = we := ⟨_, rfl⟩
            rw [hwe] at HB14 HE ⊢
            clear hwe hS
            have HS2 : Aside0 (Below w.heap.size w we ∧ Below w4.heap.size w4 we) := ⟨below_step HS.out.1 HE.out, below_step HS.out.2 HE.out⟩
            obtain ⟨ad2, Z3, z3, Z4, z4, e2, hce⟩ := el_at (Kd.C_below HE4.out HS2.out.2) la (by omega) HVl.out
            have HD : Aside0 (∀ w1, AB we.drew w1 → Below we.heap.size we w1) := ⟨fun w1 h1 => below_step (drawn_below ⟨1, rfl⟩) h1⟩
            have HL : Aside0 (∀ w1, AB we.drew w1 → (w1.cell? ⟨b14, 0, none⟩ = some (.int .i64 v.f0) ∧ w1.cell? ⟨b14, 1, none⟩ = some (.int .i64 v.f1) ∧ w1.cell? ⟨b14, 2, none⟩ = some (.string v.f2) ∧ w1.cell? ⟨b14, 3, none⟩ = some (.slice Y3 v.f3.length y3) ∧ w1.cell? ⟨b14, 4, none⟩ = some (.slice Y4 v.f4.length y4)) ∧ (w1.cell? (ad2.add (la * 5)) = some (.int .i64 v.f0) ∧ w1.cell? ⟨(ad2.add (la * 5)).block, (ad2.add (la * 5)).off + 1, none⟩ = some (.int .i64 v.f1) ∧ w1.cell? ⟨(ad2.add (la * 5)).block, (ad2.add (la * 5)).off + 2, none⟩ = some (.string v.f2) ∧ w1.cell? ⟨(ad2.add (la * 5)).block, (ad2.add (la * 5)).off + 3, none⟩ = some (.slice Z3 v.f3.length z3) ∧ w1.cell? ⟨(ad2.add (la * 5)).block, (ad2.add (la * 5)).off + 4, none⟩ = some (.slice Z4 v.f4.length z4))) := ⟨fun w1 h1 => by
              obtain ⟨q0, q1, q2, q3, q4, _⟩ := hce.below (HD.out w1 h1)
              exact ⟨(HB14.out.below (HD.out w1 h1)).cells, q0, q1, q2, q3, q4⟩⟩
            have HC19 : Aside0 (∀ w1, AB we.drew w1 → Calls Try.prog 19 #[.agg #[.int .i64 v.f0, .int .i64 v.f1, .string v.f2, .slice Y3 v.f3.length y3, .slice Y4 v.f4.length y4], .agg #[.int .i64 v.f0, .int .i64 v.f1, .string v.f2, .slice Z3 v.f3.length z3, .slice Z4 v.f4.length z4]] w1 fun e w2 => e = .returned (.bool true) ∧ AB w1 w2) := ⟨fun w1 h1 => (sameC _ v v w1 (Nat.lt_succ_self _) (HWv.out v (List.mem_of_getElem? HVl.out)) (HB14.out.below (HD.out w1 h1)).rd (hce.rd.below (HD.out w1 h1))).mono (by
              rintro e w2 ⟨r, rfl, h, hb⟩
              rw [h.2 rfl]
              exact ⟨rfl, hb⟩)⟩
            have g7 : (0 ≤ (la : Int)) = True := eq_true (by omega)
            have g8 : ((la : Int) < (n : Int)) = True := eq_true (by omega)
            clear hce
            subst e2
            go_upto_region 19 with fail
            · refine Go.Up.start_ preB (n := 11) (R := AB) (ds := []) #[false, false, false, false, false, false, false, false, false, false, false] (by kernel_rfl) rfl (by rfl) ?_
              refine Go.Up.take_ preB (i := 0) (N := some 83) (v := (.bool true)) #[true, false, false, false, false, false, false, false, false, false, false] rfl rfl (by kernel_rfl) (fun _ _ _ h => h) (Go.Up.value_ preB rfl (fun w1 h1 => by (skip); go_simp)) rfl ?_
              try simp only [Act.put, List.setIfInBounds_toArray, List.set_cons_zero, List.set_cons_succ]
              refine Go.Up.take_ preB (i := 1) (N := some 84) (v := (.bool false)) #[true, true, false, false, false, false, false, false, false, false, false] rfl rfl (by kernel_rfl) (fun _ _ _ h => h) (Go.Up.value_ preB rfl (fun w1 h1 => by (skip); go_simp)) rfl ?_
              try simp only [Act.put, List.setIfInBounds_toArray, List.set_cons_zero, List.set_cons_succ]
              refine Go.Up.take_ preB (i := 2) (N := some 85) (v := (.bool false)) #[true, true, true, false, false, false, false, false, false, false, false] rfl rfl (by kernel_rfl) (fun _ _ _ h => h) (Go.Up.value_ preB rfl (fun w1 h1 => by (skip); go_simp)) rfl ?_
              try simp only [Act.put, List.setIfInBounds_toArray, List.set_cons_zero, List.set_cons_succ]
              refine Go.Up.take_ preB (i := 3) (N := some 86) (v := (.agg #[.int .i64 v.f0, .int .i64 v.f1, .string v.f2, .slice Y3 v.f3.length y3, .slice Y4 v.f4.length y4])) #[true, true, true, true, false, false, false, false, false, false, false] rfl rfl (by kernel_rfl) (fun _ _ _ h => h) (Go.Up.value_ preB rfl (fun w1 h1 => by (obtain ⟨⟨p0, p1, p2, p3, p4⟩, _⟩ := HL.out w1 h1); go_simp)) rfl ?_
              try simp only [Act.put, List.setIfInBounds_toArray, List.set_cons_zero, List.set_cons_succ]
              refine Go.Up.take_ preB (i := 4) (N := some 87) (v := (.slice (some ad2) n c1)) #[true, true, true, true, true, false, false, false, false, false, false] rfl rfl (by kernel_rfl) (fun _ _ _ h => h) (Go.Up.value_ preB rfl (fun w1 h1 => by (skip); go_simp)) rfl ?_
              try simp only [Act.put, List.setIfInBounds_toArray, List.set_cons_zero, List.set_cons_succ]
              refine Go.Up.take_ preB (i := 5) (N := some 88) (v := (.int .i64 (la : Int))) #[true, true, true, true, true, true, false, false, false, false, false] rfl rfl (by kernel_rfl) (fun _ _ _ h => h) (Go.Up.value_ preB rfl (fun w1 h1 => by (skip); go_simp)) rfl ?_
              try simp only [Act.put, List.setIfInBounds_toArray, List.set_cons_zero, List.set_cons_succ]
              refine Go.Up.take_ preB (i := 6) (N := some 89) (v := (.pointer (some (ad2.add (la * 5))))) #[true, true, true, true, true, true, true, false, false, false, false] rfl rfl (by kernel_rfl) (fun _ _ _ h => h) (Go.Up.value_ preB rfl (fun w1 h1 => by (skip); go_simp)) rfl ?_
              try simp only [Act.put, List.setIfInBounds_toArray, List.set_cons_zero, List.set_cons_succ]
              refine Go.Up.take_ preB (i := 7) (N := some 90) (v := (.agg #[.int .i64 v.f0, .int .i64 v.f1, .string v.f2, .slice Z3 v.f3.length z3, .slice Z4 v.f4.length z4])) #[true, true, true, true, true, true, true, true, false, false, false] rfl rfl (by kernel_rfl) (fun _ _ _ h => h) (Go.Up.value_ preB rfl (fun w1 h1 => by (obtain ⟨_, ⟨p0, p1, p2, p3, p4⟩⟩ := HL.out w1 h1); go_simp)) rfl ?_
              try simp only [Act.put, List.setIfInBounds_toArray, List.set_cons_zero, List.set_cons_succ]
              refine Go.Up.take_ preB (i := 8) (N := some 91) (v := (.bool true)) #[true, true, true, true, true, true, true, true, true, false, false] rfl rfl (by kernel_rfl) (fun _ _ _ h => h) (Go.Up.call_ (f := 19) Try.func19 rfl rfl #[.agg #[.int .i64 v.f0, .int .i64 v.f1, .string v.f2, .slice Y3 v.f3.length y3, .slice Y4 v.f4.length y4], .agg #[.int .i64 v.f0, .int .i64 v.f1, .string v.f2, .slice Z3 v.f3.length z3, .slice Z4 v.f4.length z4]] rfl rfl (by simp [Act.eval]) (fun w1 h1 => HC19.out w1 h1)) rfl ?_
              try simp only [Act.put, List.setIfInBounds_toArray, List.set_cons_zero, List.set_cons_succ]
              refine Go.Up.take_ preB (i := 9) (N := some 92) (v := (.bool false)) #[true, true, true, true, true, true, true, true, true, true, false] rfl rfl (by kernel_rfl) (fun _ _ _ h => h) (Go.Up.value_ preB rfl (fun w1 h1 => by (skip); go_simp)) rfl ?_
              try simp only [Act.put, List.setIfInBounds_toArray, List.set_cons_zero, List.set_cons_succ]
              refine Go.Up.take_ preB (i := 10) (N := some 93) (v := (.bool false)) #[true, true, true, true, true, true, true, true, true, true, true] rfl rfl (by kernel_rfl) (fun _ _ _ h => h) (Go.Up.value_ preB rfl (fun w1 h1 => by (skip); go_simp)) rfl ?_
              try simp only [Act.put, List.setIfInBounds_toArray, List.set_cons_zero, List.set_cons_succ]
              refine Go.Up.done_ preB (by kernel_rfl) ?_
              intro w1 h1
              have HS3 : Aside0 (Below w.heap.size w w1 ∧ Below w4.heap.size w4 w1) := ⟨below_step HS2.out.1 (HD.out w1 h1), below_step HS2.out.2 (HD.out w1 h1)⟩
              clear h1 HL HC19 HD HB14 HE HS2
              go_wp2_with fail
              go_roundg j1
              case measure => omega
              case rel => exact ⟨i + 1, g, by have := HII.out; omega, rfl, rfl, HF2, HS3⟩
    · have f0 : decide ((i : Int) < (n : Int)) = false := decide_eq_false (by omega)
      have f0' : decide (i < n) = false := decide_eq_false ci
      obtain rfl : n = i := by omega
      have HBv2 := Aside0.mk (HBv.out.below HS.out.2)
      obtain ⟨p0, p1, p2, p3, p4⟩ := HBv2.out.cells
      clear ci hi
      cases f with
      | false =>
        have hlt : (ov es ms).f3.length < n := by
          have h1 : ∃ (p q : Nat) (k : ByteArray), p < q ∧ ks[p]? = some k ∧ ks[q]? = some k := by
            rcases Classical.em (∃ (p q : Nat) (k : ByteArray), p < q ∧ ks[p]? = some k ∧ ks[q]? = some k) with h | h
            · exact h
            · have := HF.out.2 (fun p q k _ hpq hp hq => h ⟨p, q, k, hpq, hp, hq⟩)
              cases this
          obtain ⟨p, q, k, hpq, hp, hq⟩ := h1
          have h2 := ov_dup HP.out.1 HP.out.2 hpq hp hq
          have := HLn.out
          simp only [ov, List.length_map]
          omega
        have g5 : decide (((ov es ms).f3.length : Int) < (n : Int)) = true := decide_eq_true (by omega)
        have g5' : decide ((ov es ms).f3.length < n) = true := decide_eq_true hlt
        clear hlt HF
        go_wp2_with (first | (go_at_call 12; (with_reducible refine (awakeC _).mono ?_); rintro e v3 ⟨rfl, hb⟩; have HB5 := Aside0.mk (below_step HS.out.1 hb); clear hb))
        go_ret
        exact ⟨rfl, HB5.out⟩
      | true =>
        have HDi : Aside0 (∀ (i j : Nat) (k : ByteArray), ks[i]? = some k → ks[j]? = some k → i = j) := ⟨fun i j k hi hj => by
          have hl := HLn.out
          have hF := HF.out.1 rfl
          rcases Nat.lt_trichotomy i j with h | h | h
          · exact absurd hj (hF i j k (by have := (List.getElem?_eq_some_iff.1 hi).1; omega) h hi)
          · exact h
          · exact absurd hi (hF j i k (by have := (List.getElem?_eq_some_iff.1 hj).1; omega) h hj)⟩
        obtain ⟨s, hs⟩ : ∃ s : Nat, (s : Int) = sh % (n : Int) := ⟨(sh % (n : Int)).toNat, by have := Int.emod_nonneg sh (show (n : Int) ≠ 0 by omega); omega⟩
        have hsn : s < n := by have := Int.emod_lt_of_pos sh (show (0 : Int) < (n : Int) by omega); omega
        have HMod : Aside0 (∀ W, Calls Try.prog 34 #[.int .i64 sh, .int .i64 (n : Int)] W fun e w' => e = .returned (.int .i64 (s : Int)) ∧ w' = W) := ⟨fun W => by rw [hs]; exact modC sh (n : Int) (by omega) hsh W⟩
        clear HF hs
        go_upto_region 24 with (first | (go_at_call 34; (with_reducible refine (HMod.out _).mono ?_); rintro e w5_ ⟨rfl, hw⟩; (rw [hw]); clear hw w5_))
        rename_i _ jJ jK2 ja3 ja2 jK1 ja1 _ _
        clear ja3 ja2 ja1 jK1 jK2 jJ
        obtain ⟨ad, e1, he1⟩ := str_at HK4.out 0 (by omega) (List.getElem?_eq_getElem (by have := HLn.out; omega))
        obtain ⟨bd, Z3, z3, Z4, z4, e2, hce⟩ := el_at HE4.out 0 (by omega) (List.getElem?_eq_getElem (by have := HLn.out; omega))
        subst e1
        subst e2
        clear he1 hce
        have hK4 := Kd.C_below HK4.out HS.out.2
        have hE4 := Kd.C_below HE4.out HS.out.2
        have HKd := Aside0.mk (C_drop hK4 s (by omega))
        have HKt := Aside0.mk (C_take hK4 s (by omega))
        have HEd := Aside0.mk (C_drop hE4 s (by omega))
        have HEt := Aside0.mk (C_take hE4 s (by omega))
        rw [show s * Kd.string.sz = s from Nat.mul_one s] at HKd
        rw [show k28.sz = 5 from rfl] at HEd
        have HDr : Aside0 (Below wr.heap.size wr wr.drew) := ⟨drawn_below ⟨1, rfl⟩⟩
        have g1 : (0 ≤ (s : Int)) = True := eq_true (by omega)
        have g2 : ((s : Int) ≤ (n : Int)) = True := eq_true (by omega)
        have hnc := HNc.out
        have k1 : (c0 = s) = False := eq_false (by omega)
        have k2 : (c1 = s) = False := eq_false (by omega)
        have k3 : (c0 < s) = False := eq_false (by omega)
        have k4 : (c1 < s) = False := eq_false (by omega)
        have k5 : ((s : Int) ≤ (c0 : Int)) = True := eq_true (by omega)
        have k6 : ((s : Int) ≤ (c1 : Int)) = True := eq_true (by omega)
        have k7 : (s ≤ c0) = True := eq_true (by omega)
        have k8 : (s ≤ c1) = True := eq_true (by omega)
        clear hnc
        have hln : (ov es ms).f3.length = n := by
          have h1 := dd_distinct HP.out.1 HP.out.2 HDi.out
          have h2 := HP.out.1.length_eq
          rw [mems_len] at h2
          have h3 := HLn.out
          simp only [ov, List.length_map, h1]
          omega
        have g3 : (((ov es ms).f3.length : Int) == (n : Int)) = true := by rw [hln]; exact beq_self_eq_true _
        have g4 : ((ov es ms).f3.length == n) = true := by rw [hln]; exact beq_self_eq_true _
        clear hln hK4 hE4 p0 p1 p2 p3 p4 HMod hsh f0 f0'
        refine startA (n := 25) #[false, false, false, false, false, false, false, false, false, false, false, false, false, false, false, false, false, false, false, false, false, false, false, false, false] (by kernel_rfl) rfl (by rfl) ?_
        refine takeA (i := 1) (N := some 109) (.slice (some ad) n c0) #[false, true, false, false, false, false, false, false, false, false, false, false, false, false, false, false, false, false, false, false, false, false, false, false, false] rfl rfl (by kernel_rfl) (fun _ _ _ h => h) rfl (fun w1 => by go_simp) rfl ?_
        try simp only [Go.Up.putAll, Act.put, List.setIfInBounds_toArray, List.set_cons_zero, List.set_cons_succ]
        refine takeA (i := 2) (N := some 110) (.int .i64 (s : Int)) #[false, true, true, false, false, false, false, false, false, false, false, false, false, false, false, false, false, false, false, false, false, false, false, false, false] rfl rfl (by kernel_rfl) (fun _ _ _ h => h) rfl (fun w1 => by go_simp) rfl ?_
        try simp only [Go.Up.putAll, Act.put, List.setIfInBounds_toArray, List.set_cons_zero, List.set_cons_succ]
        refine takeA (i := 3) (N := some 111) (.slice (some (ad.add s)) (n - s) (c0 - s)) #[false, true, true, true, false, false, false, false, false, false, false, false, false, false, false, false, false, false, false, false, false, false, false, false, false] rfl rfl (by kernel_rfl) (fun _ _ _ h => h) rfl (fun w1 => by go_simp) rfl ?_
        try simp only [Go.Up.putAll, Act.put, List.setIfInBounds_toArray, List.set_cons_zero, List.set_cons_succ]
        refine takeA (i := 5) (N := some 113) (.slice (some ad) n c0) #[false, true, true, true, false, true, false, false, false, false, false, false, false, false, false, false, false, false, false, false, false, false, false, false, false] rfl rfl (by kernel_rfl) (fun _ _ _ h => h) rfl (fun w1 => by go_simp) rfl ?_
        try simp only [Go.Up.putAll, Act.put, List.setIfInBounds_toArray, List.set_cons_zero, List.set_cons_succ]
        refine takeA (i := 6) (N := some 114) (.int .i64 (s : Int)) #[false, true, true, true, false, true, true, false, false, false, false, false, false, false, false, false, false, false, false, false, false, false, false, false, false] rfl rfl (by kernel_rfl) (fun _ _ _ h => h) rfl (fun w1 => by go_simp) rfl ?_
        try simp only [Go.Up.putAll, Act.put, List.setIfInBounds_toArray, List.set_cons_zero, List.set_cons_succ]
        refine takeA (i := 7) (N := some 115) (.slice (some ad) s c0) #[false, true, true, true, false, true, true, true, false, false, false, false, false, false, false, false, false, false, false, false, false, false, false, false, false] rfl rfl (by kernel_rfl) (fun _ _ _ h => h) rfl (fun w1 => by go_simp) rfl ?_
        try simp only [Go.Up.putAll, Act.put, List.setIfInBounds_toArray, List.set_cons_zero, List.set_cons_succ]
        refine takeA (i := 10) (N := some 118) (.slice (some bd) n c1) #[false, true, true, true, false, true, true, true, false, false, true, false, false, false, false, false, false, false, false, false, false, false, false, false, false] rfl rfl (by kernel_rfl) (fun _ _ _ h => h) rfl (fun w1 => by go_simp) rfl ?_
        try simp only [Go.Up.putAll, Act.put, List.setIfInBounds_toArray, List.set_cons_zero, List.set_cons_succ]
        refine takeA (i := 11) (N := some 119) (.int .i64 (s : Int)) #[false, true, true, true, false, true, true, true, false, false, true, true, false, false, false, false, false, false, false, false, false, false, false, false, false] rfl rfl (by kernel_rfl) (fun _ _ _ h => h) rfl (fun w1 => by go_simp) rfl ?_
        try simp only [Go.Up.putAll, Act.put, List.setIfInBounds_toArray, List.set_cons_zero, List.set_cons_succ]
        refine takeA (i := 12) (N := some 120) (.slice (some (bd.add (s * 5))) (n - s) (c1 - s)) #[false, true, true, true, false, true, true, true, false, false, true, true, true, false, false, false, false, false, false, false, false, false, false, false, false] rfl rfl (by kernel_rfl) (fun _ _ _ h => h) rfl (fun w1 => by go_simp) rfl ?_
        try simp only [Go.Up.putAll, Act.put, List.setIfInBounds_toArray, List.set_cons_zero, List.set_cons_succ]
        refine takeA (i := 14) (N := some 122) (.slice (some bd) n c1) #[false, true, true, true, false, true, true, true, false, false, true, true, true, false, true, false, false, false, false, false, false, false, false, false, false] rfl rfl (by kernel_rfl) (fun _ _ _ h => h) rfl (fun w1 => by go_simp) rfl ?_
        try simp only [Go.Up.putAll, Act.put, List.setIfInBounds_toArray, List.set_cons_zero, List.set_cons_succ]
        refine takeA (i := 15) (N := some 123) (.int .i64 (s : Int)) #[false, true, true, true, false, true, true, true, false, false, true, true, true, false, true, true, false, false, false, false, false, false, false, false, false] rfl rfl (by kernel_rfl) (fun _ _ _ h => h) rfl (fun w1 => by go_simp) rfl ?_
        try simp only [Go.Up.putAll, Act.put, List.setIfInBounds_toArray, List.set_cons_zero, List.set_cons_succ]
        refine takeA (i := 16) (N := some 124) (.slice (some bd) s c1) #[false, true, true, true, false, true, true, true, false, false, true, true, true, false, true, true, true, false, false, false, false, false, false, false, false] rfl rfl (by kernel_rfl) (fun _ _ _ h => h) rfl (fun w1 => by go_simp) rfl ?_
        try simp only [Go.Up.putAll, Act.put, List.setIfInBounds_toArray, List.set_cons_zero, List.set_cons_succ]
        refine joinA (σ := Value × Value × Value × Value × Value × Value × Nat) 6 #[true, true, true, true, true, true, true, true, true, true, true, true, true, true, true, true, true, true, false, false, false, false, true, false, false] (fun (p : Value × Value × Value × Value × Value × Value × Nat) => [(108, p.1), (112, p.2.1), (116, p.2.2.1), (117, p.2.2.2.1), (121, p.2.2.2.2.1), (125, p.2.2.2.2.2.1), (17, .pointer (some ⟨p.2.2.2.2.2.2, 0, none⟩))]) (fun (p : Value × Value × Value × Value × Value × Value × Nat) => fun w2 => Rg wr w2 (some (p.2.2.1, ks.drop s ++ ks.take s)) (some (p.2.2.2.2.2.1, es.drop s ++ es.take s)) (some p.2.2.2.2.2.2)) ?_ ?_
        · rintro ⟨v0, v4, v8, v9, v13, v17, g⟩ w2 hR
          try dsimp only at hR
          simp only [Go.Up.putAll, Act.put, List.setIfInBounds_toArray, List.set_cons_zero, List.set_cons_succ]
          refine al1 (i := 18) (by kernel_rfl) ?_
          · refine stA (i := 18) (N := some 126) #[true, true, true, true, true, true, true, true, true, true, true, true, true, true, true, true, true, true, true, false, false, false, true, false, false] rfl rfl (by kernel_rfl) ?_
            intro K hK
            obtain ⟨A8, c8, B8, d8, rfl, rfl, hcall⟩ := rotC hR HLn.out hn10 HP.out.1 HP.out.2 HSz.out.1 (fun y hy => ⟨HWv.out y hy, HSz.out.2 y hy⟩) hv hu HDi.out HVd.out
            have HRz := Aside0.mk hR.z
            have HG0 := Aside0.mk (And.intro (hR.c g rfl).1 (hR.c g rfl).2.1)
            clear hR
            go_simp
            go_at_call 17
            refine hcall.mono ?_
            rintro e w6 ⟨Y3, y3, Y4, y4, rfl, hr, hb, hf⟩
            refine hK.out _ _ ?_
            try simp only [Go.Up.putAll, Act.put, List.setIfInBounds_toArray, List.set_cons_zero, List.set_cons_succ]
            clear hK K hcall
            have HXa := Aside0.mk (below_step HRz.out hb)
            have HZ := Aside0.mk ((hb.block g (Array.getElem?_eq_some_iff.1 HG0.out.2).1).trans HG0.out.2)
            have HNew : Aside0 (∀ W', w6.grownBy W' (some g) → Rd W' Y3 y3 Y4 y4 (ov es ms)) := ⟨fun W' hg => hf W' g (Array.getElem?_eq_some_iff.1 HG0.out.2).1 (fun k hk hlt => hg.block k hlt (fun e => hk (Option.some.inj e)))⟩
            have H17 := Aside0.mk HG0.out.1
            clear hr hb hf HG0 HRz
            refine takeA (i := 19) (N := some 107) (.tuple #[.agg #[.int .i64 ((ov es ms)).f0, .int .i64 ((ov es ms)).f1, .string ((ov es ms)).f2, .slice Y3 ((ov es ms)).f3.length y3, .slice Y4 ((ov es ms)).f4.length y4], .int .i64 0]) #[true, true, true, true, true, true, true, true, true, true, true, true, true, true, true, true, true, true, true, true, false, false, true, false, false] rfl rfl (by kernel_rfl) (fun _ _ _ h => h) rfl (fun w1 => by go_simp) rfl ?_
            try simp only [Go.Up.putAll, Act.put, List.setIfInBounds_toArray, List.set_cons_zero, List.set_cons_succ]
            refine takeA (i := 20) (N := some 127) (.agg #[.int .i64 ((ov es ms)).f0, .int .i64 ((ov es ms)).f1, .string ((ov es ms)).f2, .slice Y3 ((ov es ms)).f3.length y3, .slice Y4 ((ov es ms)).f4.length y4]) #[true, true, true, true, true, true, true, true, true, true, true, true, true, true, true, true, true, true, true, true, true, false, true, false, false] rfl rfl (by kernel_rfl) (fun _ _ _ h => h) rfl (fun w1 => by go_simp) rfl ?_
            try simp only [Go.Up.putAll, Act.put, List.setIfInBounds_toArray, List.set_cons_zero, List.set_cons_succ]
            refine takeA (i := 21) (N := some 128) (.int .i64 0) #[true, true, true, true, true, true, true, true, true, true, true, true, true, true, true, true, true, true, true, true, true, true, true, false, false] rfl rfl (by kernel_rfl) (fun _ _ _ h => h) rfl (fun w1 => by go_simp) rfl ?_
            try simp only [Go.Up.putAll, Act.put, List.setIfInBounds_toArray, List.set_cons_zero, List.set_cons_succ]
            obtain ⟨t0, t1, t2, t3, t4, t5⟩ := zero5 HZ.out
            obtain ⟨W', hW', hblk, hgb⟩ := fillb HZ.out (.int .i64 (ov es ms).f0) (.int .i64 (ov es ms).f1) (.string (ov es ms).f2) (.slice Y3 (ov es ms).f3.length y3) (.slice Y4 (ov es ms).f4.length y4)
            have HE : Aside0 (Below wr.heap.size wr W') := ⟨HXa.out.trans ⟨hgb.os, hgb.tape, hgb.output, hgb.size, fun k hk => hgb.block k (by have := Below.size HXa.out; omega) (fun e => by have := Option.some.inj e; have := H17.out; omega)⟩⟩
            refine al1 (i := 23) (by kernel_rfl) ?_
            refine stA (i := 23) (N := none) #[true, true, true, true, true, true, true, true, true, true, true, true, true, true, true, true, true, true, true, true, true, true, true, true, false] rfl rfl (by kernel_rfl) ?_
            intro K hK
            go_simp
            try rw [hW']
            refine hK.out _ _ ?_
            clear hK K
            try simp only [Go.Up.putAll, Act.put, List.setIfInBounds_toArray, List.set_cons_zero, List.set_cons_succ]
            refine takeA (i := 24) (N := some 9) (.int .i64 0) #[true, true, true, true, true, true, true, true, true, true, true, true, true, true, true, true, true, true, true, true, true, true, true, true, true] rfl rfl (by kernel_rfl) (fun _ _ _ h => h) rfl (fun w1 => by go_simp) rfl ?_
            try simp only [Go.Up.putAll, Act.put, List.setIfInBounds_toArray, List.set_cons_zero, List.set_cons_succ]
            have HB17 : Aside0 (Bv W' g Y3 y3 Y4 y4 (ov es ms)) := ⟨⟨hblk, HNew.out W' hgb⟩⟩
            clear t0 t1 t2 t3 t4 t5 hW' hblk hgb HZ HNew HXa H17
            refine doneA _ (by kernel_rfl) ?_
            obtain ⟨we, hwe⟩ : ∃ we, W' = we := ⟨_, rfl⟩
            rw [hwe] at HB17 HE ⊢
            clear hwe W'
            obtain ⟨p0, p1, p2, p3, p4⟩ := (HBv2.out.below HE.out).cells
            obtain ⟨q0, q1, q2, q3, q4⟩ := HB17.out.cells
            have HC19 : Aside0 (Calls Try.prog 19 #[.agg #[.int .i64 ((ov es ms)).f0, .int .i64 ((ov es ms)).f1, .string ((ov es ms)).f2, .slice X3 ((ov es ms)).f3.length d3, .slice X4 ((ov es ms)).f4.length d4], .agg #[.int .i64 ((ov es ms)).f0, .int .i64 ((ov es ms)).f1, .string ((ov es ms)).f2, .slice Y3 ((ov es ms)).f3.length y3, .slice Y4 ((ov es ms)).f4.length y4]] we fun e w2 => e = .returned (.bool true) ∧ AB we w2) := ⟨(sameC _ (ov es ms) (ov es ms) we (Nat.lt_succ_self _) HVw.out.1 (HBv2.out.below HE.out).rd HB17.out.rd).mono (by
              rintro e w2 ⟨r, rfl, h, hb⟩
              rw [h.2 rfl]
              exact ⟨rfl, hb⟩)⟩
            have HL3 : Aside0 (∀ w1, AB we w1 → w1.cell? ⟨bv, 3, none⟩ = some (.slice X3 (ov es ms).f3.length d3)) := ⟨fun w1 h1 => ((HBv2.out.below HE.out).below h1).cells.2.2.2.1⟩
            go_wp2_with (first | (go_at_call 19; (with_reducible refine HC19.out.mono ?_); rintro e w7 ⟨rfl, h7⟩; have p5 := HL3.out _ h7; have HB7 := Aside0.mk (below_step HS.out.1 (below_step HE.out h7)); clear h7) | (go_at_call 12; (with_reducible refine (awakeC _).mono ?_); rintro e v3 ⟨rfl, hb⟩; have HB8 := Aside0.mk (below_step HB7.out hb); clear hb))
            go_ret
            exact ⟨rfl, HB8.out⟩
        intro J0_4_8_9_13_17_22
        replace J0_4_8_9_13_17_22 := Aside0.mk J0_4_8_9_13_17_22
        refine joinA (σ := Value × Value × Value × Value × Value × Value) 7 #[true, true, true, true, true, true, true, true, true, true, true, true, true, true, true, true, true, true, false, false, false, false, false, false, false] (fun (p : Value × Value × Value × Value × Value × Value) => [(108, p.1), (112, p.2.1), (116, p.2.2.1), (117, p.2.2.2.1), (121, p.2.2.2.2.1), (125, p.2.2.2.2.2)]) (fun (p : Value × Value × Value × Value × Value × Value) => fun w2 => Rg wr w2 (some (p.2.2.1, ks.drop s ++ ks.take s)) (some (p.2.2.2.2.2, es.drop s ++ es.take s)) (none)) ?_ ?_
        · rintro ⟨v0, v4, v8, v9, v13, v17⟩ w2 hR
          try dsimp only at hR
          simp only [Go.Up.putAll, Act.put, List.setIfInBounds_toArray, List.set_cons_zero, List.set_cons_succ]
          refine al2 (i := 18) (j := 22) (by kernel_rfl) ?_ ?_
          · refine stA (i := 18) (N := some 126) #[true, true, true, true, true, true, true, true, true, true, true, true, true, true, true, true, true, true, true, false, false, false, false, false, false] rfl rfl (by kernel_rfl) ?_
            intro K hK
            obtain ⟨A8, c8, B8, d8, rfl, rfl, hcall⟩ := rotC hR HLn.out hn10 HP.out.1 HP.out.2 HSz.out.1 (fun y hy => ⟨HWv.out y hy, HSz.out.2 y hy⟩) hv hu HDi.out HVd.out
            have HRz := Aside0.mk hR.z
            clear hR
            go_simp
            go_at_call 17
            refine hcall.mono ?_
            rintro e w6 ⟨Y3, y3, Y4, y4, rfl, hr, hb, hf⟩
            refine hK.out _ _ ?_
            try simp only [Go.Up.putAll, Act.put, List.setIfInBounds_toArray, List.set_cons_zero, List.set_cons_succ]
            clear hK K hcall
            have HXa := Aside0.mk (below_step HRz.out hb)
            have HRy := Aside0.mk hr
            clear hr hb hf HRz
            refine takeA (i := 19) (N := some 107) (.tuple #[.agg #[.int .i64 ((ov es ms)).f0, .int .i64 ((ov es ms)).f1, .string ((ov es ms)).f2, .slice Y3 ((ov es ms)).f3.length y3, .slice Y4 ((ov es ms)).f4.length y4], .int .i64 0]) #[true, true, true, true, true, true, true, true, true, true, true, true, true, true, true, true, true, true, true, true, false, false, false, false, false] rfl rfl (by kernel_rfl) (fun _ _ _ h => h) rfl (fun w1 => by go_simp) rfl ?_
            try simp only [Go.Up.putAll, Act.put, List.setIfInBounds_toArray, List.set_cons_zero, List.set_cons_succ]
            refine takeA (i := 20) (N := some 127) (.agg #[.int .i64 ((ov es ms)).f0, .int .i64 ((ov es ms)).f1, .string ((ov es ms)).f2, .slice Y3 ((ov es ms)).f3.length y3, .slice Y4 ((ov es ms)).f4.length y4]) #[true, true, true, true, true, true, true, true, true, true, true, true, true, true, true, true, true, true, true, true, true, false, false, false, false] rfl rfl (by kernel_rfl) (fun _ _ _ h => h) rfl (fun w1 => by go_simp) rfl ?_
            try simp only [Go.Up.putAll, Act.put, List.setIfInBounds_toArray, List.set_cons_zero, List.set_cons_succ]
            refine takeA (i := 21) (N := some 128) (.int .i64 0) #[true, true, true, true, true, true, true, true, true, true, true, true, true, true, true, true, true, true, true, true, true, true, false, false, false] rfl rfl (by kernel_rfl) (fun _ _ _ h => h) rfl (fun w1 => by go_simp) rfl ?_
            try simp only [Go.Up.putAll, Act.put, List.setIfInBounds_toArray, List.set_cons_zero, List.set_cons_succ]
            refine al1 (i := 22) (by kernel_rfl) ?_
            refine stA (i := 22) (N := some 17) #[true, true, true, true, true, true, true, true, true, true, true, true, true, true, true, true, true, true, true, true, true, true, true, false, false] rfl rfl (by kernel_rfl) ?_
            intro K hK
            go_simp
            have hz9 := heap_alloc_new w6 (.cells #[.int .i64 0, .int .i64 0, .string ⟨#[]⟩, .slice none 0 0, .slice none 0 0] 28)
            have hb9 := new_below w6 (.cells #[.int .i64 0, .int .i64 0, .string ⟨#[]⟩, .slice none 0 0, .slice none 0 0] 28)
            have HXb := Aside0.mk (below_step HXa.out hb9)
            refine hK.out _ _ ?_
            clear hK K
            try simp only [Go.Up.putAll, Act.put, List.setIfInBounds_toArray, List.set_cons_zero, List.set_cons_succ]
            obtain ⟨g, hg17⟩ : ∃ b, w6.heap.size = b := ⟨_, rfl⟩
            obtain ⟨W9, hW9⟩ : ∃ W9, w6.alloc (.cells #[.int .i64 0, .int .i64 0, .string ⟨#[]⟩, .slice none 0 0, .slice none 0 0] 28) = W9 := ⟨_, rfl⟩
            have H17 : Aside0 (wr.heap.size ≤ g) := ⟨by rw [← hg17]; exact Below.size HXa.out⟩
            have HNew : Aside0 (∀ W', W9.grownBy W' (some g) → Rd W' Y3 y3 Y4 y4 (ov es ms)) := ⟨fun W' hg => HRy.out.below (by rw [← hW9, ← hg17] at hg; exact (new_below w6 _).trans ⟨hg.os, hg.tape, hg.output, hg.size, fun k hk => hg.block k (by simp; omega) (fun e => by have := Option.some.inj e; omega)⟩)⟩
            rw [hg17] at hz9
            rw [hW9] at hz9 HXb ⊢
            try rw [hg17]
            try simp only [hg17]
            have HZ := Aside0.mk hz9
            clear hb9 hg17 hW9 hz9 HRy HXa
            have HXa := HXb
            clear HXb
            obtain ⟨t0, t1, t2, t3, t4, t5⟩ := zero5 HZ.out
            obtain ⟨W', hW', hblk, hgb⟩ := fillb HZ.out (.int .i64 (ov es ms).f0) (.int .i64 (ov es ms).f1) (.string (ov es ms).f2) (.slice Y3 (ov es ms).f3.length y3) (.slice Y4 (ov es ms).f4.length y4)
            have HE : Aside0 (Below wr.heap.size wr W') := ⟨HXa.out.trans ⟨hgb.os, hgb.tape, hgb.output, hgb.size, fun k hk => hgb.block k (by have := Below.size HXa.out; omega) (fun e => by have := Option.some.inj e; have := H17.out; omega)⟩⟩
            refine al1 (i := 23) (by kernel_rfl) ?_
            refine stA (i := 23) (N := none) #[true, true, true, true, true, true, true, true, true, true, true, true, true, true, true, true, true, true, true, true, true, true, true, true, false] rfl rfl (by kernel_rfl) ?_
            intro K hK
            go_simp
            try rw [hW']
            refine hK.out _ _ ?_
            clear hK K
            try simp only [Go.Up.putAll, Act.put, List.setIfInBounds_toArray, List.set_cons_zero, List.set_cons_succ]
            refine takeA (i := 24) (N := some 9) (.int .i64 0) #[true, true, true, true, true, true, true, true, true, true, true, true, true, true, true, true, true, true, true, true, true, true, true, true, true] rfl rfl (by kernel_rfl) (fun _ _ _ h => h) rfl (fun w1 => by go_simp) rfl ?_
            try simp only [Go.Up.putAll, Act.put, List.setIfInBounds_toArray, List.set_cons_zero, List.set_cons_succ]
            have HB17 : Aside0 (Bv W' g Y3 y3 Y4 y4 (ov es ms)) := ⟨⟨hblk, HNew.out W' hgb⟩⟩
            clear t0 t1 t2 t3 t4 t5 hW' hblk hgb HZ HNew HXa H17
            refine doneA _ (by kernel_rfl) ?_
            obtain ⟨we, hwe⟩ : ∃ we, W' = we := ⟨_, rfl⟩
            rw [hwe] at HB17 HE ⊢
            clear hwe W'
            obtain ⟨p0, p1, p2, p3, p4⟩ := (HBv2.out.below HE.out).cells
            obtain ⟨q0, q1, q2, q3, q4⟩ := HB17.out.cells
            have HC19 : Aside0 (Calls Try.prog 19 #[.agg #[.int .i64 ((ov es ms)).f0, .int .i64 ((ov es ms)).f1, .string ((ov es ms)).f2, .slice X3 ((ov es ms)).f3.length d3, .slice X4 ((ov es ms)).f4.length d4], .agg #[.int .i64 ((ov es ms)).f0, .int .i64 ((ov es ms)).f1, .string ((ov es ms)).f2, .slice Y3 ((ov es ms)).f3.length y3, .slice Y4 ((ov es ms)).f4.length y4]] we fun e w2 => e = .returned (.bool true) ∧ AB we w2) := ⟨(sameC _ (ov es ms) (ov es ms) we (Nat.lt_succ_self _) HVw.out.1 (HBv2.out.below HE.out).rd HB17.out.rd).mono (by
              rintro e w2 ⟨r, rfl, h, hb⟩
              rw [h.2 rfl]
              exact ⟨rfl, hb⟩)⟩
            have HL3 : Aside0 (∀ w1, AB we w1 → w1.cell? ⟨bv, 3, none⟩ = some (.slice X3 (ov es ms).f3.length d3)) := ⟨fun w1 h1 => ((HBv2.out.below HE.out).below h1).cells.2.2.2.1⟩
            go_wp2_with (first | (go_at_call 19; (with_reducible refine HC19.out.mono ?_); rintro e w7 ⟨rfl, h7⟩; have p5 := HL3.out _ h7; have HB7 := Aside0.mk (below_step HS.out.1 (below_step HE.out h7)); clear h7) | (go_at_call 12; (with_reducible refine (awakeC _).mono ?_); rintro e v3 ⟨rfl, hb⟩; have HB8 := Aside0.mk (below_step HB7.out hb); clear hb))
            go_ret
            exact ⟨rfl, HB8.out⟩
          · refine stA (i := 22) (N := some 17) #[true, true, true, true, true, true, true, true, true, true, true, true, true, true, true, true, true, true, false, false, false, false, true, false, false] rfl rfl (by kernel_rfl) ?_
            intro K hK
            go_simp
            refine hK.out _ _ ?_
            have hj := J0_4_8_9_13_17_22.out (v0, v4, v8, v9, v13, v17, w2.heap.size) _ hR.newZ
            (try simp only [Go.Up.putAll, Act.put, List.setIfInBounds_toArray, List.set_cons_zero, List.set_cons_succ] at hj)
            (try simp only [Go.Up.putAll, Act.put, List.setIfInBounds_toArray, List.set_cons_zero, List.set_cons_succ])
            exact hj
        intro J0_4_8_9_13_17
        replace J0_4_8_9_13_17 := Aside0.mk J0_4_8_9_13_17
        refine joinA (σ := Value × Value × Value × Value × Value × Nat) 7 #[true, true, true, true, true, true, true, true, true, true, true, true, true, true, true, true, true, false, false, false, false, false, true, false, false] (fun (p : Value × Value × Value × Value × Value × Nat) => [(108, p.1), (112, p.2.1), (116, p.2.2.1), (117, p.2.2.2.1), (121, p.2.2.2.2.1), (17, .pointer (some ⟨p.2.2.2.2.2, 0, none⟩))]) (fun (p : Value × Value × Value × Value × Value × Nat) => fun w2 => Rg wr w2 (some (p.2.2.1, ks.drop s ++ ks.take s)) (some (p.2.2.2.2.1, es.drop s)) (some p.2.2.2.2.2)) ?_ ?_
        · rintro ⟨v0, v4, v8, v9, v13, g⟩ w2 hR
          try dsimp only at hR
          simp only [Go.Up.putAll, Act.put, List.setIfInBounds_toArray, List.set_cons_zero, List.set_cons_succ]
          refine al1 (i := 17) (by kernel_rfl) ?_
          · refine stA (i := 17) (N := some 125) #[true, true, true, true, true, true, true, true, true, true, true, true, true, true, true, true, true, true, false, false, false, false, true, false, false] rfl rfl (by kernel_rfl) ?_
            intro K hK
            refine stepB (by rfl) (.tmp 121) (.tmp 124) rfl v13 (es.drop s) (es.take s) (some bd) s c1 rfl rfl hR (rowB HEt.out hR.z) (by have := HLn.out; (try simp only [List.length_nil, List.length_drop]); omega) (fun v1 w1 h1 => ?_)
            refine hK.out _ _ ?_
            have hj := J0_4_8_9_13_17_22.out (v0, v4, v8, v9, v13, v1, g) _ h1
            (try simp only [Go.Up.putAll, Act.put, List.setIfInBounds_toArray, List.set_cons_zero, List.set_cons_succ] at hj)
            (try simp only [Go.Up.putAll, Act.put, List.setIfInBounds_toArray, List.set_cons_zero, List.set_cons_succ])
            exact hj
        intro J0_4_8_9_13_22
        replace J0_4_8_9_13_22 := Aside0.mk J0_4_8_9_13_22
        refine joinA (σ := Value × Value × Value × Value × Value) 8 #[true, true, true, true, true, true, true, true, true, true, true, true, true, true, true, true, true, false, false, false, false, false, false, false, false] (fun (p : Value × Value × Value × Value × Value) => [(108, p.1), (112, p.2.1), (116, p.2.2.1), (117, p.2.2.2.1), (121, p.2.2.2.2)]) (fun (p : Value × Value × Value × Value × Value) => fun w2 => Rg wr w2 (some (p.2.2.1, ks.drop s ++ ks.take s)) (some (p.2.2.2.2, es.drop s)) (none)) ?_ ?_
        · rintro ⟨v0, v4, v8, v9, v13⟩ w2 hR
          try dsimp only at hR
          simp only [Go.Up.putAll, Act.put, List.setIfInBounds_toArray, List.set_cons_zero, List.set_cons_succ]
          refine al2 (i := 17) (j := 22) (by kernel_rfl) ?_ ?_
          · refine stA (i := 17) (N := some 125) #[true, true, true, true, true, true, true, true, true, true, true, true, true, true, true, true, true, true, false, false, false, false, false, false, false] rfl rfl (by kernel_rfl) ?_
            intro K hK
            refine stepB (by rfl) (.tmp 121) (.tmp 124) rfl v13 (es.drop s) (es.take s) (some bd) s c1 rfl rfl hR (rowB HEt.out hR.z) (by have := HLn.out; (try simp only [List.length_nil, List.length_drop]); omega) (fun v1 w1 h1 => ?_)
            refine hK.out _ _ ?_
            have hj := J0_4_8_9_13_17.out (v0, v4, v8, v9, v13, v1) _ h1
            (try simp only [Go.Up.putAll, Act.put, List.setIfInBounds_toArray, List.set_cons_zero, List.set_cons_succ] at hj)
            (try simp only [Go.Up.putAll, Act.put, List.setIfInBounds_toArray, List.set_cons_zero, List.set_cons_succ])
            exact hj
          · refine stA (i := 22) (N := some 17) #[true, true, true, true, true, true, true, true, true, true, true, true, true, true, true, true, true, false, false, false, false, false, true, false, false] rfl rfl (by kernel_rfl) ?_
            intro K hK
            go_simp
            refine hK.out _ _ ?_
            have hj := J0_4_8_9_13_22.out (v0, v4, v8, v9, v13, w2.heap.size) _ hR.newZ
            (try simp only [Go.Up.putAll, Act.put, List.setIfInBounds_toArray, List.set_cons_zero, List.set_cons_succ] at hj)
            (try simp only [Go.Up.putAll, Act.put, List.setIfInBounds_toArray, List.set_cons_zero, List.set_cons_succ])
            exact hj
        intro J0_4_8_9_13
        replace J0_4_8_9_13 := Aside0.mk J0_4_8_9_13
        refine joinA (σ := Value × Value × Value × Value × Nat) 8 #[true, true, true, true, true, true, true, true, true, true, true, true, true, false, true, true, true, false, false, false, false, false, true, false, false] (fun (p : Value × Value × Value × Value × Nat) => [(108, p.1), (112, p.2.1), (116, p.2.2.1), (117, p.2.2.2.1), (17, .pointer (some ⟨p.2.2.2.2, 0, none⟩))]) (fun (p : Value × Value × Value × Value × Nat) => fun w2 => Rg wr w2 (some (p.2.2.1, ks.drop s ++ ks.take s)) (some (p.2.2.2.1, [])) (some p.2.2.2.2)) ?_ ?_
        · rintro ⟨v0, v4, v8, v9, g⟩ w2 hR
          try dsimp only at hR
          simp only [Go.Up.putAll, Act.put, List.setIfInBounds_toArray, List.set_cons_zero, List.set_cons_succ]
          refine al1 (i := 13) (by kernel_rfl) ?_
          · refine stA (i := 13) (N := some 121) #[true, true, true, true, true, true, true, true, true, true, true, true, true, true, true, true, true, false, false, false, false, false, true, false, false] rfl rfl (by kernel_rfl) ?_
            intro K hK
            refine stepB (by rfl) (.tmp 117) (.tmp 120) rfl v9 [] (es.drop s) (some (bd.add (s * 5))) (n - s) (c1 - s) rfl rfl hR (rowB HEd.out hR.z) (by have := HLn.out; (try simp only [List.length_nil, List.length_drop]); omega) (fun v1 w1 h1 => ?_)
            refine hK.out _ _ ?_
            have hj := J0_4_8_9_13_22.out (v0, v4, v8, v9, v1, g) _ h1
            (try simp only [Go.Up.putAll, Act.put, List.setIfInBounds_toArray, List.set_cons_zero, List.set_cons_succ] at hj)
            (try simp only [Go.Up.putAll, Act.put, List.setIfInBounds_toArray, List.set_cons_zero, List.set_cons_succ])
            exact hj
        intro J0_4_8_9_22
        replace J0_4_8_9_22 := Aside0.mk J0_4_8_9_22
        refine joinA (σ := Value × Value × Value × Value) 9 #[true, true, true, true, true, true, true, true, true, true, true, true, true, false, true, true, true, false, false, false, false, false, false, false, false] (fun (p : Value × Value × Value × Value) => [(108, p.1), (112, p.2.1), (116, p.2.2.1), (117, p.2.2.2)]) (fun (p : Value × Value × Value × Value) => fun w2 => Rg wr w2 (some (p.2.2.1, ks.drop s ++ ks.take s)) (some (p.2.2.2, [])) (none)) ?_ ?_
        · rintro ⟨v0, v4, v8, v9⟩ w2 hR
          try dsimp only at hR
          simp only [Go.Up.putAll, Act.put, List.setIfInBounds_toArray, List.set_cons_zero, List.set_cons_succ]
          refine al2 (i := 13) (j := 22) (by kernel_rfl) ?_ ?_
          · refine stA (i := 13) (N := some 121) #[true, true, true, true, true, true, true, true, true, true, true, true, true, true, true, true, true, false, false, false, false, false, false, false, false] rfl rfl (by kernel_rfl) ?_
            intro K hK
            refine stepB (by rfl) (.tmp 117) (.tmp 120) rfl v9 [] (es.drop s) (some (bd.add (s * 5))) (n - s) (c1 - s) rfl rfl hR (rowB HEd.out hR.z) (by have := HLn.out; (try simp only [List.length_nil, List.length_drop]); omega) (fun v1 w1 h1 => ?_)
            refine hK.out _ _ ?_
            have hj := J0_4_8_9_13.out (v0, v4, v8, v9, v1) _ h1
            (try simp only [Go.Up.putAll, Act.put, List.setIfInBounds_toArray, List.set_cons_zero, List.set_cons_succ] at hj)
            (try simp only [Go.Up.putAll, Act.put, List.setIfInBounds_toArray, List.set_cons_zero, List.set_cons_succ])
            exact hj
          · refine stA (i := 22) (N := some 17) #[true, true, true, true, true, true, true, true, true, true, true, true, true, false, true, true, true, false, false, false, false, false, true, false, false] rfl rfl (by kernel_rfl) ?_
            intro K hK
            go_simp
            refine hK.out _ _ ?_
            have hj := J0_4_8_9_22.out (v0, v4, v8, v9, w2.heap.size) _ hR.newZ
            (try simp only [Go.Up.putAll, Act.put, List.setIfInBounds_toArray, List.set_cons_zero, List.set_cons_succ] at hj)
            (try simp only [Go.Up.putAll, Act.put, List.setIfInBounds_toArray, List.set_cons_zero, List.set_cons_succ])
            exact hj
        intro J0_4_8_9
        replace J0_4_8_9 := Aside0.mk J0_4_8_9
        refine joinA (σ := Value × Value × Value × Nat) 9 #[true, true, true, true, true, true, true, true, true, false, true, true, true, false, true, true, true, false, false, false, false, false, true, false, false] (fun (p : Value × Value × Value × Nat) => [(108, p.1), (112, p.2.1), (116, p.2.2.1), (17, .pointer (some ⟨p.2.2.2, 0, none⟩))]) (fun (p : Value × Value × Value × Nat) => fun w2 => Rg wr w2 (some (p.2.2.1, ks.drop s ++ ks.take s)) (none) (some p.2.2.2)) ?_ ?_
        · rintro ⟨v0, v4, v8, g⟩ w2 hR
          try dsimp only at hR
          simp only [Go.Up.putAll, Act.put, List.setIfInBounds_toArray, List.set_cons_zero, List.set_cons_succ]
          refine al1 (i := 9) (by kernel_rfl) ?_
          · refine stA (i := 9) (N := some 117) #[true, true, true, true, true, true, true, true, true, true, true, true, true, false, true, true, true, false, false, false, false, false, true, false, false] rfl rfl (by kernel_rfl) ?_
            intro K hK
            go_simp
            refine hK.out _ _ ?_
            have hj := J0_4_8_9_22.out (v0, v4, v8, (.slice (some ⟨w2.heap.size, 0, none⟩) 0 0), g) _ hR.newB
            (try simp only [Go.Up.putAll, Act.put, List.setIfInBounds_toArray, List.set_cons_zero, List.set_cons_succ] at hj)
            (try simp only [Go.Up.putAll, Act.put, List.setIfInBounds_toArray, List.set_cons_zero, List.set_cons_succ])
            exact hj
        intro J0_4_8_22
        replace J0_4_8_22 := Aside0.mk J0_4_8_22
        refine joinA (σ := Value × Value × Value × Nat) 9 #[true, true, true, true, true, true, true, true, false, true, true, true, true, false, true, true, true, false, false, false, false, false, true, false, false] (fun (p : Value × Value × Value × Nat) => [(108, p.1), (112, p.2.1), (117, p.2.2.1), (17, .pointer (some ⟨p.2.2.2, 0, none⟩))]) (fun (p : Value × Value × Value × Nat) => fun w2 => Rg wr w2 (some (p.2.1, ks.drop s)) (some (p.2.2.1, [])) (some p.2.2.2)) ?_ ?_
        · rintro ⟨v0, v4, v9, g⟩ w2 hR
          try dsimp only at hR
          simp only [Go.Up.putAll, Act.put, List.setIfInBounds_toArray, List.set_cons_zero, List.set_cons_succ]
          refine al1 (i := 8) (by kernel_rfl) ?_
          · refine stA (i := 8) (N := some 116) #[true, true, true, true, true, true, true, true, true, true, true, true, true, false, true, true, true, false, false, false, false, false, true, false, false] rfl rfl (by kernel_rfl) ?_
            intro K hK
            refine stepA (by rfl) (.tmp 112) (.tmp 115) rfl v4 (ks.drop s) (ks.take s) (some ad) s c0 rfl rfl hR (rowA HKt.out hR.z) (by have := HLn.out; (try simp only [List.length_nil, List.length_drop]); omega) (fun v1 w1 h1 => ?_)
            refine hK.out _ _ ?_
            have hj := J0_4_8_9_22.out (v0, v4, v1, v9, g) _ h1
            (try simp only [Go.Up.putAll, Act.put, List.setIfInBounds_toArray, List.set_cons_zero, List.set_cons_succ] at hj)
            (try simp only [Go.Up.putAll, Act.put, List.setIfInBounds_toArray, List.set_cons_zero, List.set_cons_succ])
            exact hj
        intro J0_4_9_22
        replace J0_4_9_22 := Aside0.mk J0_4_9_22
        refine joinA (σ := Value × Value × Value) 10 #[true, true, true, true, true, true, true, true, true, false, true, true, true, false, true, true, true, false, false, false, false, false, false, false, false] (fun (p : Value × Value × Value) => [(108, p.1), (112, p.2.1), (116, p.2.2)]) (fun (p : Value × Value × Value) => fun w2 => Rg wr w2 (some (p.2.2, ks.drop s ++ ks.take s)) (none) (none)) ?_ ?_
        · rintro ⟨v0, v4, v8⟩ w2 hR
          try dsimp only at hR
          simp only [Go.Up.putAll, Act.put, List.setIfInBounds_toArray, List.set_cons_zero, List.set_cons_succ]
          refine al2 (i := 9) (j := 22) (by kernel_rfl) ?_ ?_
          · refine stA (i := 9) (N := some 117) #[true, true, true, true, true, true, true, true, true, true, true, true, true, false, true, true, true, false, false, false, false, false, false, false, false] rfl rfl (by kernel_rfl) ?_
            intro K hK
            go_simp
            refine hK.out _ _ ?_
            have hj := J0_4_8_9.out (v0, v4, v8, (.slice (some ⟨w2.heap.size, 0, none⟩) 0 0)) _ hR.newB
            (try simp only [Go.Up.putAll, Act.put, List.setIfInBounds_toArray, List.set_cons_zero, List.set_cons_succ] at hj)
            (try simp only [Go.Up.putAll, Act.put, List.setIfInBounds_toArray, List.set_cons_zero, List.set_cons_succ])
            exact hj
          · refine stA (i := 22) (N := some 17) #[true, true, true, true, true, true, true, true, true, false, true, true, true, false, true, true, true, false, false, false, false, false, true, false, false] rfl rfl (by kernel_rfl) ?_
            intro K hK
            go_simp
            refine hK.out _ _ ?_
            have hj := J0_4_8_22.out (v0, v4, v8, w2.heap.size) _ hR.newZ
            (try simp only [Go.Up.putAll, Act.put, List.setIfInBounds_toArray, List.set_cons_zero, List.set_cons_succ] at hj)
            (try simp only [Go.Up.putAll, Act.put, List.setIfInBounds_toArray, List.set_cons_zero, List.set_cons_succ])
            exact hj
        intro J0_4_8
        replace J0_4_8 := Aside0.mk J0_4_8
        refine joinA (σ := Value × Value × Value) 10 #[true, true, true, true, true, true, true, true, false, true, true, true, true, false, true, true, true, false, false, false, false, false, false, false, false] (fun (p : Value × Value × Value) => [(108, p.1), (112, p.2.1), (117, p.2.2)]) (fun (p : Value × Value × Value) => fun w2 => Rg wr w2 (some (p.2.1, ks.drop s)) (some (p.2.2, [])) (none)) ?_ ?_
        · rintro ⟨v0, v4, v9⟩ w2 hR
          try dsimp only at hR
          simp only [Go.Up.putAll, Act.put, List.setIfInBounds_toArray, List.set_cons_zero, List.set_cons_succ]
          refine al2 (i := 8) (j := 22) (by kernel_rfl) ?_ ?_
          · refine stA (i := 8) (N := some 116) #[true, true, true, true, true, true, true, true, true, true, true, true, true, false, true, true, true, false, false, false, false, false, false, false, false] rfl rfl (by kernel_rfl) ?_
            intro K hK
            refine stepA (by rfl) (.tmp 112) (.tmp 115) rfl v4 (ks.drop s) (ks.take s) (some ad) s c0 rfl rfl hR (rowA HKt.out hR.z) (by have := HLn.out; (try simp only [List.length_nil, List.length_drop]); omega) (fun v1 w1 h1 => ?_)
            refine hK.out _ _ ?_
            have hj := J0_4_8_9.out (v0, v4, v1, v9) _ h1
            (try simp only [Go.Up.putAll, Act.put, List.setIfInBounds_toArray, List.set_cons_zero, List.set_cons_succ] at hj)
            (try simp only [Go.Up.putAll, Act.put, List.setIfInBounds_toArray, List.set_cons_zero, List.set_cons_succ])
            exact hj
          · refine stA (i := 22) (N := some 17) #[true, true, true, true, true, true, true, true, false, true, true, true, true, false, true, true, true, false, false, false, false, false, true, false, false] rfl rfl (by kernel_rfl) ?_
            intro K hK
            go_simp
            refine hK.out _ _ ?_
            have hj := J0_4_9_22.out (v0, v4, v9, w2.heap.size) _ hR.newZ
            (try simp only [Go.Up.putAll, Act.put, List.setIfInBounds_toArray, List.set_cons_zero, List.set_cons_succ] at hj)
            (try simp only [Go.Up.putAll, Act.put, List.setIfInBounds_toArray, List.set_cons_zero, List.set_cons_succ])
            exact hj
        intro J0_4_9
        replace J0_4_9 := Aside0.mk J0_4_9
        refine joinA (σ := Value × Value × Nat) 10 #[true, true, true, true, true, true, true, true, false, false, true, true, true, false, true, true, true, false, false, false, false, false, true, false, false] (fun (p : Value × Value × Nat) => [(108, p.1), (112, p.2.1), (17, .pointer (some ⟨p.2.2, 0, none⟩))]) (fun (p : Value × Value × Nat) => fun w2 => Rg wr w2 (some (p.2.1, ks.drop s)) (none) (some p.2.2)) ?_ ?_
        · rintro ⟨v0, v4, g⟩ w2 hR
          try dsimp only at hR
          simp only [Go.Up.putAll, Act.put, List.setIfInBounds_toArray, List.set_cons_zero, List.set_cons_succ]
          refine al2 (i := 8) (j := 9) (by kernel_rfl) ?_ ?_
          · refine stA (i := 8) (N := some 116) #[true, true, true, true, true, true, true, true, true, false, true, true, true, false, true, true, true, false, false, false, false, false, true, false, false] rfl rfl (by kernel_rfl) ?_
            intro K hK
            refine stepA (by rfl) (.tmp 112) (.tmp 115) rfl v4 (ks.drop s) (ks.take s) (some ad) s c0 rfl rfl hR (rowA HKt.out hR.z) (by have := HLn.out; (try simp only [List.length_nil, List.length_drop]); omega) (fun v1 w1 h1 => ?_)
            refine hK.out _ _ ?_
            have hj := J0_4_8_22.out (v0, v4, v1, g) _ h1
            (try simp only [Go.Up.putAll, Act.put, List.setIfInBounds_toArray, List.set_cons_zero, List.set_cons_succ] at hj)
            (try simp only [Go.Up.putAll, Act.put, List.setIfInBounds_toArray, List.set_cons_zero, List.set_cons_succ])
            exact hj
          · refine stA (i := 9) (N := some 117) #[true, true, true, true, true, true, true, true, false, true, true, true, true, false, true, true, true, false, false, false, false, false, true, false, false] rfl rfl (by kernel_rfl) ?_
            intro K hK
            go_simp
            refine hK.out _ _ ?_
            have hj := J0_4_9_22.out (v0, v4, (.slice (some ⟨w2.heap.size, 0, none⟩) 0 0), g) _ hR.newB
            (try simp only [Go.Up.putAll, Act.put, List.setIfInBounds_toArray, List.set_cons_zero, List.set_cons_succ] at hj)
            (try simp only [Go.Up.putAll, Act.put, List.setIfInBounds_toArray, List.set_cons_zero, List.set_cons_succ])
            exact hj
        intro J0_4_22
        replace J0_4_22 := Aside0.mk J0_4_22
        refine joinA (σ := Value × Value × Nat) 10 #[true, true, true, true, false, true, true, true, false, true, true, true, true, false, true, true, true, false, false, false, false, false, true, false, false] (fun (p : Value × Value × Nat) => [(108, p.1), (117, p.2.1), (17, .pointer (some ⟨p.2.2, 0, none⟩))]) (fun (p : Value × Value × Nat) => fun w2 => Rg wr w2 (some (p.1, [])) (some (p.2.1, [])) (some p.2.2)) ?_ ?_
        · rintro ⟨v0, v9, g⟩ w2 hR
          try dsimp only at hR
          simp only [Go.Up.putAll, Act.put, List.setIfInBounds_toArray, List.set_cons_zero, List.set_cons_succ]
          refine al1 (i := 4) (by kernel_rfl) ?_
          · refine stA (i := 4) (N := some 112) #[true, true, true, true, true, true, true, true, false, true, true, true, true, false, true, true, true, false, false, false, false, false, true, false, false] rfl rfl (by kernel_rfl) ?_
            intro K hK
            refine stepA (by rfl) (.tmp 108) (.tmp 111) rfl v0 [] (ks.drop s) (some (ad.add s)) (n - s) (c0 - s) rfl rfl hR (rowA HKd.out hR.z) (by have := HLn.out; (try simp only [List.length_nil, List.length_drop]); omega) (fun v1 w1 h1 => ?_)
            refine hK.out _ _ ?_
            have hj := J0_4_9_22.out (v0, v1, v9, g) _ h1
            (try simp only [Go.Up.putAll, Act.put, List.setIfInBounds_toArray, List.set_cons_zero, List.set_cons_succ] at hj)
            (try simp only [Go.Up.putAll, Act.put, List.setIfInBounds_toArray, List.set_cons_zero, List.set_cons_succ])
            exact hj
        intro J0_9_22
        replace J0_9_22 := Aside0.mk J0_9_22
        refine joinA (σ := Value × Value) 11 #[true, true, true, true, true, true, true, true, false, false, true, true, true, false, true, true, true, false, false, false, false, false, false, false, false] (fun (p : Value × Value) => [(108, p.1), (112, p.2)]) (fun (p : Value × Value) => fun w2 => Rg wr w2 (some (p.2, ks.drop s)) (none) (none)) ?_ ?_
        · rintro ⟨v0, v4⟩ w2 hR
          try dsimp only at hR
          simp only [Go.Up.putAll, Act.put, List.setIfInBounds_toArray, List.set_cons_zero, List.set_cons_succ]
          refine al3 (i := 8) (j := 9) (m := 22) (by kernel_rfl) ?_ ?_ ?_
          · refine stA (i := 8) (N := some 116) #[true, true, true, true, true, true, true, true, true, false, true, true, true, false, true, true, true, false, false, false, false, false, false, false, false] rfl rfl (by kernel_rfl) ?_
            intro K hK
            refine stepA (by rfl) (.tmp 112) (.tmp 115) rfl v4 (ks.drop s) (ks.take s) (some ad) s c0 rfl rfl hR (rowA HKt.out hR.z) (by have := HLn.out; (try simp only [List.length_nil, List.length_drop]); omega) (fun v1 w1 h1 => ?_)
            refine hK.out _ _ ?_
            have hj := J0_4_8.out (v0, v4, v1) _ h1
            (try simp only [Go.Up.putAll, Act.put, List.setIfInBounds_toArray, List.set_cons_zero, List.set_cons_succ] at hj)
            (try simp only [Go.Up.putAll, Act.put, List.setIfInBounds_toArray, List.set_cons_zero, List.set_cons_succ])
            exact hj
          · refine stA (i := 9) (N := some 117) #[true, true, true, true, true, true, true, true, false, true, true, true, true, false, true, true, true, false, false, false, false, false, false, false, false] rfl rfl (by kernel_rfl) ?_
            intro K hK
            go_simp
            refine hK.out _ _ ?_
            have hj := J0_4_9.out (v0, v4, (.slice (some ⟨w2.heap.size, 0, none⟩) 0 0)) _ hR.newB
            (try simp only [Go.Up.putAll, Act.put, List.setIfInBounds_toArray, List.set_cons_zero, List.set_cons_succ] at hj)
            (try simp only [Go.Up.putAll, Act.put, List.setIfInBounds_toArray, List.set_cons_zero, List.set_cons_succ])
            exact hj
          · refine stA (i := 22) (N := some 17) #[true, true, true, true, true, true, true, true, false, false, true, true, true, false, true, true, true, false, false, false, false, false, true, false, false] rfl rfl (by kernel_rfl) ?_
            intro K hK
            go_simp
            refine hK.out _ _ ?_
            have hj := J0_4_22.out (v0, v4, w2.heap.size) _ hR.newZ
            (try simp only [Go.Up.putAll, Act.put, List.setIfInBounds_toArray, List.set_cons_zero, List.set_cons_succ] at hj)
            (try simp only [Go.Up.putAll, Act.put, List.setIfInBounds_toArray, List.set_cons_zero, List.set_cons_succ])
            exact hj
        intro J0_4
        replace J0_4 := Aside0.mk J0_4
        refine joinA (σ := Value × Value) 11 #[true, true, true, true, false, true, true, true, false, true, true, true, true, false, true, true, true, false, false, false, false, false, false, false, false] (fun (p : Value × Value) => [(108, p.1), (117, p.2)]) (fun (p : Value × Value) => fun w2 => Rg wr w2 (some (p.1, [])) (some (p.2, [])) (none)) ?_ ?_
        · rintro ⟨v0, v9⟩ w2 hR
          try dsimp only at hR
          simp only [Go.Up.putAll, Act.put, List.setIfInBounds_toArray, List.set_cons_zero, List.set_cons_succ]
          refine al2 (i := 4) (j := 22) (by kernel_rfl) ?_ ?_
          · refine stA (i := 4) (N := some 112) #[true, true, true, true, true, true, true, true, false, true, true, true, true, false, true, true, true, false, false, false, false, false, false, false, false] rfl rfl (by kernel_rfl) ?_
            intro K hK
            refine stepA (by rfl) (.tmp 108) (.tmp 111) rfl v0 [] (ks.drop s) (some (ad.add s)) (n - s) (c0 - s) rfl rfl hR (rowA HKd.out hR.z) (by have := HLn.out; (try simp only [List.length_nil, List.length_drop]); omega) (fun v1 w1 h1 => ?_)
            refine hK.out _ _ ?_
            have hj := J0_4_9.out (v0, v1, v9) _ h1
            (try simp only [Go.Up.putAll, Act.put, List.setIfInBounds_toArray, List.set_cons_zero, List.set_cons_succ] at hj)
            (try simp only [Go.Up.putAll, Act.put, List.setIfInBounds_toArray, List.set_cons_zero, List.set_cons_succ])
            exact hj
          · refine stA (i := 22) (N := some 17) #[true, true, true, true, false, true, true, true, false, true, true, true, true, false, true, true, true, false, false, false, false, false, true, false, false] rfl rfl (by kernel_rfl) ?_
            intro K hK
            go_simp
            refine hK.out _ _ ?_
            have hj := J0_9_22.out (v0, v9, w2.heap.size) _ hR.newZ
            (try simp only [Go.Up.putAll, Act.put, List.setIfInBounds_toArray, List.set_cons_zero, List.set_cons_succ] at hj)
            (try simp only [Go.Up.putAll, Act.put, List.setIfInBounds_toArray, List.set_cons_zero, List.set_cons_succ])
            exact hj
        intro J0_9
        replace J0_9 := Aside0.mk J0_9
        refine joinA (σ := Value × Nat) 11 #[true, true, true, true, false, true, true, true, false, false, true, true, true, false, true, true, true, false, false, false, false, false, true, false, false] (fun (p : Value × Nat) => [(108, p.1), (17, .pointer (some ⟨p.2, 0, none⟩))]) (fun (p : Value × Nat) => fun w2 => Rg wr w2 (some (p.1, [])) (none) (some p.2)) ?_ ?_
        · rintro ⟨v0, g⟩ w2 hR
          try dsimp only at hR
          simp only [Go.Up.putAll, Act.put, List.setIfInBounds_toArray, List.set_cons_zero, List.set_cons_succ]
          refine al2 (i := 4) (j := 9) (by kernel_rfl) ?_ ?_
          · refine stA (i := 4) (N := some 112) #[true, true, true, true, true, true, true, true, false, false, true, true, true, false, true, true, true, false, false, false, false, false, true, false, false] rfl rfl (by kernel_rfl) ?_
            intro K hK
            refine stepA (by rfl) (.tmp 108) (.tmp 111) rfl v0 [] (ks.drop s) (some (ad.add s)) (n - s) (c0 - s) rfl rfl hR (rowA HKd.out hR.z) (by have := HLn.out; (try simp only [List.length_nil, List.length_drop]); omega) (fun v1 w1 h1 => ?_)
            refine hK.out _ _ ?_
            have hj := J0_4_22.out (v0, v1, g) _ h1
            (try simp only [Go.Up.putAll, Act.put, List.setIfInBounds_toArray, List.set_cons_zero, List.set_cons_succ] at hj)
            (try simp only [Go.Up.putAll, Act.put, List.setIfInBounds_toArray, List.set_cons_zero, List.set_cons_succ])
            exact hj
          · refine stA (i := 9) (N := some 117) #[true, true, true, true, false, true, true, true, false, true, true, true, true, false, true, true, true, false, false, false, false, false, true, false, false] rfl rfl (by kernel_rfl) ?_
            intro K hK
            go_simp
            refine hK.out _ _ ?_
            have hj := J0_9_22.out (v0, (.slice (some ⟨w2.heap.size, 0, none⟩) 0 0), g) _ hR.newB
            (try simp only [Go.Up.putAll, Act.put, List.setIfInBounds_toArray, List.set_cons_zero, List.set_cons_succ] at hj)
            (try simp only [Go.Up.putAll, Act.put, List.setIfInBounds_toArray, List.set_cons_zero, List.set_cons_succ])
            exact hj
        intro J0_22
        replace J0_22 := Aside0.mk J0_22
        refine joinA (σ := Value × Nat) 11 #[false, true, true, true, false, true, true, true, false, true, true, true, true, false, true, true, true, false, false, false, false, false, true, false, false] (fun (p : Value × Nat) => [(117, p.1), (17, .pointer (some ⟨p.2, 0, none⟩))]) (fun (p : Value × Nat) => fun w2 => Rg wr w2 (none) (some (p.1, [])) (some p.2)) ?_ ?_
        · rintro ⟨v9, g⟩ w2 hR
          try dsimp only at hR
          simp only [Go.Up.putAll, Act.put, List.setIfInBounds_toArray, List.set_cons_zero, List.set_cons_succ]
          refine al1 (i := 0) (by kernel_rfl) ?_
          · refine stA (i := 0) (N := some 108) #[true, true, true, true, false, true, true, true, false, true, true, true, true, false, true, true, true, false, false, false, false, false, true, false, false] rfl rfl (by kernel_rfl) ?_
            intro K hK
            go_simp
            refine hK.out _ _ ?_
            have hj := J0_9_22.out ((.slice (some ⟨w2.heap.size, 0, none⟩) 0 0), v9, g) _ hR.newA
            (try simp only [Go.Up.putAll, Act.put, List.setIfInBounds_toArray, List.set_cons_zero, List.set_cons_succ] at hj)
            (try simp only [Go.Up.putAll, Act.put, List.setIfInBounds_toArray, List.set_cons_zero, List.set_cons_succ])
            exact hj
        intro J9_22
        replace J9_22 := Aside0.mk J9_22
        refine joinA (σ := Value) 12 #[true, true, true, true, false, true, true, true, false, false, true, true, true, false, true, true, true, false, false, false, false, false, false, false, false] (fun (p : Value) => [(108, p)]) (fun (p : Value) => fun w2 => Rg wr w2 (some (p, [])) (none) (none)) ?_ ?_
        · rintro v0 w2 hR
          try dsimp only at hR
          simp only [Go.Up.putAll, Act.put, List.setIfInBounds_toArray, List.set_cons_zero, List.set_cons_succ]
          refine al3 (i := 4) (j := 9) (m := 22) (by kernel_rfl) ?_ ?_ ?_
          · refine stA (i := 4) (N := some 112) #[true, true, true, true, true, true, true, true, false, false, true, true, true, false, true, true, true, false, false, false, false, false, false, false, false] rfl rfl (by kernel_rfl) ?_
            intro K hK
            refine stepA (by rfl) (.tmp 108) (.tmp 111) rfl v0 [] (ks.drop s) (some (ad.add s)) (n - s) (c0 - s) rfl rfl hR (rowA HKd.out hR.z) (by have := HLn.out; (try simp only [List.length_nil, List.length_drop]); omega) (fun v1 w1 h1 => ?_)
            refine hK.out _ _ ?_
            have hj := J0_4.out (v0, v1) _ h1
            (try simp only [Go.Up.putAll, Act.put, List.setIfInBounds_toArray, List.set_cons_zero, List.set_cons_succ] at hj)
            (try simp only [Go.Up.putAll, Act.put, List.setIfInBounds_toArray, List.set_cons_zero, List.set_cons_succ])
            exact hj
          · refine stA (i := 9) (N := some 117) #[true, true, true, true, false, true, true, true, false, true, true, true, true, false, true, true, true, false, false, false, false, false, false, false, false] rfl rfl (by kernel_rfl) ?_
            intro K hK
            go_simp
            refine hK.out _ _ ?_
            have hj := J0_9.out (v0, (.slice (some ⟨w2.heap.size, 0, none⟩) 0 0)) _ hR.newB
            (try simp only [Go.Up.putAll, Act.put, List.setIfInBounds_toArray, List.set_cons_zero, List.set_cons_succ] at hj)
            (try simp only [Go.Up.putAll, Act.put, List.setIfInBounds_toArray, List.set_cons_zero, List.set_cons_succ])
            exact hj
          · refine stA (i := 22) (N := some 17) #[true, true, true, true, false, true, true, true, false, false, true, true, true, false, true, true, true, false, false, false, false, false, true, false, false] rfl rfl (by kernel_rfl) ?_
            intro K hK
            go_simp
            refine hK.out _ _ ?_
            have hj := J0_22.out (v0, w2.heap.size) _ hR.newZ
            (try simp only [Go.Up.putAll, Act.put, List.setIfInBounds_toArray, List.set_cons_zero, List.set_cons_succ] at hj)
            (try simp only [Go.Up.putAll, Act.put, List.setIfInBounds_toArray, List.set_cons_zero, List.set_cons_succ])
            exact hj
        intro J0
        replace J0 := Aside0.mk J0
        refine joinA (σ := Value) 12 #[false, true, true, true, false, true, true, true, false, true, true, true, true, false, true, true, true, false, false, false, false, false, false, false, false] (fun (p : Value) => [(117, p)]) (fun (p : Value) => fun w2 => Rg wr w2 (none) (some (p, [])) (none)) ?_ ?_
        · rintro v9 w2 hR
          try dsimp only at hR
          simp only [Go.Up.putAll, Act.put, List.setIfInBounds_toArray, List.set_cons_zero, List.set_cons_succ]
          refine al2 (i := 0) (j := 22) (by kernel_rfl) ?_ ?_
          · refine stA (i := 0) (N := some 108) #[true, true, true, true, false, true, true, true, false, true, true, true, true, false, true, true, true, false, false, false, false, false, false, false, false] rfl rfl (by kernel_rfl) ?_
            intro K hK
            go_simp
            refine hK.out _ _ ?_
            have hj := J0_9.out ((.slice (some ⟨w2.heap.size, 0, none⟩) 0 0), v9) _ hR.newA
            (try simp only [Go.Up.putAll, Act.put, List.setIfInBounds_toArray, List.set_cons_zero, List.set_cons_succ] at hj)
            (try simp only [Go.Up.putAll, Act.put, List.setIfInBounds_toArray, List.set_cons_zero, List.set_cons_succ])
            exact hj
          · refine stA (i := 22) (N := some 17) #[false, true, true, true, false, true, true, true, false, true, true, true, true, false, true, true, true, false, false, false, false, false, true, false, false] rfl rfl (by kernel_rfl) ?_
            intro K hK
            go_simp
            refine hK.out _ _ ?_
            have hj := J9_22.out (v9, w2.heap.size) _ hR.newZ
            (try simp only [Go.Up.putAll, Act.put, List.setIfInBounds_toArray, List.set_cons_zero, List.set_cons_succ] at hj)
            (try simp only [Go.Up.putAll, Act.put, List.setIfInBounds_toArray, List.set_cons_zero, List.set_cons_succ])
            exact hj
        intro J9
        replace J9 := Aside0.mk J9
        refine joinA (σ := Nat) 12 #[false, true, true, true, false, true, true, true, false, false, true, true, true, false, true, true, true, false, false, false, false, false, true, false, false] (fun (p : Nat) => [(17, .pointer (some ⟨p, 0, none⟩))]) (fun (p : Nat) => fun w2 => Rg wr w2 (none) (none) (some p)) ?_ ?_
        · rintro g w2 hR
          try dsimp only at hR
          simp only [Go.Up.putAll, Act.put, List.setIfInBounds_toArray, List.set_cons_zero, List.set_cons_succ]
          refine al2 (i := 0) (j := 9) (by kernel_rfl) ?_ ?_
          · refine stA (i := 0) (N := some 108) #[true, true, true, true, false, true, true, true, false, false, true, true, true, false, true, true, true, false, false, false, false, false, true, false, false] rfl rfl (by kernel_rfl) ?_
            intro K hK
            go_simp
            refine hK.out _ _ ?_
            have hj := J0_22.out ((.slice (some ⟨w2.heap.size, 0, none⟩) 0 0), g) _ hR.newA
            (try simp only [Go.Up.putAll, Act.put, List.setIfInBounds_toArray, List.set_cons_zero, List.set_cons_succ] at hj)
            (try simp only [Go.Up.putAll, Act.put, List.setIfInBounds_toArray, List.set_cons_zero, List.set_cons_succ])
            exact hj
          · refine stA (i := 9) (N := some 117) #[false, true, true, true, false, true, true, true, false, true, true, true, true, false, true, true, true, false, false, false, false, false, true, false, false] rfl rfl (by kernel_rfl) ?_
            intro K hK
            go_simp
            refine hK.out _ _ ?_
            have hj := J9_22.out ((.slice (some ⟨w2.heap.size, 0, none⟩) 0 0), g) _ hR.newB
            (try simp only [Go.Up.putAll, Act.put, List.setIfInBounds_toArray, List.set_cons_zero, List.set_cons_succ] at hj)
            (try simp only [Go.Up.putAll, Act.put, List.setIfInBounds_toArray, List.set_cons_zero, List.set_cons_succ])
            exact hj
        intro J22
        replace J22 := Aside0.mk J22
        have hR : Rg wr wr.drew none none none := ⟨HDr.out, fun v l e => (by cases e), fun v l e => (by cases e), fun g e => (by cases e)⟩
        obtain ⟨w2, hw2⟩ : ∃ w2, wr.drew = w2 := ⟨_, rfl⟩
        rw [hw2] at hR ⊢
        clear hw2
        refine al3 (i := 0) (j := 9) (m := 22) (by kernel_rfl) ?_ ?_ ?_
        · refine stA (i := 0) (N := some 108) #[true, true, true, true, false, true, true, true, false, false, true, true, true, false, true, true, true, false, false, false, false, false, false, false, false] rfl rfl (by kernel_rfl) ?_
          intro K hK
          go_simp
          refine hK.out _ _ ?_
          have hj := J0.out ((.slice (some ⟨w2.heap.size, 0, none⟩) 0 0)) _ hR.newA
          (try simp only [Go.Up.putAll, Act.put, List.setIfInBounds_toArray, List.set_cons_zero, List.set_cons_succ] at hj)
          (try simp only [Go.Up.putAll, Act.put, List.setIfInBounds_toArray, List.set_cons_zero, List.set_cons_succ])
          exact hj
        · refine stA (i := 9) (N := some 117) #[false, true, true, true, false, true, true, true, false, true, true, true, true, false, true, true, true, false, false, false, false, false, false, false, false] rfl rfl (by kernel_rfl) ?_
          intro K hK
          go_simp
          refine hK.out _ _ ?_
          have hj := J9.out ((.slice (some ⟨w2.heap.size, 0, none⟩) 0 0)) _ hR.newB
          (try simp only [Go.Up.putAll, Act.put, List.setIfInBounds_toArray, List.set_cons_zero, List.set_cons_succ] at hj)
          (try simp only [Go.Up.putAll, Act.put, List.setIfInBounds_toArray, List.set_cons_zero, List.set_cons_succ])
          exact hj
        · refine stA (i := 22) (N := some 17) #[false, true, true, true, false, true, true, true, false, false, true, true, true, false, true, true, true, false, false, false, false, false, true, false, false] rfl rfl (by kernel_rfl) ?_
          intro K hK
          go_simp
          refine hK.out _ _ ?_
          have hj := J22.out (w2.heap.size) _ hR.newZ
          (try simp only [Go.Up.putAll, Act.put, List.setIfInBounds_toArray, List.set_cons_zero, List.set_cons_succ] at hj)
          (try simp only [Go.Up.putAll, Act.put, List.setIfInBounds_toArray, List.set_cons_zero, List.set_cons_succ])
          exact hj
end Go.Proofs.Ytgpjkojnmeaoiaa.QV
