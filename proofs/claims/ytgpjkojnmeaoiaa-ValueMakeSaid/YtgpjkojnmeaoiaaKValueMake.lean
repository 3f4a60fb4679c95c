/- The walk of the law ValueMake, by hand. -/
import Derived.Test.YtgpjkojnmeaoiaaKD
import Derived.Deep.Slices
import Derived.RegionTactic
import Derived.Test.YtgpjkojnmeaoiaaKB
import Derived.Test.YtgpjkojnmeaoiaaKC
/- Get is as specified for arbitrary values: the walk of the law, by hand. -/
namespace Go.Proofs.Ytgpjkojnmeaoiaa.QV
open Go Go.RowKit Go.Proofs.YtgpjkojnmeaoiaaW.PrintWords Go.Proofs.YtgpjkojnmeaoiaaW.PrintLast Go.Proofs.YtgpjkojnmeaoiaaW.PrintMore
set_option linter.unusedVariables false
set_option linter.unusedSimpArgs false
set_option maxRecDepth 100000
set_option maxHeartbeats 4000000
theorem wv_z : Wv zV := .mk _ (by simp [zV]) (by simp [zV]) (show (⟨#[]⟩ : ByteArray).size ≤ 140737488351232 from Nat.zero_le _) (by simp [zV]) (by simp [zV]) (by simp [zV]) (by simp [zV])
theorem gp_wv {x : S28} {s : ByteArray} (hx : Wv x) : Wv (gp (gr x s)) := by
  unfold gr
  split
  · cases h : getV x.f3 x.f4 s with
    | none => exact wv_z
    | some y => exact hx.es _ (getV_mem h)
  · exact wv_z
theorem law_get (x : S28) (s : ByteArray) (w : World) {A3 : Option Addr} {c3 : Nat} {A4 : Option Addr} {c4 : Nat} (hx : Wv x) (hr : Rd w A3 c3 A4 c4 x) (hsz : s.size ≤ 140737488351232) :
    Calls Try.prog 6 #[.agg #[.int .i64 x.f0, .int .i64 x.f1, .string x.f2, .slice A3 x.f3.length c3, .slice A4 x.f4.length c4], .string s] w fun e w' => e = .returned (.bool true) ∧ Below w.heap.size w w' := by
  have hB1 : Bv (w.alloc (.cells #[.int .i64 x.f0, .int .i64 x.f1, .string x.f2, .slice A3 x.f3.length c3, .slice A4 x.f4.length c4] 28)) w.heap.size A3 c3 A4 c4 x := Bv.new hr
  have hb1 := new_below w (.cells #[.int .i64 x.f0, .int .i64 x.f1, .string x.f2, .slice A3 x.f3.length c3, .slice A4 x.f4.length c4] 28)
  have hb2 := new_below (w.alloc (.cells #[.int .i64 x.f0, .int .i64 x.f1, .string x.f2, .slice A3 x.f3.length c3, .slice A4 x.f4.length c4] 28)) (.cells #[.int .i64 x.f0, .int .i64 x.f1, .string x.f2, .slice A3 x.f3.length c3, .slice A4 x.f4.length c4] 28)
  have hb := below_step hb1 hb2
  have hs := oneLit _ (hr.below hb1)
  have hB2 := hB1.below hb2
  rw [show (w.alloc (.cells #[.int .i64 x.f0, .int .i64 x.f1, .string x.f2, .slice A3 x.f3.length c3, .slice A4 x.f4.length c4] 28)).heap.size = w.heap.size + 1 from by simp] at hs
  have hq : Calls Try.prog 11 #[.int .i64 200, .slice (some ⟨w.heap.size + 1, 0, none⟩) 1 1] ((w.alloc (.cells #[.int .i64 x.f0, .int .i64 x.f1, .string x.f2, .slice A3 x.f3.length c3, .slice A4 x.f4.length c4] 28)).alloc (.cells #[.int .i64 x.f0, .int .i64 x.f1, .string x.f2, .slice A3 x.f3.length c3, .slice A4 x.f4.length c4] 28)) _ := smallC 200 [x] ((w.alloc (.cells #[.int .i64 x.f0, .int .i64 x.f1, .string x.f2, .slice A3 x.f3.length c3, .slice A4 x.f4.length c4] 28)).alloc (.cells #[.int .i64 x.f0, .int .i64 x.f1, .string x.f2, .slice A3 x.f3.length c3, .slice A4 x.f4.length c4] 28)) (c := 1) (by decide) (by decide) hs (by simpa using hx) (by simp)
  obtain ⟨W, hW⟩ : ∃ W, (w.alloc (.cells #[.int .i64 x.f0, .int .i64 x.f1, .string x.f2, .slice A3 x.f3.length c3, .slice A4 x.f4.length c4] 28)).alloc (.cells #[.int .i64 x.f0, .int .i64 x.f1, .string x.f2, .slice A3 x.f3.length c3, .slice A4 x.f4.length c4] 28) = W := ⟨_, rfl⟩
  rw [hW] at hq hb hB2
  have HQ := Aside0.mk hq
  have HB := Aside0.mk hb
  have HV := Aside0.mk hB2
  have HWe := Aside0.mk hW
  clear hb1 hb2 hb hs hB2 hq hW
  obtain ⟨p0, p1, p2, p3, p4⟩ := hB1.cells
  obtain ⟨sm, hsm⟩ : ∃ s, decide ((cnt x : Int) ≤ 200) = s := ⟨_, rfl⟩
  rw [List.all_cons, List.all_nil, Bool.and_true, hsm] at HQ
  have HX := Aside0.mk hx
  have HSm := Aside0.mk hsm
  have HW4 := Aside0.mk (gp_wv (s := s) hx)
  clear hx hr hsm hB1
  cases sm with
  | false =>
    go_enter Try.func6, Try.ntmps6
    go_wp2_with (first | ((rw [HWe.out]); (go_at_call 11); (with_reducible refine HQ.out.mono ?_); rintro e we ⟨rfl, hb⟩; have HW2 := Aside0.mk (below_step HB.out hb); clear hb) | (go_at_call 12; (with_reducible refine (awakeC _).mono ?_); rintro e we2 ⟨rfl, hb⟩; have Hb := Aside0.mk hb; clear hb))
    go_ret
    exact ⟨rfl, below_step HW2.out Hb.out⟩
  | true =>
  by_cases cs : s.size ≤ 50
  rotate_left
  · have g1 : decide ((s.size : Int) > 50) = true := decide_eq_true (by omega)
    have g1' : decide (50 < s.size) = true := decide_eq_true (by omega)
    clear cs
    go_enter Try.func6, Try.ntmps6
    go_wp2_with (first | ((rw [HWe.out]); (go_at_call 11); (with_reducible refine HQ.out.mono ?_); rintro e we ⟨rfl, hb⟩; have HW2 := Aside0.mk (below_step HB.out hb); clear hb) | (go_at_call 12; (with_reducible refine (awakeC _).mono ?_); rintro e we2 ⟨rfl, hb⟩; have Hb := Aside0.mk hb; clear hb))
    go_ret
    exact ⟨rfl, below_step HW2.out Hb.out⟩
  have g1 : decide ((s.size : Int) > 50) = false := decide_eq_false (by omega)
  have g1' : decide (50 < s.size) = false := decide_eq_false (by omega)
  have hc : cnt x ≤ 200 := by have := of_decide_eq_true HSm.out; omega
  have HG : Aside0 (∀ W1, Bv W1 w.heap.size A3 c3 A4 c4 x → Calls Try.prog 35 #[.agg #[.int .i64 x.f0, .int .i64 x.f1, .string x.f2, .slice A3 x.f3.length c3, .slice A4 x.f4.length c4], .string s] W1 (GetPost (gr x s) W1) ∧ Calls Try.prog 36 #[.agg #[.int .i64 x.f0, .int .i64 x.f1, .string x.f2, .slice A3 x.f3.length c3, .slice A4 x.f4.length c4], .string s] W1 (GetPost (gr x s) W1)) := ⟨fun W1 h => ⟨valueGetC x s W1 HX.out (by omega) h.rd, refGetC x s W1 HX.out (by omega) h.rd⟩⟩
  obtain ⟨r, hr⟩ : ∃ r, gr x s = r := ⟨_, rfl⟩
  rw [hr] at HG HW4
  obtain ⟨y, hy⟩ : ∃ y, gp r = y := ⟨_, rfl⟩
  obtain ⟨f, hf⟩ : ∃ f, r.isSome = f := ⟨_, rfl⟩
  have HG1 : Aside0 (∀ W1, Bv W1 w.heap.size A3 c3 A4 c4 x → Calls Try.prog 35 #[.agg #[.int .i64 x.f0, .int .i64 x.f1, .string x.f2, .slice A3 x.f3.length c3, .slice A4 x.f4.length c4], .string s] W1 fun e w' => ∃ (Y3 : Option Addr) (y3 : Nat) (Y4 : Option Addr) (y4 : Nat), e = .returned (.tuple #[.agg #[.int .i64 y.f0, .int .i64 y.f1, .string y.f2, .slice Y3 y.f3.length y3, .slice Y4 y.f4.length y4], .bool f]) ∧ Rd w' Y3 y3 Y4 y4 y ∧ Below W1.heap.size W1 w') := ⟨fun W1 h => by have k := (HG.out W1 h).1; unfold GetPost at k; rw [hy, hf] at k; exact k⟩
  have HG2 : Aside0 (∀ W1, Bv W1 w.heap.size A3 c3 A4 c4 x → Calls Try.prog 36 #[.agg #[.int .i64 x.f0, .int .i64 x.f1, .string x.f2, .slice A3 x.f3.length c3, .slice A4 x.f4.length c4], .string s] W1 fun e w' => ∃ (Y3 : Option Addr) (y3 : Nat) (Y4 : Option Addr) (y4 : Nat), e = .returned (.tuple #[.agg #[.int .i64 y.f0, .int .i64 y.f1, .string y.f2, .slice Y3 y.f3.length y3, .slice Y4 y.f4.length y4], .bool f]) ∧ Rd w' Y3 y3 Y4 y4 y ∧ Below W1.heap.size W1 w') := ⟨fun W1 h => by have k := (HG.out W1 h).2; unfold GetPost at k; rw [hy, hf] at k; exact k⟩
  rw [hy] at HW4
  have HSa : Aside0 (∀ (W1 : World) (Y3 : Option Addr) (y3 : Nat) (Y4 : Option Addr) (y4 : Nat) (Z3 : Option Addr) (z3 : Nat) (Z4 : Option Addr) (z4 : Nat), Rd W1 Y3 y3 Y4 y4 y → Rd W1 Z3 z3 Z4 z4 y → Calls Try.prog 19 #[.agg #[.int .i64 y.f0, .int .i64 y.f1, .string y.f2, .slice Y3 y.f3.length y3, .slice Y4 y.f4.length y4], .agg #[.int .i64 y.f0, .int .i64 y.f1, .string y.f2, .slice Z3 y.f3.length z3, .slice Z4 y.f4.length z4]] W1 fun e w' => e = .returned (.bool true) ∧ Below W1.heap.size W1 w') := ⟨fun W1 Y3 y3 Y4 y4 Z3 z3 Z4 z4 h1 h2 => (sameC _ y y W1 (Nat.lt_succ_self _) HW4.out h1 h2).mono (by
    rintro e w' ⟨r, rfl, h, hb⟩
    rw [h.2 rfl]
    exact ⟨rfl, hb⟩)⟩
  clear hr hy hf HG cs hc HSm HX
  go_enter Try.func6, Try.ntmps6
  go_wp2_with (first | ((rw [HWe.out]); (go_at_call 11); (with_reducible refine HQ.out.mono ?_); rintro e we ⟨rfl, hb⟩; have HW2 := Aside0.mk (below_step HB.out hb); have HV2 := Aside0.mk (HV.out.below hb); obtain ⟨q0, q1, q2, q3, q4⟩ := HV2.out.cells; clear hb) | (go_at_call 35; (with_reducible refine (HG1.out _ HV2.out).mono ?_); rintro e we2 ⟨Y3, y3, Y4, y4, rfl, hrd, hb⟩; have HBy := Aside0.mk (Bv.new hrd); have hb5 := below_step hb (new_below we2 (.cells #[.int .i64 y.f0, .int .i64 y.f1, .string y.f2, .slice Y3 y.f3.length y3, .slice Y4 y.f4.length y4] 28)); have HW3 := Aside0.mk (below_step HW2.out hb5); have HV3 := Aside0.mk (HV2.out.below hb5); obtain ⟨r0, r1, r2, r3, r4⟩ := HV3.out.cells; clear hb hrd hb5) | (go_at_call 36; (with_reducible refine (HG2.out _ HV3.out).mono ?_); rintro e we3 ⟨Z3, z3, Z4, z4, rfl, hrd, hb⟩; have HBz := Aside0.mk (Bv.new hrd); have hb5 := below_step hb (new_below we3 (.cells #[.int .i64 y.f0, .int .i64 y.f1, .string y.f2, .slice Z3 y.f3.length z3, .slice Z4 y.f4.length z4] 28)); have HW5 := Aside0.mk (below_step HW3.out hb5); have HBy2 := Aside0.mk (HBy.out.below hb5); obtain ⟨s0, s1, s2, s3, s4⟩ := HBy2.out.cells; obtain ⟨t0, t1, t2, t3, t4⟩ := HBz.out.cells; clear hb hrd hb5) | (go_at_call 19; (with_reducible refine (HSa.out _ _ _ _ _ _ _ _ _ HBy2.out.rd HBz.out.rd).mono ?_); rintro e we4 ⟨rfl, hb⟩; have HW6 := Aside0.mk (below_step HW5.out hb); clear hb) | (go_at_call 12; (with_reducible refine (awakeC _).mono ?_); rintro e we5 ⟨rfl, hb⟩; have Hb := Aside0.mk hb; clear hb))
  go_ret
  exact ⟨rfl, below_step HW6.out Hb.out⟩
end Go.Proofs.Ytgpjkojnmeaoiaa.QV

/- What an object is made of: the plain half of ValueMembers. -/
namespace Go.Proofs.Ytgpjkojnmeaoiaa.QV
open Go Go.RowKit Go.Proofs.YtgpjkojnmeaoiaaW.PrintWords Go.Proofs.YtgpjkojnmeaoiaaW.PrintLast Go.Proofs.YtgpjkojnmeaoiaaW.PrintMore
set_option linter.unusedVariables false
set_option linter.unusedSimpArgs false
set_option maxRecDepth 100000
set_option maxHeartbeats 4000000
theorem dd_cons2 (a b : Mem) (l : List Mem) : dd (a :: b :: l) = if b.1 = a.1 then dd (b :: l) else a :: dd (b :: l) := by rw [dd]
theorem dd_sub : ∀ l : List Mem, (dd l).Sublist l
  | [] => by simp [dd]
  | [a] => by simp [dd]
  | a :: b :: l => by
    rw [dd_cons2]
    split
    · exact (dd_sub (b :: l)).cons a
    · exact (dd_sub (b :: l)).cons_cons a
theorem dd_sk : ∀ l : List Mem, l.Pairwise lexM → Sk ((dd l).map (·.1))
  | [], _ => List.Pairwise.nil
  | [a], _ => by simp [dd, Sk]
  | a :: b :: l, h => by
    have h1 := List.pairwise_cons.1 h
    have ih := dd_sk (b :: l) h1.2
    rw [dd_cons2]
    split
    · exact ih
    · rename_i c
      refine List.pairwise_cons.2 ⟨fun k hk => ?_, ih⟩
      obtain ⟨m, hm, rfl⟩ := List.mem_map.1 hk
      have hab : blt a.1 b.1 = true := (h1.1 b List.mem_cons_self).resolve_right (fun e => c e.1.symm)
      rcases List.mem_cons.1 (dd_mem hm) with rfl | hm
      · exact hab
      · rcases (List.pairwise_cons.1 h1.2).1 m hm with q | ⟨q, _⟩
        · exact blt_trans hab q
        · rw [← q]; exact hab
theorem dd_max : ∀ l : List Mem, l.Pairwise lexM → ∀ m ∈ l, ∃ q ∈ dd l, q.1 = m.1 ∧ m.2 ≤ q.2
  | [], _, m, h => by simp at h
  | [a], _, m, h => by
    obtain rfl := List.mem_singleton.1 h
    exact ⟨m, by simp [dd], rfl, by omega⟩
  | a :: b :: l, h, m, hm => by
    have h1 := List.pairwise_cons.1 h
    have ih := dd_max (b :: l) h1.2
    rw [dd_cons2]
    rcases List.mem_cons.1 hm with rfl | hm
    · split
      · rename_i c
        obtain ⟨q, hq, e1, e2⟩ := ih b List.mem_cons_self
        rcases h1.1 b List.mem_cons_self with k | ⟨_, k⟩
        · rw [c, blt_irrefl] at k; cases k
        · exact ⟨q, hq, e1.trans c, by omega⟩
      · exact ⟨m, List.mem_cons_self, rfl, by omega⟩
    · obtain ⟨q, hq, e1, e2⟩ := ih m hm
      split
      · exact ⟨q, hq, e1, e2⟩
      · exact ⟨q, List.mem_cons_of_mem _ hq, e1, e2⟩
theorem mem_mems {ks : List ByteArray} {i : Nat} {k : ByteArray} (h : ks[i]? = some k) : (k, (i : Int)) ∈ mems ks := by
  obtain ⟨h1, rfl⟩ := List.getElem?_eq_some_iff.1 h
  unfold mems
  exact List.mem_mapIdx.2 ⟨i, h1, rfl⟩
/-- A key's value is that of its last index. -/
theorem ov_get {ks : List ByteArray} {es : List S28} {ms : List Mem} (hp : ms.Perm (mems ks)) (hs : ms.Pairwise lexM) (hl : ks.length = es.length) {i last : Nat} {k : ByteArray} (hi : ks[i]? = some k) (hla : ks[last]? = some k) (hm : ∀ j, ks[j]? = some k → j ≤ last) : getV (ov es ms).f3 (ov es ms).f4 k = es[last]? := by
  obtain ⟨q, hq, e1, e2⟩ := dd_max ms hs (k, (last : Int)) (hp.mem_iff.2 (mem_mems hla))
  obtain ⟨kq, ix⟩ := q
  obtain rfl : kq = k := e1
  obtain ⟨p, hp2, rfl, hkp⟩ := mems_mem (hp.mem_iff.1 (dd_mem hq))
  have hpl : p = last := by
    have := hm p hkp
    have : (last : Int) ≤ (p : Int) := e2
    omega
  subst hpl
  obtain ⟨j, hj⟩ := List.mem_iff_getElem?.1 hq
  have h1 : (ov es ms).f3[j]? = some kq := by simp [ov, hj]
  rw [getV_at (show Sk (ov es ms).f3 from dd_sk ms hs) (by simp [ov]) h1]
  have hpe : p < es.length := by have := (List.getElem?_eq_some_iff.1 hkp).1; omega
  simp [ov, hj, ge, hpe]
theorem ov_dup {ks : List ByteArray} {ms : List Mem} (hp : ms.Perm (mems ks)) (hs : ms.Pairwise lexM) {i j : Nat} {k : ByteArray} (hij : i < j) (hi : ks[i]? = some k) (hj : ks[j]? = some k) : (dd ms).length < ks.length := by
  have h1 := dd_len ms
  have h2 := hp.length_eq
  rw [mems_len] at h2
  rcases Nat.lt_or_ge (dd ms).length ks.length with h | h
  · exact h
  · exfalso
    have e : dd ms = ms := (dd_sub ms).eq_of_length (by omega)
    have hk := dd_sk ms hs
    rw [e] at hk
    obtain ⟨a, ha⟩ := List.mem_iff_getElem?.1 (hp.mem_iff.2 (mem_mems hi))
    obtain ⟨b, hb⟩ := List.mem_iff_getElem?.1 (hp.mem_iff.2 (mem_mems hj))
    have ka : (ms.map (·.1))[a]? = some k := by simp [ha]
    have kb : (ms.map (·.1))[b]? = some k := by simp [hb]
    rcases Nat.lt_trichotomy a b with h | h | h
    · have := hk.at h ka kb; rw [blt_irrefl] at this; cases this
    · subst h
      rw [ha] at hb
      have := congrArg (fun x : Mem => x.2) (Option.some.inj hb)
      simp at this
      omega
    · have := hk.at h kb ka; rw [blt_irrefl] at this; cases this
theorem dd_distinct {ks : List ByteArray} {ms : List Mem} (hp : ms.Perm (mems ks)) (hs : ms.Pairwise lexM) (hd : ∀ (i j : Nat) (k : ByteArray), ks[i]? = some k → ks[j]? = some k → i = j) : dd ms = ms := by
  have h : ∀ l : List Mem, l.Pairwise lexM → (∀ x ∈ l, ∀ y ∈ l, x.1 = y.1 → x.2 = y.2) → dd l = l := fun l => by
    induction l with
    | nil => intro _ _; rfl
    | cons a l ih =>
      intro h1 h2
      cases l with
      | nil => rfl
      | cons b l =>
        rw [dd_cons2, if_neg, ih (List.pairwise_cons.1 h1).2 (fun x hx y hy => h2 x (List.mem_cons_of_mem _ hx) y (List.mem_cons_of_mem _ hy))]
        intro e
        have := h2 b (List.mem_cons_of_mem _ List.mem_cons_self) a List.mem_cons_self e
        rcases (List.pairwise_cons.1 h1).1 b List.mem_cons_self with k | ⟨_, k⟩
        · rw [e, blt_irrefl] at k; cases k
        · omega
  refine h ms hs (fun x hx y hy e => ?_)
  obtain ⟨kx, ix⟩ := x
  obtain ⟨ky, iy⟩ := y
  obtain ⟨p, _, rfl, hkp⟩ := mems_mem (hp.mem_iff.1 hx)
  obtain ⟨q, _, rfl, hkq⟩ := mems_mem (hp.mem_iff.1 hy)
  obtain rfl : kx = ky := e
  rw [hd p q kx hkp hkq]
/-- The members as pairs. -/
def prs (es : List S28) (ms : List Mem) : List (ByteArray × S28) := ms.map (fun m => (m.1, ge es m))
theorem mems_zip (ks : List ByteArray) (es : List S28) (hl : ks.length = es.length) : prs es (mems ks) = ks.zip es := by
  apply List.ext_getElem?
  intro i
  unfold prs mems
  by_cases c : i < ks.length
  · have c2 : i < es.length := by omega
    rw [List.getElem?_eq_getElem (by simp; omega), List.getElem?_eq_getElem (by simp; omega)]
    simp [ge, c2]
  · rw [List.getElem?_eq_none (by simp; omega), List.getElem?_eq_none (by simp; omega)]
theorem rot_perm {α : Type} (l : List α) (s : Nat) : (l.drop s ++ l.take s).Perm l := by
  have h := List.perm_append_comm (l₁ := l.drop s) (l₂ := l.take s)
  rw [List.take_append_drop] at h
  exact h
theorem ov_rot {ks ks' : List ByteArray} {es es' : List S28} {ms ms' : List Mem} (hp : ms.Perm (mems ks)) (hs : ms.Pairwise lexM) (hp' : ms'.Perm (mems ks')) (hs' : ms'.Pairwise lexM) (hl : ks.length = es.length) (hl' : ks'.length = es'.length)
    (hd : ∀ (i j : Nat) (k : ByteArray), ks[i]? = some k → ks[j]? = some k → i = j) (hd' : ∀ (i j : Nat) (k : ByteArray), ks'[i]? = some k → ks'[j]? = some k → i = j) (hz : (ks'.zip es').Perm (ks.zip es)) : ov es' ms' = ov es ms := by
  have e := dd_distinct hp hs hd
  have e' := dd_distinct hp' hs' hd'
  have k1 := dd_sk ms hs
  have k1' := dd_sk ms' hs'
  rw [e] at k1
  rw [e'] at k1'
  have q : prs es' ms' = prs es ms := by
    refine perm_unique (r := fun a b : ByteArray × S28 => blt a.1 b.1 = true) (fun a b h k => ?_) _ _ ?_ ?_ ?_
    · have := blt_trans h k; rw [blt_irrefl] at this; cases this
    · have a1 : (prs es' ms').Perm (prs es' (mems ks')) := hp'.map _
      have a2 : (prs es ms).Perm (prs es (mems ks)) := hp.map _
      rw [mems_zip ks' es' hl'] at a1
      rw [mems_zip ks es hl] at a2
      exact a1.trans (hz.trans a2.symm)
    · unfold prs; exact List.pairwise_map.2 (List.pairwise_map.1 k1')
    · unfold prs; exact List.pairwise_map.2 (List.pairwise_map.1 k1)
  unfold ov
  rw [e, e']
  have q1 := congrArg (List.map (·.1)) q
  have q2 := congrArg (List.map (·.2)) q
  unfold prs at q1 q2
  simp only [List.map_map] at q1 q2
  have f1 : (fun x : ByteArray × S28 => x.1) ∘ (fun m : Mem => (m.1, ge es' m)) = fun m : Mem => m.1 := rfl
  have f2 : (fun x : ByteArray × S28 => x.1) ∘ (fun m : Mem => (m.1, ge es m)) = fun m : Mem => m.1 := rfl
  have f3 : (fun x : ByteArray × S28 => x.2) ∘ (fun m : Mem => (m.1, ge es' m)) = ge es' := rfl
  have f4 : (fun x : ByteArray × S28 => x.2) ∘ (fun m : Mem => (m.1, ge es m)) = ge es := rfl
  rw [f1, f2] at q1
  rw [f3, f4] at q2
  rw [q1, q2]
/-- A valid value at another depth: its form holds all the same. -/
theorem okf (st : Nat) : ∀ (x : S28) (ar : Nat), SizeOf.sizeOf x < st → okv true 0 x = true → okv true ar x = okv false ar x := by
  induction st with
  | zero => intro x ar h; omega
  | succ st ih =>
  intro x ar hs h
  have h0 := h
  rw [okv_eq] at h
  simp only [Bool.and_eq_true, Bool.or_eq_true, decide_eq_true_eq, Bool.not_true, Bool.false_or] at h
  have hf : fm x = true := h.1.2
  have hl : ∀ l : List S28, (∀ q ∈ l, SizeOf.sizeOf q < st ∧ okv true 0 q = true) → okL true (ar + 1) l = okL false (ar + 1) l := fun l => by
    induction l with
    | nil => intro _; rfl
    | cons a l ihl =>
      intro hq
      rw [okL, okL, ih a (ar + 1) (hq a List.mem_cons_self).1 (hq a List.mem_cons_self).2, ihl (fun q hm => hq q (List.mem_cons_of_mem _ hm))]
  rw [okv_eq, okv_eq, hf]
  simp only [Bool.not_true, Bool.false_or, Bool.not_false, Bool.true_or, Bool.and_true]
  by_cases h5 : x.f0 < 5
  · simp only [decide_eq_true h5, Bool.true_or]
  · rcases h.2 with h2 | h2
    · exact absurd h2 h5
    · rw [hl x.f4 (fun q hq => ⟨by have := sz_mem hq; omega, okv_mono _ q true 0 1 (Nat.lt_succ_self _) (by omega) (okL_mem h2.2 hq)⟩)]
theorem vd_okv {x : S28} (h : vd x = true) : okv true 0 x = true := by
  rw [vd_eq] at h
  simp only [Bool.and_eq_true] at h
  exact h.1.1
theorem okL_f {l : List S28} (h : ∀ q ∈ l, vd q = true) : okL true 1 l = okL false 1 l := by
  induction l with
  | nil => rfl
  | cons a l ih => rw [okL, okL, okf _ a 1 (Nat.lt_succ_self _) (vd_okv (h a List.mem_cons_self)), ih (fun q hq => h q (List.mem_cons_of_mem _ hq))]
theorem sk_ko : ∀ {l : List ByteArray} {p : Option ByteArray}, Sk l → (∀ k ∈ l, k.size ≤ 4096 ∧ u8 k = true) → (∀ q, p = some q → ∀ k ∈ l, blt q k = true) → ko p l = true := by
  intro l
  induction l with
  | nil => intro p _ _ _; exact ko_nil p
  | cons k l ih =>
    intro p h1 h2 h3
    rw [ko_cons, ih (List.pairwise_cons.1 h1).2 (fun a ha => h2 a (List.mem_cons_of_mem _ ha)) (fun q hq a ha => by obtain rfl := Option.some.inj hq; exact (List.pairwise_cons.1 h1).1 a ha), decide_eq_true (h2 k List.mem_cons_self).1, (h2 k List.mem_cons_self).2]
    cases p with
    | none => rfl
    | some q => simp [h3 q rfl k List.mem_cons_self]
theorem ov_vd {ks : List ByteArray} {es : List S28} {ms : List Mem} (hp : ms.Perm (mems ks)) (hs : ms.Pairwise lexM) (hl : ks.length = es.length) (hn : ks.length ≤ 20) (hk : ∀ k ∈ ks, k.size ≤ 4096 ∧ u8 k = true) (hv : ∀ y ∈ es, vd y = true) : vd (ov es ms) = ft (ov es ms) := by
  unfold vd ft fitR
  have hlen : (dd ms).length ≤ 20 := by
    have := dd_len ms
    have h2 := hp.length_eq
    rw [mems_len] at h2
    omega
  have hf : fm (ov es ms) = true := by
    have hko : ko none ((dd ms).map (·.1)) = true := sk_ko (dd_sk ms hs) (fun k h => hk k (ov_keys hp h)) (by simp)
    unfold fm kz
    simp only [ov, hko, u8E, List.length_map]
    simp
    omega
  have e : okv true 0 (ov es ms) = okv false 0 (ov es ms) := by
    rw [okv_eq, okv_eq, hf, okL_f (l := (ov es ms).f4) (fun q hq => hv q (ov_elems hp hl hq))]
    simp
  rw [e]
end Go.Proofs.Ytgpjkojnmeaoiaa.QV

/- keep.Short; value.Obj in all; two rows that are made in any order. -/
namespace Go.Proofs.Ytgpjkojnmeaoiaa.QV
open Go Go.RowKit Go.Proofs.YtgpjkojnmeaoiaaW.PrintWords Go.Proofs.YtgpjkojnmeaoiaaW.PrintLast Go.Proofs.YtgpjkojnmeaoiaaW.PrintMore
set_option linter.unusedVariables false
set_option linter.unusedSimpArgs false
set_option maxRecDepth 100000
set_option maxHeartbeats 4000000
theorem short_loop (m : Int) (l : List ByteArray) (hl : l.length ≤ 4611686018427387904) : ∀ (d : Nat) (i : Nat) (k : Nat), l.length - i ≤ d → d < k → i ≤ l.length → ndjqkeep_Short.l0 k m l (i : Int) = some ((l.drop i).all fun s => decide ((s.size : Int) ≤ m))
  | d, i, k, hd, hk, hi => by
    obtain ⟨k, rfl⟩ : ∃ j, k = j + 1 := ⟨k - 1, by omega⟩
    simp only [ndjqkeep_Short.l0]
    by_cases c : i < l.length
    · rw [if_pos (by omega), if_pos (by omega)]
      have h1 := List.drop_eq_getElem_cons c
      have e1 : rdOf ByteArray.empty l (i : Int) = l[i] := by unfold rdOf; simp [c]
      rw [e1, h1, List.all_cons]
      by_cases q : (l[i].size : Int) > m
      · rw [if_pos q, decide_eq_false (by omega)]; rfl
      · rw [if_neg q, decide_eq_true (by omega), Bool.true_and]
        obtain ⟨d, rfl⟩ : ∃ j, d = j + 1 := ⟨d - 1, by omega⟩
        rw [wrap_id ((i : Int) + 1) (by omega) (by omega)]
        exact short_loop m l hl d (i + 1) k (by omega) (by omega) (by omega)
    · rw [if_neg (by omega), List.drop_eq_nil_of_le (by omega)]
      rfl
theorem shortC (m : Int) (l : List ByteArray) (w : World) {A : Option Addr} {c : Nat} (hl : Kd.C Kd.string w A l.length l) (hc : l.length ≤ c) (hn : l.length ≤ 140737488351232) :
    Calls Try.prog 10 #[.int .i64 m, .slice A l.length c] w fun e w' => e = .returned (.bool (l.all fun s => decide ((s.size : Int) ≤ m))) ∧ Below w.heap.size w w' := by
  refine (ndjqkeep_Short.calls (l.length + 1) m A c l _ w hl hc (short_loop m l (by omega) l.length 0 _ (by omega) (by omega) (by omega))).mono ?_
  rintro e w' ⟨rfl, hb⟩
  exact ⟨by rw [List.drop_zero], drawn_below hb⟩
/-- What value.Obj answers for keys that are short: an error, or the valid object of the sorted members. -/
def ObjT (ks : List ByteArray) (es : List S28) (w : World) (e : Ending) (w' : World) : Prop :=
  (¬ (∀ y ∈ es, vd y = true) ∨ ¬ (∀ k ∈ ks, u8 k = true) ∨ ∃ ms : List Mem, ms.Perm (mems ks) ∧ ms.Pairwise lexM ∧ ft (ov es ms) = false) ∧ (∃ n : Int, n ≠ 0 ∧ BadObj w n e w') ∨
  (∀ y ∈ es, vd y = true) ∧ (∀ k ∈ ks, u8 k = true) ∧ ∃ (ms : List Mem) (X3 : Option Addr) (d3 : Nat) (X4 : Option Addr) (d4 : Nat), e = .returned (.tuple #[.agg #[.int .i64 ((ov es ms)).f0, .int .i64 ((ov es ms)).f1, .string ((ov es ms)).f2, .slice X3 ((ov es ms)).f3.length d3, .slice X4 ((ov es ms)).f4.length d4], .int .i64 0]) ∧ Rd w' X3 d3 X4 d4 (ov es ms) ∧ ms.Perm (mems ks) ∧ ms.Pairwise lexM ∧ Below w.heap.size w w' ∧ vd (ov es ms) = true ∧ ∀ (W2 : World) (b : Nat), b < w.heap.size → (∀ k, k ≠ b → k < w'.heap.size → W2.heap[k]? = w'.heap[k]?) → Rd W2 X3 d3 X4 d4 (ov es ms)
theorem valueObjT (ks : List ByteArray) (es : List S28) (w : World) {A : Option Addr} {c : Nat} {B : Option Addr} {d : Nat} (hlen : ks.length = es.length) (hk : Kd.C Kd.string w A ks.length ks) (hks : ∀ q ∈ ks, q.size ≤ 4096) (he : Kd.C k28 w B es.length es) (hw : ∀ y ∈ es, Wv y ∧ cnt y ≤ 1000000000000) (hn : ks.length ≤ 20) :
    Calls Try.prog 17 #[.slice A ks.length c, .slice B es.length d] w (ObjT ks es w) := by
  cases hall : es.all vd with
  | false =>
    have h := valueObj_inv (c := c) (d := d) (A := A) ks es w hlen he (fun y hy => ⟨(hw y hy).1, by have := (hw y hy).2; omega⟩) (by omega) hall
    exact h.mono (fun e w' hb => Or.inl ⟨Or.inl (fun hh => by rw [List.all_eq_true.2 hh] at hall; cases hall), 1, by decide, hb⟩)
  | true =>
    have hv : ∀ y ∈ es, vd y = true := List.all_eq_true.1 hall
    cases hu : ks.all u8 with
    | false =>
      have h := valueObj_bad (c := c) (d := d) ks es w hlen hk (fun q hq => by have := hks q hq; omega) he (fun y hy => ⟨(hw y hy).1, by have := (hw y hy).2; omega⟩) (by omega) hall hu
      exact h.mono (fun e w' hb => Or.inl ⟨Or.inr (Or.inl (fun hh => by rw [List.all_eq_true.2 hh] at hu; cases hu)), 6, by decide, hb⟩)
    | true =>
      have hk8 : ∀ k ∈ ks, u8 k = true := List.all_eq_true.1 hu
      have h := valueObj_ok (c := c) (d := d) ks es w hlen hk (fun q hq => by have := hks q hq; omega) he hw hn hall hu
      refine h.mono (fun e w' hb => ?_)
      unfold UObj at hb
      rw [if_neg (by
        unfold lg
        rw [List.any_eq_true]
        rintro ⟨k, hk, h⟩
        have := hks k hk
        have := of_decide_eq_true h
        omega)] at hb
      obtain ⟨ms, X3, d3, X4, d4, rfl, hr, hp, hs, hbb, hmv⟩ := hb
      have hvd := ov_vd hp hs hlen hn (fun k hk => ⟨hks k hk, hk8 k hk⟩) hv
      cases hft : ft (ov es ms) with
      | false =>
        rw [if_neg (by simp)]
        exact Or.inl ⟨Or.inr (Or.inr ⟨ms, hp, hs, hft⟩), 2, by decide, rfl, hbb⟩
      | true =>
        rw [if_pos rfl]
        exact Or.inr ⟨hv, hk8, ms, X3, d3, X4, d4, rfl, hr, hp, hs, hbb, by rw [hvd, hft], hmv⟩
/-! ### two rows and a block, made in any order -/
/-- A kind of elements that is told by a fixed relation. -/
def kRel {α : Type} (R : α → List Value → Prop) (sz : Nat) (h1 : ∀ x cs, R x cs → cs.length = sz) (h2 : ∀ x cs, R x cs → ∀ u ∈ cs, u.oneCell' = true) : Kd α where
  sz := sz
  E := []
  K := fun _ => R
  M := fun _ _ _ => R
  K_len := fun h => h1 _ _ h
  K_one := fun h => h2 _ _ h
  K_below := fun _ h => h
  K_of_M := fun h => h
  M_mono := fun _ h => h
  M_bound := fun h => h
  M_move := fun _ h => h
  M_lower := fun _ h => h
structure Rg (w W : World) (va : Option (Value × List ByteArray)) (vb : Option (Value × List S28)) (bz : Option Nat) : Prop where
  z : Below w.heap.size w W
  a : ∀ v l, va = some (v, l) → OwnRow kR 9 1 W w.heap.size v l
  b : ∀ v l, vb = some (v, l) → OwnRow (k28.K w) 28 5 W w.heap.size v l
  c : ∀ g, bz = some g → w.heap.size ≤ g ∧ W.heap[g]? = some (.cells #[.int .i64 0, .int .i64 0, .string ⟨#[]⟩, .slice none 0 0, .slice none 0 0] 28 (0, 0)) ∧ ∀ v l, vb = some (v, l) → v.ownBlock ≠ some g
theorem Rg.below {w W W' : World} {va vb bz} (h : Rg w W va vb bz) (hb : Below W.heap.size W W') : Rg w W' va vb bz :=
  ⟨below_step h.z hb, fun v l e => (h.a v l e).below hb, fun v l e => (h.b v l e).below hb, fun g e => ⟨(h.c g e).1, (hb.block g (Array.getElem?_eq_some_iff.1 (h.c g e).2.1).1).trans (h.c g e).2.1, (h.c g e).2.2⟩⟩
theorem Rg.newA {w W : World} {vb bz} (h : Rg w W none vb bz) : Rg w (W.alloc (.cells #[] 9)) (some (.slice (some ⟨W.heap.size, 0, none⟩) 0 0, [])) vb bz := by
  have h1 := h.below (new_below W (.cells #[] 9))
  refine ⟨h1.z, fun v l e => ?_, h1.b, h1.c⟩
  injection e with e
  injection e with e1 e2
  subst e1 e2
  exact OwnRow.lit (R := kR) (e := 9) (size := 1) W w.heap.size (ps := []) (inner := []) (Reps.none _ _) (Below.size h.z) (by simp)
theorem Rg.newB {w W : World} {va bz} (h : Rg w W va none bz) : Rg w (W.alloc (.cells #[] 28)) va (some (.slice (some ⟨W.heap.size, 0, none⟩) 0 0, [])) bz := by
  have h1 := h.below (new_below W (.cells #[] 28))
  refine ⟨h1.z, h1.a, fun v l e => ?_, fun g e => ⟨(h1.c g e).1, (h1.c g e).2.1, fun v l e2 => ?_⟩⟩
  · injection e with e
    injection e with e1 e2
    subst e1 e2
    exact OwnRow.lit (R := k28.K w) (e := 28) (size := 5) W w.heap.size (ps := []) (inner := []) (Reps.none _ _) (Below.size h.z) (by simp)
  · injection e2 with e2
    injection e2 with e1 e2
    subst e1
    intro e3
    have := (Array.getElem?_eq_some_iff.1 (h.c g e).2.1).1
    have := Option.some.inj e3
    simp at this
    omega
theorem Rg.newZ {w W : World} {va vb} (h : Rg w W va vb none) : Rg w (W.alloc (.cells #[.int .i64 0, .int .i64 0, .string ⟨#[]⟩, .slice none 0 0, .slice none 0 0] 28)) va vb (some W.heap.size) := by
  have h1 := h.below (new_below W (.cells #[.int .i64 0, .int .i64 0, .string ⟨#[]⟩, .slice none 0 0, .slice none 0 0] 28))
  refine ⟨h1.z, h1.a, h1.b, fun g e => ?_⟩
  obtain rfl := Option.some.inj e
  refine ⟨Below.size h.z, heap_alloc_new W _, fun v l e2 e3 => ?_⟩
  obtain ⟨inner, ho, _⟩ := h.b v l e2
  have := Go.Proofs.YtgpjkojnmeaoiaaW.PrintWords.own_lt ho _ e3
  omega
theorem Rg.moveA {w W W1 : World} {v v1 : Value} {xs xs1 : List ByteArray} {vb bz} (h : Rg w W (some (v, xs)) vb bz) (ho : OwnRow kR 9 1 W1 w.heap.size v1 xs1) (hb : Below w.heap.size w W1) (hg : W.grownBy W1 v.ownBlock) : Rg w W1 (some (v1, xs1)) vb bz := by
  obtain ⟨i0, o0, _⟩ := h.a v xs rfl
  refine ⟨hb, fun v2 l e => ?_, fun v2 l e => ?_, fun g e => ?_⟩
  · injection e with e
    injection e with e1 e2
    subst e1 e2
    exact ho
  · obtain ⟨i2, o2, r2⟩ := h.b v2 l e
    exact OwnRow.other ⟨i2, o2, r2⟩ hg (Go.Proofs.YtgpjkojnmeaoiaaW.PrintWords.own_type_ne o2 o0 (by decide))
  · obtain ⟨c1, c2, c3⟩ := h.c g e
    refine ⟨c1, (hg.block g (Array.getElem?_eq_some_iff.1 c2).1 (fun e2 => ?_)).trans c2, c3⟩
    obtain ⟨cells, hc⟩ := own_typed o0 g e2.symm
    rw [hc] at c2
    injection c2 with c2
    injection c2 with _ c2
    exact absurd c2 (by decide)
theorem Rg.moveB {w W W1 : World} {v v1 : Value} {xs xs1 : List S28} {va bz} (h : Rg w W va (some (v, xs)) bz) (ho : OwnRow (k28.K w) 28 5 W1 w.heap.size v1 xs1) (hb : Below w.heap.size w W1) (hg : W.grownBy W1 v.ownBlock) (hn : v1.ownBlock = v.ownBlock ∨ ∃ b, v1.ownBlock = some b ∧ W.heap.size ≤ b) : Rg w W1 va (some (v1, xs1)) bz := by
  obtain ⟨i0, o0, _⟩ := h.b v xs rfl
  refine ⟨hb, fun v2 l e => ?_, fun v2 l e => ?_, fun g e => ?_⟩
  · obtain ⟨i2, o2, r2⟩ := h.a v2 l e
    exact OwnRow.other ⟨i2, o2, r2⟩ hg (Go.Proofs.YtgpjkojnmeaoiaaW.PrintWords.own_type_ne o2 o0 (by decide))
  · injection e with e
    injection e with e1 e2
    subst e1 e2
    exact ho
  · obtain ⟨c1, c2, c3⟩ := h.c g e
    have hlt := (Array.getElem?_eq_some_iff.1 c2).1
    refine ⟨c1, (hg.block g hlt (fun e2 => c3 v xs rfl e2.symm)).trans c2, fun v2 l e2 e3 => ?_⟩
    injection e2 with e2
    injection e2 with e4 e5
    subst e4
    rcases hn with hn | ⟨b, hn, hlb⟩
    · exact c3 v xs rfl (hn ▸ e3)
    · rw [hn] at e3
      have := Option.some.inj e3
      omega
end Go.Proofs.Ytgpjkojnmeaoiaa.QV

/- Appends to two rows: the steps. -/
namespace Go.Proofs.Ytgpjkojnmeaoiaa.QV
open Go Go.RowKit Go.Proofs.YtgpjkojnmeaoiaaW.PrintWords Go.Proofs.YtgpjkojnmeaoiaaW.PrintLast Go.Proofs.YtgpjkojnmeaoiaaW.PrintMore
set_option linter.unusedVariables false
set_option linter.unusedSimpArgs false
set_option maxRecDepth 100000
set_option maxHeartbeats 4000000
theorem stepA {w W : World} {ops : Array Oper} {o : Oper} {a : Act} {Q : Exit → Act → World → Prop} {Kc : Act → World → Prop} {vb : Option (Value × List S28)} {bz : Option Nat} (hw : Region.wanted o (yielded ops a.tmps) = true) (s x : Operand)
    (ho : o.op = .call { callee := .builtin .append, args := #[s, x], argTypes := #[22, 22] }) (v : Value) (xs ys : List ByteArray) (A : Option Addr) (m c : Nat) (hs : a.eval s = v) (hx : a.eval x = .slice A m c)
    (H : Rg w W (some (v, xs)) vb bz) (HR : ReadsRow kR 1 W A m ys) (hl : xs.length + m ≤ 1000) (h : ∀ v1 w1, Rg w w1 (some (v1, xs ++ ys)) vb bz → Kc (a.put o.dst v1) w1) :
    if Region.wanted o (yielded ops a.tmps) = true then Oper.wp Try.prog o a W Kc Q else Kc (a.put o.dst undef) W :=
  Kd.R_append_rows_step (P := Try.prog) (kRel kR 1 (fun _ _ h => by rw [show _ = [Value.string _] from h]; rfl) (fun _ _ h => by rw [show _ = [Value.string _] from h]; simp [Value.oneCell'])) (Rr := kR) (w0 := w) (W := W) w.heap.size hw s x 22 9 (.string ⟨#[]⟩) 16 ho Try.underlying22 clone_info9 rfl (show 0 < 1 by decide) (by decide) v xs ys A m c (fun _ => True) (fun _ => False) hs hx
    ⟨fun _ _ => trivial, H.a v xs rfl⟩ HR (fun _ _ h => h) (fun _ h => h.elim) (fun _ _ => trivial) H.z (Below.size H.z) (by omega) (fun v1 w1 h1 h2 h3 _ => h v1 w1 (H.moveA h1.2 h2 h3))
theorem stepB {w W : World} {ops : Array Oper} {o : Oper} {a : Act} {Q : Exit → Act → World → Prop} {Kc : Act → World → Prop} {va : Option (Value × List ByteArray)} {bz : Option Nat} (hw : Region.wanted o (yielded ops a.tmps) = true) (s x : Operand)
    (ho : o.op = .call { callee := .builtin .append, args := #[s, x], argTypes := #[23, 23] }) (v : Value) (xs ys : List S28) (A : Option Addr) (m c : Nat) (hs : a.eval s = v) (hx : a.eval x = .slice A m c)
    (H : Rg w W va (some (v, xs)) bz) (HR : ReadsRow (k28.K w) 5 W A m ys) (hl : xs.length + m ≤ 1000) (h : ∀ v1 w1, Rg w w1 va (some (v1, xs ++ ys)) bz → Kc (a.put o.dst v1) w1) :
    if Region.wanted o (yielded ops a.tmps) = true then Oper.wp Try.prog o a W Kc Q else Kc (a.put o.dst undef) W :=
  Kd.R_append_rows_step (P := Try.prog) (kRel (k28.K w) 5 (fun _ _ h => k28.K_len h) (fun _ _ h => k28.K_one h)) (Rr := k28.K w) (w0 := w) (W := W) w.heap.size hw s x 23 28 (.agg #[.int .i64 0, .int .i64 0, .string ⟨#[]⟩, .slice none 0 0, .slice none 0 0]) 80 ho Try.underlying23 info28 rfl (show 0 < 5 by decide) (by decide) v xs ys A m c (fun _ => True) (fun _ => False) hs hx
    ⟨fun _ _ => trivial, H.b v xs rfl⟩ HR (fun _ _ h => h) (fun _ h => h.elim) (fun _ _ => trivial) H.z (Below.size H.z) (by omega) (fun v1 w1 h1 h2 h3 h4 => h v1 w1 (H.moveB h1.2 h2 h3 h4))
/-- A row of strings, read in a world above. -/
theorem rowA {w W : World} {A : Option Addr} {n : Nat} {l : List ByteArray} (h : Kd.C Kd.string w A n l) (hb : Below w.heap.size w W) : ReadsRow kR 1 W A n l := by
  have h2 := Kd.C_below h hb
  exact h2
theorem rowB {w W : World} {A : Option Addr} {n : Nat} {l : List S28} (h : Kd.C k28 w A n l) (hb : Below w.heap.size w W) : ReadsRow (k28.K w) 5 W A n l := ReadsRow.imp_ h hb (fun _ _ hp => hp)
theorem C_take {α : Type} {d : Kd α} {w : World} {A : Option Addr} {n : Nat} {l : List α} (h : Kd.C d w A n l) (m : Nat) (hm : m ≤ n) : Kd.C d w A m (l.take m) := by
  obtain ⟨h1, h2, h3⟩ := h
  refine ⟨by rw [List.length_take]; omega, by omega, fun hp => ?_⟩
  obtain ⟨ad, e, hc⟩ := h3 (by omega)
  refine ⟨ad, e, fun j p hj => hc j p ?_⟩
  rw [List.getElem?_take] at hj
  split at hj
  · exact hj
  · cases hj
theorem C_drop {α : Type} {d : Kd α} {w : World} {ad : Addr} {n : Nat} {l : List α} (h : Kd.C d w (some ad) n l) (m : Nat) (hm : m ≤ n) : Kd.C d w (some (ad.add (m * d.sz))) (n - m) (l.drop m) := by
  obtain ⟨h1, h2, h3⟩ := h
  refine ⟨by rw [List.length_drop]; omega, by omega, fun hp => ?_⟩
  obtain ⟨ad2, e, hc⟩ := h3 (by omega)
  obtain rfl := Option.some.inj e
  refine ⟨_, rfl, fun j p hj => ?_⟩
  rw [List.getElem?_drop] at hj
  obtain ⟨c, c1, c2, c3⟩ := hc (m + j) p hj
  refine ⟨c, c1, c2, fun i u hu => ?_⟩
  have := c3 i u hu
  rw [Go.Deep.add_add, show m * d.sz + (j * d.sz + i) = (m + j) * d.sz + i by rw [Nat.add_mul]; omega]
  exact this
/-- value.Obj on the rotated members: the same object. -/
theorem rotC {w W : World} {ks : List ByteArray} {es : List S28} {ms : List Mem} {n s : Nat} {v1 v2 : Value} {bz : Option Nat} (hR : Rg w W (some (v1, ks.drop s ++ ks.take s)) (some (v2, es.drop s ++ es.take s)) bz) (hl : ks.length = n ∧ es.length = n) (hn : n ≤ 10) (hp : ms.Perm (mems ks)) (hs : ms.Pairwise lexM) (hsz : ∀ q ∈ ks, q.size ≤ 20)
    (hw : ∀ y ∈ es, Wv y ∧ cnt y ≤ 50) (hv : ∀ y ∈ es, vd y = true) (hu : ∀ k ∈ ks, u8 k = true) (hd : ∀ (i j : Nat) (k : ByteArray), ks[i]? = some k → ks[j]? = some k → i = j) (hvd : vd (ov es ms) = true) :
    ∃ (A : Option Addr) (c : Nat) (B : Option Addr) (d : Nat), v1 = .slice A n c ∧ v2 = .slice B n d ∧ Calls Try.prog 17 #[.slice A n c, .slice B n d] W fun e w' => ∃ (Y3 : Option Addr) (y3 : Nat) (Y4 : Option Addr) (y4 : Nat), e = .returned (.tuple #[.agg #[.int .i64 ((ov es ms)).f0, .int .i64 ((ov es ms)).f1, .string ((ov es ms)).f2, .slice Y3 ((ov es ms)).f3.length y3, .slice Y4 ((ov es ms)).f4.length y4], .int .i64 0]) ∧ Rd w' Y3 y3 Y4 y4 (ov es ms) ∧ Below W.heap.size W w' ∧
      ∀ (W2 : World) (b : Nat), b < W.heap.size → (∀ k, k ≠ b → k < w'.heap.size → W2.heap[k]? = w'.heap[k]?) → Rd W2 Y3 y3 Y4 y4 (ov es ms) := by
  have hl1 : (ks.drop s ++ ks.take s).length = n := by rw [(rot_perm ks s).length_eq]; exact hl.1
  have hl2 : (es.drop s ++ es.take s).length = n := by rw [(rot_perm es s).length_eq]; exact hl.2
  obtain ⟨A, c, e1, l1, g1⟩ := (hR.a _ _ rfl).reads
  obtain ⟨B, d, e2, l2, g2⟩ := ((hR.b _ _ rfl).imp_ (fun _ _ h => k28.K_below hR.z h)).reads
  have hm1 : ∀ q, q ∈ ks.drop s ++ ks.take s → q ∈ ks := fun q hq => (rot_perm ks s).mem_iff.1 hq
  have hm2 : ∀ q, q ∈ es.drop s ++ es.take s → q ∈ es := fun q hq => (rot_perm es s).mem_iff.1 hq
  have h := valueObjT (A := A) (B := B) (c := c) (d := d) (ks.drop s ++ ks.take s) (es.drop s ++ es.take s) W (by omega) g1 (fun q hq => by have := hsz q (hm1 q hq); omega) g2 (fun y hy => ⟨(hw y (hm2 y hy)).1, by have := (hw y (hm2 y hy)).2; omega⟩) (by omega)
  have hd' : ∀ (i j : Nat) (k : ByteArray), (ks.drop s ++ ks.take s)[i]? = some k → (ks.drop s ++ ks.take s)[j]? = some k → i = j := by
    have nd : ks.Nodup := by
      refine List.pairwise_iff_getElem.2 (fun i j hi hj hij he => ?_)
      have := hd i j _ (List.getElem?_eq_getElem hi) ((List.getElem?_eq_getElem hj).trans (congrArg some he.symm))
      omega
    have nd' := (rot_perm ks s).nodup_iff.2 nd
    intro i j k hi hj
    obtain ⟨ai, ai2⟩ := List.getElem?_eq_some_iff.1 hi
    obtain ⟨aj, aj2⟩ := List.getElem?_eq_some_iff.1 hj
    have hpw := List.pairwise_iff_getElem.1 nd'
    rcases Nat.lt_trichotomy i j with h | h | h
    · exact absurd (ai2.trans aj2.symm) (hpw i j ai aj h)
    · exact h
    · exact absurd (aj2.trans ai2.symm) (hpw j i aj ai h)
  have hz : ((ks.drop s ++ ks.take s).zip (es.drop s ++ es.take s)).Perm (ks.zip es) := by
    rw [List.zip_append (by simp only [List.length_drop]; omega), show (ks.drop s).zip (es.drop s) = (ks.zip es).drop s from List.drop_zipWith.symm, show (ks.take s).zip (es.take s) = (ks.zip es).take s from List.take_zipWith.symm]
    exact rot_perm _ _
  have hov : ∀ ms2 : List Mem, ms2.Perm (mems (ks.drop s ++ ks.take s)) → ms2.Pairwise lexM → ov (es.drop s ++ es.take s) ms2 = ov es ms := fun ms2 q1 q2 => ov_rot hp hs q1 q2 (by omega) (by omega) hd hd' hz
  rw [hl1] at e1 l1 h
  rw [hl2] at e2 l2 h
  refine ⟨A, c, B, d, e1, e2, h.mono ?_⟩
  rintro e w' (⟨hb, _⟩ | ⟨_, _, ms2, X3, d3, X4, d4, rfl, hr, q1, q2, hb, _, hf⟩)
  · rcases hb with hb | hb | ⟨ms2, q1, q2, q3⟩
    · exact absurd (fun y hy => hv y (hm2 y hy)) hb
    · exact absurd (fun y hy => hu y (hm1 y hy)) hb
    · rw [hov ms2 q1 q2, ← ov_vd hp hs (by omega) (by omega) (fun k hk => ⟨by have := hsz k hk; omega, hu k hk⟩) hv, hvd] at q3
      cases q3
  · rw [hov ms2 q1 q2] at hr hf
    rw [hov ms2 q1 q2]
    exact ⟨X3, d3, X4, d4, rfl, hr, hb, hf⟩
/-! ### a region in any order: joins -/
section
variable {P : Program} {ops : Array Oper} {Q : Exit → Act → World → Prop} {md : Region.Mode}
theorem startA {id n : Nat} {a : Act} {w : World} (l : Array Bool) (hm : P.follows .mixedOrders = true) (hn : ops.size = n) (hl : Array.replicate n false = l) (h : wpAny P .any ops Q n l a w.drew) : (Code.region id ops true).wp P Q a w := by
  subst hn
  subst hl
  exact wp_region_any hm h
theorem takeA {i : Nat} {N : Option Tmp} {oi : Oper} (v : Value) {n : Nat} {l : Array Bool} {a : Act} {w : World} (l' : Array Bool) (hi : ops[i]? = some oi) (hN : oi.dst = N) (hc : (Region.noSelect ops && Region.free md ops l i && (Region.ready md ops l).contains i && (l.setIfInBounds i true == l')) = true)
    (hQ : ∀ c a w, Q (.panic c) (a.put oi.dst v) w → Q (.panic c) a w) (hw : Region.wanted oi (yielded ops a.tmps) = true) (hv : ∀ w, (execOp a.eval oi).run P w = .ok (.value v) w) {a' : Act} (ha : a.put N v = a') (h : wpAny P md ops Q n l' a' w) : wpAny P md ops Q (n + 1) l a w := by
  subst ha
  subst hN
  simp only [Bool.and_eq_true, beq_iff_eq] at hc
  obtain ⟨⟨⟨h1, h2⟩, h3⟩, h4⟩ := hc
  subst h4
  exact wpAny_take hi h1 h2 h3 hQ (Or.inl ⟨hw, hv⟩) h
theorem joinA {σ : Type} {n : Nat} {l : Array Bool} {a : Act} {w : World} (n' : Nat) (l' : Array Bool) (ns : σ → List (Tmp × Value)) (F : σ → World → Prop) (hcont : ∀ s w', F s w' → wpAny P md ops Q n' l' (Go.Up.putAll a (ns s)) w')
    (h : (∀ s w', F s w' → wpAny P md ops Q n' l' (Go.Up.putAll a (ns s)) w') → wpAny P md ops Q n l a w) : wpAny P md ops Q n l a w := h hcont
def Stp (P : Program) (md : Region.Mode) (ops : Array Oper) (Q : Exit → Act → World → Prop) (n : Nat) (l : Array Bool) (a : Act) (w : World) (i : Nat) : Prop := wpOp P ops Q i (wpAny P md ops Q n (l.setIfInBounds i true)) a w
theorem stA {i : Nat} {o : Oper} {N : Option Tmp} {n : Nat} {l : Array Bool} {a : Act} {w : World} (l' : Array Bool) (ho : ops[i]? = some o) (hN : o.dst = N) (hl : (l.setIfInBounds i true == l') = true)
    (h : ∀ K : Act → World → Prop, Shut (∀ a' w', wpAny P md ops Q n l' a' w' → K a' w') → if Region.wanted o (yielded ops a.tmps) = true then Oper.wp P o a w K Q else K (a.put N undef) w) : Stp P md ops Q n l a w i := by
  subst hN
  rw [beq_iff_eq] at hl
  subst hl
  exact wpOp_step ho (fun K hK => h K hK)
theorem al1 {i : Nat} {n : Nat} {l : Array Bool} {a : Act} {w : World} (hc : (Region.ready md ops l == [i]) = true) (h : Stp P md ops Q n l a w i) : wpAny P md ops Q (n + 1) l a w :=
  wpAny_all (by simpa using hc) (by simp) (fun k hk => by obtain rfl := List.mem_singleton.1 hk; exact h)
theorem al2 {i j : Nat} {n : Nat} {l : Array Bool} {a : Act} {w : World} (hc : (Region.ready md ops l == [i, j]) = true) (h : Stp P md ops Q n l a w i) (h2 : Stp P md ops Q n l a w j) : wpAny P md ops Q (n + 1) l a w :=
  wpAny_all (rs := [i, j]) (by simpa using hc) (by simp) (fun k hk => by
    rcases List.mem_cons.1 hk with rfl | hk
    · exact h
    · obtain rfl := List.mem_singleton.1 hk; exact h2)
theorem al3 {i j m : Nat} {n : Nat} {l : Array Bool} {a : Act} {w : World} (hc : (Region.ready md ops l == [i, j, m]) = true) (h : Stp P md ops Q n l a w i) (h2 : Stp P md ops Q n l a w j) (h3 : Stp P md ops Q n l a w m) : wpAny P md ops Q (n + 1) l a w :=
  wpAny_all (rs := [i, j, m]) (by simpa using hc) (by simp) (fun k hk => by
    rcases List.mem_cons.1 hk with rfl | hk
    · exact h
    · rcases List.mem_cons.1 hk with rfl | hk
      · exact h2
      · obtain rfl := List.mem_singleton.1 hk; exact h3)
theorem doneA {l : Array Bool} {a : Act} {w : World} (n : Nat) (hr : (Region.ready md ops l == []) = true) (h : Q .normal a w) : wpAny P md ops Q n l a w := wpAny_done (by simpa using hr) h n
end
end Go.Proofs.Ytgpjkojnmeaoiaa.QV

/- Makers: Bool, Num, Str, Arr of the program and of the reference: the leaves. -/
namespace Go.Proofs.Ytgpjkojnmeaoiaa.QV
open Go Go.RowKit Go.Proofs.YtgpjkojnmeaoiaaW.PrintWords Go.Proofs.YtgpjkojnmeaoiaaW.PrintLast Go.Proofs.YtgpjkojnmeaoiaaW.PrintMore
set_option linter.unusedVariables false
set_option linter.unusedSimpArgs false
set_option maxRecDepth 100000
set_option maxHeartbeats 4000000
theorem strV (s : ByteArray) (w : World) : Calls Try.prog 44 #[.string s] w fun e w' => e = .returned (.agg #[.int .i64 4, .int .i64 0, .string s, .slice none 0 0, .slice none 0 0]) ∧ Below w.heap.size w w' := by
  have HN : Aside0 ((w.alloc (.cells #[.int .i64 0, .int .i64 0, .string ⟨#[]⟩, .slice none 0 0, .slice none 0 0] 28)).heap[w.heap.size]? = some (.cells #[.int .i64 0, .int .i64 0, .string ⟨#[]⟩, .slice none 0 0, .slice none 0 0] 28 (0, 0))) := ⟨heap_alloc_new w _⟩
  have HB := Aside0.mk (new_below w (.cells #[.int .i64 0, .int .i64 0, .string ⟨#[]⟩, .slice none 0 0, .slice none 0 0] 28))
  go_enter Try.func44, Try.ntmps44
  go_upto_region 1 with fail
  obtain ⟨b, hb⟩ : ∃ b, w.heap.size = b := ⟨_, rfl⟩
  have hbb : Aside0 (w.heap.size ≤ b) := ⟨by omega⟩
  have hbl : Aside0 (b < (w.alloc (.cells #[.int .i64 0, .int .i64 0, .string ⟨#[]⟩, .slice none 0 0, .slice none 0 0] 28)).heap.size) := ⟨by simp; omega⟩
  obtain ⟨W, hW⟩ : ∃ W, w.alloc (.cells #[.int .i64 0, .int .i64 0, .string ⟨#[]⟩, .slice none 0 0, .slice none 0 0] 28) = W := ⟨_, rfl⟩
  rw [hW, hb] at HN
  rw [hW] at HB hbl
  rw [hW, hb]
  clear hW hb
  obtain ⟨t0, t1, t2, t3, t4, t5⟩ := zero5 HN.out
  obtain ⟨W', hW', ⟨u0, u1, u2, u3, u4⟩, hg, hz⟩ := fill5 HN.out HB.out hbb.out (.int .i64 4) (.int .i64 0) (.string s) (.slice none 0 0) (.slice none 0 0)
  have HF := Aside0.mk hW'
  have HZ := Aside0.mk hz
  clear hW' hg hz
  go_wp2_with fail
  rw [HF.out]
  exact bodyPost_ret (v := .agg #[.int .i64 4, .int .i64 0, .string s, .slice none 0 0, .slice none 0 0]) (by simp [results, Try.results44, go_sem, u0, u1, u2, u3, u4]) rfl ⟨rfl, HZ.out⟩
theorem textV (s : ByteArray) (w : World) : Calls Try.prog 47 #[.string s] w fun e w' => e = .returned (.agg #[.int .i64 4, .int .i64 0, .string s, .slice none 0 0, .slice none 0 0]) ∧ Below w.heap.size w w' := by
  have HN : Aside0 ((w.alloc (.cells #[.int .i64 0, .int .i64 0, .string ⟨#[]⟩, .slice none 0 0, .slice none 0 0] 28)).heap[w.heap.size]? = some (.cells #[.int .i64 0, .int .i64 0, .string ⟨#[]⟩, .slice none 0 0, .slice none 0 0] 28 (0, 0))) := ⟨heap_alloc_new w _⟩
  have HB := Aside0.mk (new_below w (.cells #[.int .i64 0, .int .i64 0, .string ⟨#[]⟩, .slice none 0 0, .slice none 0 0] 28))
  go_enter Try.func47, Try.ntmps47
  go_upto_region 1 with fail
  obtain ⟨b, hb⟩ : ∃ b, w.heap.size = b := ⟨_, rfl⟩
  have hbb : Aside0 (w.heap.size ≤ b) := ⟨by omega⟩
  have hbl : Aside0 (b < (w.alloc (.cells #[.int .i64 0, .int .i64 0, .string ⟨#[]⟩, .slice none 0 0, .slice none 0 0] 28)).heap.size) := ⟨by simp; omega⟩
  obtain ⟨W, hW⟩ : ∃ W, w.alloc (.cells #[.int .i64 0, .int .i64 0, .string ⟨#[]⟩, .slice none 0 0, .slice none 0 0] 28) = W := ⟨_, rfl⟩
  rw [hW, hb] at HN
  rw [hW] at HB hbl
  rw [hW, hb]
  clear hW hb
  obtain ⟨t0, t1, t2, t3, t4, t5⟩ := zero5 HN.out
  obtain ⟨W', hW', ⟨u0, u1, u2, u3, u4⟩, hg, hz⟩ := fill5 HN.out HB.out hbb.out (.int .i64 4) (.int .i64 0) (.string s) (.slice none 0 0) (.slice none 0 0)
  have HF := Aside0.mk hW'
  have HZ := Aside0.mk hz
  clear hW' hg hz
  go_wp2_with fail
  rw [HF.out]
  exact bodyPost_ret (v := .agg #[.int .i64 4, .int .i64 0, .string s, .slice none 0 0, .slice none 0 0]) (by simp [results, Try.results47, go_sem, u0, u1, u2, u3, u4]) rfl ⟨rfl, HZ.out⟩
theorem arrV (A : Option Addr) (n c : Nat) (w : World) : Calls Try.prog 50 #[.slice A n c] w fun e w' => e = .returned (.agg #[.int .i64 5, .int .i64 0, .string ⟨#[]⟩, .slice none 0 0, .slice A n c]) ∧ Below w.heap.size w w' := by
  have HN : Aside0 ((w.alloc (.cells #[.int .i64 0, .int .i64 0, .string ⟨#[]⟩, .slice none 0 0, .slice none 0 0] 28)).heap[w.heap.size]? = some (.cells #[.int .i64 0, .int .i64 0, .string ⟨#[]⟩, .slice none 0 0, .slice none 0 0] 28 (0, 0))) := ⟨heap_alloc_new w _⟩
  have HB := Aside0.mk (new_below w (.cells #[.int .i64 0, .int .i64 0, .string ⟨#[]⟩, .slice none 0 0, .slice none 0 0] 28))
  go_enter Try.func50, Try.ntmps50
  go_upto_region 1 with fail
  obtain ⟨b, hb⟩ : ∃ b, w.heap.size = b := ⟨_, rfl⟩
  have hbb : Aside0 (w.heap.size ≤ b) := ⟨by omega⟩
  have hbl : Aside0 (b < (w.alloc (.cells #[.int .i64 0, .int .i64 0, .string ⟨#[]⟩, .slice none 0 0, .slice none 0 0] 28)).heap.size) := ⟨by simp; omega⟩
  obtain ⟨W, hW⟩ : ∃ W, w.alloc (.cells #[.int .i64 0, .int .i64 0, .string ⟨#[]⟩, .slice none 0 0, .slice none 0 0] 28) = W := ⟨_, rfl⟩
  rw [hW, hb] at HN
  rw [hW] at HB hbl
  rw [hW, hb]
  clear hW hb
  obtain ⟨t0, t1, t2, t3, t4, t5⟩ := zero5 HN.out
  obtain ⟨W', hW', ⟨u0, u1, u2, u3, u4⟩, hg, hz⟩ := fill5 HN.out HB.out hbb.out (.int .i64 5) (.int .i64 0) (.string ⟨#[]⟩) (.slice none 0 0) (.slice A n c)
  have HF := Aside0.mk hW'
  have HZ := Aside0.mk hz
  clear hW' hg hz
  go_wp2_with fail
  rw [HF.out]
  exact bodyPost_ret (v := .agg #[.int .i64 5, .int .i64 0, .string ⟨#[]⟩, .slice none 0 0, .slice A n c]) (by simp [results, Try.results50, go_sem, u0, u1, u2, u3, u4]) rfl ⟨rfl, HZ.out⟩
theorem refNumV (n : Int) (w : World) : Calls Try.prog 23 #[.int .i64 n] w fun e w' => e = .returned (.agg #[.int .i64 3, .int .i64 n, .string ⟨#[]⟩, .slice none 0 0, .slice none 0 0]) ∧ Below w.heap.size w w' := by
  have HN : Aside0 ((w.alloc (.cells #[.int .i64 0, .int .i64 0, .string ⟨#[]⟩, .slice none 0 0, .slice none 0 0] 28)).heap[w.heap.size]? = some (.cells #[.int .i64 0, .int .i64 0, .string ⟨#[]⟩, .slice none 0 0, .slice none 0 0] 28 (0, 0))) := ⟨heap_alloc_new w _⟩
  have HB := Aside0.mk (new_below w (.cells #[.int .i64 0, .int .i64 0, .string ⟨#[]⟩, .slice none 0 0, .slice none 0 0] 28))
  go_enter Try.func23, Try.ntmps23
  go_upto_region 1 with fail
  obtain ⟨b, hb⟩ : ∃ b, w.heap.size = b := ⟨_, rfl⟩
  have hbb : Aside0 (w.heap.size ≤ b) := ⟨by omega⟩
  have hbl : Aside0 (b < (w.alloc (.cells #[.int .i64 0, .int .i64 0, .string ⟨#[]⟩, .slice none 0 0, .slice none 0 0] 28)).heap.size) := ⟨by simp; omega⟩
  obtain ⟨W, hW⟩ : ∃ W, w.alloc (.cells #[.int .i64 0, .int .i64 0, .string ⟨#[]⟩, .slice none 0 0, .slice none 0 0] 28) = W := ⟨_, rfl⟩
  rw [hW, hb] at HN
  rw [hW] at HB hbl
  rw [hW, hb]
  clear hW hb
  obtain ⟨t0, t1, t2, t3, t4, t5⟩ := zero5 HN.out
  obtain ⟨W', hW', ⟨u0, u1, u2, u3, u4⟩, hg, hz⟩ := fill5 HN.out HB.out hbb.out (.int .i64 3) (.int .i64 n) (.string ⟨#[]⟩) (.slice none 0 0) (.slice none 0 0)
  have HF := Aside0.mk hW'
  have HZ := Aside0.mk hz
  clear hW' hg hz
  go_wp2_with fail
  rw [HF.out]
  exact bodyPost_ret (v := .agg #[.int .i64 3, .int .i64 n, .string ⟨#[]⟩, .slice none 0 0, .slice none 0 0]) (by simp [results, Try.results23, go_sem, u0, u1, u2, u3, u4]) rfl ⟨rfl, HZ.out⟩
theorem boolVT  (w : World) : Calls Try.prog 57 #[.bool true] w fun e w' => e = .returned (.agg #[.int .i64 2, .int .i64 0, .string ⟨#[]⟩, .slice none 0 0, .slice none 0 0]) ∧ Below w.heap.size w w' := by
  have HN : Aside0 ((w.alloc (.cells #[.int .i64 0, .int .i64 0, .string ⟨#[]⟩, .slice none 0 0, .slice none 0 0] 28)).heap[w.heap.size]? = some (.cells #[.int .i64 0, .int .i64 0, .string ⟨#[]⟩, .slice none 0 0, .slice none 0 0] 28 (0, 0))) := ⟨heap_alloc_new w _⟩
  have HB := Aside0.mk (new_below w (.cells #[.int .i64 0, .int .i64 0, .string ⟨#[]⟩, .slice none 0 0, .slice none 0 0] 28))
  go_enter Try.func57, Try.ntmps57
  go_upto_region 1 with fail
  obtain ⟨b, hb⟩ : ∃ b, w.heap.size = b := ⟨_, rfl⟩
  have hbb : Aside0 (w.heap.size ≤ b) := ⟨by omega⟩
  have hbl : Aside0 (b < (w.alloc (.cells #[.int .i64 0, .int .i64 0, .string ⟨#[]⟩, .slice none 0 0, .slice none 0 0] 28)).heap.size) := ⟨by simp; omega⟩
  obtain ⟨W, hW⟩ : ∃ W, w.alloc (.cells #[.int .i64 0, .int .i64 0, .string ⟨#[]⟩, .slice none 0 0, .slice none 0 0] 28) = W := ⟨_, rfl⟩
  rw [hW, hb] at HN
  rw [hW] at HB hbl
  rw [hW, hb]
  clear hW hb
  obtain ⟨t0, t1, t2, t3, t4, t5⟩ := zero5 HN.out
  obtain ⟨W', hW', ⟨u0, u1, u2, u3, u4⟩, hg, hz⟩ := fill5 HN.out HB.out hbb.out (.int .i64 2) (.int .i64 0) (.string ⟨#[]⟩) (.slice none 0 0) (.slice none 0 0)
  have HF := Aside0.mk hW'
  have HZ := Aside0.mk hz
  clear hW' hg hz
  go_wp2_with fail
  rw [HF.out]
  exact bodyPost_ret (v := .agg #[.int .i64 2, .int .i64 0, .string ⟨#[]⟩, .slice none 0 0, .slice none 0 0]) (by simp [results, Try.results57, go_sem, u0, u1, u2, u3, u4]) rfl ⟨rfl, HZ.out⟩
theorem boolVF  (w : World) : Calls Try.prog 57 #[.bool false] w fun e w' => e = .returned (.agg #[.int .i64 1, .int .i64 0, .string ⟨#[]⟩, .slice none 0 0, .slice none 0 0]) ∧ Below w.heap.size w w' := by
  have HN : Aside0 ((w.alloc (.cells #[.int .i64 0, .int .i64 0, .string ⟨#[]⟩, .slice none 0 0, .slice none 0 0] 28)).heap[w.heap.size]? = some (.cells #[.int .i64 0, .int .i64 0, .string ⟨#[]⟩, .slice none 0 0, .slice none 0 0] 28 (0, 0))) := ⟨heap_alloc_new w _⟩
  have HB := Aside0.mk (new_below w (.cells #[.int .i64 0, .int .i64 0, .string ⟨#[]⟩, .slice none 0 0, .slice none 0 0] 28))
  go_enter Try.func57, Try.ntmps57
  go_upto_region 1 with fail
  obtain ⟨b, hb⟩ : ∃ b, w.heap.size = b := ⟨_, rfl⟩
  have hbb : Aside0 (w.heap.size ≤ b) := ⟨by omega⟩
  have hbl : Aside0 (b < (w.alloc (.cells #[.int .i64 0, .int .i64 0, .string ⟨#[]⟩, .slice none 0 0, .slice none 0 0] 28)).heap.size) := ⟨by simp; omega⟩
  obtain ⟨W, hW⟩ : ∃ W, w.alloc (.cells #[.int .i64 0, .int .i64 0, .string ⟨#[]⟩, .slice none 0 0, .slice none 0 0] 28) = W := ⟨_, rfl⟩
  rw [hW, hb] at HN
  rw [hW] at HB hbl
  rw [hW, hb]
  clear hW hb
  obtain ⟨t0, t1, t2, t3, t4, t5⟩ := zero5 HN.out
  obtain ⟨W', hW', ⟨u0, u1, u2, u3, u4⟩, hg, hz⟩ := fill5 HN.out HB.out hbb.out (.int .i64 1) (.int .i64 0) (.string ⟨#[]⟩) (.slice none 0 0) (.slice none 0 0)
  have HF := Aside0.mk hW'
  have HZ := Aside0.mk hz
  clear hW' hg hz
  go_wp2_with fail
  rw [HF.out]
  exact bodyPost_ret (v := .agg #[.int .i64 1, .int .i64 0, .string ⟨#[]⟩, .slice none 0 0, .slice none 0 0]) (by simp [results, Try.results57, go_sem, u0, u1, u2, u3, u4]) rfl ⟨rfl, HZ.out⟩
theorem refBoolVT  (w : World) : Calls Try.prog 21 #[.bool true] w fun e w' => e = .returned (.agg #[.int .i64 2, .int .i64 0, .string ⟨#[]⟩, .slice none 0 0, .slice none 0 0]) ∧ Below w.heap.size w w' := by
  have HN : Aside0 ((w.alloc (.cells #[.int .i64 0, .int .i64 0, .string ⟨#[]⟩, .slice none 0 0, .slice none 0 0] 28)).heap[w.heap.size]? = some (.cells #[.int .i64 0, .int .i64 0, .string ⟨#[]⟩, .slice none 0 0, .slice none 0 0] 28 (0, 0))) := ⟨heap_alloc_new w _⟩
  have HB := Aside0.mk (new_below w (.cells #[.int .i64 0, .int .i64 0, .string ⟨#[]⟩, .slice none 0 0, .slice none 0 0] 28))
  go_enter Try.func21, Try.ntmps21
  go_upto_region 1 with fail
  obtain ⟨b, hb⟩ : ∃ b, w.heap.size = b := ⟨_, rfl⟩
  have hbb : Aside0 (w.heap.size ≤ b) := ⟨by omega⟩
  have hbl : Aside0 (b < (w.alloc (.cells #[.int .i64 0, .int .i64 0, .string ⟨#[]⟩, .slice none 0 0, .slice none 0 0] 28)).heap.size) := ⟨by simp; omega⟩
  obtain ⟨W, hW⟩ : ∃ W, w.alloc (.cells #[.int .i64 0, .int .i64 0, .string ⟨#[]⟩, .slice none 0 0, .slice none 0 0] 28) = W := ⟨_, rfl⟩
  rw [hW, hb] at HN
  rw [hW] at HB hbl
  rw [hW, hb]
  clear hW hb
  obtain ⟨t0, t1, t2, t3, t4, t5⟩ := zero5 HN.out
  obtain ⟨W', hW', ⟨u0, u1, u2, u3, u4⟩, hg, hz⟩ := fill5 HN.out HB.out hbb.out (.int .i64 2) (.int .i64 0) (.string ⟨#[]⟩) (.slice none 0 0) (.slice none 0 0)
  have HF := Aside0.mk hW'
  have HZ := Aside0.mk hz
  clear hW' hg hz
  go_wp2_with fail
  rw [HF.out]
  exact bodyPost_ret (v := .agg #[.int .i64 2, .int .i64 0, .string ⟨#[]⟩, .slice none 0 0, .slice none 0 0]) (by simp [results, Try.results21, go_sem, u0, u1, u2, u3, u4]) rfl ⟨rfl, HZ.out⟩
theorem refBoolVF  (w : World) : Calls Try.prog 21 #[.bool false] w fun e w' => e = .returned (.agg #[.int .i64 1, .int .i64 0, .string ⟨#[]⟩, .slice none 0 0, .slice none 0 0]) ∧ Below w.heap.size w w' := by
  have HN : Aside0 ((w.alloc (.cells #[.int .i64 0, .int .i64 0, .string ⟨#[]⟩, .slice none 0 0, .slice none 0 0] 28)).heap[w.heap.size]? = some (.cells #[.int .i64 0, .int .i64 0, .string ⟨#[]⟩, .slice none 0 0, .slice none 0 0] 28 (0, 0))) := ⟨heap_alloc_new w _⟩
  have HB := Aside0.mk (new_below w (.cells #[.int .i64 0, .int .i64 0, .string ⟨#[]⟩, .slice none 0 0, .slice none 0 0] 28))
  go_enter Try.func21, Try.ntmps21
  go_upto_region 1 with fail
  obtain ⟨b, hb⟩ : ∃ b, w.heap.size = b := ⟨_, rfl⟩
  have hbb : Aside0 (w.heap.size ≤ b) := ⟨by omega⟩
  have hbl : Aside0 (b < (w.alloc (.cells #[.int .i64 0, .int .i64 0, .string ⟨#[]⟩, .slice none 0 0, .slice none 0 0] 28)).heap.size) := ⟨by simp; omega⟩
  obtain ⟨W, hW⟩ : ∃ W, w.alloc (.cells #[.int .i64 0, .int .i64 0, .string ⟨#[]⟩, .slice none 0 0, .slice none 0 0] 28) = W := ⟨_, rfl⟩
  rw [hW, hb] at HN
  rw [hW] at HB hbl
  rw [hW, hb]
  clear hW hb
  obtain ⟨t0, t1, t2, t3, t4, t5⟩ := zero5 HN.out
  obtain ⟨W', hW', ⟨u0, u1, u2, u3, u4⟩, hg, hz⟩ := fill5 HN.out HB.out hbb.out (.int .i64 1) (.int .i64 0) (.string ⟨#[]⟩) (.slice none 0 0) (.slice none 0 0)
  have HF := Aside0.mk hW'
  have HZ := Aside0.mk hz
  clear hW' hg hz
  go_wp2_with fail
  rw [HF.out]
  exact bodyPost_ret (v := .agg #[.int .i64 1, .int .i64 0, .string ⟨#[]⟩, .slice none 0 0, .slice none 0 0]) (by simp [results, Try.results21, go_sem, u0, u1, u2, u3, u4]) rfl ⟨rfl, HZ.out⟩
theorem valueBoolVT  (w : World) : Calls Try.prog 20 #[.bool true] w fun e w' => e = .returned (.agg #[.int .i64 2, .int .i64 0, .string ⟨#[]⟩, .slice none 0 0, .slice none 0 0]) ∧ Below w.heap.size w w' := by
  have HN : Aside0 ((w.alloc (.cells #[.int .i64 0, .int .i64 0, .string ⟨#[]⟩, .slice none 0 0, .slice none 0 0] 28)).heap[w.heap.size]? = some (.cells #[.int .i64 0, .int .i64 0, .string ⟨#[]⟩, .slice none 0 0, .slice none 0 0] 28 (0, 0))) := ⟨heap_alloc_new w _⟩
  have HB := Aside0.mk (new_below w (.cells #[.int .i64 0, .int .i64 0, .string ⟨#[]⟩, .slice none 0 0, .slice none 0 0] 28))
  go_enter Try.func20, Try.ntmps20
  go_upto_region 1 with fail
  obtain ⟨b, hb⟩ : ∃ b, w.heap.size = b := ⟨_, rfl⟩
  have hbb : Aside0 (w.heap.size ≤ b) := ⟨by omega⟩
  have hbl : Aside0 (b < (w.alloc (.cells #[.int .i64 0, .int .i64 0, .string ⟨#[]⟩, .slice none 0 0, .slice none 0 0] 28)).heap.size) := ⟨by simp; omega⟩
  obtain ⟨W, hW⟩ : ∃ W, w.alloc (.cells #[.int .i64 0, .int .i64 0, .string ⟨#[]⟩, .slice none 0 0, .slice none 0 0] 28) = W := ⟨_, rfl⟩
  rw [hW, hb] at HN
  rw [hW] at HB hbl
  rw [hW, hb]
  clear hW hb
  go_wp2_with (first | (go_at_call 57; (with_reducible refine (boolVT _).mono ?_); rintro e we ⟨rfl, hc⟩; have HC := Aside0.mk hc; clear hc; have HN2 := Aside0.mk ((HC.out.block b hbl.out).trans HN.out); have HB2 := Aside0.mk (below_step HB.out HC.out); obtain ⟨t0, t1, t2, t3, t4, t5⟩ := zero5 HN2.out))
  obtain ⟨W', hW', ⟨u0, u1, u2, u3, u4⟩, hg, hz⟩ := fill5 HN2.out HB2.out hbb.out (.int .i64 2) (.int .i64 0) (.string ⟨#[]⟩) (.slice none 0 0) (.slice none 0 0)
  rw [hW']
  exact bodyPost_ret (v := .agg #[.int .i64 2, .int .i64 0, .string ⟨#[]⟩, .slice none 0 0, .slice none 0 0]) (by simp [results, Try.results20, go_sem, u0, u1, u2, u3, u4]) rfl ⟨rfl, hz⟩
theorem valueBoolVF  (w : World) : Calls Try.prog 20 #[.bool false] w fun e w' => e = .returned (.agg #[.int .i64 1, .int .i64 0, .string ⟨#[]⟩, .slice none 0 0, .slice none 0 0]) ∧ Below w.heap.size w w' := by
  have HN : Aside0 ((w.alloc (.cells #[.int .i64 0, .int .i64 0, .string ⟨#[]⟩, .slice none 0 0, .slice none 0 0] 28)).heap[w.heap.size]? = some (.cells #[.int .i64 0, .int .i64 0, .string ⟨#[]⟩, .slice none 0 0, .slice none 0 0] 28 (0, 0))) := ⟨heap_alloc_new w _⟩
  have HB := Aside0.mk (new_below w (.cells #[.int .i64 0, .int .i64 0, .string ⟨#[]⟩, .slice none 0 0, .slice none 0 0] 28))
  go_enter Try.func20, Try.ntmps20
  go_upto_region 1 with fail
  obtain ⟨b, hb⟩ : ∃ b, w.heap.size = b := ⟨_, rfl⟩
  have hbb : Aside0 (w.heap.size ≤ b) := ⟨by omega⟩
  have hbl : Aside0 (b < (w.alloc (.cells #[.int .i64 0, .int .i64 0, .string ⟨#[]⟩, .slice none 0 0, .slice none 0 0] 28)).heap.size) := ⟨by simp; omega⟩
  obtain ⟨W, hW⟩ : ∃ W, w.alloc (.cells #[.int .i64 0, .int .i64 0, .string ⟨#[]⟩, .slice none 0 0, .slice none 0 0] 28) = W := ⟨_, rfl⟩
  rw [hW, hb] at HN
  rw [hW] at HB hbl
  rw [hW, hb]
  clear hW hb
  go_wp2_with (first | (go_at_call 57; (with_reducible refine (boolVF _).mono ?_); rintro e we ⟨rfl, hc⟩; have HC := Aside0.mk hc; clear hc; have HN2 := Aside0.mk ((HC.out.block b hbl.out).trans HN.out); have HB2 := Aside0.mk (below_step HB.out HC.out); obtain ⟨t0, t1, t2, t3, t4, t5⟩ := zero5 HN2.out))
  obtain ⟨W', hW', ⟨u0, u1, u2, u3, u4⟩, hg, hz⟩ := fill5 HN2.out HB2.out hbb.out (.int .i64 1) (.int .i64 0) (.string ⟨#[]⟩) (.slice none 0 0) (.slice none 0 0)
  rw [hW']
  exact bodyPost_ret (v := .agg #[.int .i64 1, .int .i64 0, .string ⟨#[]⟩, .slice none 0 0, .slice none 0 0]) (by simp [results, Try.results20, go_sem, u0, u1, u2, u3, u4]) rfl ⟨rfl, hz⟩
end Go.Proofs.Ytgpjkojnmeaoiaa.QV

/- Makers: ref.Fit, Str of the program and of the reference. -/
namespace Go.Proofs.Ytgpjkojnmeaoiaa.QV
open Go Go.RowKit Go.Proofs.YtgpjkojnmeaoiaaW.PrintWords Go.Proofs.YtgpjkojnmeaoiaaW.PrintLast Go.Proofs.YtgpjkojnmeaoiaaW.PrintMore
set_option linter.unusedVariables false
set_option linter.unusedSimpArgs false
set_option maxRecDepth 100000
set_option maxHeartbeats 4000000
theorem refFitC (x : S28) (w : World) {A3 : Option Addr} {c3 : Nat} {A4 : Option Addr} {c4 : Nat} (hx : Wv x) (hc : cnt x ≤ 1000000000000000) (hr : Rd w A3 c3 A4 c4 x) :
    Calls Try.prog 46 #[.agg #[.int .i64 x.f0, .int .i64 x.f1, .string x.f2, .slice A3 x.f3.length c3, .slice A4 x.f4.length c4]] w fun e w' => e = .returned (if vd x = true then .tuple #[.agg #[.int .i64 x.f0, .int .i64 x.f1, .string x.f2, .slice A3 x.f3.length c3, .slice A4 x.f4.length c4], .int .i64 0] else .tuple #[.agg #[.int .i64 0, .int .i64 0, .string ⟨#[]⟩, .slice none 0 0, .slice none 0 0], .int .i64 2]) ∧ Below w.heap.size w w' := by
  obtain ⟨b, hb⟩ : ∃ b, w.heap.size = b := ⟨_, rfl⟩
  have s1 : (w.alloc (.cells #[.int .i64 x.f0, .int .i64 x.f1, .string x.f2, .slice A3 x.f3.length c3, .slice A4 x.f4.length c4] 28)).heap.size = b + 1 := by simp [hb]
  have s2 : ((w.alloc (.cells #[.int .i64 x.f0, .int .i64 x.f1, .string x.f2, .slice A3 x.f3.length c3, .slice A4 x.f4.length c4] 28)).alloc (.cells #[.int .i64 0, .int .i64 0, .string ⟨#[]⟩, .slice none 0 0, .slice none 0 0] 28)).heap.size = b + 2 := by simp [hb]
  have hB1 := Bv.new hr
  rw [hb] at hB1
  have ha1 := new_below w (.cells #[.int .i64 x.f0, .int .i64 x.f1, .string x.f2, .slice A3 x.f3.length c3, .slice A4 x.f4.length c4] 28)
  have ha2 := new_below (w.alloc (.cells #[.int .i64 x.f0, .int .i64 x.f1, .string x.f2, .slice A3 x.f3.length c3, .slice A4 x.f4.length c4] 28)) (.cells #[.int .i64 0, .int .i64 0, .string ⟨#[]⟩, .slice none 0 0, .slice none 0 0] 28)
  have hn2 := heap_alloc_new (w.alloc (.cells #[.int .i64 x.f0, .int .i64 x.f1, .string x.f2, .slice A3 x.f3.length c3, .slice A4 x.f4.length c4] 28)) (.cells #[.int .i64 0, .int .i64 0, .string ⟨#[]⟩, .slice none 0 0, .slice none 0 0] 28)
  rw [s1] at hn2
  have hB2 := hB1.below ha2
  have hbb2 := below_step ha1 ha2
  have HQ := Aside0.mk (refValidC x ((w.alloc (.cells #[.int .i64 x.f0, .int .i64 x.f1, .string x.f2, .slice A3 x.f3.length c3, .slice A4 x.f4.length c4] 28)).alloc (.cells #[.int .i64 0, .int .i64 0, .string ⟨#[]⟩, .slice none 0 0, .slice none 0 0] 28)) hx hc hB2.rd)
  have HB := Aside0.mk hB2
  have HZ := Aside0.mk hn2
  have HW := Aside0.mk hbb2
  have HS := Aside0.mk s2
  obtain ⟨r, hvr⟩ : ∃ r, vd x = r := ⟨_, rfl⟩
  rw [hvr] at HQ ⊢
  clear hB1 ha1 ha2 hn2 hB2 hbb2 hx hc hr s1 s2 hvr
  subst hb
  go_enter Try.func46, Try.ntmps46
  obtain ⟨q0, q1, q2, q3, q4⟩ := HB.out.cells
  cases r with
  | false =>
    go_wp2_with (first | (go_at_call 25; (with_reducible refine HQ.out.mono ?_); rintro e we ⟨rfl, hg⟩; have HG := Aside0.mk hg; clear hg; have hlt := HS.out; have HZ2 := Aside0.mk ((HG.out.block (w.heap.size + 1) (by omega)).trans HZ.out); have HB2 := Aside0.mk (below_step HW.out HG.out); clear hlt; obtain ⟨t0, t1, t2, t3, t4, t5⟩ := zero5 HZ2.out))
    obtain ⟨W', hW', ⟨u0, u1, u2, u3, u4⟩, hg, hz⟩ := fill5 HZ2.out HB2.out (by omega) (.int .i64 0) (.int .i64 0) (.string ⟨#[]⟩) (.slice none 0 0) (.slice none 0 0)
    rw [hW']
    exact bodyPost_ret (v := .tuple #[.agg #[.int .i64 0, .int .i64 0, .string ⟨#[]⟩, .slice none 0 0, .slice none 0 0], .int .i64 2]) (by simp [results, Try.results46, go_sem, u0, u1, u2, u3, u4]) rfl ⟨rfl, hz⟩
  | true =>
    go_wp2_with (first | (go_at_call 25; (with_reducible refine HQ.out.mono ?_); rintro e we ⟨rfl, hg⟩; have HG := Aside0.mk hg; clear hg; have hlt := HS.out; have HZ2 := Aside0.mk ((HG.out.block (w.heap.size + 1) (by omega)).trans HZ.out); have HV2 := Aside0.mk ((HG.out.block w.heap.size (by omega)).trans HB.out.blk); have HB2 := Aside0.mk (below_step HW.out HG.out); clear hlt; obtain ⟨t0, t1, t2, t3, t4, t5⟩ := zero5 HZ2.out; obtain ⟨p0, p1, p2, p3, p4⟩ := cells5 HV2.out))
    obtain ⟨W', hW', ⟨u0, u1, u2, u3, u4⟩, hg, hz⟩ := fill5 HZ2.out HB2.out (by omega) (.int .i64 x.f0) (.int .i64 x.f1) (.string x.f2) (.slice A3 x.f3.length c3) (.slice A4 x.f4.length c4)
    rw [hW']
    exact bodyPost_ret (v := .tuple #[.agg #[.int .i64 x.f0, .int .i64 x.f1, .string x.f2, .slice A3 x.f3.length c3, .slice A4 x.f4.length c4], .int .i64 0]) (by simp [results, Try.results46, go_sem, u0, u1, u2, u3, u4]) rfl ⟨rfl, hz⟩
/-- The string value. -/
def mkS (s : ByteArray) : S28 := ⟨4, 0, s, [], []⟩
theorem rd_mkS (w : World) (s : ByteArray) : Rd w none 0 none 0 (mkS s) := ⟨Nat.le_refl _, ⟨rfl, Nat.zero_le _, fun h => absurd h (Nat.lt_irrefl _)⟩, Nat.le_refl _, ⟨rfl, Nat.zero_le _, fun h => absurd h (Nat.lt_irrefl _)⟩⟩
theorem wv_mkS {s : ByteArray} (h : s.size ≤ 200) : Wv (mkS s) := .mk _ (by simp [mkS]) (by simp [mkS]) (by simp only [mkS]; omega) (by simp [mkS]) (by simp [mkS]) (by simp [mkS]) (by simp [mkS])
theorem cnt_mkS {s : ByteArray} (h : s.size ≤ 200) : cnt (mkS s) ≤ 1000 := by rw [cnt_eq]; simp [mkS, cntL, ksz]; omega
theorem vd_mkS {s : ByteArray} (h : s.size ≤ 200) (hu : u8 s = true) : vd (mkS s) = true := by
  rw [vd_eq, okv_eq]
  simp [mkS, fm, kz, hu, nds_eq, bts_eq, ksum]
  exact ⟨decide_eq_false (by omega), by omega⟩
def StrR (s : ByteArray) : Value := if u8 s = true then .tuple #[.agg #[.int .i64 4, .int .i64 0, .string s, .slice none 0 0, .slice none 0 0], .int .i64 0] else .tuple #[.agg #[.int .i64 0, .int .i64 0, .string ⟨#[]⟩, .slice none 0 0, .slice none 0 0], .int .i64 6]
theorem valueStrC (s : ByteArray) (hs : s.size ≤ 200) (w : World) : Calls Try.prog 13 #[.string s] w fun e w' => e = .returned (StrR s) ∧ Below w.heap.size w w' := by
  have HSz := Aside0.mk hs
  have HN : Aside0 ((w.alloc (.cells #[.int .i64 0, .int .i64 0, .string ⟨#[]⟩, .slice none 0 0, .slice none 0 0] 28)).heap[w.heap.size]? = some (.cells #[.int .i64 0, .int .i64 0, .string ⟨#[]⟩, .slice none 0 0, .slice none 0 0] 28 (0, 0))) := ⟨heap_alloc_new w _⟩
  have HB := Aside0.mk (new_below w (.cells #[.int .i64 0, .int .i64 0, .string ⟨#[]⟩, .slice none 0 0, .slice none 0 0] 28))
  have HFit : Aside0 (∀ W, u8 s = true → Calls Try.prog 46 #[.agg #[.int .i64 4, .int .i64 0, .string s, .slice none 0 0, .slice none 0 0]] W fun e w' => e = .returned (.tuple #[.agg #[.int .i64 4, .int .i64 0, .string s, .slice none 0 0, .slice none 0 0], .int .i64 0]) ∧ Below W.heap.size W w') := ⟨fun W hu => by
    have h := refFitC (mkS s) W (wv_mkS hs) (by have := cnt_mkS hs; omega) (rd_mkS W s)
    rw [vd_mkS hs hu] at h
    exact h⟩
  obtain ⟨r, hr⟩ : ∃ r, u8 s = r := ⟨_, rfl⟩
  unfold StrR
  rw [hr]
  have HR := Aside0.mk hr
  clear hr
  go_enter Try.func13, Try.ntmps13
  go_upto_region 1 with fail
  obtain ⟨b, hb⟩ : ∃ b, w.heap.size = b := ⟨_, rfl⟩
  have hbb : Aside0 (w.heap.size ≤ b) := ⟨by omega⟩
  obtain ⟨W, hW⟩ : ∃ W, w.alloc (.cells #[.int .i64 0, .int .i64 0, .string ⟨#[]⟩, .slice none 0 0, .slice none 0 0] 28) = W := ⟨_, rfl⟩
  rw [hW, hb] at HN
  rw [hW] at HB
  rw [hW, hb]
  clear hW hb
  have g1 : ((s.size : Int) > 4096) = False := eq_false (by omega)
  have g2 : decide ((s.size : Int) > 4096) = false := decide_eq_false (by omega)
  have g3 : decide (4096 < s.size) = false := decide_eq_false (by omega)
  clear hs
  have HFit2 := HFit
  clear HFit
  cases r with
  | false =>
    clear HFit2
    go_wp2_with (first | (go_at_call 43; (with_reducible refine (u8C s (by have := HSz.out; omega) _).mono ?_); rintro e we ⟨rfl, hc0⟩; have hc := drawn_below hc0; clear hc0; rw [HR.out]; have HC2 := Aside0.mk hc; clear hc; have hl2 := Array.getElem?_eq_some_iff.1 HN.out; have HN2 := Aside0.mk ((HC2.out.block b hl2.1).trans HN.out); have HB2 := Aside0.mk (below_step HB.out HC2.out); clear hl2; obtain ⟨t0, t1, t2, t3, t4, t5⟩ := zero5 HN2.out))
    obtain ⟨W', hW', ⟨u0, u1, u2, u3, u4⟩, hg, hz⟩ := fill5 HN2.out HB2.out hbb.out (.int .i64 0) (.int .i64 0) (.string ⟨#[]⟩) (.slice none 0 0) (.slice none 0 0)
    rw [hW']
    exact bodyPost_ret (v := .tuple #[.agg #[.int .i64 0, .int .i64 0, .string ⟨#[]⟩, .slice none 0 0, .slice none 0 0], .int .i64 6]) (by simp [results, Try.results13, go_sem, u0, u1, u2, u3, u4]) rfl ⟨rfl, hz⟩
  | true =>
    have HFit : Aside0 (∀ W, Calls Try.prog 46 #[.agg #[.int .i64 4, .int .i64 0, .string s, .slice none 0 0, .slice none 0 0]] W fun e w' => e = .returned (.tuple #[.agg #[.int .i64 4, .int .i64 0, .string s, .slice none 0 0, .slice none 0 0], .int .i64 0]) ∧ Below W.heap.size W w') := ⟨fun W => HFit2.out W HR.out⟩
    clear HFit2
    go_wp2_with (first | (go_at_call 43; (with_reducible refine (u8C s (by have := HSz.out; omega) _).mono ?_); rintro e we ⟨rfl, hc0⟩; have hc := drawn_below hc0; clear hc0; rw [HR.out]; have HC2 := Aside0.mk hc; clear hc; have hl2 := Array.getElem?_eq_some_iff.1 HN.out; have HN2 := Aside0.mk ((HC2.out.block b hl2.1).trans HN.out); have HB2 := Aside0.mk (below_step HB.out HC2.out); clear hl2; obtain ⟨t0, t1, t2, t3, t4, t5⟩ := zero5 HN2.out) | (go_at_call 44; (with_reducible refine (strV s _).mono ?_); rintro e we2 ⟨rfl, hc⟩; have HC3 := Aside0.mk hc; clear hc; have hl3 := Array.getElem?_eq_some_iff.1 HN2.out; have HN3 := Aside0.mk ((HC3.out.block b hl3.1).trans HN2.out); have HB3 := Aside0.mk (below_step HB2.out HC3.out); clear hl3; obtain ⟨t0, t1, t2, t3, t4, t5⟩ := zero5 HN3.out))
    obtain ⟨W', hW', ⟨u0, u1, u2, u3, u4⟩, hg, hz⟩ := fill5 HN3.out HB3.out hbb.out (.int .i64 4) (.int .i64 0) (.string s) (.slice none 0 0) (.slice none 0 0)
    rw [hW']
    exact bodyPost_ret (v := .tuple #[.agg #[.int .i64 4, .int .i64 0, .string s, .slice none 0 0, .slice none 0 0], .int .i64 0]) (by simp [results, Try.results13, go_sem, u0, u1, u2, u3, u4]) rfl ⟨rfl, hz⟩
theorem refStrC (s : ByteArray) (hs : s.size ≤ 200) (w : World) : Calls Try.prog 14 #[.string s] w fun e w' => e = .returned (StrR s) ∧ Below w.heap.size w w' := by
  have HSz := Aside0.mk hs
  have HN : Aside0 ((w.alloc (.cells #[.int .i64 0, .int .i64 0, .string ⟨#[]⟩, .slice none 0 0, .slice none 0 0] 28)).heap[w.heap.size]? = some (.cells #[.int .i64 0, .int .i64 0, .string ⟨#[]⟩, .slice none 0 0, .slice none 0 0] 28 (0, 0))) := ⟨heap_alloc_new w _⟩
  have HB := Aside0.mk (new_below w (.cells #[.int .i64 0, .int .i64 0, .string ⟨#[]⟩, .slice none 0 0, .slice none 0 0] 28))
  have HFit : Aside0 (∀ W, u8 s = true → Calls Try.prog 46 #[.agg #[.int .i64 4, .int .i64 0, .string s, .slice none 0 0, .slice none 0 0]] W fun e w' => e = .returned (.tuple #[.agg #[.int .i64 4, .int .i64 0, .string s, .slice none 0 0, .slice none 0 0], .int .i64 0]) ∧ Below W.heap.size W w') := ⟨fun W hu => by
    have h := refFitC (mkS s) W (wv_mkS hs) (by have := cnt_mkS hs; omega) (rd_mkS W s)
    rw [vd_mkS hs hu] at h
    exact h⟩
  obtain ⟨r, hr⟩ : ∃ r, u8 s = r := ⟨_, rfl⟩
  unfold StrR
  rw [hr]
  have HR := Aside0.mk hr
  clear hr
  go_enter Try.func14, Try.ntmps14
  go_upto_region 1 with fail
  obtain ⟨b, hb⟩ : ∃ b, w.heap.size = b := ⟨_, rfl⟩
  have hbb : Aside0 (w.heap.size ≤ b) := ⟨by omega⟩
  obtain ⟨W, hW⟩ : ∃ W, w.alloc (.cells #[.int .i64 0, .int .i64 0, .string ⟨#[]⟩, .slice none 0 0, .slice none 0 0] 28) = W := ⟨_, rfl⟩
  rw [hW, hb] at HN
  rw [hW] at HB
  rw [hW, hb]
  clear hW hb
  have g1 : ((s.size : Int) > 4096) = False := eq_false (by omega)
  have g2 : decide ((s.size : Int) > 4096) = false := decide_eq_false (by omega)
  have g3 : decide (4096 < s.size) = false := decide_eq_false (by omega)
  clear hs
  have HFit2 := HFit
  clear HFit
  cases r with
  | false =>
    clear HFit2
    go_wp2_with (first | (go_at_call 45; (with_reducible refine (ru8C s (by have := HSz.out; omega) _).mono ?_); rintro e we ⟨rfl, hc⟩; rw [HR.out]; have HC2 := Aside0.mk hc; clear hc; have hl2 := Array.getElem?_eq_some_iff.1 HN.out; have HN2 := Aside0.mk ((HC2.out.block b hl2.1).trans HN.out); have HB2 := Aside0.mk (below_step HB.out HC2.out); clear hl2; obtain ⟨t0, t1, t2, t3, t4, t5⟩ := zero5 HN2.out))
    obtain ⟨W', hW', ⟨u0, u1, u2, u3, u4⟩, hg, hz⟩ := fill5 HN2.out HB2.out hbb.out (.int .i64 0) (.int .i64 0) (.string ⟨#[]⟩) (.slice none 0 0) (.slice none 0 0)
    rw [hW']
    exact bodyPost_ret (v := .tuple #[.agg #[.int .i64 0, .int .i64 0, .string ⟨#[]⟩, .slice none 0 0, .slice none 0 0], .int .i64 6]) (by simp [results, Try.results14, go_sem, u0, u1, u2, u3, u4]) rfl ⟨rfl, hz⟩
  | true =>
    have HFit : Aside0 (∀ W, Calls Try.prog 46 #[.agg #[.int .i64 4, .int .i64 0, .string s, .slice none 0 0, .slice none 0 0]] W fun e w' => e = .returned (.tuple #[.agg #[.int .i64 4, .int .i64 0, .string s, .slice none 0 0, .slice none 0 0], .int .i64 0]) ∧ Below W.heap.size W w') := ⟨fun W => HFit2.out W HR.out⟩
    clear HFit2
    go_wp2_with (first | (go_at_call 45; (with_reducible refine (ru8C s (by have := HSz.out; omega) _).mono ?_); rintro e we ⟨rfl, hc⟩; rw [HR.out]; have HC2 := Aside0.mk hc; clear hc; have hl2 := Array.getElem?_eq_some_iff.1 HN.out; have HN2 := Aside0.mk ((HC2.out.block b hl2.1).trans HN.out); have HB2 := Aside0.mk (below_step HB.out HC2.out); clear hl2; obtain ⟨t0, t1, t2, t3, t4, t5⟩ := zero5 HN2.out) | (go_at_call 47; (with_reducible refine (textV s _).mono ?_); rintro e we2 ⟨rfl, hc⟩; have HC3 := Aside0.mk hc; clear hc; have hl3 := Array.getElem?_eq_some_iff.1 HN2.out; have HN3 := Aside0.mk ((HC3.out.block b hl3.1).trans HN2.out); have HB3 := Aside0.mk (below_step HB2.out HC3.out); clear hl3; obtain ⟨t0, t1, t2, t3, t4, t5⟩ := zero5 HN3.out) | (go_at_call 46; (with_reducible refine (HFit.out _).mono ?_); rintro e we3 ⟨rfl, hc⟩; have HC4 := Aside0.mk hc; clear hc; have hl4 := Array.getElem?_eq_some_iff.1 HN3.out; have HN4 := Aside0.mk ((HC4.out.block b hl4.1).trans HN3.out); have HB4 := Aside0.mk (below_step HB3.out HC4.out); clear hl4; obtain ⟨t0, t1, t2, t3, t4, t5⟩ := zero5 HN4.out))
    obtain ⟨W', hW', ⟨u0, u1, u2, u3, u4⟩, hg, hz⟩ := fill5 HN4.out HB4.out hbb.out (.int .i64 4) (.int .i64 0) (.string s) (.slice none 0 0) (.slice none 0 0)
    rw [hW']
    exact bodyPost_ret (v := .tuple #[.agg #[.int .i64 4, .int .i64 0, .string s, .slice none 0 0, .slice none 0 0], .int .i64 0]) (by simp [results, Try.results14, go_sem, u0, u1, u2, u3, u4]) rfl ⟨rfl, hz⟩
end Go.Proofs.Ytgpjkojnmeaoiaa.QV

/- Makers: arrays, of the program and of the reference. -/
namespace Go.Proofs.Ytgpjkojnmeaoiaa.QV
open Go Go.RowKit Go.Proofs.YtgpjkojnmeaoiaaW.PrintWords Go.Proofs.YtgpjkojnmeaoiaaW.PrintLast Go.Proofs.YtgpjkojnmeaoiaaW.PrintMore
set_option linter.unusedVariables false
set_option linter.unusedSimpArgs false
set_option maxRecDepth 100000
set_option maxHeartbeats 4000000
def mkA (l : List S28) : S28 := ⟨5, 0, ⟨#[]⟩, [], l⟩
theorem rd_mkA {w : World} {l : List S28} {X : Option Addr} {d : Nat} (h : Kd.C k28 w X l.length l) (hd : l.length ≤ d) : Rd w none 0 X d (mkA l) := ⟨Nat.le_refl _, ⟨rfl, Nat.zero_le _, fun h => absurd h (Nat.lt_irrefl _)⟩, hd, h⟩
theorem wv_mkA {l : List S28} (h : l.length ≤ 20) (hw : ∀ y ∈ l, Wv y) : Wv (mkA l) := .mk _ (by simp [mkA]) (by simp [mkA]) (show (⟨#[]⟩ : ByteArray).size ≤ 140737488351232 by decide) (by simp [mkA]) (by simp [mkA]) (by simp only [mkA]; omega) hw
theorem cnt_mkA {l : List S28} (h : l.length ≤ 20) (hw : ∀ y ∈ l, cnt y ≤ 100) : cnt (mkA l) ≤ 1000000 := by
  have h3 := cntL_bound (l := l) (n := 100) hw
  rw [cnt_eq]
  simp only [mkA, ksz, List.length_nil]
  have h6 : (⟨#[]⟩ : ByteArray).size = 0 := rfl
  omega
theorem mkA_vd {l : List S28} (h : l.length ≤ 20) (hv : ∀ y ∈ l, vd y = true) : vd (mkA l) = ft (mkA l) := by
  unfold vd ft fitR
  have hf : fm (mkA l) = true := by
    unfold fm kz
    simp only [mkA, ko_nil, u8E]
    simp
  have e : okv true 0 (mkA l) = okv false 0 (mkA l) := by
    rw [okv_eq, okv_eq, hf, okL_f (l := (mkA l).f4) hv]
    simp
  rw [e]
def ArrPost (l : List S28) (w : World) (e : Ending) (w' : World) : Prop :=
  (l.all vd = false ∧ e = .returned (.tuple #[.agg #[.int .i64 0, .int .i64 0, .string ⟨#[]⟩, .slice none 0 0, .slice none 0 0], .int .i64 1]) ∧ Below w.heap.size w w') ∨
  (l.all vd = true ∧ vd (mkA l) = false ∧ e = .returned (.tuple #[.agg #[.int .i64 0, .int .i64 0, .string ⟨#[]⟩, .slice none 0 0, .slice none 0 0], .int .i64 2]) ∧ Below w.heap.size w w') ∨
  (l.all vd = true ∧ vd (mkA l) = true ∧ ∃ (X : Option Addr) (d : Nat), e = .returned (.tuple #[.agg #[.int .i64 5, .int .i64 0, .string ⟨#[]⟩, .slice none 0 0, .slice X l.length d], .int .i64 0]) ∧ Rd w' none 0 X d (mkA l) ∧ Below w.heap.size w w')
theorem valueArrC (l : List S28) (w : World) {A : Option Addr} {c : Nat} (hl : Kd.C k28 w A l.length l) (hw : ∀ y ∈ l, Wv y ∧ cnt y ≤ 100) (hm : l.length ≤ 20) : Calls Try.prog 15 #[.slice A l.length c] w (ArrPost l w) := by
  have HN : Aside0 ((w.alloc (.cells #[.int .i64 0, .int .i64 0, .string ⟨#[]⟩, .slice none 0 0, .slice none 0 0] 28)).heap[w.heap.size]? = some (.cells #[.int .i64 0, .int .i64 0, .string ⟨#[]⟩, .slice none 0 0, .slice none 0 0] 28 (0, 0))) := ⟨heap_alloc_new w _⟩
  have HB := Aside0.mk (new_below w (.cells #[.int .i64 0, .int .i64 0, .string ⟨#[]⟩, .slice none 0 0, .slice none 0 0] 28))
  have HA48 := Aside0.mk (fun W (hb : Below w.heap.size w W) => allC (c := c) l W (Kd.C_below hl hb) (fun y hy => ⟨(hw y hy).1, by have := (hw y hy).2; omega⟩) (by omega))
  have HA51 := Aside0.mk (fun W (hb : Below w.heap.size w W) => copiesC (c := c) l W (Kd.C_below hl hb) (fun y hy => by have := (hw y hy).2; omega) (by omega))
  have HFt : Aside0 (l.all vd = true → ∀ W X d, Kd.C k28 W X l.length l → l.length ≤ d → Calls Try.prog 49 #[.agg #[.int .i64 5, .int .i64 0, .string ⟨#[]⟩, .slice none 0 0, .slice X l.length d]] W fun e w' => e = .returned (if vd (mkA l) = true then .tuple #[.agg #[.int .i64 5, .int .i64 0, .string ⟨#[]⟩, .slice none 0 0, .slice X l.length d], .int .i64 0] else .tuple #[.agg #[.int .i64 0, .int .i64 0, .string ⟨#[]⟩, .slice none 0 0, .slice none 0 0], .int .i64 2]) ∧ Below W.heap.size W w') := ⟨fun hall W X d hC hd => by
    have h := fitTopC (mkA l) W (wv_mkA hm (fun y hy => (hw y hy).1)) (by have := cnt_mkA hm (fun y hy => (hw y hy).2); omega) (rd_mkA hC hd)
    rw [← mkA_vd hm (List.all_eq_true.1 hall)] at h
    exact h⟩
  clear hl hw hm
  obtain ⟨r, hr⟩ : ∃ r, l.all vd = r := ⟨_, rfl⟩
  obtain ⟨q, hq⟩ : ∃ q, vd (mkA l) = q := ⟨_, rfl⟩
  have HR := Aside0.mk hr
  have HQ := Aside0.mk hq
  rw [hr, hq] at HFt
  clear hr hq
  go_enter Try.func15, Try.ntmps15
  go_upto_region 1 with fail
  obtain ⟨b, hb⟩ : ∃ b, w.heap.size = b := ⟨_, rfl⟩
  have hbb : Aside0 (w.heap.size ≤ b) := ⟨by omega⟩
  obtain ⟨W, hW⟩ : ∃ W, w.alloc (.cells #[.int .i64 0, .int .i64 0, .string ⟨#[]⟩, .slice none 0 0, .slice none 0 0] 28) = W := ⟨_, rfl⟩
  rw [hW, hb] at HN
  rw [hW] at HB
  rw [hW, hb]
  clear hW hb
  cases r with
  | false =>
    go_wp2_with (go_at_call 48; (with_reducible refine (HA48.out _ HB.out).mono ?_); rintro e we ⟨rfl, hc⟩; rw [HR.out]; have HC2 := Aside0.mk hc; clear hc; have hl2 := Array.getElem?_eq_some_iff.1 HN.out; have HN2 := Aside0.mk ((HC2.out.block b hl2.1).trans HN.out); have HB2 := Aside0.mk (below_step HB.out HC2.out); clear hl2; obtain ⟨t0, t1, t2, t3, t4, t5⟩ := zero5 HN2.out)
    obtain ⟨W', hW', ⟨u0, u1, u2, u3, u4⟩, hg, hz⟩ := fill5 HN2.out HB2.out hbb.out (.int .i64 0) (.int .i64 0) (.string ⟨#[]⟩) (.slice none 0 0) (.slice none 0 0)
    rw [hW']
    exact bodyPost_ret (v := .tuple #[.agg #[.int .i64 0, .int .i64 0, .string ⟨#[]⟩, .slice none 0 0, .slice none 0 0], .int .i64 1]) (by simp [results, Try.results15, go_sem, u0, u1, u2, u3, u4]) rfl (Or.inl ⟨HR.out, rfl, hz⟩)
  | true =>
    have HF := Aside0.mk (HFt.out rfl)
    clear HFt
    cases q with
    | false =>
      go_wp2_with (first | (go_at_call 48; (with_reducible refine (HA48.out _ HB.out).mono ?_); rintro e we ⟨rfl, hc⟩; rw [HR.out]; have HC2 := Aside0.mk hc; clear hc; have hl2 := Array.getElem?_eq_some_iff.1 HN.out; have HN2 := Aside0.mk ((HC2.out.block b hl2.1).trans HN.out); have HB2 := Aside0.mk (below_step HB.out HC2.out); clear hl2; obtain ⟨t0, t1, t2, t3, t4, t5⟩ := zero5 HN2.out) | (go_at_call 51; (with_reducible refine (HA51.out _ HB2.out).mono ?_); rintro e we2 ⟨X, d, rfl, hRw, hc⟩; have HRw := Aside0.mk hRw; clear hRw; have HC3 := Aside0.mk hc; clear hc; have hl3 := Array.getElem?_eq_some_iff.1 HN2.out; have HN3 := Aside0.mk ((HC3.out.block b hl3.1).trans HN2.out); have HB3 := Aside0.mk (below_step HB2.out HC3.out); clear hl3; obtain ⟨t0, t1, t2, t3, t4, t5⟩ := zero5 HN3.out) | (go_at_call 50; (with_reducible refine (arrV X l.length d _).mono ?_); rintro e we3 ⟨rfl, hc⟩; have HRr := Aside0.mk (Kd.R_reads' (Kd.R_below HRw.out hc)).2; have HC4 := Aside0.mk hc; clear hc; have hl4 := Array.getElem?_eq_some_iff.1 HN3.out; have HN4 := Aside0.mk ((HC4.out.block b hl4.1).trans HN3.out); have HB4 := Aside0.mk (below_step HB3.out HC4.out); clear hl4; obtain ⟨t0, t1, t2, t3, t4, t5⟩ := zero5 HN4.out) | (go_at_call 49; (with_reducible refine (HF.out _ X d HRr.out.2 HRr.out.1).mono ?_); rintro e we4 ⟨rfl, hc⟩; have HC5 := Aside0.mk hc; clear hc; have hl5 := Array.getElem?_eq_some_iff.1 HN4.out; have HN5 := Aside0.mk ((HC5.out.block b hl5.1).trans HN4.out); have HB5 := Aside0.mk (below_step HB4.out HC5.out); clear hl5; obtain ⟨t0, t1, t2, t3, t4, t5⟩ := zero5 HN5.out))
      obtain ⟨W', hW', ⟨u0, u1, u2, u3, u4⟩, hg, hz⟩ := fill5 HN5.out HB5.out hbb.out (.int .i64 0) (.int .i64 0) (.string ⟨#[]⟩) (.slice none 0 0) (.slice none 0 0)
      rw [hW']
      exact bodyPost_ret (v := .tuple #[.agg #[.int .i64 0, .int .i64 0, .string ⟨#[]⟩, .slice none 0 0, .slice none 0 0], .int .i64 2]) (by simp [results, Try.results15, go_sem, u0, u1, u2, u3, u4]) rfl (Or.inr (Or.inl ⟨HR.out, HQ.out, rfl, hz⟩))
    | true =>
      go_wp2_with (first | (go_at_call 48; (with_reducible refine (HA48.out _ HB.out).mono ?_); rintro e we ⟨rfl, hc⟩; rw [HR.out]; have HC2 := Aside0.mk hc; clear hc; have hl2 := Array.getElem?_eq_some_iff.1 HN.out; have HN2 := Aside0.mk ((HC2.out.block b hl2.1).trans HN.out); have HB2 := Aside0.mk (below_step HB.out HC2.out); clear hl2; obtain ⟨t0, t1, t2, t3, t4, t5⟩ := zero5 HN2.out) | (go_at_call 51; (with_reducible refine (HA51.out _ HB2.out).mono ?_); rintro e we2 ⟨X, d, rfl, hRw, hc⟩; have HRw := Aside0.mk hRw; clear hRw; have HC3 := Aside0.mk hc; clear hc; have hl3 := Array.getElem?_eq_some_iff.1 HN2.out; have HN3 := Aside0.mk ((HC3.out.block b hl3.1).trans HN2.out); have HB3 := Aside0.mk (below_step HB2.out HC3.out); clear hl3; obtain ⟨t0, t1, t2, t3, t4, t5⟩ := zero5 HN3.out) | (go_at_call 50; (with_reducible refine (arrV X l.length d _).mono ?_); rintro e we3 ⟨rfl, hc⟩; have HRr := Aside0.mk (Kd.R_reads' (Kd.R_below HRw.out hc)).2; have HC4 := Aside0.mk hc; clear hc; have hl4 := Array.getElem?_eq_some_iff.1 HN3.out; have HN4 := Aside0.mk ((HC4.out.block b hl4.1).trans HN3.out); have HB4 := Aside0.mk (below_step HB3.out HC4.out); clear hl4; obtain ⟨t0, t1, t2, t3, t4, t5⟩ := zero5 HN4.out) | (go_at_call 49; (with_reducible refine (HF.out _ X d HRr.out.2 HRr.out.1).mono ?_); rintro e we4 ⟨rfl, hc⟩; have HC5 := Aside0.mk hc; clear hc; have hl5 := Array.getElem?_eq_some_iff.1 HN4.out; have HN5 := Aside0.mk ((HC5.out.block b hl5.1).trans HN4.out); have HB5 := Aside0.mk (below_step HB4.out HC5.out); clear hl5; obtain ⟨t0, t1, t2, t3, t4, t5⟩ := zero5 HN5.out))
      have hlt := (Array.getElem?_eq_some_iff.1 HN2.out).1
      obtain ⟨W', hW', ⟨u0, u1, u2, u3, u4⟩, hg, hz⟩ := fill5 HN5.out HB5.out hbb.out (.int .i64 5) (.int .i64 0) (.string ⟨#[]⟩) (.slice none 0 0) (.slice X l.length d)
      rw [hW']
      exact bodyPost_ret (v := .tuple #[.agg #[.int .i64 5, .int .i64 0, .string ⟨#[]⟩, .slice none 0 0, .slice X l.length d], .int .i64 0]) (by simp [results, Try.results15, go_sem, u0, u1, u2, u3, u4]) rfl (Or.inr (Or.inr ⟨HR.out, HQ.out, X, d, rfl, rd_mkA (Kd.R_reads' (Kd.R_grown (Kd.R_below (Kd.R_below (Kd.R_mono (Kd.R_bound HRw.out) (fun k hk => hk.2.1)) HC4.out) HC5.out) hg (fun k (hk : we.heap.size ≤ k) e => by have := Option.some.inj e; omega))).2.2 HRr.out.1, hz⟩))
end Go.Proofs.Ytgpjkojnmeaoiaa.QV

/- Makers: the reference's all and List. -/
namespace Go.Proofs.Ytgpjkojnmeaoiaa.QV
open Go Go.RowKit Go.Proofs.YtgpjkojnmeaoiaaW.PrintWords Go.Proofs.YtgpjkojnmeaoiaaW.PrintLast Go.Proofs.YtgpjkojnmeaoiaaW.PrintMore
set_option linter.unusedVariables false
set_option linter.unusedSimpArgs false
set_option maxRecDepth 100000
set_option maxHeartbeats 4000000
theorem refAllC (l : List S28) (w : World) {A : Option Addr} {c : Nat} (hl : Kd.C k28 w A l.length l) (hw : ∀ y ∈ l, Wv y ∧ cnt y ≤ 1000000000000000) (hm : l.length ≤ 140737488351232) :
    Calls Try.prog 52 #[.slice A l.length c] w fun e w' => e = .returned (.bool (l.all vd)) ∧ Below w.heap.size w w' := by
  have HL := Aside0.mk hl
  have HWv := Aside0.mk hw
  obtain ⟨r, hfr⟩ : ∃ r, l.all vd = r := ⟨_, rfl⟩
  rw [hfr]
  have HF : Aside0 ((l.drop 0).all vd = r) := ⟨hfr⟩
  have HW := Aside0.mk (Below.refl w.heap.size w)
  clear hl hw hfr
  go_enter Try.func52, Try.ntmps52
  go_wp2_with fail
  go_loopg [3] l.length (fun kq vi w' => ∃ (i : Nat), kq + i = l.length ∧ vi = .int .i64 (i : Int) ∧ Aside0 ((l.drop i).all vd = r) ∧ Aside0 (Below w.heap.size w w'))
  case atStart => exact ⟨0, by omega, rfl, HF, HW⟩
  case round =>
    clear HF HW
    obtain ⟨i, hi, rfl, HF, HW⟩ := hrel
    by_cases ci : i < l.length
    · have g0 : decide ((i : Int) < (l.length : Int)) = true := decide_eq_true (by omega)
      have g1 : decide (i < l.length) = true := decide_eq_true ci
      have g2 : (0 ≤ (i : Int)) = True := eq_true (by omega)
      have g3 : ((i : Int) < (l.length : Int)) = True := eq_true (by omega)
      obtain ⟨j1, rfl⟩ : ∃ j1, gk = j1 + 1 := ⟨gk - 1, by omega⟩
      have hil : l[i]? = some l[i] := List.getElem?_eq_getElem ci
      have hm2 := List.getElem_mem ci
      have hq := HWv.out _ hm2
      have hd := List.drop_eq_getElem_cons ci
      obtain ⟨y, hq'⟩ : ∃ y, l[i] = y := ⟨_, rfl⟩
      rw [hq'] at hil hq hd
      obtain ⟨ad, Y3, y3, Y4, y4, e1, he0⟩ := el_at (Kd.C_below HL.out HW.out) i ci hil
      have hF := HF.out
      rw [hd, List.all_cons] at hF
      have HI := Aside0.mk hi
      have HY := Aside0.mk (refValidC y wr hq.1 hq.2 he0.rd)
      obtain ⟨v, hv⟩ : ∃ v, vd y = v := ⟨_, rfl⟩
      rw [hv] at hF HY
      obtain ⟨e0, e2, e3, e4, e5, _⟩ := he0
      clear hil hq' hi hm2 hq hd hv HF
      subst e1
      cases v with
      | false =>
        rw [Bool.false_and] at hF
        subst hF
        go_wp2_with (first | (go_at_call 25; (with_reducible refine HY.out.mono ?_); rintro e we ⟨rfl, hb⟩; have HW2 := Aside0.mk (below_step HW.out hb); clear HW; have HW := HW2; clear HW2 hb))
        go_ret
        exact ⟨rfl, HW.out⟩
      | true =>
        rw [Bool.true_and] at hF
        have HG := Aside0.mk hF
        clear hF
        have hib : i < 140737488351232 := by omega
        go_wp2_with (first | (go_at_call 25; (with_reducible refine HY.out.mono ?_); rintro e we ⟨rfl, hb⟩; have HW2 := Aside0.mk (below_step HW.out hb); clear HW; have HW := HW2; clear HW2 hb))
        go_roundg j1
        case measure => omega
        case rel => exact ⟨i + 1, by have := HI.out; omega, rfl, HG, HW⟩
    · have g0 : decide ((i : Int) < (l.length : Int)) = false := decide_eq_false (by omega)
      have g1 : decide (i < l.length) = false := decide_eq_false ci
      have hF := HF.out
      rw [List.drop_eq_nil_of_le (by omega)] at hF
      have hff : r = true := hF.symm
      subst hff
      clear HF hF ci hi
      go_wp2_with fail
      go_ret
      exact ⟨rfl, HW.out⟩
/-- A row of its own over values of a world below. -/
theorem own_C {w W : World} {base : Nat} {X : Option Addr} {d : Nat} {l : List S28} (h : OwnRow (k28.K w) 28 5 W base (.slice X l.length d) l) (hb : Below w.heap.size w W) : Kd.C k28 W X l.length l ∧ l.length ≤ d := by
  obtain ⟨A, c, e, hl, hr⟩ := (h.imp_ (fun _ _ hp => k28.K_below hb hp)).reads
  injection e with e1 e2 e3
  subst e1 e3
  exact ⟨hr, hl⟩
theorem refListC (l : List S28) (w0 w : World) (h0 : Below w0.heap.size w0 w) {A : Option Addr} {c : Nat} (hl : Kd.C k28 w0 A l.length l) (hm : l.length ≤ 1000) :
    Calls Try.prog 53 #[.slice A l.length c] w fun e w' => ∃ X d, e = .returned (.agg #[.int .i64 5, .int .i64 0, .string ⟨#[]⟩, .slice none 0 0, .slice X l.length d]) ∧ OwnRow (k28.K w0) 28 5 w' w.heap.size (.slice X l.length d) l ∧ Below w.heap.size w w' := by
  have H0 := Aside0.mk h0
  have HN : Aside0 ((w.alloc (.cells #[.int .i64 0, .int .i64 0, .string ⟨#[]⟩, .slice none 0 0, .slice none 0 0] 28)).heap[w.heap.size]? = some (.cells #[.int .i64 0, .int .i64 0, .string ⟨#[]⟩, .slice none 0 0, .slice none 0 0] 28 (0, 0))) := ⟨heap_alloc_new w _⟩
  have HB := Aside0.mk (new_below w (.cells #[.int .i64 0, .int .i64 0, .string ⟨#[]⟩, .slice none 0 0, .slice none 0 0] 28))
  have HL := Aside0.mk hl
  have HLn := Aside0.mk hm
  clear hl hm h0
  go_enter Try.func53, Try.ntmps53
  go_upto_region 1 with fail
  obtain ⟨b, hb⟩ : ∃ b, w.heap.size = b := ⟨_, rfl⟩
  have hbb : Aside0 (w.heap.size ≤ b) := ⟨by omega⟩
  obtain ⟨W, hW⟩ : ∃ W, w.alloc (.cells #[.int .i64 0, .int .i64 0, .string ⟨#[]⟩, .slice none 0 0, .slice none 0 0] 28) = W := ⟨_, rfl⟩
  rw [hW, hb] at HN
  rw [hW] at HB
  rw [hW, hb]
  clear hW hb
  have HO : Aside0 (OwnRow (k28.K w0) 28 5 (W.alloc (.cells #[] 28)) W.heap.size (.slice (some ⟨W.heap.size, 0, none⟩) 0 0) []) := ⟨OwnRow.lit (R := k28.K w0) (e := 28) (size := 5) W W.heap.size (ps := []) (inner := []) (Reps.none _ _) (Nat.le_refl _) (by simp)⟩
  have HB1 := Aside0.mk (new_below W (.cells #[] 28))
  have HRw := Aside0.mk (rowB HL.out (below_step H0.out (below_step HB.out HB1.out)))
  go_wp2_with ((at_builtin; refine Kd.R_append_rows (P := Try.prog) (kRel (k28.K w0) 5 (fun _ _ h => k28.K_len h) (fun _ _ h => k28.K_one h)) (Rr := k28.K w0) (w0 := W) (W := W.alloc (.cells #[] 28)) W.heap.size rfl (.tmp 3) (.tmp 4) 23 28 (.agg #[.int .i64 0, .int .i64 0, .string ⟨#[]⟩, .slice none 0 0, .slice none 0 0]) 80 rfl Try.underlying23 info28 rfl (show 0 < 5 by decide) (by decide) (.slice (some ⟨W.heap.size, 0, none⟩) 0 0) [] l A l.length c (fun _ => True) (fun _ => False) rfl rfl ⟨fun _ _ => trivial, HO.out⟩ HRw.out (fun _ _ h => h) (fun _ h => h.elim) (fun _ _ => trivial) HB1.out (Below.size HB1.out) (by have := HLn.out; simp only [List.length_nil]; omega) ?_; intro v1 w1 ho hb hg hx; rw [List.nil_append] at ho; obtain ⟨X, d, e5⟩ := Kd.R_slice ho; subst e5; have hl0 := Array.getElem?_eq_some_iff.1 HN.out; have HN2 := Aside0.mk ((hb.block b hl0.1).trans HN.out); have HB2 := Aside0.mk (below_step HB.out hb); have HRo := Aside0.mk ho; have HlW := Aside0.mk hl0.1; clear ho hb hg hx hl0; obtain ⟨t0, t1, t2, t3, t4, t5⟩ := zero5 HN2.out))
  obtain ⟨W', hW', ⟨u0, u1, u2, u3, u4⟩, hg, hz⟩ := fill5 HN2.out HB2.out hbb.out (.int .i64 5) (.int .i64 0) (.string ⟨#[]⟩) (.slice none 0 0) (.slice X l.length d)
  rw [hW']
  have hR := (Kd.R_grown (Kd.R_mono (Kd.R_bound HRo.out) (fun k hk => hk.2.1)) hg (fun k (hk : W.heap.size ≤ k) e => by have := Option.some.inj e; have := HlW.out; omega)).2
  exact bodyPost_ret (v := .agg #[.int .i64 5, .int .i64 0, .string ⟨#[]⟩, .slice none 0 0, .slice X l.length d]) (by simp [results, Try.results53, go_sem, u0, u1, u2, u3, u4]) rfl ⟨X, d, rfl, OwnRow.lower hR (Below.size HB.out), hz⟩
end Go.Proofs.Ytgpjkojnmeaoiaa.QV

/- Makers: the reference's Arr. -/
namespace Go.Proofs.Ytgpjkojnmeaoiaa.QV
open Go Go.RowKit Go.Proofs.YtgpjkojnmeaoiaaW.PrintWords Go.Proofs.YtgpjkojnmeaoiaaW.PrintLast Go.Proofs.YtgpjkojnmeaoiaaW.PrintMore
set_option linter.unusedVariables false
set_option linter.unusedSimpArgs false
set_option maxRecDepth 100000
set_option maxHeartbeats 4000000
theorem refArrC (l : List S28) (w : World) {A : Option Addr} {c : Nat} (hl : Kd.C k28 w A l.length l) (hw : ∀ y ∈ l, Wv y ∧ cnt y ≤ 100) (hm : l.length ≤ 20) : Calls Try.prog 16 #[.slice A l.length c] w (ArrPost l w) := by
  have HN : Aside0 ((w.alloc (.cells #[.int .i64 0, .int .i64 0, .string ⟨#[]⟩, .slice none 0 0, .slice none 0 0] 28)).heap[w.heap.size]? = some (.cells #[.int .i64 0, .int .i64 0, .string ⟨#[]⟩, .slice none 0 0, .slice none 0 0] 28 (0, 0))) := ⟨heap_alloc_new w _⟩
  have HB := Aside0.mk (new_below w (.cells #[.int .i64 0, .int .i64 0, .string ⟨#[]⟩, .slice none 0 0, .slice none 0 0] 28))
  have HA52 := Aside0.mk (fun W (hb : Below w.heap.size w W) => refAllC (c := c) l W (Kd.C_below hl hb) (fun y hy => ⟨(hw y hy).1, by have := (hw y hy).2; omega⟩) (by omega))
  have HA53 := Aside0.mk (fun W (hb : Below w.heap.size w W) => refListC (c := c) l w W hb hl (by omega))
  have HF : Aside0 (∀ W X d, Kd.C k28 W X l.length l → l.length ≤ d → Calls Try.prog 46 #[.agg #[.int .i64 5, .int .i64 0, .string ⟨#[]⟩, .slice none 0 0, .slice X l.length d]] W fun e w' => e = .returned (if vd (mkA l) = true then .tuple #[.agg #[.int .i64 5, .int .i64 0, .string ⟨#[]⟩, .slice none 0 0, .slice X l.length d], .int .i64 0] else .tuple #[.agg #[.int .i64 0, .int .i64 0, .string ⟨#[]⟩, .slice none 0 0, .slice none 0 0], .int .i64 2]) ∧ Below W.heap.size W w') := ⟨fun W X d hC hd =>
    refFitC (mkA l) W (wv_mkA hm (fun y hy => (hw y hy).1)) (by have := cnt_mkA hm (fun y hy => (hw y hy).2); omega) (rd_mkA hC hd)⟩
  clear hl hw hm
  obtain ⟨r, hr⟩ : ∃ r, l.all vd = r := ⟨_, rfl⟩
  obtain ⟨q, hq⟩ : ∃ q, vd (mkA l) = q := ⟨_, rfl⟩
  have HR := Aside0.mk hr
  have HQ := Aside0.mk hq
  rw [hq] at HF
  clear hr hq
  go_enter Try.func16, Try.ntmps16
  go_upto_region 1 with fail
  obtain ⟨b, hb⟩ : ∃ b, w.heap.size = b := ⟨_, rfl⟩
  have hbb : Aside0 (w.heap.size ≤ b) := ⟨by omega⟩
  obtain ⟨W, hW⟩ : ∃ W, w.alloc (.cells #[.int .i64 0, .int .i64 0, .string ⟨#[]⟩, .slice none 0 0, .slice none 0 0] 28) = W := ⟨_, rfl⟩
  rw [hW, hb] at HN
  rw [hW] at HB
  rw [hW, hb]
  clear hW hb
  cases r with
  | false =>
    go_wp2_with (go_at_call 52; (with_reducible refine (HA52.out _ HB.out).mono ?_); rintro e we ⟨rfl, hc⟩; rw [HR.out]; have HC2 := Aside0.mk hc; clear hc; have hl2 := Array.getElem?_eq_some_iff.1 HN.out; have HN2 := Aside0.mk ((HC2.out.block b hl2.1).trans HN.out); have HB2 := Aside0.mk (below_step HB.out HC2.out); clear hl2; obtain ⟨t0, t1, t2, t3, t4, t5⟩ := zero5 HN2.out)
    obtain ⟨W', hW', ⟨u0, u1, u2, u3, u4⟩, hg, hz⟩ := fill5 HN2.out HB2.out hbb.out (.int .i64 0) (.int .i64 0) (.string ⟨#[]⟩) (.slice none 0 0) (.slice none 0 0)
    rw [hW']
    exact bodyPost_ret (v := .tuple #[.agg #[.int .i64 0, .int .i64 0, .string ⟨#[]⟩, .slice none 0 0, .slice none 0 0], .int .i64 1]) (by simp [results, Try.results16, go_sem, u0, u1, u2, u3, u4]) rfl (Or.inl ⟨HR.out, rfl, hz⟩)
  | true =>
    cases q with
    | false =>
      go_wp2_with (first | (go_at_call 52; (with_reducible refine (HA52.out _ HB.out).mono ?_); rintro e we ⟨rfl, hc⟩; rw [HR.out]; have HC2 := Aside0.mk hc; clear hc; have hl2 := Array.getElem?_eq_some_iff.1 HN.out; have HN2 := Aside0.mk ((HC2.out.block b hl2.1).trans HN.out); have HB2 := Aside0.mk (below_step HB.out HC2.out); clear hl2; obtain ⟨t0, t1, t2, t3, t4, t5⟩ := zero5 HN2.out) | (go_at_call 53; (with_reducible refine (HA53.out _ HB2.out).mono ?_); rintro e we2 ⟨X, d, rfl, hRw, hc⟩; have HRw := Aside0.mk hRw; clear hRw; have HC3 := Aside0.mk hc; clear hc; have hl3 := Array.getElem?_eq_some_iff.1 HN2.out; have HN3 := Aside0.mk ((HC3.out.block b hl3.1).trans HN2.out); have HB3 := Aside0.mk (below_step HB2.out HC3.out); clear hl3; obtain ⟨t0, t1, t2, t3, t4, t5⟩ := zero5 HN3.out; have HRr := Aside0.mk (own_C HRw.out HB3.out)) | (go_at_call 46; (with_reducible refine (HF.out _ X d HRr.out.1 HRr.out.2).mono ?_); rintro e we4 ⟨rfl, hc⟩; have HC4 := Aside0.mk hc; clear hc; have hl4 := Array.getElem?_eq_some_iff.1 HN3.out; have HN4 := Aside0.mk ((HC4.out.block b hl4.1).trans HN3.out); have HB4 := Aside0.mk (below_step HB3.out HC4.out); clear hl4; obtain ⟨t0, t1, t2, t3, t4, t5⟩ := zero5 HN4.out))
      obtain ⟨W', hW', ⟨u0, u1, u2, u3, u4⟩, hg, hz⟩ := fill5 HN4.out HB4.out hbb.out (.int .i64 0) (.int .i64 0) (.string ⟨#[]⟩) (.slice none 0 0) (.slice none 0 0)
      rw [hW']
      exact bodyPost_ret (v := .tuple #[.agg #[.int .i64 0, .int .i64 0, .string ⟨#[]⟩, .slice none 0 0, .slice none 0 0], .int .i64 2]) (by simp [results, Try.results16, go_sem, u0, u1, u2, u3, u4]) rfl (Or.inr (Or.inl ⟨HR.out, HQ.out, rfl, hz⟩))
    | true =>
      go_wp2_with (first | (go_at_call 52; (with_reducible refine (HA52.out _ HB.out).mono ?_); rintro e we ⟨rfl, hc⟩; rw [HR.out]; have HC2 := Aside0.mk hc; clear hc; have hl2 := Array.getElem?_eq_some_iff.1 HN.out; have HN2 := Aside0.mk ((HC2.out.block b hl2.1).trans HN.out); have HB2 := Aside0.mk (below_step HB.out HC2.out); clear hl2; obtain ⟨t0, t1, t2, t3, t4, t5⟩ := zero5 HN2.out) | (go_at_call 53; (with_reducible refine (HA53.out _ HB2.out).mono ?_); rintro e we2 ⟨X, d, rfl, hRw, hc⟩; have HRw := Aside0.mk hRw; clear hRw; have HC3 := Aside0.mk hc; clear hc; have hl3 := Array.getElem?_eq_some_iff.1 HN2.out; have HN3 := Aside0.mk ((HC3.out.block b hl3.1).trans HN2.out); have HB3 := Aside0.mk (below_step HB2.out HC3.out); clear hl3; obtain ⟨t0, t1, t2, t3, t4, t5⟩ := zero5 HN3.out; have HRr := Aside0.mk (own_C HRw.out HB3.out)) | (go_at_call 46; (with_reducible refine (HF.out _ X d HRr.out.1 HRr.out.2).mono ?_); rintro e we4 ⟨rfl, hc⟩; have HC4 := Aside0.mk hc; clear hc; have hl4 := Array.getElem?_eq_some_iff.1 HN3.out; have HN4 := Aside0.mk ((HC4.out.block b hl4.1).trans HN3.out); have HB4 := Aside0.mk (below_step HB3.out HC4.out); clear hl4; obtain ⟨t0, t1, t2, t3, t4, t5⟩ := zero5 HN4.out))
      have hlt := (Array.getElem?_eq_some_iff.1 HN2.out).1
      obtain ⟨W', hW', ⟨u0, u1, u2, u3, u4⟩, hg, hz⟩ := fill5 HN4.out HB4.out hbb.out (.int .i64 5) (.int .i64 0) (.string ⟨#[]⟩) (.slice none 0 0) (.slice X l.length d)
      rw [hW']
      exact bodyPost_ret (v := .tuple #[.agg #[.int .i64 5, .int .i64 0, .string ⟨#[]⟩, .slice none 0 0, .slice X l.length d], .int .i64 0]) (by simp [results, Try.results16, go_sem, u0, u1, u2, u3, u4]) rfl (Or.inr (Or.inr ⟨HR.out, HQ.out, X, d, rfl, rd_mkA (own_C (OwnRow.other (HRw.out.below HC4.out) hg (Or.inr (fun e => by obtain ⟨inner, ho, _⟩ := HRw.out; have := Go.Proofs.YtgpjkojnmeaoiaaW.PrintWords.own_base ho b e; omega))) hz).1 HRr.out.2, hz⟩))
end Go.Proofs.Ytgpjkojnmeaoiaa.QV

/- The reference's Put, in plain Lean: the fold of it over the members is what value.Obj makes. -/
namespace Go.Proofs.Ytgpjkojnmeaoiaa.QV
open Go Go.RowKit Go.Proofs.YtgpjkojnmeaoiaaW.PrintWords Go.Proofs.YtgpjkojnmeaoiaaW.PrintLast Go.Proofs.YtgpjkojnmeaoiaaW.PrintMore
set_option linter.unusedVariables false
set_option linter.unusedSimpArgs false
abbrev KV := ByteArray × S28
def SkP (l : List KV) : Prop := l.Pairwise (fun a b => blt a.1 b.1 = true)
def putP : List KV → ByteArray → S28 → List KV
  | [], k, y => [(k, y)]
  | a :: r, k, y => if blt a.1 k = true then a :: putP r k y else if a.1 = k then (k, y) :: r else (k, y) :: a :: r
theorem putP_mem : ∀ {l : List KV}, SkP l → ∀ (k : ByteArray) (y : S28) (q : KV), q ∈ putP l k y ↔ q = (k, y) ∨ (q ∈ l ∧ q.1 ≠ k) := by
  intro l
  induction l with
  | nil => intro _ k y q; simp [putP]
  | cons a r ih =>
    intro hs k y q
    have h1 := (List.pairwise_cons.1 hs).1
    have ih2 := ih (List.pairwise_cons.1 hs).2 k y q
    unfold putP
    by_cases c : blt a.1 k = true
    · rw [if_pos c, List.mem_cons, ih2, List.mem_cons]
      have hne : a.1 ≠ k := fun e => by rw [e, blt_irrefl] at c; cases c
      constructor
      · rintro (rfl | h | h)
        · exact Or.inr ⟨Or.inl rfl, hne⟩
        · exact Or.inl h
        · exact Or.inr ⟨Or.inr h.1, h.2⟩
      · rintro (h | ⟨rfl | h, h2⟩)
        · exact Or.inr (Or.inl h)
        · exact Or.inl rfl
        · exact Or.inr (Or.inr ⟨h, h2⟩)
    · rw [if_neg c]
      have hgt : ∀ q ∈ r, q.1 ≠ k := fun q hq e => by
        have := h1 q hq
        rw [e] at this
        exact c this
      by_cases d : a.1 = k
      · rw [if_pos d, List.mem_cons, List.mem_cons]
        constructor
        · rintro (h | h)
          · exact Or.inl h
          · exact Or.inr ⟨Or.inr h, hgt q h⟩
        · rintro (h | ⟨rfl | h, h2⟩)
          · exact Or.inl h
          · exact absurd d h2
          · exact Or.inr h
      · rw [if_neg d, List.mem_cons]
        constructor
        · rintro (h | h)
          · exact Or.inl h
          · refine Or.inr ⟨h, ?_⟩
            rcases List.mem_cons.1 h with rfl | h
            · exact d
            · exact hgt q h
        · rintro (h | h)
          · exact Or.inl h
          · exact Or.inr h.1
theorem putP_sk : ∀ {l : List KV}, SkP l → ∀ (k : ByteArray) (y : S28), SkP (putP l k y) := by
  intro l
  induction l with
  | nil => intro _ k y; exact List.pairwise_singleton _ _
  | cons a r ih =>
    intro hs k y
    have h1 := List.pairwise_cons.1 hs
    unfold putP
    by_cases c : blt a.1 k = true
    · rw [if_pos c]
      refine List.pairwise_cons.2 ⟨fun q hq => ?_, ih h1.2 k y⟩
      rcases (putP_mem h1.2 k y q).1 hq with rfl | h
      · exact c
      · exact h1.1 q h.1
    · rw [if_neg c]
      by_cases d : a.1 = k
      · rw [if_pos d]
        exact List.pairwise_cons.2 ⟨fun q hq => by have := h1.1 q hq; rw [d] at this; exact this, h1.2⟩
      · rw [if_neg d]
        have hka : blt k a.1 = true := by
          rcases blt_tri a.1 k with h | h | h
          · exact absurd h c
          · exact absurd h d
          · exact h
        refine List.pairwise_cons.2 ⟨fun q hq => ?_, hs⟩
        rcases List.mem_cons.1 hq with rfl | h
        · exact hka
        · exact blt_trans hka (h1.1 q h)
theorem skP_ext : ∀ {l m : List KV}, SkP l → SkP m → (∀ q, q ∈ l ↔ q ∈ m) → l = m := by
  intro l
  induction l with
  | nil =>
    intro m _ _ h
    cases m with
    | nil => rfl
    | cons b m => exact absurd ((h b).2 List.mem_cons_self) (by simp)
  | cons a l ih =>
    intro m hl hm h
    cases m with
    | nil => exact absurd ((h a).1 List.mem_cons_self) (by simp)
    | cons b m =>
      have h1 := List.pairwise_cons.1 hl
      have h2 := List.pairwise_cons.1 hm
      have hab : a = b := by
        rcases List.mem_cons.1 ((h a).1 List.mem_cons_self) with e | e
        · exact e
        · rcases List.mem_cons.1 ((h b).2 List.mem_cons_self) with f | f
          · exact f.symm
          · have := blt_asymm (h2.1 a e)
            rw [h1.1 b f] at this
            cases this
      subst hab
      congr 1
      refine ih h1.2 h2.2 (fun q => ?_)
      have hq := h q
      rw [List.mem_cons, List.mem_cons] at hq
      constructor
      · intro hm1
        rcases hq.1 (Or.inr hm1) with rfl | h
        · have := h1.1 q hm1
          rw [blt_irrefl] at this
          cases this
        · exact h
      · intro hm1
        rcases hq.2 (Or.inr hm1) with rfl | h
        · have := h2.1 q hm1
          rw [blt_irrefl] at this
          cases this
        · exact h
/-- The last member of a key. -/
def Lst (z : List KV) (q : KV) : Prop := ∃ p : Nat, z[p]? = some q ∧ ∀ (j : Nat) (y : S28), p < j → z[j]? ≠ some (q.1, y)
theorem lst_app (z : List KV) (k : ByteArray) (y : S28) (q : KV) : Lst (z ++ [(k, y)]) q ↔ q = (k, y) ∨ (Lst z q ∧ q.1 ≠ k) := by
  constructor
  · rintro ⟨p, hp, hl⟩
    rcases Nat.lt_or_ge p z.length with c | c
    · rw [List.getElem?_append_left c] at hp
      refine Or.inr ⟨⟨p, hp, fun j y' hj hz => hl j y' hj ?_⟩, fun e => ?_⟩
      · rw [List.getElem?_append_left (List.getElem?_eq_some_iff.1 hz).1]
        exact hz
      · refine hl z.length y c ?_
        rw [List.getElem?_append_right (Nat.le_refl _), e]
        simp
    · rw [List.getElem?_append_right c] at hp
      have h2 := (List.getElem?_eq_some_iff.1 hp).1
      have h3 : p - z.length = 0 := by simp at h2; omega
      rw [h3] at hp
      left
      simpa using hp.symm
  · rintro (rfl | ⟨⟨p, hp, hl⟩, hne⟩)
    · refine ⟨z.length, by rw [List.getElem?_append_right (Nat.le_refl _)]; simp, fun j y' hj hz => ?_⟩
      have := (List.getElem?_eq_some_iff.1 hz).1
      simp at this
      omega
    · refine ⟨p, by rw [List.getElem?_append_left (List.getElem?_eq_some_iff.1 hp).1]; exact hp, fun j y' hj hz => ?_⟩
      rcases Nat.lt_or_ge j z.length with c | c
      · rw [List.getElem?_append_left c] at hz
        exact hl j y' hj hz
      · rw [List.getElem?_append_right c] at hz
        have h2 := (List.getElem?_eq_some_iff.1 hz).1
        have h3 : j - z.length = 0 := by simp at h2; omega
        rw [h3] at hz
        simp at hz
        exact hne hz.1.symm
def foldP (z : List KV) : List KV := z.foldl (fun a q => putP a q.1 q.2) []
theorem foldP_app (z : List KV) (q : KV) : foldP (z ++ [q]) = putP (foldP z) q.1 q.2 := by simp [foldP]
theorem foldP_all (z : List KV) : SkP (foldP z) ∧ ∀ q, q ∈ foldP z ↔ Lst z q := by
  obtain ⟨r, hr⟩ : ∃ r, z.reverse = r := ⟨_, rfl⟩
  have e : z = r.reverse := by rw [← hr, List.reverse_reverse]
  rw [e]
  clear hr e
  induction r with
  | nil => exact ⟨List.Pairwise.nil, fun q => by simp [foldP, Lst]⟩
  | cons a r ih =>
    rw [List.reverse_cons, foldP_app]
    refine ⟨putP_sk ih.1 _ _, fun q => ?_⟩
    obtain ⟨k, y⟩ := a
    rw [putP_mem ih.1, lst_app, ih.2]
/-- The fold of Put is the object that value.Obj makes. -/
theorem fold_ov {ks : List ByteArray} {es : List S28} {ms : List Mem} (hp : ms.Perm (mems ks)) (hs : ms.Pairwise lexM) (hl : ks.length = es.length) : foldP (ks.zip es) = prs es (dd ms) := by
  have hsk := dd_sk ms hs
  have hdist : ∀ a b : Mem, a ∈ dd ms → b ∈ dd ms → a.1 = b.1 → a = b := by
    intro a b ha hb e
    have hpw : (dd ms).Pairwise (fun a b => blt a.1 b.1 = true) := List.pairwise_map.1 hsk
    obtain ⟨i, hi, ei⟩ := List.mem_iff_getElem.1 ha
    obtain ⟨j, hj, ej⟩ := List.mem_iff_getElem.1 hb
    have h := List.pairwise_iff_getElem.1 hpw
    rcases Nat.lt_trichotomy i j with c | c | c
    · have := h i j hi hj c
      rw [ei, ej, e, blt_irrefl] at this
      cases this
    · subst c
      rw [← ei, ej]
    · have := h j i hj hi c
      rw [ei, ej, e, blt_irrefl] at this
      cases this
  refine skP_ext (foldP_all _).1 (List.pairwise_map.2 (List.pairwise_map.1 hsk)) (fun q => ?_)
  rw [(foldP_all _).2]
  have hz : ∀ (p : Nat) (k : ByteArray) (y : S28), (ks.zip es)[p]? = some (k, y) ↔ ks[p]? = some k ∧ es[p]? = some y := by
    intro p k y
    rw [List.getElem?_zip_eq_some]
  constructor
  · rintro ⟨p, h1, h2⟩
    obtain ⟨k, y⟩ := q
    obtain ⟨hk, hy⟩ := (hz p k y).1 h1
    obtain ⟨m, hm, e1, e2⟩ := dd_max ms hs (k, (p : Int)) (hp.mem_iff.2 (mem_mems hk))
    obtain ⟨km, im⟩ := m
    obtain rfl : km = k := e1
    obtain ⟨p2, hp2, rfl, hk2⟩ := mems_mem (hp.mem_iff.1 (dd_mem hm))
    have hpp : p2 = p := by
      have h3 : (p : Int) ≤ (p2 : Int) := e2
      rcases Nat.lt_or_ge p p2 with c | c
      · have hy2 : es[p2]? = some (es[p2]'(by omega)) := List.getElem?_eq_getElem _
        exact absurd ((hz p2 km _).2 ⟨hk2, hy2⟩) (h2 p2 _ c)
      · omega
    subst hpp
    refine List.mem_map.2 ⟨_, hm, ?_⟩
    simp only [ge, Int.toNat_natCast, hy, Option.getD_some]
  · intro h
    obtain ⟨m, hm, rfl⟩ := List.mem_map.1 h
    obtain ⟨km, im⟩ := m
    obtain ⟨p, hp2, rfl, hk⟩ := mems_mem (hp.mem_iff.1 (dd_mem hm))
    have hpl : p < es.length := by omega
    refine ⟨p, (hz p _ _).2 ⟨hk, by simp only [ge, Int.toNat_natCast, List.getElem?_eq_getElem hpl, Option.getD_some]⟩, fun j y hj hzj => ?_⟩
    obtain ⟨hkj, _⟩ := (hz j _ _).1 hzj
    obtain ⟨m2, hm2, e1, e2⟩ := dd_max ms hs (km, (j : Int)) (hp.mem_iff.2 (mem_mems hkj))
    have := hdist m2 (km, (p : Int)) hm2 hm e1
    rw [this] at e2
    have e3 : (j : Int) ≤ (p : Int) := e2
    omega
end Go.Proofs.Ytgpjkojnmeaoiaa.QV

/- A row of values and a literal of one value, made in any order; elements are told at a world of their own. -/
namespace Go.Proofs.Ytgpjkojnmeaoiaa.QV
open Go Go.RowKit Go.Proofs.YtgpjkojnmeaoiaaW.PrintWords Go.Proofs.YtgpjkojnmeaoiaaW.PrintLast Go.Proofs.YtgpjkojnmeaoiaaW.PrintMore
set_option linter.unusedVariables false
set_option linter.unusedSimpArgs false
set_option maxRecDepth 100000
set_option maxHeartbeats 4000000
structure Pg (zc : Array Value) (w0 w W : World) (vb : Option (Value × List S28)) (bz : Option Nat) : Prop where
  z : Below w.heap.size w W
  b : ∀ v l, vb = some (v, l) → OwnRow (k28.K w0) 28 5 W w.heap.size v l
  c : ∀ g, bz = some g → w.heap.size ≤ g ∧ W.heap[g]? = some (.cells zc 28 (0, 0)) ∧ ∀ v l, vb = some (v, l) → v.ownBlock ≠ some g
variable {zc : Array Value}
theorem Pg.start (w0 w : World) : Pg zc w0 w w none none := ⟨Below.refl _ _, fun v l e => (by cases e), fun g e => (by cases e)⟩
theorem Pg.below {w0 w W W' : World} {vb bz} (h : Pg zc w0 w W vb bz) (hb : Below W.heap.size W W') : Pg zc w0 w W' vb bz :=
  ⟨below_step h.z hb, fun v l e => (h.b v l e).below hb, fun g e => ⟨(h.c g e).1, (hb.block g (Array.getElem?_eq_some_iff.1 (h.c g e).2.1).1).trans (h.c g e).2.1, (h.c g e).2.2⟩⟩
theorem Pg.newB {w0 w W : World} {bz} (h : Pg zc w0 w W none bz) : Pg zc w0 w (W.alloc (.cells #[] 28)) (some (.slice (some ⟨W.heap.size, 0, none⟩) 0 0, [])) bz := by
  have h1 := h.below (new_below W (.cells #[] 28))
  refine ⟨h1.z, fun v l e => ?_, fun g e => ⟨(h1.c g e).1, (h1.c g e).2.1, fun v l e2 => ?_⟩⟩
  · injection e with e
    injection e with e1 e2
    subst e1 e2
    exact OwnRow.lit (R := k28.K w0) (e := 28) (size := 5) W w.heap.size (ps := []) (inner := []) (Reps.none _ _) (Below.size h.z) (by simp)
  · injection e2 with e2
    injection e2 with e1 e2
    subst e1
    intro e3
    have := (Array.getElem?_eq_some_iff.1 (h.c g e).2.1).1
    have := Option.some.inj e3
    simp at this
    omega
theorem Pg.newZ {w0 w W : World} {vb} (h : Pg zc w0 w W vb none) : Pg zc w0 w (W.alloc (.cells zc 28)) vb (some W.heap.size) := by
  have h1 := h.below (new_below W (.cells zc 28))
  refine ⟨h1.z, h1.b, fun g e => ?_⟩
  obtain rfl := Option.some.inj e
  refine ⟨Below.size h.z, heap_alloc_new W _, fun v l e2 e3 => ?_⟩
  obtain ⟨inner, ho, _⟩ := h.b v l e2
  have := Go.Proofs.YtgpjkojnmeaoiaaW.PrintWords.own_lt ho _ e3
  omega
theorem Pg.moveB {w0 w W W1 : World} {v v1 : Value} {xs xs1 : List S28} {bz} (h : Pg zc w0 w W (some (v, xs)) bz) (ho : OwnRow (k28.K w0) 28 5 W1 w.heap.size v1 xs1) (hb : Below w.heap.size w W1) (hg : W.grownBy W1 v.ownBlock) (hn : v1.ownBlock = v.ownBlock ∨ ∃ b, v1.ownBlock = some b ∧ W.heap.size ≤ b) : Pg zc w0 w W1 (some (v1, xs1)) bz := by
  refine ⟨hb, fun v2 l e => ?_, fun g e => ?_⟩
  · injection e with e
    injection e with e1 e2
    subst e1 e2
    exact ho
  · obtain ⟨c1, c2, c3⟩ := h.c g e
    have hlt := (Array.getElem?_eq_some_iff.1 c2).1
    refine ⟨c1, (hg.block g hlt (fun e2 => c3 v xs rfl e2.symm)).trans c2, fun v2 l e2 e3 => ?_⟩
    injection e2 with e2
    injection e2 with e4 e5
    subst e4
    rcases hn with hn | ⟨b, hn, hlb⟩
    · exact c3 v xs rfl (hn ▸ e3)
    · rw [hn] at e3
      have := Option.some.inj e3
      omega
theorem Pg.reads {w0 w W : World} {vb} {g : Nat} {A3 : Option Addr} {c3 : Nat} {A4 : Option Addr} {c4 : Nat} {x : S28} (h : Pg #[.int .i64 x.f0, .int .i64 x.f1, .string x.f2, .slice A3 x.f3.length c3, .slice A4 x.f4.length c4] w0 w W vb (some g)) (hx : Rd w0 A3 c3 A4 c4 x) : ReadsRow (k28.K w0) 5 W (some ⟨g, 0, none⟩) 1 [x] := by
  obtain ⟨t0, t1, t2, t3, t4⟩ := cells5 (h.c g rfl).2.1
  refine ⟨rfl, by omega, fun _ => ⟨_, rfl, fun j p hj => ?_⟩⟩
  match j, hj with
  | 0, hj =>
    obtain rfl := Option.some.inj hj
    refine ⟨[.int .i64 x.f0, .int .i64 x.f1, .string x.f2, .slice A3 x.f3.length c3, .slice A4 x.f4.length c4], rfl, k28_mk w0 x hx.k3 hx.r3 hx.k4 hx.r4, fun i u hu => ?_⟩
    match i, hu with
    | 0, hu => obtain rfl := Option.some.inj hu; exact t0
    | 1, hu => obtain rfl := Option.some.inj hu; exact t1
    | 2, hu => obtain rfl := Option.some.inj hu; exact t2
    | 3, hu => obtain rfl := Option.some.inj hu; exact t3
    | 4, hu => obtain rfl := Option.some.inj hu; exact t4
    | i + 5, hu => simp at hu
  | j + 1, hj => simp at hj
theorem stepPB {w0 w W : World} {ops : Array Oper} {o : Oper} {a : Act} {Q : Exit → Act → World → Prop} {Kc : Act → World → Prop} {bz : Option Nat} (hw : Region.wanted o (yielded ops a.tmps) = true) (s x : Operand)
    (ho : o.op = .call { callee := .builtin .append, args := #[s, x], argTypes := #[23, 23] }) (v : Value) (xs ys : List S28) (A : Option Addr) (m c : Nat) (hs : a.eval s = v) (hx : a.eval x = .slice A m c)
    (H : Pg zc w0 w W (some (v, xs)) bz) (HR : ReadsRow (k28.K w0) 5 W A m ys) (hl : xs.length + m ≤ 1000) (h : ∀ v1 w1, Pg zc w0 w w1 (some (v1, xs ++ ys)) bz → W.grownBy w1 v.ownBlock → Kc (a.put o.dst v1) w1) :
    if Region.wanted o (yielded ops a.tmps) = true then Oper.wp Try.prog o a W Kc Q else Kc (a.put o.dst undef) W :=
  Kd.R_append_rows_step (P := Try.prog) (kRel (k28.K w0) 5 (fun _ _ h => k28.K_len h) (fun _ _ h => k28.K_one h)) (Rr := k28.K w0) (w0 := w) (W := W) w.heap.size hw s x 23 28 (.agg #[.int .i64 0, .int .i64 0, .string ⟨#[]⟩, .slice none 0 0, .slice none 0 0]) 80 ho Try.underlying23 info28 rfl (show 0 < 5 by decide) (by decide) v xs ys A m c (fun _ => True) (fun _ => False) hs hx
    ⟨fun _ _ => trivial, H.b v xs rfl⟩ HR (fun _ _ h => h) (fun _ h => h.elim) (fun _ _ => trivial) H.z (Below.size H.z) (by omega) (fun v1 w1 h1 h2 h3 h4 => h v1 w1 (H.moveB h1.2 h2 h3 h4) h3)
theorem kR1 (x : ByteArray) (cs : List Value) (h : kR x cs) : cs.length = 1 := by rw [show cs = [Value.string _] from h]; rfl
theorem kR2 (x : ByteArray) (cs : List Value) (h : kR x cs) : ∀ u ∈ cs, u.oneCell' = true := by rw [show cs = [Value.string _] from h]; simp [Value.oneCell']
/-- Appends to a row of strings, or of values, from a base on. -/
theorem stepPA {W : World} {ops : Array Oper} {o : Oper} {a : Act} {Q : Exit → Act → World → Prop} {Kc : Act → World → Prop} (base : Nat) (hw : Region.wanted o (yielded ops a.tmps) = true) (s x : Operand)
    (ho : o.op = .call { callee := .builtin .append, args := #[s, x], argTypes := #[22, 22] }) (v : Value) (xs ys : List ByteArray) (A : Option Addr) (m c : Nat) (hs : a.eval s = v) (hx : a.eval x = .slice A m c)
    (hz : base ≤ W.heap.size) (H : OwnRow kR 9 1 W base v xs) (HR : ReadsRow kR 1 W A m ys) (hl : xs.length + m ≤ 1000) (h : ∀ v1 w1, OwnRow kR 9 1 w1 base v1 (xs ++ ys) → Below base W w1 → W.grownBy w1 v.ownBlock → Kc (a.put o.dst v1) w1) :
    if Region.wanted o (yielded ops a.tmps) = true then Oper.wp Try.prog o a W Kc Q else Kc (a.put o.dst undef) W :=
  Kd.R_append_rows_step (P := Try.prog) (kRel kR 1 (fun _ _ h => by rw [show _ = [Value.string _] from h]; rfl) (fun _ _ h => by rw [show _ = [Value.string _] from h]; simp [Value.oneCell'])) (Rr := kR) (w0 := W) (W := W) base hw s x 22 9 (.string ⟨#[]⟩) 16 ho Try.underlying22 clone_info9 rfl (show 0 < 1 by decide) (by decide) v xs ys A m c (fun _ => True) (fun _ => False) hs hx
    ⟨fun _ _ => trivial, H⟩ HR (fun _ _ h => h) (fun _ h => h.elim) (fun _ _ => trivial) (Below.refl _ _) hz (by omega) (fun v1 w1 h1 h2 h3 _ => h v1 w1 h1.2 h2 h3)
theorem stepPV {w0 W : World} {ops : Array Oper} {o : Oper} {a : Act} {Q : Exit → Act → World → Prop} {Kc : Act → World → Prop} (base : Nat) (hw : Region.wanted o (yielded ops a.tmps) = true) (s x : Operand)
    (ho : o.op = .call { callee := .builtin .append, args := #[s, x], argTypes := #[23, 23] }) (v : Value) (xs ys : List S28) (A : Option Addr) (m c : Nat) (hs : a.eval s = v) (hx : a.eval x = .slice A m c)
    (hz : base ≤ W.heap.size) (H : OwnRow (k28.K w0) 28 5 W base v xs) (HR : ReadsRow (k28.K w0) 5 W A m ys) (hl : xs.length + m ≤ 1000) (h : ∀ v1 w1, OwnRow (k28.K w0) 28 5 w1 base v1 (xs ++ ys) → Below base W w1 → W.grownBy w1 v.ownBlock → Kc (a.put o.dst v1) w1) :
    if Region.wanted o (yielded ops a.tmps) = true then Oper.wp Try.prog o a W Kc Q else Kc (a.put o.dst undef) W :=
  Kd.R_append_rows_step (P := Try.prog) (kRel (k28.K w0) 5 (fun _ _ h => k28.K_len h) (fun _ _ h => k28.K_one h)) (Rr := k28.K w0) (w0 := W) (W := W) base hw s x 23 28 (.agg #[.int .i64 0, .int .i64 0, .string ⟨#[]⟩, .slice none 0 0, .slice none 0 0]) 80 ho Try.underlying23 info28 rfl (show 0 < 5 by decide) (by decide) v xs ys A m c (fun _ => True) (fun _ => False) hs hx
    ⟨fun _ _ => trivial, H⟩ HR (fun _ _ h => h) (fun _ h => h.elim) (fun _ _ => trivial) (Below.refl _ _) hz (by omega) (fun v1 w1 h1 h2 h3 _ => h v1 w1 h1.2 h2 h3)
theorem dropRun {P : Program} (t e : TypeId) {i : TypeInfo} (ht : P.underlying t = some (.slice e)) (hi : P.info? e = some i) (size : Nat) (hsz : i.size = size) (A : Option Addr) (n c m : Nat) (hm : m ≤ n) (W : World) :
    (Instr.slice t (.slice A n c) (some (.int .i64 (m : Int))) none none).run P W = .ok (.slice (if c = m then A else A.map (·.add (m * size))) (n - m) (c - m)) W := by
  have hel : P.elem t = e := by simp [Program.elem, ht]
  have hu : P.underlying t = some (.slice (P.elem t)) := by rw [hel]; exact ht
  rw [run_slice_l W t A n c hu .i64 (m : Int) (by omega) (by omega), hel]
  simp [sizeOf, typeInfo, hi, hsz, sliced, Result.andThen]
theorem rr_take {α : Type} {R : α → List Value → Prop} {size : Nat} {w : World} {A : Option Addr} {n : Nat} {ps : List α} (h : ReadsRow R size w A n ps) (m : Nat) (hm : m ≤ n) : ReadsRow R size w A m (ps.take m) := by
  refine ⟨by rw [List.length_take]; have := h.1; omega, by have := h.2.1; omega, fun hp => ?_⟩
  obtain ⟨ad, e, hc⟩ := h.2.2 (by omega)
  refine ⟨ad, e, fun j p hj => hc j p ?_⟩
  rw [List.getElem?_take] at hj
  split at hj
  · exact hj
  · cases hj
theorem rr_drop {α : Type} {R : α → List Value → Prop} {size : Nat} {w : World} {A : Option Addr} {n : Nat} {ps : List α} (h : ReadsRow R size w A n ps) (m : Nat) (hm : m ≤ n) (c : Nat) (hc : n ≤ c) : ReadsRow R size w (if c = m then A else A.map (·.add (m * size))) (n - m) (ps.drop m) := by
  refine ⟨by rw [List.length_drop]; have := h.1; omega, by have := h.2.1; omega, fun hp => ?_⟩
  obtain ⟨ad, rfl, hcell⟩ := h.2.2 (by omega)
  rw [if_neg (by omega)]
  refine ⟨ad.add (m * size), rfl, fun j p hj => ?_⟩
  rw [List.getElem?_drop] at hj
  obtain ⟨cs, h1, h2, h3⟩ := hcell (m + j) p hj
  refine ⟨cs, h1, h2, fun i u hu => ?_⟩
  rw [Go.Deep.add_add, show m * size + (j * size + i) = (m + j) * size + i by rw [Nat.add_mul]; omega]
  exact h3 i u hu
/-- A row of one's own: a world that agrees but for one block below the row's begin still holds it. -/
theorem OwnRow.but {α : Type} {R : α → List Value → Prop} {e : TypeId} {size : Nat} {w w1 : World} {base b : Nat} {v : Value} {ps : List α} (hsz : 0 < size) (h1 : ∀ x cs, R x cs → cs.length = size) (h2 : ∀ x cs, R x cs → ∀ u ∈ cs, u.oneCell' = true) (h : OwnRow R e size w base v ps) (hb : b < base) (hw : ∀ k, k ≠ b → w1.heap[k]? = w.heap[k]?) : OwnRow R e size w1 base v ps :=
  (Kd.R_move (d := kRel R size h1 h2) (Kd.R_mono (Kd.R_bound (d := kRel R size h1 h2) (ok := fun _ => True) ⟨fun _ _ => trivial, h⟩) (ok' := fun k => base ≤ k) (fun k hk => hk.2.1)) (fun k (hk : base ≤ k) => hw k (by omega))).2
end Go.Proofs.Ytgpjkojnmeaoiaa.QV

/- The reference's Put: the walk (under way). -/
namespace Go.Proofs.Ytgpjkojnmeaoiaa.QV
open Go Go.RowKit Go.Proofs.YtgpjkojnmeaoiaaW.PrintWords Go.Proofs.YtgpjkojnmeaoiaaW.PrintLast Go.Proofs.YtgpjkojnmeaoiaaW.PrintMore
set_option linter.unusedVariables false
set_option linter.unusedSimpArgs false
set_option maxRecDepth 100000
set_option maxHeartbeats 4000000
/-- Where a key belongs among ascending keys. -/
theorem pos_ex (k : ByteArray) : ∀ l : List ByteArray, ∃ p : Nat, p ≤ l.length ∧ (∀ (j : Nat) (q : ByteArray), j < p → l[j]? = some q → blt q k = true) ∧ ∀ q, l[p]? = some q → blt q k = false
  | [] => ⟨0, Nat.le_refl _, fun j q h => absurd h (Nat.not_lt_zero j), fun q h => by simp at h⟩
  | a :: l => by
    by_cases c : blt a k = true
    · obtain ⟨p, h1, h2, h3⟩ := pos_ex k l
      refine ⟨p + 1, by simp only [List.length_cons]; omega, fun j q hj hq => ?_, fun q hq => h3 q (by simpa using hq)⟩
      cases j with
      | zero =>
        obtain rfl : a = q := by simpa using hq
        exact c
      | succ j => exact h2 j q (by omega) (by simpa using hq)
    · refine ⟨0, Nat.zero_le _, fun j q h => absurd h (Nat.not_lt_zero j), fun q hq => ?_⟩
      obtain rfl : a = q := by simpa using hq
      simpa using c
/-- What Put leaves: an object of the members putP, its rows made anew. -/
def PutPost (x y : S28) (k : ByteArray) (w0 w : World) (e : Ending) (w' : World) : Prop :=
  ∃ (zk : List ByteArray) (ze : List S28) (X3 : Option Addr) (e3 : Nat) (X4 : Option Addr) (e4 : Nat), e = .returned (.agg #[.int .i64 6, .int .i64 0, .string ⟨#[]⟩, .slice X3 zk.length e3, .slice X4 ze.length e4]) ∧ zk.length = ze.length ∧ zk.length ≤ x.f3.length + 1 ∧ zk.zip ze = putP (x.f3.zip x.f4) k y ∧
    OwnRow kR 9 1 w' w.heap.size (.slice X3 zk.length e3) zk ∧ OwnRow (k28.K w0) 28 5 w' w.heap.size (.slice X4 ze.length e4) ze ∧ Below w.heap.size w w'
/-- The members in plain words: those before the key's place, the key's, those behind it. -/
theorem putP_at {zk : List ByteArray} {ze : List S28} (k : ByteArray) (y : S28) (hl : zk.length = ze.length) (p p2 : Nat) (hp : p ≤ zk.length) (h1 : ∀ (j : Nat) (q : ByteArray), j < p → zk[j]? = some q → blt q k = true) (h2 : ∀ q, zk[p]? = some q → blt q k = false) (h3 : zk[p]? = some k ∧ p2 = p + 1 ∨ zk[p]? ≠ some k ∧ p2 = p) :
    (zk.take p ++ [k] ++ zk.drop p2).zip (ze.take p ++ [y] ++ ze.drop p2) = putP (zk.zip ze) k y ∧ (zk.take p ++ [k] ++ zk.drop p2).length = (ze.take p ++ [y] ++ ze.drop p2).length ∧ (zk.take p ++ [k] ++ zk.drop p2).length ≤ zk.length + 1 := by
  refine ⟨?_, by simp only [List.length_append, List.length_take, List.length_drop, hl, List.length_singleton], by simp only [List.length_append, List.length_take, List.length_drop, List.length_singleton]; rcases h3 with h | h <;> omega⟩
  induction zk generalizing ze p p2 with
  | nil =>
    cases ze with
    | nil =>
      obtain rfl : p = 0 := by simpa using hp
      simp [putP]
    | cons e ze => simp at hl
  | cons a zk ih =>
    cases ze with
    | nil => simp at hl
    | cons e ze =>
      cases p with
      | zero =>
        have hb := h2 a rfl
        rcases h3 with ⟨h3, rfl⟩ | ⟨h3, rfl⟩
        · obtain rfl : a = k := by simpa using h3
          simp [putP, hb]
        · have hne : a ≠ k := fun e => h3 (by rw [e]; rfl)
          simp [putP, hb, hne]
      | succ p =>
        have hb := h1 0 a (by omega) rfl
        obtain ⟨p3, rfl⟩ : ∃ p3, p2 = p3 + 1 := ⟨p2 - 1, by rcases h3 with h | h <;> omega⟩
        have h := ih (ze := ze) (by simpa using hl) p p3 (by simpa using hp) (fun j q hj hq => h1 (j + 1) q (by omega) (by simpa using hq)) (fun q hq => h2 q (by simpa using hq)) (by rcases h3 with ⟨h, h'⟩ | ⟨h, h'⟩; exact Or.inl ⟨by simpa using h, by omega⟩; exact Or.inr ⟨by simpa using h, by omega⟩)
        rw [List.zip_cons_cons]
        unfold putP
        rw [if_pos hb, ← h]
        simp
theorem putC (x y : S28) (k : ByteArray) (w0 w : World) {A3 : Option Addr} {c3 : Nat} {A4 : Option Addr} {c4 : Nat} {B3 : Option Addr} {d3 : Nat} {B4 : Option Addr} {d4 : Nat} (h0 : Below w0.heap.size w0 w) (hk3 : x.f3.length ≤ c3) (hr3 : Kd.C Kd.string w A3 x.f3.length x.f3) (hk4 : x.f4.length ≤ c4) (hr4 : ReadsRow (k28.K w0) 5 w A4 x.f4.length x.f4) (hy0 : Rd w0 B3 d3 B4 d4 y) (hl : x.f3.length = x.f4.length) (hn : x.f3.length ≤ 20) :
    Calls Try.prog 55 #[.agg #[.int .i64 x.f0, .int .i64 x.f1, .string x.f2, .slice A3 x.f3.length c3, .slice A4 x.f4.length c4], .string k, .agg #[.int .i64 y.f0, .int .i64 y.f1, .string y.f2, .slice B3 y.f3.length d3, .slice B4 y.f4.length d4]] w (PutPost x y k w0 w) := by
  have hr : Rd w A3 c3 A4 c4 x := ⟨hk3, hr3, hk4, hr4.imp_ (Below.refl _ _) (fun _ _ h => k28.K_below h0 h)⟩
  have hy : Rd w B3 d3 B4 d4 y := hy0.below h0
  have HE0 := Aside0.mk hr4
  have HY0 := Aside0.mk hy0
  clear hk3 hr3 hk4 hr4 hy0 h0
  have HX := Bv.new hr
  have ha1 := new_below w (.cells #[.int .i64 x.f0, .int .i64 x.f1, .string x.f2, .slice A3 x.f3.length c3, .slice A4 x.f4.length c4] 28)
  have HY := Bv.new (hy.below ha1)
  have ha2 := new_below (w.alloc (.cells #[.int .i64 x.f0, .int .i64 x.f1, .string x.f2, .slice A3 x.f3.length c3, .slice A4 x.f4.length c4] 28)) (.cells #[.int .i64 y.f0, .int .i64 y.f1, .string y.f2, .slice B3 y.f3.length d3, .slice B4 y.f4.length d4] 28)
  have HN := heap_alloc_new ((w.alloc (.cells #[.int .i64 x.f0, .int .i64 x.f1, .string x.f2, .slice A3 x.f3.length c3, .slice A4 x.f4.length c4] 28)).alloc (.cells #[.int .i64 y.f0, .int .i64 y.f1, .string y.f2, .slice B3 y.f3.length d3, .slice B4 y.f4.length d4] 28)) (.cells #[.int .i64 0, .int .i64 0, .string ⟨#[]⟩, .slice none 0 0, .slice none 0 0] 28)
  have ha3 := new_below ((w.alloc (.cells #[.int .i64 x.f0, .int .i64 x.f1, .string x.f2, .slice A3 x.f3.length c3, .slice A4 x.f4.length c4] 28)).alloc (.cells #[.int .i64 y.f0, .int .i64 y.f1, .string y.f2, .slice B3 y.f3.length d3, .slice B4 y.f4.length d4] 28)) (.cells #[.int .i64 0, .int .i64 0, .string ⟨#[]⟩, .slice none 0 0, .slice none 0 0] 28)
  have HX3 := Aside0.mk (HX.below (below_step ha2 ha3))
  have HY3 := Aside0.mk (HY.below ha3)
  have HN3 := Aside0.mk HN
  have HB3 := Aside0.mk (below_step ha1 (below_step ha2 ha3))
  clear HX HY HN ha1 ha2 ha3
  have HR := Aside0.mk hr
  have HLn := Aside0.mk (And.intro hl hn)
  clear hr hy hl hn
  go_enter Try.func55, Try.ntmps55
  obtain ⟨p, hp⟩ := pos_ex k x.f3
  have HP := Aside0.mk hp
  clear hp
  go_upto_region 1 with fail
  obtain ⟨bx, hbx⟩ : ∃ b, w.heap.size = b := ⟨_, rfl⟩
  obtain ⟨bp, hbp⟩ : ∃ b, (w.alloc (.cells #[.int .i64 x.f0, .int .i64 x.f1, .string x.f2, .slice A3 x.f3.length c3, .slice A4 x.f4.length c4] 28)).heap.size = b := ⟨_, rfl⟩
  obtain ⟨br, hbr⟩ : ∃ b, ((w.alloc (.cells #[.int .i64 x.f0, .int .i64 x.f1, .string x.f2, .slice A3 x.f3.length c3, .slice A4 x.f4.length c4] 28)).alloc (.cells #[.int .i64 y.f0, .int .i64 y.f1, .string y.f2, .slice B3 y.f3.length d3, .slice B4 y.f4.length d4] 28)).heap.size = b := ⟨_, rfl⟩
  obtain ⟨W3, hW3⟩ : ∃ W3, (((w.alloc (.cells #[.int .i64 x.f0, .int .i64 x.f1, .string x.f2, .slice A3 x.f3.length c3, .slice A4 x.f4.length c4] 28)).alloc (.cells #[.int .i64 y.f0, .int .i64 y.f1, .string y.f2, .slice B3 y.f3.length d3, .slice B4 y.f4.length d4] 28)).alloc (.cells #[.int .i64 0, .int .i64 0, .string ⟨#[]⟩, .slice none 0 0, .slice none 0 0] 28)) = W3 := ⟨_, rfl⟩
  have HBs : Aside0 (w.heap.size = bx ∧ bp = bx + 1 ∧ br = bx + 1 + 1 ∧ W3.heap.size = bx + 3) := ⟨hbx, by rw [← hbp, ← hbx]; simp, by rw [← hbr, ← hbx]; simp, by rw [← hW3, ← hbx]; simp⟩
  have hX := HX3.out
  have hY := HY3.out
  have hN := HN3.out
  have hB := HB3.out
  clear HX3 HY3 HN3 HB3
  rw [hW3, hbx] at hX
  rw [hW3, hbp] at hY
  rw [hW3, hbr] at hN
  rw [hW3] at hB
  have HX := Aside0.mk hX
  have HY := Aside0.mk hY
  have HN := Aside0.mk hN
  have HB := Aside0.mk hB
  rw [hW3]
  (try rw [hbx]); (try rw [hbp]); (try rw [hbr])
  clear hW3 hbx hbp hbr hX hY hN hB
  obtain ⟨x0, x1, x2, x3, x4⟩ := HX.out.cells
  go_upto_block 0 with fail
  go_cut [7] (fun v7 wc => v7 = .int .i64 (p : Int) ∧ wc = W3)
  case first =>
    go_wp2_with fail
    go_loopg [7] p (fun kq v7 w' => ∃ i : Nat, kq + i = p ∧ v7 = .int .i64 (i : Int) ∧ w' = W3)
    case atStart => exact ⟨0, by omega, rfl, rfl⟩
    case round =>
      obtain ⟨i, hi, rfl, rfl⟩ := hrel
      by_cases e : i < x.f3.length
      · have c1 : decide ((i : Int) < (x.f3.length : Int)) = true := decide_eq_true (by omega)
        have c2 : decide (i < x.f3.length) = true := decide_eq_true e
        obtain ⟨q, hq⟩ : ∃ q, x.f3[i]? = some q := ⟨_, List.getElem?_eq_getElem e⟩
        obtain ⟨ad, e1, hcell⟩ := str_at (HX.out.rd.r3) i e hq
        have g2 : (0 ≤ (i : Int)) = True := eq_true (by omega)
        have g3 : ((i : Int) < (x.f3.length : Int)) = True := eq_true (by omega)
        subst e1
        have hib : i < 20 := by have := HLn.out; omega
        by_cases c : i < p
        · have g5 : Op.bytesLess q.toList k.toList = true := HP.out.2.1 i q c hq
          obtain ⟨j1, rfl⟩ : ∃ j1, gk = j1 + 1 := ⟨gk - 1, by omega⟩
          have HI := Aside0.mk hi
          clear e c hq hi
          go_wp2_with fail
          go_roundg j1
          case measure => omega
          case rel => exact ⟨i + 1, by have := HI.out; omega, rfl, rfl⟩
        · obtain rfl : i = p := by omega
          have g5 : Op.bytesLess q.toList k.toList = false := HP.out.2.2 q hq
          clear e c hq hi
          go_wp2_with fail
          go_meet
          exact ⟨rfl, rfl⟩
      · obtain rfl : i = p := by have := HP.out.1; omega
        have c1 : decide ((i : Int) < (x.f3.length : Int)) = false := decide_eq_false (by omega)
        have c2 : decide (i < x.f3.length) = false := decide_eq_false e
        clear e hi
        go_wp2_with fail
        go_meet
        exact ⟨rfl, rfl⟩
  case rest =>
    obtain ⟨rfl, rfl⟩ := hcut
    clear x0 x1 x2 x3 x4
    go_upto_region 5 with fail
    obtain ⟨b8, hb8⟩ : ∃ b, wc.heap.size = b := ⟨_, rfl⟩
    obtain ⟨W4, hW4⟩ : ∃ W4, wc.alloc (.cells #[.int .i64 6, .int .i64 0, .string ⟨#[]⟩, .slice none 0 0, .slice none 0 0] 28) = W4 := ⟨_, rfl⟩
    have hZ := heap_alloc_new wc (.cells #[.int .i64 6, .int .i64 0, .string ⟨#[]⟩, .slice none 0 0, .slice none 0 0] 28)
    have hb4 := new_below wc (.cells #[.int .i64 6, .int .i64 0, .string ⟨#[]⟩, .slice none 0 0, .slice none 0 0] 28)
    rw [hW4] at hZ hb4
    rw [hb8] at hZ
    have HX4 := Aside0.mk (HX.out.below hb4)
    have HY4 := Aside0.mk (HY.out.below hb4)
    have HN4 := Aside0.mk ((hb4.block br (Array.getElem?_eq_some_iff.1 HN.out).1).trans HN.out)
    have HZ4 := Aside0.mk hZ
    have HB4 := Aside0.mk (below_step HB.out hb4)
    have HS4 : Aside0 (b8 = bx + 3 ∧ W4.heap.size = bx + 4) := ⟨by have := HBs.out; omega, by rw [← hW4]; have := HBs.out; simp; omega⟩
    rw [hW4]
    (try rw [hb8])
    clear hZ hb4 hW4 hb8 HX HY HN HB
    have HB5 := Aside0.mk (new_below W4 (.cells #[] 9))
    obtain ⟨x0, x1, x2, x3, x4⟩ := (HX4.out.below HB5.out).cells
    have g2 : (0 ≤ (p : Int)) = True := eq_true (by omega)
    have hpc : p ≤ c3 := Nat.le_trans HP.out.1 HR.out.k3
    have k3 : (c3 < p) = False := eq_false (by omega)
    have k5 : ((p : Int) ≤ (c3 : Int)) = True := eq_true (by omega)
    have k7 : (p ≤ c3) = True := eq_true hpc
    clear hpc
    have HO5 : Aside0 (Kd.R (kRel kR 1 (fun _ _ h => by rw [show _ = [Value.string _] from h]; rfl) (fun _ _ h => by rw [show _ = [Value.string _] from h]; simp [Value.oneCell'])) 9 (W4.alloc (.cells #[] 9)) W4.heap.size (fun _ => True) (.slice (some ⟨W4.heap.size, 0, none⟩) 0 0) []) := ⟨⟨fun _ _ => trivial, OwnRow.lit (R := kR) (e := 9) (size := 1) W4 W4.heap.size (ps := []) (inner := []) (Reps.none _ _) (Nat.le_refl _) (by simp)⟩⟩
    have HT5 : Aside0 (ReadsRow kR 1 (W4.alloc (.cells #[] 9)) A3 p (x.f3.take p)) := ⟨C_take (HX4.out.below HB5.out).rd.r3 p HP.out.1⟩
    have HLit : Aside0 (∀ W : World, ReadsRow kR 1 (W.alloc (.cells #[.string k] 9)) (some ⟨W.heap.size, 0, none⟩) 1 [k]) := ⟨fun W => strLit W [k] (by simp)⟩
    have hlt5 : Aside0 (p ≤ 20) := ⟨by have := HP.out.1; have := HLn.out; omega⟩
    go_wp2_with (first
      | (at_builtin; refine Kd.R_append_rows (P := Try.prog) (kRel kR 1 (fun _ _ h => by rw [show _ = [Value.string _] from h]; rfl) (fun _ _ h => by rw [show _ = [Value.string _] from h]; simp [Value.oneCell'])) (Rr := kR) (w0 := W4) (W := W4.alloc (.cells #[] 9)) W4.heap.size rfl (.tmp 26) (.tmp 30) 22 9 (.string ⟨#[]⟩) 16 rfl Try.underlying22 clone_info9 rfl (show 0 < 1 by decide) (by decide) (.slice (some ⟨W4.heap.size, 0, none⟩) 0 0) [] (x.f3.take p) A3 p c3 (fun _ => True) (fun _ => False) rfl rfl HO5.out HT5.out (fun _ _ h => h) (fun _ h => h.elim) (fun _ _ => trivial) HB5.out (Below.size HB5.out) (by have := hlt5.out; simp only [List.length_nil]; omega) ?_; intro v1 w1 ho hb hg hx; rw [List.nil_append] at ho; obtain ⟨X, d, e5⟩ := Kd.R_slice ho; rw [List.length_take, Nat.min_eq_left HP.out.1] at e5; subst e5; have HR6 := Aside0.mk ho; have HB6 := Aside0.mk hb; clear ho hb hg hx HO5 HT5)
      | (at_builtin; refine Kd.R_append_rows (P := Try.prog) (kRel kR 1 (fun _ _ h => by rw [show _ = [Value.string _] from h]; rfl) (fun _ _ h => by rw [show _ = [Value.string _] from h]; simp [Value.oneCell'])) (Rr := kR) (w0 := W4) (W := w1.alloc (.cells #[.string k] 9)) W4.heap.size rfl (.tmp 31) (.tmp 33) 22 9 (.string ⟨#[]⟩) 16 rfl Try.underlying22 clone_info9 rfl (show 0 < 1 by decide) (by decide) (.slice X p d) (x.f3.take p) [k] (some ⟨w1.heap.size, 0, none⟩) 1 1 (fun _ => True) (fun _ => False) rfl rfl (Kd.R_below HR6.out (new_below w1 _)) (HLit.out w1) (fun _ _ h => h) (fun _ h => h.elim) (fun _ _ => trivial) (below_step HB6.out (new_below w1 _)) (Below.size (below_step HB6.out (new_below w1 _))) (by have := hlt5.out; rw [List.length_take]; omega) ?_; intro v2 w2 ho hb hg hx; obtain ⟨X2, d2, e5⟩ := Kd.R_slice ho; rw [List.length_append, List.length_take, Nat.min_eq_left HP.out.1, List.length_singleton] at e5; subst e5; have HR7 := Aside0.mk ho; have HB7 := Aside0.mk hb; clear ho hb hg hx HR6 HB6 HLit; have HZ7 := Aside0.mk ((HB7.out.block b8 (by have := HS4.out; omega)).trans HZ4.out); obtain ⟨t1, t2, t3, t4, t5⟩ := cells5 HZ7.out; have t0 : ∀ j, w2.frozen? ⟨b8, j, none⟩ = false := (fun j => by simp [World.frozen?, HZ7.out])))
    obtain ⟨W6, hW6⟩ : ∃ W6, w2.setCell ⟨b8, 3, none⟩ (.slice X2 (p + 1) d2) = W6 := ⟨_, rfl⟩
    have hoth : ∀ k, k ≠ b8 → W6.heap[k]? = w2.heap[k]? := fun k hk => by rw [← hW6]; exact Below.heap_setCell _ _ _ k (fun e => hk e)
    have HZ6 : Aside0 (W6.heap[b8]? = some (.cells #[.int .i64 6, .int .i64 0, .string ⟨#[]⟩, .slice X2 (p + 1) d2, .slice none 0 0] 28 (0, 0))) := ⟨by rw [← hW6, heap_setCell_same _ _ _ _ _ _ HZ7.out]; rfl⟩
    have HB6w : Aside0 (Below w.heap.size w W6) := ⟨by rw [← hW6]; exact (below_step HB4.out HB7.out).setCell (p := ⟨b8, 3, none⟩) (by have := HBs.out; have := HS4.out; show w.heap.size ≤ b8; omega) _⟩
    have HX6 : Aside0 (W6.heap[bx]? = some (.cells #[.int .i64 x.f0, .int .i64 x.f1, .string x.f2, .slice A3 x.f3.length c3, .slice A4 x.f4.length c4] 28 (0, 0))) := ⟨(hoth bx (by have := HS4.out; omega)).trans ((HB7.out.block bx (by have := HS4.out; omega)).trans HX4.out.blk)⟩
    have HY6 : Aside0 (W6.heap[bx + 1]? = some (.cells #[.int .i64 y.f0, .int .i64 y.f1, .string y.f2, .slice B3 y.f3.length d3, .slice B4 y.f4.length d4] 28 (0, 0))) := ⟨by have h := HY4.out.blk; rw [HBs.out.2.1] at h; exact (hoth (bx + 1) (by have := HS4.out; omega)).trans ((HB7.out.block (bx + 1) (by have := HS4.out; omega)).trans h)⟩
    have HN6 : Aside0 (W6.heap[bx + 1 + 1]? = some (.cells #[.int .i64 0, .int .i64 0, .string ⟨#[]⟩, .slice none 0 0, .slice none 0 0] 28 (0, 0))) := ⟨by have h := HN4.out; rw [HBs.out.2.2.1] at h; exact (hoth (bx + 1 + 1) (by have := HS4.out; omega)).trans ((HB7.out.block (bx + 1 + 1) (by have := HS4.out; omega)).trans h)⟩
    have HK6 : Aside0 (OwnRow kR 9 1 W6 W4.heap.size (.slice X2 (p + 1) d2) (x.f3.take p ++ [k])) := ⟨(Kd.R_move (Kd.R_mono (Kd.R_bound HR7.out) (ok' := fun k => W4.heap.size ≤ k) (fun k hk => hk.2.1)) (fun k (hk : W4.heap.size ≤ k) => hoth k (by have := HS4.out; omega))).2⟩
    have hsz6 : W4.heap.size ≤ W6.heap.size := by rw [← hW6]; have := Below.size HB7.out; simp; omega
    rw [hW6]
    clear hW6 hoth t0 t1 t2 t3 t4 t5 HR7 HB7 HZ7 HX4 HY4 HN4 HZ4 HB5 HB4 x0 x1 x2 x3 x4
    obtain ⟨b9, hb9⟩ : ∃ b, W4.heap.size = b := ⟨_, rfl⟩
    rw [hb9] at HK6
    have HS6 : Aside0 (w.heap.size = bx ∧ b8 = bx + 3 ∧ b9 = bx + 4 ∧ b9 ≤ W6.heap.size) := ⟨by have := HBs.out; omega, by have := HS4.out; omega, by have := HS4.out; omega, by obtain ⟨inner, ho, _⟩ := HK6.out; rw [← hb9]; exact hsz6⟩
    clear hb9 hsz6 HS4 HBs
    obtain ⟨Wd, hWd⟩ : ∃ Wd, W6.drew = Wd := ⟨_, rfl⟩
    have HX0 : Aside0 (Below W6.heap.size W6 Wd) := ⟨by rw [← hWd]; exact drawn_below ⟨1, rfl⟩⟩
    have HXd : Aside0 (Wd.heap[bx]? = some (.cells #[.int .i64 x.f0, .int .i64 x.f1, .string x.f2, .slice A3 x.f3.length c3, .slice A4 x.f4.length c4] 28 (0, 0))) := ⟨by rw [← hWd]; exact HX6.out⟩
    have HYd : Aside0 (Wd.heap[bx + 1]? = some (.cells #[.int .i64 y.f0, .int .i64 y.f1, .string y.f2, .slice B3 y.f3.length d3, .slice B4 y.f4.length d4] 28 (0, 0))) := ⟨by rw [← hWd]; exact HY6.out⟩
    have HNd : Aside0 (Wd.heap[bx + 1 + 1]? = some (.cells #[.int .i64 0, .int .i64 0, .string ⟨#[]⟩, .slice none 0 0, .slice none 0 0] 28 (0, 0))) := ⟨by rw [← hWd]; exact HN6.out⟩
    have HZd : Aside0 (Wd.heap[b8]? = some (.cells #[.int .i64 6, .int .i64 0, .string ⟨#[]⟩, .slice X2 (p + 1) d2, .slice none 0 0] 28 (0, 0))) := ⟨by rw [← hWd]; exact HZ6.out⟩
    have HKd : Aside0 (OwnRow kR 9 1 Wd b9 (.slice X2 (p + 1) d2) (x.f3.take p ++ [k])) := ⟨HK6.out.below HX0.out⟩
    clear HX6 HY6 HN6 HZ6 HK6
    have HSt : Aside0 (∀ W, Below Wd.heap.size Wd W → (fun w' => w'.cell? ⟨bx, 4, none⟩ = some (.slice A4 x.f4.length c4) ∧ (w'.cell? ⟨bx + 1, 0, none⟩ = some (.int .i64 y.f0) ∧ w'.cell? ⟨bx + 1, 1, none⟩ = some (.int .i64 y.f1) ∧ w'.cell? ⟨bx + 1, 2, none⟩ = some (.string y.f2) ∧ w'.cell? ⟨bx + 1, 3, none⟩ = some (.slice B3 y.f3.length d3) ∧ w'.cell? ⟨bx + 1, 4, none⟩ = some (.slice B4 y.f4.length d4))) W) := ⟨fun W hb => by
      have h1 := (hb.block bx (Array.getElem?_eq_some_iff.1 HXd.out).1).trans HXd.out
      have h2 := (hb.block (bx + 1) (Array.getElem?_eq_some_iff.1 HYd.out).1).trans HYd.out
      exact ⟨(cells5 h1).2.2.2.2, cells5 h2⟩⟩
    have hpd : p ≤ c4 := Nat.le_trans HP.out.1 (by rw [HLn.out.1]; exact HR.out.k4)
    have HEr : Aside0 (∀ W, Below Wd.heap.size Wd W → ReadsRow (k28.K w0) 5 W A4 p (x.f4.take p)) := ⟨fun W hb => rr_take (HE0.out.imp_ (below_step (below_step HB6w.out HX0.out) hb) (fun _ _ h => h)) p (by rw [← HLn.out.1]; exact HP.out.1)⟩
    have HTl : Aside0 ((x.f4.take p).length = p) := ⟨by rw [List.length_take]; have := HP.out.1; have := HLn.out.1; omega⟩
    have hpl : p ≤ 20 := by have := HP.out.1; have := HLn.out.2; omega
    have HPl := Aside0.mk hpl
    have m3 : (c4 < p) = False := eq_false (by omega)
    have m5 : ((p : Int) ≤ (c4 : Int)) = True := eq_true (by omega)
    have m7 : (p ≤ c4) = True := eq_true hpd
    clear hpd hpl
    refine start_ (n := 11) (S := fun w' => w'.cell? ⟨bx, 4, none⟩ = some (.slice A4 x.f4.length c4) ∧ (w'.cell? ⟨bx + 1, 0, none⟩ = some (.int .i64 y.f0) ∧ w'.cell? ⟨bx + 1, 1, none⟩ = some (.int .i64 y.f1) ∧ w'.cell? ⟨bx + 1, 2, none⟩ = some (.string y.f2) ∧ w'.cell? ⟨bx + 1, 3, none⟩ = some (.slice B3 y.f3.length d3) ∧ w'.cell? ⟨bx + 1, 4, none⟩ = some (.slice B4 y.f4.length d4))) (ds := [10]) #[false, false, false, false, false, false, false, false, false, false, false] (by kernel_rfl) rfl (by rfl) (by rw [hWd]; exact HSt.out _ (Below.refl _ _)) (fun hS => ?_)
    rw [hWd] at hS ⊢
    clear hWd
    refine take_ (i := 1) (N := some 37) (v := (.pointer (some ⟨bx, 4, none⟩))) #[false, true, false, false, false, false, false, false, false, false, false] rfl rfl (by kernel_rfl) (fun _ _ _ h => h) (Or.inl ⟨by rfl, by intro w hSw; (try dsimp only at hSw); go_simp⟩) hS rfl ?_
    try simp only [Act.put, List.setIfInBounds_toArray, List.set_cons_zero, List.set_cons_succ]
    refine take_ (i := 2) (N := some 38) (v := (.slice A4 x.f4.length c4)) #[false, true, true, false, false, false, false, false, false, false, false] rfl rfl (by kernel_rfl) (fun _ _ _ h => h) (Or.inl ⟨by rfl, by intro w hSw; (try dsimp only at hSw); go_simp⟩) hS rfl ?_
    try simp only [Act.put, List.setIfInBounds_toArray, List.set_cons_zero, List.set_cons_succ]
    refine take_ (i := 3) (N := some 39) (v := (.int .i64 (p : Int))) #[false, true, true, true, false, false, false, false, false, false, false] rfl rfl (by kernel_rfl) (fun _ _ _ h => h) (Or.inl ⟨by rfl, by intro w hSw; (try dsimp only at hSw); go_simp⟩) hS rfl ?_
    try simp only [Act.put, List.setIfInBounds_toArray, List.set_cons_zero, List.set_cons_succ]
    refine take_ (i := 4) (N := some 40) (v := (.slice A4 p c4)) #[false, true, true, true, true, false, false, false, false, false, false] rfl rfl (by kernel_rfl) (fun _ _ _ h => h) (Or.inl ⟨by rfl, by intro w hSw; (try dsimp only at hSw); go_simp⟩) hS rfl ?_
    try simp only [Act.put, List.setIfInBounds_toArray, List.set_cons_zero, List.set_cons_succ]
    refine take_ (i := 6) (N := some 42) (v := (.agg #[.int .i64 y.f0, .int .i64 y.f1, .string y.f2, .slice B3 y.f3.length d3, .slice B4 y.f4.length d4])) #[false, true, true, true, true, false, true, false, false, false, false] rfl rfl (by kernel_rfl) (fun _ _ _ h => h) (Or.inl ⟨by rfl, by intro w hSw; (try dsimp only at hSw); go_simp⟩) hS rfl ?_
    try simp only [Act.put, List.setIfInBounds_toArray, List.set_cons_zero, List.set_cons_succ]
    refine join_ (σ := Value × Value × Value) 3 #[true, true, true, true, true, true, true, true, false, false, false] (fun s => [(36, s.1), (41, s.2.1), (43, s.2.2)]) (fun s w' => ∃ g, s.2.2 = .slice (some ⟨g, 0, none⟩) 1 1 ∧ Pg #[.int .i64 y.f0, .int .i64 y.f1, .string y.f2, .slice B3 y.f3.length d3, .slice B4 y.f4.length d4] w0 Wd w' (some (s.2.1, x.f4.take p)) (some g)) (fun s w' hF => ?_) (fun hj => ?_)
    rotate_left
    refine two_ (i := 0) (j := 7) (Ni := some 36) (Nj := some 43) #[true, true, true, true, true, false, true, false, false, false, false] #[false, true, true, true, true, false, true, true, false, false, false] rfl rfl rfl rfl (by kernel_rfl) (by decide) (by decide) ?_ ?_
    · intro K hK
      go_simp
      have Hp1 := Aside0.mk (Pg.newB (zc := #[.int .i64 y.f0, .int .i64 y.f1, .string y.f2, .slice B3 y.f3.length d3, .slice B4 y.f4.length d4]) (Pg.start w0 Wd))
      obtain ⟨W1, hW1⟩ : ∃ W1, Wd.alloc (.cells #[] 28) = W1 := ⟨_, rfl⟩
      rw [hW1] at Hp1 ⊢
      clear hW1
      refine hK.out _ _ (HSt.out _ Hp1.out.z) (fun hS => ?_)
      clear hK K
      try simp only [Act.put, List.setIfInBounds_toArray, List.set_cons_zero, List.set_cons_succ]
      refine two_ (i := 5) (j := 7) (Ni := some 41) (Nj := some 43) #[true, true, true, true, true, true, true, false, false, false, false] #[true, true, true, true, true, false, true, true, false, false, false] rfl rfl rfl rfl (by kernel_rfl) (by decide) (by decide) ?_ ?_
      · intro K hK
        refine stepPB (w0 := w0) (w := Wd) rfl (.tmp 36) (.tmp 40) rfl (.slice (some ⟨Wd.heap.size, 0, none⟩) 0 0) [] (x.f4.take p) A4 p c4 rfl rfl Hp1.out (HEr.out _ Hp1.out.z) (by have := HPl.out; simp only [List.length_nil]; omega) ?_
        intro v1 w1 hp hg
        rw [List.nil_append] at hp
        have Hp2 := Aside0.mk hp
        clear hp hg
        refine hK.out _ _ (HSt.out _ Hp2.out.z) (fun hS => ?_)
        clear hK K
        try simp only [Act.put, List.setIfInBounds_toArray, List.set_cons_zero, List.set_cons_succ]
        refine one_ (i := 7) (N := some 43) #[true, true, true, true, true, true, true, true, false, false, false] rfl rfl (by kernel_rfl) (by decide) ?_
        intro K hK
        go_simp
        have Hp3 := Aside0.mk Hp2.out.newZ
        refine hK.out _ _ (HSt.out _ Hp3.out.z) (fun hS => ?_)
        clear hK K
        try simp only [Act.put, List.setIfInBounds_toArray, List.set_cons_zero, List.set_cons_succ]
        have hj2 := hj (.slice (some ⟨Wd.heap.size, 0, none⟩) 0 0, v1, .slice (some ⟨w1.heap.size, 0, none⟩) 1 1) _ ⟨_, rfl, Hp3.out⟩
        simp only [putAll, Act.put, List.setIfInBounds_toArray, List.set_cons_zero, List.set_cons_succ] at hj2
        exact hj2
      · intro K hK
        go_simp
        have Hp2 := Aside0.mk Hp1.out.newZ
        obtain ⟨W2, hW2⟩ : ∃ W2, W1.alloc (.cells #[.int .i64 y.f0, .int .i64 y.f1, .string y.f2, .slice B3 y.f3.length d3, .slice B4 y.f4.length d4] 28) = W2 := ⟨_, rfl⟩
        rw [hW2] at Hp2 ⊢
        clear hW2
        refine hK.out _ _ (HSt.out _ Hp2.out.z) (fun hS => ?_)
        clear hK K
        try simp only [Act.put, List.setIfInBounds_toArray, List.set_cons_zero, List.set_cons_succ]
        refine one_ (i := 5) (N := some 41) #[true, true, true, true, true, true, true, true, false, false, false] rfl rfl (by kernel_rfl) (by decide) ?_
        intro K hK
        refine stepPB (w0 := w0) (w := Wd) rfl (.tmp 36) (.tmp 40) rfl (.slice (some ⟨Wd.heap.size, 0, none⟩) 0 0) [] (x.f4.take p) A4 p c4 rfl rfl Hp2.out (HEr.out _ Hp2.out.z) (by have := HPl.out; simp only [List.length_nil]; omega) ?_
        intro v1 w1 hp hg
        rw [List.nil_append] at hp
        have Hp3 := Aside0.mk hp
        clear hp hg
        refine hK.out _ _ (HSt.out _ Hp3.out.z) (fun hS => ?_)
        clear hK K
        try simp only [Act.put, List.setIfInBounds_toArray, List.set_cons_zero, List.set_cons_succ]
        have hj2 := hj (.slice (some ⟨Wd.heap.size, 0, none⟩) 0 0, v1, .slice (some ⟨W1.heap.size, 0, none⟩) 1 1) _ ⟨_, rfl, Hp3.out⟩
        simp only [putAll, Act.put, List.setIfInBounds_toArray, List.set_cons_zero, List.set_cons_succ] at hj2
        exact hj2
    · intro K hK
      go_simp
      have Hp1 := Aside0.mk (Pg.newZ (zc := #[.int .i64 y.f0, .int .i64 y.f1, .string y.f2, .slice B3 y.f3.length d3, .slice B4 y.f4.length d4]) (Pg.start w0 Wd))
      obtain ⟨W1, hW1⟩ : ∃ W1, Wd.alloc (.cells #[.int .i64 y.f0, .int .i64 y.f1, .string y.f2, .slice B3 y.f3.length d3, .slice B4 y.f4.length d4] 28) = W1 := ⟨_, rfl⟩
      rw [hW1] at Hp1 ⊢
      clear hW1
      refine hK.out _ _ (HSt.out _ Hp1.out.z) (fun hS => ?_)
      clear hK K
      try simp only [Act.put, List.setIfInBounds_toArray, List.set_cons_zero, List.set_cons_succ]
      refine one_ (i := 0) (N := some 36) #[true, true, true, true, true, false, true, true, false, false, false] rfl rfl (by kernel_rfl) (by decide) ?_
      intro K hK
      go_simp
      have Hp2 := Aside0.mk Hp1.out.newB
      obtain ⟨W2, hW2⟩ : ∃ W2, W1.alloc (.cells #[] 28) = W2 := ⟨_, rfl⟩
      rw [hW2] at Hp2 ⊢
      clear hW2
      refine hK.out _ _ (HSt.out _ Hp2.out.z) (fun hS => ?_)
      clear hK K
      try simp only [Act.put, List.setIfInBounds_toArray, List.set_cons_zero, List.set_cons_succ]
      refine one_ (i := 5) (N := some 41) #[true, true, true, true, true, true, true, true, false, false, false] rfl rfl (by kernel_rfl) (by decide) ?_
      intro K hK
      refine stepPB (w0 := w0) (w := Wd) rfl (.tmp 36) (.tmp 40) rfl (.slice (some ⟨W1.heap.size, 0, none⟩) 0 0) [] (x.f4.take p) A4 p c4 rfl rfl Hp2.out (HEr.out _ Hp2.out.z) (by have := HPl.out; simp only [List.length_nil]; omega) ?_
      intro v1 w1 hp hg
      rw [List.nil_append] at hp
      have Hp3 := Aside0.mk hp
      clear hp hg
      refine hK.out _ _ (HSt.out _ Hp3.out.z) (fun hS => ?_)
      clear hK K
      try simp only [Act.put, List.setIfInBounds_toArray, List.set_cons_zero, List.set_cons_succ]
      have hj2 := hj (.slice (some ⟨W1.heap.size, 0, none⟩) 0 0, v1, .slice (some ⟨Wd.heap.size, 0, none⟩) 1 1) _ ⟨_, rfl, Hp3.out⟩
      simp only [putAll, Act.put, List.setIfInBounds_toArray, List.set_cons_zero, List.set_cons_succ] at hj2
      exact hj2
    obtain ⟨s1, s2, s3⟩ := s
    obtain ⟨gb, es, hp⟩ := hF
    dsimp only at es hp
    subst es
    have Hp := Aside0.mk hp
    replace hS := HSt.out _ hp.z
    clear hp
    simp only [putAll, Act.put, List.setIfInBounds_toArray, List.set_cons_zero, List.set_cons_succ]
    refine one_ (i := 8) (N := some 44) #[true, true, true, true, true, true, true, true, true, false, false] rfl rfl (by kernel_rfl) (by decide) ?_
    intro K hK
    refine stepPB (w0 := w0) (w := Wd) rfl (.tmp 41) (.tmp 43) rfl s2 (x.f4.take p) [y] (some ⟨gb, 0, none⟩) 1 1 rfl rfl Hp.out (Pg.reads Hp.out HY0.out) (by rw [HTl.out]; have := HPl.out; omega) ?_
    intro v1 w1 hp hg
    clear hg Hp
    obtain ⟨X6, d6, e6, _⟩ := (hp.b _ _ rfl).slice_
    rw [List.length_append, HTl.out, List.length_singleton] at e6
    subst e6
    have HBw : Aside0 (Below w.heap.size w w1) := ⟨below_step (below_step HB6w.out HX0.out) hp.z⟩
    have HZw : Aside0 (w1.heap[b8]? = some (.cells #[.int .i64 6, .int .i64 0, .string ⟨#[]⟩, .slice X2 (p + 1) d2, .slice none 0 0] 28 (0, 0))) := ⟨(hp.z.block b8 (Array.getElem?_eq_some_iff.1 HZd.out).1).trans HZd.out⟩
    have HXw : Aside0 (w1.heap[bx]? = some (.cells #[.int .i64 x.f0, .int .i64 x.f1, .string x.f2, .slice A3 x.f3.length c3, .slice A4 x.f4.length c4] 28 (0, 0))) := ⟨(hp.z.block bx (Array.getElem?_eq_some_iff.1 HXd.out).1).trans HXd.out⟩
    have HNw : Aside0 (w1.heap[bx + 1 + 1]? = some (.cells #[.int .i64 0, .int .i64 0, .string ⟨#[]⟩, .slice none 0 0, .slice none 0 0] 28 (0, 0))) := ⟨(hp.z.block _ (Array.getElem?_eq_some_iff.1 HNd.out).1).trans HNd.out⟩
    have HKw : Aside0 (OwnRow kR 9 1 w1 b9 (.slice X2 (p + 1) d2) (x.f3.take p ++ [k])) := ⟨HKd.out.below hp.z⟩
    have HSw : Aside0 (b9 ≤ w1.heap.size) := ⟨by have := Below.size hp.z; have := Below.size HX0.out; have := HS6.out; omega⟩
    have HEw : Aside0 (OwnRow (k28.K w0) 28 5 w1 b9 (.slice X6 (p + 1) d6) (x.f4.take p ++ [y])) := ⟨(hp.b _ _ rfl).lower (by have := Below.size HX0.out; have := HS6.out; omega)⟩
    refine hK.out _ _ (HSt.out _ hp.z) (fun hS => ?_)
    clear hK K hp
    try simp only [Act.put, List.setIfInBounds_toArray, List.set_cons_zero, List.set_cons_succ]
    refine take_ (i := 9) (N := some 45) (v := (.pointer (some ⟨b8, 4, none⟩))) #[true, true, true, true, true, true, true, true, true, true, false] rfl rfl (by kernel_rfl) (fun _ _ _ h => h) (Or.inl ⟨by rfl, by intro w hSw; (try dsimp only at hSw); go_simp⟩) hS rfl ?_
    try simp only [Act.put, List.setIfInBounds_toArray, List.set_cons_zero, List.set_cons_succ]
    have t0 : ∀ j, w1.frozen? ⟨b8, j, none⟩ = false := (fun j => by simp [World.frozen?, HZw.out])
    obtain ⟨t1, t2, t3, t4, t5⟩ := cells5 HZw.out
    refine last_ (i := 10) (N := none) #[true, true, true, true, true, true, true, true, true, true, true] rfl rfl (by kernel_rfl) (by decide) ?_
    intro K hK
    go_simp
    refine hK.out _ _ ?_
    clear hK K t0 t1 t2 t3 t4 t5 hS HSt HEr HX0
    refine done_ (by kernel_rfl) ?_
    obtain ⟨W7, hW7⟩ : ∃ W7, w1.setCell ⟨b8, 4, none⟩ (.slice X6 (p + 1) d6) = W7 := ⟨_, rfl⟩
    have hoth : ∀ k, k ≠ b8 → W7.heap[k]? = w1.heap[k]? := fun k hk => by rw [← hW7]; exact Below.heap_setCell _ _ _ k (fun e => hk e)
    have HZ7 : Aside0 (W7.heap[b8]? = some (.cells #[.int .i64 6, .int .i64 0, .string ⟨#[]⟩, .slice X2 (p + 1) d2, .slice X6 (p + 1) d6] 28 (0, 0))) := ⟨by rw [← hW7, heap_setCell_same _ _ _ _ _ _ HZw.out]; rfl⟩
    have HB7 : Aside0 (Below w.heap.size w W7) := ⟨by rw [← hW7]; exact HBw.out.setCell (p := ⟨b8, 4, none⟩) (by have := HS6.out; show w.heap.size ≤ b8; omega) _⟩
    have HX7 : Aside0 (W7.heap[bx]? = some (.cells #[.int .i64 x.f0, .int .i64 x.f1, .string x.f2, .slice A3 x.f3.length c3, .slice A4 x.f4.length c4] 28 (0, 0))) := ⟨(hoth bx (by have := HS6.out; omega)).trans HXw.out⟩
    have HN7 : Aside0 (W7.heap[bx + 1 + 1]? = some (.cells #[.int .i64 0, .int .i64 0, .string ⟨#[]⟩, .slice none 0 0, .slice none 0 0] 28 (0, 0))) := ⟨(hoth _ (by have := HS6.out; omega)).trans HNw.out⟩
    have HK7 : Aside0 (OwnRow kR 9 1 W7 b9 (.slice X2 (p + 1) d2) (x.f3.take p ++ [k])) := ⟨OwnRow.but (b := b8) (by decide) kR1 kR2 HKw.out (by have := HS6.out; omega) hoth⟩
    have HE7 : Aside0 (OwnRow (k28.K w0) 28 5 W7 b9 (.slice X6 (p + 1) d6) (x.f4.take p ++ [y])) := ⟨OwnRow.but (b := b8) (by decide) (fun _ _ h => k28.K_len h) (fun _ _ h => k28.K_one h) HEw.out (by have := HS6.out; omega) hoth⟩
    have HS7 : Aside0 (b9 ≤ W7.heap.size) := ⟨by rw [← hW7]; have := HSw.out; simp; omega⟩
    rw [hW7]
    clear hW7 hoth HZw HBw HXw HNw HKw HEw HSw
    obtain ⟨p2, hp2⟩ : ∃ p2 : Nat, (x.f3[p]? = some k ∧ p2 = p + 1 ∨ x.f3[p]? ≠ some k ∧ p2 = p) := by
      by_cases c : x.f3[p]? = some k
      · exact ⟨p + 1, Or.inl ⟨c, rfl⟩⟩
      · exact ⟨p, Or.inr ⟨c, rfl⟩⟩
    have HP2 := Aside0.mk hp2
    have HPl2 : Aside0 (p2 ≤ x.f3.length ∧ p2 ≤ 20 ∧ x.f4.length ≤ 20 ∧ x.f3.length ≤ 20) := ⟨by have := HP.out.1; have := HLn.out; rcases hp2 with ⟨h, h2⟩ | ⟨h, h2⟩; have := (List.getElem?_eq_some_iff.1 h).1; omega; omega⟩
    clear hp2
    obtain ⟨x0, x1, x2, x3, x4⟩ := cells5 HX7.out
    go_upto_region 7 with fail
    obtain ⟨bz, hbz⟩ : ∃ bz : Bool, decide (p2 = p + 1) = bz := ⟨_, rfl⟩
    have HBz := Aside0.mk hbz
    clear hbz
    go_cut [59] (fun v59 wc => v59 = .bool bz ∧ wc = W7)
    case first =>
      have hpl : p ≤ 20 := by have := HP.out.1; have := HLn.out.2; omega
      by_cases e : p < x.f3.length
      · have c1 : decide ((p : Int) < (x.f3.length : Int)) = true := decide_eq_true (by omega)
        have c2 : decide (p < x.f3.length) = true := decide_eq_true e
        obtain ⟨q, hq⟩ : ∃ q, x.f3[p]? = some q := ⟨_, List.getElem?_eq_getElem e⟩
        have HC3 : Aside0 (Kd.C Kd.string W7 A3 x.f3.length x.f3) := ⟨Kd.C_below HR.out.r3 HB7.out⟩
        obtain ⟨ad, e1, hcell⟩ := str_at HC3.out p e hq
        have g2 : (0 ≤ (p : Int)) = True := eq_true (by omega)
        have g3 : ((p : Int) < (x.f3.length : Int)) = True := eq_true (by omega)
        subst e1
        by_cases ck : q = k
        · have g5 : (q.toList == k.toList) = true := by rw [ck]; simp
          obtain rfl : true = bz := by
            rcases HP2.out with h | h
            · rw [← HBz.out, h.2]; simp
            · exact absurd (hq.trans (congrArg some ck)) h.1
          clear e ck hq
          go_wp2_with fail
          go_meet
          exact ⟨rfl, rfl⟩
        · have g5 : (q.toList == k.toList) = false := by rw [beq_eq_false_iff_ne]; exact fun h => ck (tl_inj.1 h)
          obtain rfl : false = bz := by
            rcases HP2.out with h | h
            · exact absurd (Option.some.inj (hq.symm.trans h.1)) ck
            · rw [← HBz.out, h.2]; simp
          clear e ck hq
          go_wp2_with fail
          go_meet
          exact ⟨rfl, rfl⟩
      · have c1 : decide ((p : Int) < (x.f3.length : Int)) = false := decide_eq_false (by omega)
        have c2 : decide (p < x.f3.length) = false := decide_eq_false e
        obtain rfl : false = bz := by
          rcases HP2.out with h | h
          · exact absurd (List.getElem?_eq_some_iff.1 h.1).1 e
          · rw [← HBz.out, h.2]; simp
        clear e
        go_wp2_with fail
        go_meet
        exact ⟨rfl, rfl⟩
    case rest =>
    obtain ⟨rfl, rfl⟩ := hcut
    clear x0 x1 x2 x3 x4
    go_upto_if 59 with fail
    go_cut [7] (fun v7 w8 => v7 = .int .i64 (p2 : Int) ∧ w8 = wc)
    case first =>
      have hpl : p ≤ 20 := by have := HP.out.1; have := HLn.out.2; omega
      cases bz with
      | true =>
        obtain rfl : p2 = p + 1 := of_decide_eq_true HBz.out
        clear HBz HP2
        go_wp2_with fail
        go_meet
        exact ⟨rfl, rfl⟩
      | false =>
        obtain rfl : p2 = p := by
          rcases HP2.out with h | h
          · exact absurd h.2 (of_decide_eq_false HBz.out)
          · exact h.2
        clear HBz HP2
        go_wp2_with fail
        go_meet
        exact ⟨rfl, rfl⟩
    case rest =>
      obtain ⟨rfl, rfl⟩ := hcut
      clear HBz
      go_upto_region 9 with fail
      obtain ⟨AN, hAN⟩ : ∃ AN, (if c3 = p2 then A3 else A3.map (·.add (p2 * 1))) = AN := ⟨_, rfl⟩
      have HDr : Aside0 (∀ W, Below wc.heap.size wc W → ReadsRow kR 1 W AN (x.f3.length - p2) (x.f3.drop p2)) := ⟨fun W hb => by rw [← hAN]; exact rr_drop (Kd.C_below HR.out.r3 (below_step HB7.out hb)) p2 (by have := HPl2.out; have := HLn.out; omega) c3 HR.out.k3⟩
      have hDr := dropRun (P := Try.prog) 22 9 Try.underlying22 rfl 1 rfl A3 x.f3.length c3 p2 (by have := HPl2.out; have := HLn.out; omega)
      simp only [Nat.mul_one] at hDr hAN; simp only [hAN] at hDr
      have HSt : Aside0 (∀ W, Below b9 wc W → (fun w' => w'.cell? ⟨b8, 3, none⟩ = some (.slice X2 (p + 1) d2) ∧ w'.cell? ⟨bx, 3, none⟩ = some (.slice A3 x.f3.length c3)) W) := ⟨fun W hb => by
        have h1 := (hb.block bx (by have := HS6.out; omega)).trans HX7.out
        have h2 := (hb.block b8 (by have := HS6.out; omega)).trans HZ7.out
        exact ⟨(cells5 h2).2.2.2.1, (cells5 h1).2.2.2.1⟩⟩
      clear hAN
      refine start_ (n := 9) (S := fun w' => w'.cell? ⟨b8, 3, none⟩ = some (.slice X2 (p + 1) d2) ∧ w'.cell? ⟨bx, 3, none⟩ = some (.slice A3 x.f3.length c3)) (ds := [8]) #[false, false, false, false, false, false, false, false, false] (by kernel_rfl) rfl (by rfl) (HSt.out _ (Below.refl _ _).drew) (fun hS => ?_)
      obtain ⟨Wd9, hWd⟩ : ∃ Wd, wc.drew = Wd := ⟨_, rfl⟩
      have HD : Aside0 (Below wc.heap.size wc Wd9) := ⟨by rw [← hWd]; exact drawn_below ⟨1, rfl⟩⟩
      have HDz : Aside0 (Wd9.heap.size = wc.heap.size) := ⟨by rw [← hWd]; rfl⟩
      rw [hWd] at hS ⊢
      clear hWd
      refine take_ (i := 0) (N := some 62) (v := (.pointer (some ⟨b8, 3, none⟩))) #[true, false, false, false, false, false, false, false, false] rfl rfl (by kernel_rfl) (fun _ _ _ h => h) (Or.inl ⟨by rfl, by intro w hSw; (try dsimp only at hSw); go_simp⟩) hS rfl ?_
      try simp only [Act.put, List.setIfInBounds_toArray, List.set_cons_zero, List.set_cons_succ]
      refine take_ (i := 1) (N := some 63) (v := (.slice X2 (p + 1) d2)) #[true, true, false, false, false, false, false, false, false] rfl rfl (by kernel_rfl) (fun _ _ _ h => h) (Or.inl ⟨by rfl, by intro w hSw; (try dsimp only at hSw); go_simp⟩) hS rfl ?_
      try simp only [Act.put, List.setIfInBounds_toArray, List.set_cons_zero, List.set_cons_succ]
      refine take_ (i := 2) (N := some 64) (v := (.pointer (some ⟨bx, 3, none⟩))) #[true, true, true, false, false, false, false, false, false] rfl rfl (by kernel_rfl) (fun _ _ _ h => h) (Or.inl ⟨by rfl, by intro w hSw; (try dsimp only at hSw); go_simp⟩) hS rfl ?_
      try simp only [Act.put, List.setIfInBounds_toArray, List.set_cons_zero, List.set_cons_succ]
      refine take_ (i := 3) (N := some 65) (v := (.slice A3 x.f3.length c3)) #[true, true, true, true, false, false, false, false, false] rfl rfl (by kernel_rfl) (fun _ _ _ h => h) (Or.inl ⟨by rfl, by intro w hSw; (try dsimp only at hSw); go_simp⟩) hS rfl ?_
      try simp only [Act.put, List.setIfInBounds_toArray, List.set_cons_zero, List.set_cons_succ]
      refine take_ (i := 4) (N := some 66) (v := (.int .i64 (p2 : Int))) #[true, true, true, true, true, false, false, false, false] rfl rfl (by kernel_rfl) (fun _ _ _ h => h) (Or.inl ⟨by rfl, by intro w hSw; (try dsimp only at hSw); go_simp⟩) hS rfl ?_
      try simp only [Act.put, List.setIfInBounds_toArray, List.set_cons_zero, List.set_cons_succ]
      refine take_ (i := 5) (N := some 67) (v := (.slice AN (x.f3.length - p2) (c3 - p2))) #[true, true, true, true, true, true, false, false, false] rfl rfl (by kernel_rfl) (fun _ _ _ h => h) (Or.inl ⟨by rfl, by intro w hSw; (try dsimp only at hSw); go_simp⟩) hS rfl ?_
      try simp only [Act.put, List.setIfInBounds_toArray, List.set_cons_zero, List.set_cons_succ]
      refine one_ (i := 6) (N := some 68) #[true, true, true, true, true, true, true, false, false] rfl rfl (by kernel_rfl) (by decide) ?_
      intro K hK
      refine stepPA b9 rfl (.tmp 63) (.tmp 67) rfl (.slice X2 (p + 1) d2) (x.f3.take p ++ [k]) (x.f3.drop p2) AN (x.f3.length - p2) (c3 - p2) rfl rfl (by have := HS7.out; have := HDz.out; omega) (HK7.out.below HD.out) (HDr.out _ HD.out) (by rw [List.length_append, List.length_take]; have := HPl.out; have := HPl2.out; have := HLn.out; simp; omega) ?_
      intro v1 v2 ho hb hg
      obtain ⟨X9, d9, e6, _⟩ := ho.slice_
      obtain ⟨n9, hn9⟩ : ∃ n, ((x.f3.take p ++ [k]) ++ x.f3.drop p2).length = n := ⟨_, rfl⟩
      rw [hn9] at e6
      have HNn9 := Aside0.mk hn9
      clear hn9
      subst e6
      have HEn : Aside0 (OwnRow (k28.K w0) 28 5 v2 b9 (.slice X6 (p + 1) d6) (x.f4.take p ++ [y])) := ⟨by
        have h1 := HE7.out.below HD.out
        obtain ⟨i1, o1, _⟩ := h1
        obtain ⟨i0, o0, _⟩ := HK7.out.below HD.out
        exact OwnRow.other (HE7.out.below HD.out) hg (Go.Proofs.YtgpjkojnmeaoiaaW.PrintWords.own_type_ne o1 o0 (by decide))⟩
      have HOn := Aside0.mk ho
      have HZn : Aside0 (v2.heap[b8]? = some (.cells #[.int .i64 6, .int .i64 0, .string ⟨#[]⟩, .slice X2 (p + 1) d2, .slice X6 (p + 1) d6] 28 (0, 0))) := ⟨(hb.block b8 (by have := HS6.out; omega)).trans ((HD.out.block b8 (Array.getElem?_eq_some_iff.1 HZ7.out).1).trans HZ7.out)⟩
      have HXn : Aside0 (v2.heap[bx]? = some (.cells #[.int .i64 x.f0, .int .i64 x.f1, .string x.f2, .slice A3 x.f3.length c3, .slice A4 x.f4.length c4] 28 (0, 0))) := ⟨(hb.block bx (by have := HS6.out; omega)).trans ((HD.out.block bx (Array.getElem?_eq_some_iff.1 HX7.out).1).trans HX7.out)⟩
      have HNn : Aside0 (v2.heap[bx + 1 + 1]? = some (.cells #[.int .i64 0, .int .i64 0, .string ⟨#[]⟩, .slice none 0 0, .slice none 0 0] 28 (0, 0))) := ⟨(hb.block _ (by have := HS6.out; omega)).trans ((HD.out.block _ (Array.getElem?_eq_some_iff.1 HN7.out).1).trans HN7.out)⟩
      have HBn : Aside0 (Below w.heap.size w v2) := ⟨(below_step HB7.out HD.out).trans (hb.mono (by have := HS6.out; omega))⟩
      have HSn : Aside0 (b9 ≤ v2.heap.size) := ⟨by have := hb.size; have := HDz.out; have := HS7.out; omega⟩
      have hS3 := HSt.out v2 (((Below.refl b9 wc).trans (HD.out.mono (by have := HS7.out; omega))).trans hb)
      refine hK.out _ _ hS3 (fun hS => ?_)
      clear hK K hS3 hb hg ho
      try simp only [Act.put, List.setIfInBounds_toArray, List.set_cons_zero, List.set_cons_succ]
      refine take_ (i := 7) (N := some 69) (v := (.pointer (some ⟨b8, 3, none⟩))) #[true, true, true, true, true, true, true, true, false] rfl rfl (by kernel_rfl) (fun _ _ _ h => h) (Or.inl ⟨by rfl, by intro w hSw; (try dsimp only at hSw); go_simp⟩) hS rfl ?_
      try simp only [Act.put, List.setIfInBounds_toArray, List.set_cons_zero, List.set_cons_succ]
      have t0 : ∀ j, v2.frozen? ⟨b8, j, none⟩ = false := (fun j => by simp [World.frozen?, HZn.out])
      obtain ⟨t1, t2, t3, t4, t5⟩ := cells5 HZn.out
      refine last_ (i := 8) (N := none) #[true, true, true, true, true, true, true, true, true] rfl rfl (by kernel_rfl) (by decide) ?_
      intro K hK
      go_simp
      refine hK.out _ _ ?_
      clear hK K t0 t1 t2 t3 t4 t5 hS HSt hDr
      refine done_ (by kernel_rfl) ?_
      obtain ⟨W10, hW⟩ : ∃ W, v2.setCell ⟨b8, 3, none⟩ (.slice X9 n9 d9) = W := ⟨_, rfl⟩
      have hoth : ∀ k, k ≠ b8 → W10.heap[k]? = v2.heap[k]? := fun k hk => by rw [← hW]; exact Below.heap_setCell _ _ _ k (fun e => hk e)
      have HZt : Aside0 (W10.heap[b8]? = some (.cells #[.int .i64 6, .int .i64 0, .string ⟨#[]⟩, .slice X9 n9 d9, .slice X6 (p + 1) d6] 28 (0, 0))) := ⟨by rw [← hW, heap_setCell_same _ _ _ _ _ _ HZn.out]; rfl⟩
      have HBt : Aside0 (Below w.heap.size w W10) := ⟨by rw [← hW]; exact HBn.out.setCell (p := ⟨b8, 3, none⟩) (by have := HS6.out; show w.heap.size ≤ b8; omega) _⟩
      have HXt : Aside0 (W10.heap[bx]? = some (.cells #[.int .i64 x.f0, .int .i64 x.f1, .string x.f2, .slice A3 x.f3.length c3, .slice A4 x.f4.length c4] 28 (0, 0))) := ⟨(hoth bx (by have := HS6.out; omega)).trans HXn.out⟩
      have HNt : Aside0 (W10.heap[bx + 1 + 1]? = some (.cells #[.int .i64 0, .int .i64 0, .string ⟨#[]⟩, .slice none 0 0, .slice none 0 0] 28 (0, 0))) := ⟨(hoth _ (by have := HS6.out; omega)).trans HNn.out⟩
      have HKt : Aside0 (OwnRow kR 9 1 W10 b9 (.slice X9 n9 d9) (x.f3.take p ++ [k] ++ x.f3.drop p2)) := ⟨OwnRow.but (b := b8) (by decide) kR1 kR2 HOn.out (by have := HS6.out; omega) hoth⟩
      have HEt : Aside0 (OwnRow (k28.K w0) 28 5 W10 b9 (.slice X6 (p + 1) d6) (x.f4.take p ++ [y])) := ⟨OwnRow.but (b := b8) (by decide) (fun _ _ h => k28.K_len h) (fun _ _ h => k28.K_one h) HEn.out (by have := HS6.out; omega) hoth⟩
      have HSt10 : Aside0 (b9 ≤ W10.heap.size) := ⟨by rw [← hW]; have := HSn.out; simp; omega⟩
      rw [hW]
      clear hW hoth HZn HBn HXn HNn HSn HOn HEn HD HDz HDr HZ7 HB7 HX7 HN7 HK7 HE7 HS7
      go_upto_region 10 with fail
      obtain ⟨AN, hAN⟩ : ∃ AN, (if c4 = p2 then A4 else A4.map (·.add (p2 * 5))) = AN := ⟨_, rfl⟩
      have HDr : Aside0 (∀ W, Below W10.heap.size W10 W → ReadsRow (k28.K w0) 5 W AN (x.f4.length - p2) (x.f4.drop p2)) := ⟨fun W hb => by rw [← hAN]; exact rr_drop (HE0.out.imp_ (below_step HBt.out hb) (fun _ _ h => h)) p2 (by have := HPl2.out; have := HLn.out; omega) c4 HR.out.k4⟩
      have hDr := dropRun (P := Try.prog) 23 28 Try.underlying23 rfl 5 rfl A4 x.f4.length c4 p2 (by have := HPl2.out; have := HLn.out; omega)
      simp only [hAN] at hDr
      have HSt : Aside0 (∀ W, Below b9 W10 W → (fun w' => w'.cell? ⟨b8, 4, none⟩ = some (.slice X6 (p + 1) d6) ∧ w'.cell? ⟨bx, 4, none⟩ = some (.slice A4 x.f4.length c4)) W) := ⟨fun W hb => by
        have h1 := (hb.block bx (by have := HS6.out; omega)).trans HXt.out
        have h2 := (hb.block b8 (by have := HS6.out; omega)).trans HZt.out
        exact ⟨(cells5 h2).2.2.2.2, (cells5 h1).2.2.2.2⟩⟩
      clear hAN
      refine start_ (n := 9) (S := fun w' => w'.cell? ⟨b8, 4, none⟩ = some (.slice X6 (p + 1) d6) ∧ w'.cell? ⟨bx, 4, none⟩ = some (.slice A4 x.f4.length c4)) (ds := [8]) #[false, false, false, false, false, false, false, false, false] (by kernel_rfl) rfl (by rfl) (HSt.out _ (Below.refl _ _).drew) (fun hS => ?_)
      obtain ⟨Wd10, hWd⟩ : ∃ Wd, W10.drew = Wd := ⟨_, rfl⟩
      have HD : Aside0 (Below W10.heap.size W10 Wd10) := ⟨by rw [← hWd]; exact drawn_below ⟨1, rfl⟩⟩
      have HDz : Aside0 (Wd10.heap.size = W10.heap.size) := ⟨by rw [← hWd]; rfl⟩
      rw [hWd] at hS ⊢
      clear hWd
      refine take_ (i := 0) (N := some 70) (v := (.pointer (some ⟨b8, 4, none⟩))) #[true, false, false, false, false, false, false, false, false] rfl rfl (by kernel_rfl) (fun _ _ _ h => h) (Or.inl ⟨by rfl, by intro w hSw; (try dsimp only at hSw); go_simp⟩) hS rfl ?_
      try simp only [Act.put, List.setIfInBounds_toArray, List.set_cons_zero, List.set_cons_succ]
      refine take_ (i := 1) (N := some 71) (v := (.slice X6 (p + 1) d6)) #[true, true, false, false, false, false, false, false, false] rfl rfl (by kernel_rfl) (fun _ _ _ h => h) (Or.inl ⟨by rfl, by intro w hSw; (try dsimp only at hSw); go_simp⟩) hS rfl ?_
      try simp only [Act.put, List.setIfInBounds_toArray, List.set_cons_zero, List.set_cons_succ]
      refine take_ (i := 2) (N := some 72) (v := (.pointer (some ⟨bx, 4, none⟩))) #[true, true, true, false, false, false, false, false, false] rfl rfl (by kernel_rfl) (fun _ _ _ h => h) (Or.inl ⟨by rfl, by intro w hSw; (try dsimp only at hSw); go_simp⟩) hS rfl ?_
      try simp only [Act.put, List.setIfInBounds_toArray, List.set_cons_zero, List.set_cons_succ]
      refine take_ (i := 3) (N := some 73) (v := (.slice A4 x.f4.length c4)) #[true, true, true, true, false, false, false, false, false] rfl rfl (by kernel_rfl) (fun _ _ _ h => h) (Or.inl ⟨by rfl, by intro w hSw; (try dsimp only at hSw); go_simp⟩) hS rfl ?_
      try simp only [Act.put, List.setIfInBounds_toArray, List.set_cons_zero, List.set_cons_succ]
      refine take_ (i := 4) (N := some 74) (v := (.int .i64 (p2 : Int))) #[true, true, true, true, true, false, false, false, false] rfl rfl (by kernel_rfl) (fun _ _ _ h => h) (Or.inl ⟨by rfl, by intro w hSw; (try dsimp only at hSw); go_simp⟩) hS rfl ?_
      try simp only [Act.put, List.setIfInBounds_toArray, List.set_cons_zero, List.set_cons_succ]
      refine take_ (i := 5) (N := some 75) (v := (.slice AN (x.f4.length - p2) (c4 - p2))) #[true, true, true, true, true, true, false, false, false] rfl rfl (by kernel_rfl) (fun _ _ _ h => h) (Or.inl ⟨by rfl, by intro w hSw; (try dsimp only at hSw); go_simp⟩) hS rfl ?_
      try simp only [Act.put, List.setIfInBounds_toArray, List.set_cons_zero, List.set_cons_succ]
      refine one_ (i := 6) (N := some 76) #[true, true, true, true, true, true, true, false, false] rfl rfl (by kernel_rfl) (by decide) ?_
      intro K hK
      refine stepPV (w0 := w0) b9 rfl (.tmp 71) (.tmp 75) rfl (.slice X6 (p + 1) d6) (x.f4.take p ++ [y]) (x.f4.drop p2) AN (x.f4.length - p2) (c4 - p2) rfl rfl (by have := HSt10.out; have := HDz.out; omega) (HEt.out.below HD.out) (HDr.out _ HD.out) (by rw [List.length_append, List.length_take]; have := HPl.out; have := HPl2.out; have := HLn.out; simp; omega) ?_
      intro v1 v2 ho hb hg
      obtain ⟨X10, d10, e6, _⟩ := ho.slice_
      obtain ⟨n10, hn10⟩ : ∃ n, ((x.f4.take p ++ [y]) ++ x.f4.drop p2).length = n := ⟨_, rfl⟩
      rw [hn10] at e6
      have HNn10 := Aside0.mk hn10
      clear hn10
      subst e6
      have HKn : Aside0 (OwnRow kR 9 1 v2 b9 (.slice X9 n9 d9) (x.f3.take p ++ [k] ++ x.f3.drop p2)) := ⟨by
        have h1 := HKt.out.below HD.out
        obtain ⟨i1, o1, _⟩ := h1
        obtain ⟨i0, o0, _⟩ := HEt.out.below HD.out
        exact OwnRow.other (HKt.out.below HD.out) hg (Go.Proofs.YtgpjkojnmeaoiaaW.PrintWords.own_type_ne o1 o0 (by decide))⟩
      have HOn := Aside0.mk ho
      have HZn : Aside0 (v2.heap[b8]? = some (.cells #[.int .i64 6, .int .i64 0, .string ⟨#[]⟩, .slice X9 n9 d9, .slice X6 (p + 1) d6] 28 (0, 0))) := ⟨(hb.block b8 (by have := HS6.out; omega)).trans ((HD.out.block b8 (Array.getElem?_eq_some_iff.1 HZt.out).1).trans HZt.out)⟩
      have HXn : Aside0 (v2.heap[bx]? = some (.cells #[.int .i64 x.f0, .int .i64 x.f1, .string x.f2, .slice A3 x.f3.length c3, .slice A4 x.f4.length c4] 28 (0, 0))) := ⟨(hb.block bx (by have := HS6.out; omega)).trans ((HD.out.block bx (Array.getElem?_eq_some_iff.1 HXt.out).1).trans HXt.out)⟩
      have HNn : Aside0 (v2.heap[bx + 1 + 1]? = some (.cells #[.int .i64 0, .int .i64 0, .string ⟨#[]⟩, .slice none 0 0, .slice none 0 0] 28 (0, 0))) := ⟨(hb.block _ (by have := HS6.out; omega)).trans ((HD.out.block _ (Array.getElem?_eq_some_iff.1 HNt.out).1).trans HNt.out)⟩
      have HBn : Aside0 (Below w.heap.size w v2) := ⟨(below_step HBt.out HD.out).trans (hb.mono (by have := HS6.out; omega))⟩
      have HSn : Aside0 (b9 ≤ v2.heap.size) := ⟨by have := hb.size; have := HDz.out; have := HSt10.out; omega⟩
      have hS3 := HSt.out v2 (((Below.refl b9 W10).trans (HD.out.mono (by have := HSt10.out; omega))).trans hb)
      refine hK.out _ _ hS3 (fun hS => ?_)
      clear hK K hS3 hb hg ho
      try simp only [Act.put, List.setIfInBounds_toArray, List.set_cons_zero, List.set_cons_succ]
      refine take_ (i := 7) (N := some 77) (v := (.pointer (some ⟨b8, 4, none⟩))) #[true, true, true, true, true, true, true, true, false] rfl rfl (by kernel_rfl) (fun _ _ _ h => h) (Or.inl ⟨by rfl, by intro w hSw; (try dsimp only at hSw); go_simp⟩) hS rfl ?_
      try simp only [Act.put, List.setIfInBounds_toArray, List.set_cons_zero, List.set_cons_succ]
      have t0 : ∀ j, v2.frozen? ⟨b8, j, none⟩ = false := (fun j => by simp [World.frozen?, HZn.out])
      obtain ⟨t1, t2, t3, t4, t5⟩ := cells5 HZn.out
      refine last_ (i := 8) (N := none) #[true, true, true, true, true, true, true, true, true] rfl rfl (by kernel_rfl) (by decide) ?_
      intro K hK
      go_simp
      refine hK.out _ _ ?_
      clear hK K t0 t1 t2 t3 t4 t5 hS HSt hDr
      refine done_ (by kernel_rfl) ?_
      obtain ⟨W11, hW⟩ : ∃ W, v2.setCell ⟨b8, 4, none⟩ (.slice X10 n10 d10) = W := ⟨_, rfl⟩
      have hoth : ∀ k, k ≠ b8 → W11.heap[k]? = v2.heap[k]? := fun k hk => by rw [← hW]; exact Below.heap_setCell _ _ _ k (fun e => hk e)
      have HZt : Aside0 (W11.heap[b8]? = some (.cells #[.int .i64 6, .int .i64 0, .string ⟨#[]⟩, .slice X9 n9 d9, .slice X10 n10 d10] 28 (0, 0))) := ⟨by rw [← hW, heap_setCell_same _ _ _ _ _ _ HZn.out]; rfl⟩
      have HBt : Aside0 (Below w.heap.size w W11) := ⟨by rw [← hW]; exact HBn.out.setCell (p := ⟨b8, 4, none⟩) (by have := HS6.out; show w.heap.size ≤ b8; omega) _⟩
      have HXt : Aside0 (W11.heap[bx]? = some (.cells #[.int .i64 x.f0, .int .i64 x.f1, .string x.f2, .slice A3 x.f3.length c3, .slice A4 x.f4.length c4] 28 (0, 0))) := ⟨(hoth bx (by have := HS6.out; omega)).trans HXn.out⟩
      have HNt : Aside0 (W11.heap[bx + 1 + 1]? = some (.cells #[.int .i64 0, .int .i64 0, .string ⟨#[]⟩, .slice none 0 0, .slice none 0 0] 28 (0, 0))) := ⟨(hoth _ (by have := HS6.out; omega)).trans HNn.out⟩
      have HKt : Aside0 (OwnRow kR 9 1 W11 b9 (.slice X9 n9 d9) (x.f3.take p ++ [k] ++ x.f3.drop p2)) := ⟨OwnRow.but (b := b8) (by decide) kR1 kR2 HKn.out (by have := HS6.out; omega) hoth⟩
      have HEt : Aside0 (OwnRow (k28.K w0) 28 5 W11 b9 (.slice X10 n10 d10) (x.f4.take p ++ [y] ++ x.f4.drop p2)) := ⟨OwnRow.but (b := b8) (by decide) (fun _ _ h => k28.K_len h) (fun _ _ h => k28.K_one h) HOn.out (by have := HS6.out; omega) hoth⟩
      have HSt10 : Aside0 (b9 ≤ W11.heap.size) := ⟨by rw [← hW]; have := HSn.out; simp; omega⟩
      rw [hW]
      clear hW hoth HZn HBn HXn HNn HSn HOn HKn HD HDz HDr 
      obtain ⟨q0, q1, q2, q3, q4⟩ := cells5 HZt.out
      obtain ⟨t0, t1, t2, t3, t4, t5⟩ := zero5 HNt.out
      go_wp2_with fail
      obtain ⟨W', hW', ⟨u0, u1, u2, u3, u4⟩, hg, hz⟩ := fill5 HNt.out HBt.out (by have := HS6.out; omega) (.int .i64 6) (.int .i64 0) (.string ⟨#[]⟩) (.slice X9 n9 d9) (.slice X10 n10 d10)
      rw [hW']
      refine bodyPost_ret (v := .agg #[.int .i64 6, .int .i64 0, .string ⟨#[]⟩, .slice X9 n9 d9, .slice X10 n10 d10]) (by simp [results, Try.results55, go_sem, u0, u1, u2, u3, u4]) rfl ?_
      have hp := putP_at (zk := x.f3) (ze := x.f4) k y HLn.out.1 p p2 HP.out.1 HP.out.2.1 HP.out.2.2 HP2.out
      refine ⟨x.f3.take p ++ [k] ++ x.f3.drop p2, x.f4.take p ++ [y] ++ x.f4.drop p2, X9, d9, X10, d10, by rw [HNn9.out, HNn10.out], hp.2.1, hp.2.2, hp.1, ?_, ?_, hz⟩
      · rw [HNn9.out]
        exact (OwnRow.other HKt.out hg (Or.inr (fun e => by obtain ⟨i0, ho, _⟩ := HKt.out; have := Go.Proofs.YtgpjkojnmeaoiaaW.PrintWords.own_base ho _ e; have := HS6.out; omega))).lower (by have := HS6.out; omega)
      · rw [HNn10.out]
        exact (OwnRow.other HEt.out hg (Or.inr (fun e => by obtain ⟨i0, ho, _⟩ := HEt.out; have := Go.Proofs.YtgpjkojnmeaoiaaW.PrintWords.own_base ho _ e; have := HS6.out; omega))).lower (by have := HS6.out; omega)
end Go.Proofs.Ytgpjkojnmeaoiaa.QV

/- The reference's Obj: what it makes of members, in plain words, and its walk. -/
namespace Go.Proofs.Ytgpjkojnmeaoiaa.QV
open Go Go.RowKit Go.Proofs.YtgpjkojnmeaoiaaW.PrintWords Go.Proofs.YtgpjkojnmeaoiaaW.PrintLast Go.Proofs.YtgpjkojnmeaoiaaW.PrintMore
set_option linter.unusedVariables false
set_option linter.unusedSimpArgs false
set_option maxRecDepth 100000
set_option maxHeartbeats 4000000
/-- The object of members. -/
def mkO (l : List KV) : S28 := ⟨6, 0, ⟨#[]⟩, l.map (·.1), l.map (·.2)⟩
theorem putP_len : ∀ (l : List KV) (k : ByteArray) (y : S28), (putP l k y).length ≤ l.length + 1
  | [], k, y => by simp [putP]
  | a :: r, k, y => by
    unfold putP
    have := putP_len r k y
    split
    · simp only [List.length_cons]; omega
    · split <;> simp only [List.length_cons] <;> omega
theorem foldP_len (z : List KV) : (foldP z).length ≤ z.length := by
  obtain ⟨r, hr⟩ : ∃ r, z.reverse = r := ⟨_, rfl⟩
  have e : z = r.reverse := by rw [← hr, List.reverse_reverse]
  rw [e]
  clear hr e
  induction r with
  | nil => simp [foldP]
  | cons a r ih =>
    rw [List.reverse_cons, foldP_app]
    have := putP_len (foldP r.reverse) a.1 a.2
    simp only [List.length_append, List.length_cons, List.length_nil]
    omega
theorem foldP_sub {z : List KV} {q : KV} (h : q ∈ foldP z) : q ∈ z := by
  obtain ⟨p, h1, _⟩ := ((foldP_all z).2 q).1 h
  exact List.mem_of_getElem? h1
theorem wv_mkO {ks : List ByteArray} {es : List S28} (hks : ∀ q ∈ ks, q.size ≤ 4096) (hw : ∀ y ∈ es, Wv y ∧ cnt y ≤ 100) (hn : ks.length ≤ 20) : Wv (mkO (foldP (ks.zip es))) ∧ cnt (mkO (foldP (ks.zip es))) ≤ 1000000000000000 := by
  have h1 : (foldP (ks.zip es)).length ≤ 20 := by
    have := foldP_len (ks.zip es)
    rw [List.length_zip] at this
    omega
  have hk : ∀ q ∈ (foldP (ks.zip es)).map (·.1), q.size ≤ 4096 := fun q hq => by
    obtain ⟨m, hm, rfl⟩ := List.mem_map.1 hq
    exact hks _ (List.of_mem_zip (foldP_sub hm)).1
  have he : ∀ q ∈ (foldP (ks.zip es)).map (·.2), Wv q ∧ cnt q ≤ 100 := fun q hq => by
    obtain ⟨m, hm, rfl⟩ := List.mem_map.1 hq
    exact hw _ (List.of_mem_zip (foldP_sub hm)).2
  refine ⟨.mk _ (by simp [mkO]) (by simp [mkO]) (show (⟨#[]⟩ : ByteArray).size ≤ 140737488351232 from Nat.zero_le _) (by simp [mkO]; omega) (fun q hq => by have := hk q hq; omega) (by simp [mkO]; omega) (fun q hq => (he q hq).1), ?_⟩
  have h2 := ksz_bound (l := (foldP (ks.zip es)).map (·.1)) (n := 4096) hk
  have h3 := cntL_bound (l := (foldP (ks.zip es)).map (·.2)) (n := 100) (fun q hq => (he q hq).2)
  rw [cnt_eq]
  simp only [mkO, List.length_map] at *
  have h4 : (foldP (ks.zip es)).length * (4096 + 1) ≤ 20 * 4097 := Nat.mul_le_mul h1 (by omega)
  have h5 : (foldP (ks.zip es)).length * 100 ≤ 20 * 100 := Nat.mul_le_mul h1 (by omega)
  have h6 : (⟨#[]⟩ : ByteArray).size = 0 := rfl
  omega
/-- What a maker answers: a value that can be read, and an error's number. -/
def MkPost (r : S28) (n : Int) (w : World) (e : Ending) (w' : World) : Prop := ∃ (X3 : Option Addr) (d3 : Nat) (X4 : Option Addr) (d4 : Nat), e = .returned (.tuple #[.agg #[.int .i64 r.f0, .int .i64 r.f1, .string r.f2, .slice X3 r.f3.length d3, .slice X4 r.f4.length d4], .int .i64 n]) ∧ Rd w' X3 d3 X4 d4 r ∧ Below w.heap.size w w'
theorem MkPost.bad {w w' : World} {n : Int} {e : Ending} (h : BadObj w n e w') : MkPost zV n w e w' := ⟨none, 0, none, 0, h.1, rd_z _, h.2⟩
/-- The answer of Obj: the same of the program and of the reference. -/
def objV (ks : List ByteArray) (es : List S28) : S28 := if ks.length = es.length ∧ es.all vd = true ∧ ks.all u8 = true ∧ vd (mkO (foldP (ks.zip es))) = true then mkO (foldP (ks.zip es)) else zV
def objN (ks : List ByteArray) (es : List S28) : Int := if ks.length ≠ es.length then 3 else if es.all vd = false then 1 else if ks.all u8 = false then 6 else if vd (mkO (foldP (ks.zip es))) = false then 2 else 0
/-- A block of a value written over. -/
theorem fill5g {w W : World} {b : Nat} {a0 a1 a2 a3 a4 : Value} (h : W.heap[b]? = some (.cells #[a0, a1, a2, a3, a4] 28 (0, 0))) (hz : Below w.heap.size w W) (hb : w.heap.size ≤ b) (v0 v1 v2 v3 v4 : Value) : ∃ W', ((((W.setCell ⟨b, 0, none⟩ v0).setCell ⟨b, 1, none⟩ v1).setCell ⟨b, 2, none⟩ v2).setCell ⟨b, 3, none⟩ v3).setCell ⟨b, 4, none⟩ v4 = W' ∧
    W'.heap[b]? = some (.cells #[v0, v1, v2, v3, v4] 28 (0, 0)) ∧ W.grownBy W' (some b) ∧ Below w.heap.size w W' ∧ W'.heap.size = W.heap.size := by
  have gc : ∀ (W : World) (j : Nat) (v : Value), W.grownBy (W.setCell ⟨b, j, none⟩ v) (some b) := fun W j v => ⟨rfl, rfl, rfl, by simp, fun k _ hk => Below.heap_setCell _ _ _ k (fun e => hk (by rw [e]))⟩
  have hg := ((((gc W 0 v0).trans (gc _ 1 v1)).trans (gc _ 2 v2)).trans (gc _ 3 v3)).trans (gc _ 4 v4)
  have e : (((((W.setCell ⟨b, 0, none⟩ v0).setCell ⟨b, 1, none⟩ v1).setCell ⟨b, 2, none⟩ v2).setCell ⟨b, 3, none⟩ v3).setCell ⟨b, 4, none⟩ v4).heap[b]? = some (.cells #[v0, v1, v2, v3, v4] 28 (0, 0)) := by
    rw [heap_setCell_same _ _ _ _ _ _ (heap_setCell_same _ _ _ _ _ _ (heap_setCell_same _ _ _ _ _ _ (heap_setCell_same _ _ _ _ _ _ (heap_setCell_same _ _ _ _ _ _ h))))]
    rfl
  exact ⟨_, rfl, e, hg, hz.trans ⟨hg.os, hg.tape, hg.output, hg.size, fun k hk => hg.block k (by have := hz.size; omega) (fun e => by have := Option.some.inj e; omega)⟩, by simp⟩
/-- Between the rounds of Put: the object of the first i members lies in block b, its rows above. -/
structure Obs (w : World) (zs : List KV) (b i : Nat) (X3 : Option Addr) (d3 : Nat) (X4 : Option Addr) (d4 : Nat) (W : World) : Prop where
  z : Below w.heap.size w W
  r : W.heap[w.heap.size]? = some (.cells #[.int .i64 0, .int .i64 0, .string ⟨#[]⟩, .slice none 0 0, .slice none 0 0] 28 (0, 0))
  o : W.heap[b]? = some (.cells #[.int .i64 ((mkO (foldP (zs.take i)))).f0, .int .i64 ((mkO (foldP (zs.take i)))).f1, .string ((mkO (foldP (zs.take i)))).f2, .slice X3 ((mkO (foldP (zs.take i)))).f3.length d3, .slice X4 ((mkO (foldP (zs.take i)))).f4.length d4] 28 (0, 0))
  k : OwnRow kR 9 1 W (b + 1) (.slice X3 (mkO (foldP (zs.take i))).f3.length d3) (mkO (foldP (zs.take i))).f3
  e : OwnRow (k28.K w) 28 5 W (b + 1) (.slice X4 (mkO (foldP (zs.take i))).f4.length d4) (mkO (foldP (zs.take i))).f4
  s : b + 1 ≤ W.heap.size
theorem refObj_len (ks : List ByteArray) (es : List S28) (w : World) {A : Option Addr} {c : Nat} {B : Option Addr} {d : Nat} (hne : ks.length ≠ es.length) (hk : ks.length ≤ 140737488351232) (he : es.length ≤ 140737488351232) :
    Calls Try.prog 18 #[.slice A ks.length c, .slice B es.length d] w (BadObj w 3) := by
  have HN : Aside0 ((w.alloc (.cells #[.int .i64 0, .int .i64 0, .string ⟨#[]⟩, .slice none 0 0, .slice none 0 0] 28)).heap[w.heap.size]? = some (.cells #[.int .i64 0, .int .i64 0, .string ⟨#[]⟩, .slice none 0 0, .slice none 0 0] 28 (0, 0))) := ⟨heap_alloc_new w _⟩
  have HB := Aside0.mk (new_below w (.cells #[.int .i64 0, .int .i64 0, .string ⟨#[]⟩, .slice none 0 0, .slice none 0 0] 28))
  have g1 : decide ((ks.length : Int) = (es.length : Int)) = false := decide_eq_false (by omega)
  have g2 : decide (ks.length = es.length) = false := decide_eq_false hne
  have g3 : ((ks.length : Int) == (es.length : Int)) = false := by rw [beq_eq_false_iff_ne]; omega
  have g4 : (ks.length == es.length) = false := by rw [beq_eq_false_iff_ne]; exact hne
  clear hk he
  go_enter Try.func18, Try.ntmps18
  obtain ⟨t0, t1, t2, t3, t4, t5⟩ := zero5 HN.out
  go_wp2_with fail
  exact bodyPost_ret (v := .tuple #[.agg #[.int .i64 0, .int .i64 0, .string ⟨#[]⟩, .slice none 0 0, .slice none 0 0], .int .i64 3]) (by simp [results, Try.results18, go_sem, t1, t2, t3, t4, t5]) rfl ⟨rfl, HB.out⟩
theorem refObj_inv (ks : List ByteArray) (es : List S28) (w : World) {A : Option Addr} {c : Nat} {B : Option Addr} {d : Nat} (hlen : ks.length = es.length) (he : Kd.C k28 w B es.length es) (hw : ∀ y ∈ es, Wv y ∧ cnt y ≤ 100) (hm : es.length ≤ 20) (hall : es.all vd = false) :
    Calls Try.prog 18 #[.slice A ks.length c, .slice B es.length d] w (BadObj w 1) := by
  have HN : Aside0 ((w.alloc (.cells #[.int .i64 0, .int .i64 0, .string ⟨#[]⟩, .slice none 0 0, .slice none 0 0] 28)).heap[w.heap.size]? = some (.cells #[.int .i64 0, .int .i64 0, .string ⟨#[]⟩, .slice none 0 0, .slice none 0 0] 28 (0, 0))) := ⟨heap_alloc_new w _⟩
  have HB := Aside0.mk (new_below w (.cells #[.int .i64 0, .int .i64 0, .string ⟨#[]⟩, .slice none 0 0, .slice none 0 0] 28))
  have HL : Aside0 (w.heap.size < (w.alloc (.cells #[.int .i64 0, .int .i64 0, .string ⟨#[]⟩, .slice none 0 0, .slice none 0 0] 28)).heap.size) := ⟨by simp⟩
  have HQ := Aside0.mk (refAllC (c := d) es (w.alloc (.cells #[.int .i64 0, .int .i64 0, .string ⟨#[]⟩, .slice none 0 0, .slice none 0 0] 28)) (Kd.C_below he HB.out) (fun y hy => ⟨(hw y hy).1, by have := (hw y hy).2; omega⟩) (by omega))
  rw [hall] at HQ
  rw [hlen]
  clear he hw hall hlen
  go_enter Try.func18, Try.ntmps18
  go_wp2_with (first | (go_at_call 52; (with_reducible refine HQ.out.mono ?_); rintro e we ⟨rfl, hb⟩; have HC := Aside0.mk hb; clear hb; have HN2 := Aside0.mk ((HC.out.block _ HL.out).trans HN.out); have HB2 := Aside0.mk (below_step HB.out HC.out); obtain ⟨t0, t1, t2, t3, t4, t5⟩ := zero5 HN2.out))
  obtain ⟨W', hW', ⟨u0, u1, u2, u3, u4⟩, hg, hz⟩ := fill5 HN2.out HB2.out (Nat.le_refl _) (.int .i64 0) (.int .i64 0) (.string ⟨#[]⟩) (.slice none 0 0) (.slice none 0 0)
  rw [hW']
  exact bodyPost_ret (v := .tuple #[.agg #[.int .i64 0, .int .i64 0, .string ⟨#[]⟩, .slice none 0 0, .slice none 0 0], .int .i64 1]) (by simp [results, Try.results18, go_sem, u0, u1, u2, u3, u4]) rfl ⟨rfl, hz⟩
/-- All values are valid: the loop over the keys. -/
theorem refObj_ok (ks : List ByteArray) (es : List S28) (w : World) {A : Option Addr} {c : Nat} {B : Option Addr} {d : Nat} (hlen : ks.length = es.length) (hk : Kd.C Kd.string w A ks.length ks) (hks : ∀ q ∈ ks, q.size ≤ 4096) (he : Kd.C k28 w B es.length es) (hw : ∀ y ∈ es, Wv y ∧ cnt y ≤ 100) (hn : ks.length ≤ 20) (hall : es.all vd = true) :
    Calls Try.prog 18 #[.slice A ks.length c, .slice B es.length d] w (MkPost (objV ks es) (objN ks es) w) := by
  have HN : Aside0 ((w.alloc (.cells #[.int .i64 0, .int .i64 0, .string ⟨#[]⟩, .slice none 0 0, .slice none 0 0] 28)).heap[w.heap.size]? = some (.cells #[.int .i64 0, .int .i64 0, .string ⟨#[]⟩, .slice none 0 0, .slice none 0 0] 28 (0, 0))) := ⟨heap_alloc_new w _⟩
  have HB := Aside0.mk (new_below w (.cells #[.int .i64 0, .int .i64 0, .string ⟨#[]⟩, .slice none 0 0, .slice none 0 0] 28))
  have HL : Aside0 (w.heap.size < (w.alloc (.cells #[.int .i64 0, .int .i64 0, .string ⟨#[]⟩, .slice none 0 0, .slice none 0 0] 28)).heap.size) := ⟨by simp⟩
  have HQ := Aside0.mk (refAllC (c := d) es (w.alloc (.cells #[.int .i64 0, .int .i64 0, .string ⟨#[]⟩, .slice none 0 0, .slice none 0 0] 28)) (Kd.C_below he HB.out) (fun y hy => ⟨(hw y hy).1, by have := (hw y hy).2; omega⟩) (by omega))
  rw [hall, ← hlen] at HQ
  have HWO := Aside0.mk (wv_mkO (ks := ks) (es := es) hks hw hn)
  have HFt : Aside0 (∀ (W : World) (X3 : Option Addr) (d3 : Nat) (X4 : Option Addr) (d4 : Nat), Rd W X3 d3 X4 d4 (mkO (foldP (ks.zip es))) → Calls Try.prog 46 #[.agg #[.int .i64 ((mkO (foldP (ks.zip es)))).f0, .int .i64 ((mkO (foldP (ks.zip es)))).f1, .string ((mkO (foldP (ks.zip es)))).f2, .slice X3 ((mkO (foldP (ks.zip es)))).f3.length d3, .slice X4 ((mkO (foldP (ks.zip es)))).f4.length d4]] W fun e w' => e = .returned (if vd (mkO (foldP (ks.zip es))) = true then .tuple #[.agg #[.int .i64 ((mkO (foldP (ks.zip es)))).f0, .int .i64 ((mkO (foldP (ks.zip es)))).f1, .string ((mkO (foldP (ks.zip es)))).f2, .slice X3 ((mkO (foldP (ks.zip es)))).f3.length d3, .slice X4 ((mkO (foldP (ks.zip es)))).f4.length d4], .int .i64 0] else .tuple #[.agg #[.int .i64 0, .int .i64 0, .string ⟨#[]⟩, .slice none 0 0, .slice none 0 0], .int .i64 2]) ∧ Below W.heap.size W w') :=
    ⟨fun W X3 d3 X4 d4 hr => refFitC _ W HWO.out.1 HWO.out.2 hr⟩
  have HK := Aside0.mk hk
  have HE := Aside0.mk he
  have HKs := Aside0.mk hks
  have HLn := Aside0.mk (And.intro hlen hn)
  have HAl := Aside0.mk hall
  rw [← hlen]
  clear he hw hall hlen hk hks HWO
  go_enter Try.func18, Try.ntmps18
  go_upto_region 5 with (first | (go_at_call 52; (with_reducible refine HQ.out.mono ?_); rintro e we ⟨rfl, hb⟩; have HC := Aside0.mk hb; clear hb; have HN2 := Aside0.mk ((HC.out.block _ HL.out).trans HN.out); have HB2 := Aside0.mk (below_step HB.out HC.out)))
  have H0 : Aside0 (Below w.heap.size w we ∧ we.heap[w.heap.size]? = some (.cells #[.int .i64 0, .int .i64 0, .string ⟨#[]⟩, .slice none 0 0, .slice none 0 0] 28 (0, 0))) := ⟨HB2.out, HN2.out⟩
  clear HN HB HL HQ HC HN2 HB2
  go_wp2_with fail
  go_loopg [6] ks.length (fun kq v6 w' => ∃ (i : Nat), kq + i = ks.length ∧ v6 = .int .i64 (i : Int) ∧ Aside0 ((ks.take i).all QV.u8 = true) ∧ Aside0 (Below w.heap.size w w' ∧ w'.heap[w.heap.size]? = some (.cells #[.int .i64 0, .int .i64 0, .string ⟨#[]⟩, .slice none 0 0, .slice none 0 0] 28 (0, 0))))
  case atStart => exact ⟨0, by omega, rfl, ⟨by simp⟩, H0⟩
  case round =>
    clear H0
    obtain ⟨i, hi, rfl, HU, HW⟩ := hrel
    by_cases ci : i < ks.length
    · have g0 : decide ((i : Int) < (ks.length : Int)) = true := decide_eq_true (by omega)
      have g0' : decide (i < ks.length) = true := decide_eq_true ci
      have g2 : (0 ≤ (i : Int)) = True := eq_true (by omega)
      have g3 : ((i : Int) < (ks.length : Int)) = True := eq_true (by omega)
      obtain ⟨j1, rfl⟩ : ∃ j1, gk = j1 + 1 := ⟨gk - 1, by omega⟩
      have hil : ks[i]? = some ks[i] := List.getElem?_eq_getElem ci
      have hq := HKs.out _ (List.getElem_mem ci)
      have hmem := List.getElem_mem ci
      obtain ⟨y, hq'⟩ : ∃ y, ks[i] = y := ⟨_, rfl⟩
      rw [hq'] at hil hq hmem
      obtain ⟨ad, e1, he0⟩ := str_at (Kd.C_below HK.out HW.out.1) i ci hil
      have HI := Aside0.mk hi
      have HUC := Aside0.mk (fun W => ru8C y (by omega) W)
      have HU2 : Aside0 ((ks.take (i + 1)).all QV.u8 = QV.u8 y) := ⟨by rw [List.take_add_one, hil, List.all_append, HU.out]; simp⟩
      have HBd : Aside0 (QV.u8 y = false → ks.all QV.u8 = false) := ⟨fun h => by cases hh : ks.all QV.u8 with | false => rfl | true => have := List.all_eq_true.1 hh y hmem; rw [h] at this; cases this⟩
      obtain ⟨b, hb⟩ : ∃ b, QV.u8 y = b := ⟨_, rfl⟩
      rw [hb] at HUC HU2 HBd
      clear hil hq' hi hb HU hmem hq
      subst e1
      cases b with
      | false =>
        have hbd := HBd.out rfl
        have HON : Aside0 (objN ks es = 6 ∧ objV ks es = zV) := ⟨by unfold objN objV; rw [hbd]; simp [HLn.out.1, HAl.out]⟩
        clear hbd HBd
        go_wp2_with (first | (go_at_call 45; (with_reducible refine (HUC.out _).mono ?_); rintro e we2 ⟨rfl, hd⟩; have HN2 := Aside0.mk ((hd.block _ (Array.getElem?_eq_some_iff.1 HW.out.2).1).trans HW.out.2); have HB2 := Aside0.mk (below_step HW.out.1 hd); clear hd; obtain ⟨t0, t1, t2, t3, t4, t5⟩ := zero5 HN2.out))
        obtain ⟨W', hW', ⟨u0, u1, u2, u3, u4⟩, hg, hz⟩ := fill5 HN2.out HB2.out (Nat.le_refl _) (.int .i64 0) (.int .i64 0) (.string ⟨#[]⟩) (.slice none 0 0) (.slice none 0 0)
        rw [hW']
        exact bodyPost_ret (v := .tuple #[.agg #[.int .i64 0, .int .i64 0, .string ⟨#[]⟩, .slice none 0 0, .slice none 0 0], .int .i64 6]) (by simp [results, Try.results18, go_sem, u0, u1, u2, u3, u4]) rfl (by rw [HON.out.1, HON.out.2]; exact MkPost.bad ⟨rfl, hz⟩)
      | true =>
        clear HBd
        have hib : i < 20 := by have := HLn.out.2; omega
        go_wp2_with (first | (go_at_call 45; (with_reducible refine (HUC.out _).mono ?_); rintro e we2 ⟨rfl, hd⟩; have HN2 := Aside0.mk ((hd.block _ (Array.getElem?_eq_some_iff.1 HW.out.2).1).trans HW.out.2); have HB2 := Aside0.mk (below_step HW.out.1 hd); clear hd))
        go_roundg j1
        case measure => omega
        case rel => exact ⟨i + 1, by have := HI.out; omega, rfl, HU2, ⟨HB2.out, HN2.out⟩⟩
    · have g0 : decide ((i : Int) < (ks.length : Int)) = false := decide_eq_false (by omega)
      have g0' : decide (i < ks.length) = false := decide_eq_false ci
      have HU2 : Aside0 (ks.all QV.u8 = true) := ⟨by have := HU.out; rwa [List.take_of_length_le (by omega)] at this⟩
      clear ci hi HU HKs
      go_upto_region 11 with fail
      obtain ⟨b, hb⟩ : ∃ b, wr.heap.size = b := ⟨_, rfl⟩
      obtain ⟨W1, hW1⟩ : ∃ W1, wr.alloc (.cells #[.int .i64 6, .int .i64 0, .string ⟨#[]⟩, .slice none 0 0, .slice none 0 0] 28) = W1 := ⟨_, rfl⟩
      have hZ := heap_alloc_new wr (.cells #[.int .i64 6, .int .i64 0, .string ⟨#[]⟩, .slice none 0 0, .slice none 0 0] 28)
      have hB := new_below wr (.cells #[.int .i64 6, .int .i64 0, .string ⟨#[]⟩, .slice none 0 0, .slice none 0 0] 28)
      have hbo : w.heap.size < b := by rw [← hb]; exact (Array.getElem?_eq_some_iff.1 HW.out.2).1
      have hs1 : W1.heap.size = b + 1 := by rw [← hW1, ← hb]; simp
      rw [hW1] at hZ hB
      rw [hb] at hZ
      have HLo : Aside0 (w.heap.size < b) := ⟨hbo⟩
      have H0 : Aside0 (Obs w (ks.zip es) b 0 none 0 none 0 W1) := ⟨⟨below_step HW.out.1 hB, (hB.block _ (Array.getElem?_eq_some_iff.1 HW.out.2).1).trans HW.out.2, hZ, OwnRow.none_ _ _ _ _ _, OwnRow.none_ _ _ _ _ _, by omega⟩⟩
      rw [hW1, hb]
      clear hW1 hb hZ hB hbo hs1 HW
      go_wp2_with fail
      go_loopg [8] ks.length (fun kq v8 w' => ∃ (i : Nat) (X3 : Option Addr) (d3 : Nat) (X4 : Option Addr) (d4 : Nat), kq + i = ks.length ∧ v8 = .int .i64 (i : Int) ∧ Aside0 (Obs w (ks.zip es) b i X3 d3 X4 d4 w'))
      case atStart => exact ⟨0, none, 0, none, 0, by omega, rfl, H0⟩
      case round =>
        clear H0 g0 g0'
        obtain ⟨i, X3, d3, X4, d4, hi, rfl, HO⟩ := hrel
        by_cases ci : i < ks.length
        · have g0 : decide ((i : Int) < (ks.length : Int)) = true := decide_eq_true (by omega)
          have g0' : decide (i < ks.length) = true := decide_eq_true ci
          have g2 : (0 ≤ (i : Int)) = True := eq_true (by omega)
          have g3 : ((i : Int) < (ks.length : Int)) = True := eq_true (by omega)
          obtain ⟨j1, rfl⟩ : ∃ j1, gk = j1 + 1 := ⟨gk - 1, by omega⟩
          have hil : ks[i]? = some ks[i] := List.getElem?_eq_getElem ci
          obtain ⟨k, hk'⟩ : ∃ k, ks[i] = k := ⟨_, rfl⟩
          rw [hk'] at hil
          have ci2 : i < es.length := by have := HLn.out.1; omega
          have hjl : es[i]? = some es[i] := List.getElem?_eq_getElem ci2
          obtain ⟨y, hy'⟩ : ∃ y, es[i] = y := ⟨_, rfl⟩
          rw [hy'] at hjl
          obtain ⟨adk, e1, hck⟩ := str_at (Kd.C_below HK.out HO.out.z) i ci hil
          obtain ⟨ad2, Y3, y3, Y4, y4, e2, hce⟩ := el_at HE.out i ci2 hjl
          have HCk := Aside0.mk hck
          have HCe := Aside0.mk (hce.below HO.out.z)
          have HYd := Aside0.mk hce.rd
          have HI := Aside0.mk hi
          have hib : i < 20 := by have := HLn.out.2; omega
          have HTk : Aside0 ((ks.zip es).take (i + 1) = (ks.zip es).take i ++ [(k, y)]) := ⟨by rw [List.take_add_one, (List.getElem?_zip_eq_some (z := (k, y))).2 ⟨hil, hjl⟩]; rfl⟩
          clear hil hk' hjl hy' hck hce ci ci2
          subst e1
          subst e2
          go_upto_region 14 with fail
          obtain ⟨v, hv⟩ : ∃ v, mkO (foldP ((ks.zip es).take i)) = v := ⟨_, rfl⟩
          have HVv : Aside0 (v.f3.length = v.f4.length ∧ v.f3.length ≤ i ∧ v.f3.zip v.f4 = foldP ((ks.zip es).take i)) := ⟨by
            have h := foldP_len ((ks.zip es).take i)
            rw [List.length_take] at h
            rw [← hv]
            refine ⟨by simp [mkO], by simp only [mkO, List.length_map]; omega, ?_⟩
            simp only [mkO]
            exact (List.zip_of_prod rfl rfl).symm⟩
          have HOo := Aside0.mk HO.out.o
          have HOk := Aside0.mk HO.out.k
          have HOe := Aside0.mk HO.out.e
          rw [hv] at HOo HOk HOe
          have HSt : Aside0 (∀ W, Below wr.heap.size wr W → (fun w' => (w'.cell? ⟨b, 0, none⟩ = some (.int .i64 v.f0) ∧ w'.cell? ⟨b, 1, none⟩ = some (.int .i64 v.f1) ∧ w'.cell? ⟨b, 2, none⟩ = some (.string v.f2) ∧ w'.cell? ⟨b, 3, none⟩ = some (.slice X3 v.f3.length d3) ∧ w'.cell? ⟨b, 4, none⟩ = some (.slice X4 v.f4.length d4)) ∧ w'.cell? (adk.add i) = some (.string k) ∧ (w'.cell? (ad2.add (i * 5)) = some (.int .i64 y.f0) ∧ w'.cell? ⟨(ad2.add (i * 5)).block, (ad2.add (i * 5)).off + 1, none⟩ = some (.int .i64 y.f1) ∧ w'.cell? ⟨(ad2.add (i * 5)).block, (ad2.add (i * 5)).off + 2, none⟩ = some (.string y.f2) ∧ w'.cell? ⟨(ad2.add (i * 5)).block, (ad2.add (i * 5)).off + 3, none⟩ = some (.slice Y3 y.f3.length y3) ∧ w'.cell? ⟨(ad2.add (i * 5)).block, (ad2.add (i * 5)).off + 4, none⟩ = some (.slice Y4 y.f4.length y4))) W) := ⟨fun W hb => by
            have h1 := (hb.block b (Array.getElem?_eq_some_iff.1 HOo.out).1).trans HOo.out
            obtain ⟨c0, c1, c2, c3, c4, _⟩ := HCe.out.below hb
            exact ⟨cells5 h1, (hb.cell (World.block_lt_of_cell? _ _ HCk.out)).trans HCk.out, c0, c1, c2, c3, c4⟩⟩
          have HPut : Aside0 (∀ W, Below wr.heap.size wr W → Calls Try.prog 55 #[(.agg #[.int .i64 v.f0, .int .i64 v.f1, .string v.f2, .slice X3 v.f3.length d3, .slice X4 v.f4.length d4]), .string k, (.agg #[.int .i64 y.f0, .int .i64 y.f1, .string y.f2, .slice Y3 y.f3.length y3, .slice Y4 y.f4.length y4])] W (PutPost v y k w W)) := ⟨fun W hb => by
            obtain ⟨A, c, e, h1, h2⟩ := HOk.out.reads
            injection e with e1 e2 e3
            subst e1 e3
            obtain ⟨A, c, e, h3, h4⟩ := HOe.out.reads
            injection e with e1 e2 e3
            subst e1 e3
            exact putC v y k w W (below_step HO.out.z hb) h1 (Kd.C_below h2 hb) h3 (h4.imp_ hb (fun _ _ h => h)) HYd.out HVv.out.1 (by have := HVv.out; omega)⟩
          clear hv
          refine start_ (n := 11) (S := fun w' => (w'.cell? ⟨b, 0, none⟩ = some (.int .i64 v.f0) ∧ w'.cell? ⟨b, 1, none⟩ = some (.int .i64 v.f1) ∧ w'.cell? ⟨b, 2, none⟩ = some (.string v.f2) ∧ w'.cell? ⟨b, 3, none⟩ = some (.slice X3 v.f3.length d3) ∧ w'.cell? ⟨b, 4, none⟩ = some (.slice X4 v.f4.length d4)) ∧ w'.cell? (adk.add i) = some (.string k) ∧ (w'.cell? (ad2.add (i * 5)) = some (.int .i64 y.f0) ∧ w'.cell? ⟨(ad2.add (i * 5)).block, (ad2.add (i * 5)).off + 1, none⟩ = some (.int .i64 y.f1) ∧ w'.cell? ⟨(ad2.add (i * 5)).block, (ad2.add (i * 5)).off + 2, none⟩ = some (.string y.f2) ∧ w'.cell? ⟨(ad2.add (i * 5)).block, (ad2.add (i * 5)).off + 3, none⟩ = some (.slice Y3 y.f3.length y3) ∧ w'.cell? ⟨(ad2.add (i * 5)).block, (ad2.add (i * 5)).off + 4, none⟩ = some (.slice Y4 y.f4.length y4))) (ds := [10]) #[false, false, false, false, false, false, false, false, false, false, false] (by kernel_rfl) rfl (by rfl) (HSt.out _ (drawn_below ⟨1, rfl⟩)) (fun hS => ?_)
          obtain ⟨Wd, hWd⟩ : ∃ Wd, wr.drew = Wd := ⟨_, rfl⟩
          have HD : Aside0 (Below wr.heap.size wr Wd) := ⟨by rw [← hWd]; exact drawn_below ⟨1, rfl⟩⟩
          rw [hWd] at hS ⊢
          clear hWd
          refine take_ (i := 0) (N := some 39) (v := (.agg #[.int .i64 v.f0, .int .i64 v.f1, .string v.f2, .slice X3 v.f3.length d3, .slice X4 v.f4.length d4])) #[true, false, false, false, false, false, false, false, false, false, false] rfl rfl (by kernel_rfl) (fun _ _ _ h => h) (Or.inl ⟨by rfl, by intro w hSw; (try dsimp only at hSw); go_simp⟩) hS rfl ?_
          try simp only [Act.put, List.setIfInBounds_toArray, List.set_cons_zero, List.set_cons_succ]
          refine take_ (i := 1) (N := some 40) (v := (.slice (some adk) ks.length c)) #[true, true, false, false, false, false, false, false, false, false, false] rfl rfl (by kernel_rfl) (fun _ _ _ h => h) (Or.inl ⟨by rfl, by intro w hSw; (try dsimp only at hSw); go_simp⟩) hS rfl ?_
          try simp only [Act.put, List.setIfInBounds_toArray, List.set_cons_zero, List.set_cons_succ]
          refine take_ (i := 2) (N := some 41) (v := (.int .i64 (i : Int))) #[true, true, true, false, false, false, false, false, false, false, false] rfl rfl (by kernel_rfl) (fun _ _ _ h => h) (Or.inl ⟨by rfl, by intro w hSw; (try dsimp only at hSw); go_simp⟩) hS rfl ?_
          try simp only [Act.put, List.setIfInBounds_toArray, List.set_cons_zero, List.set_cons_succ]
          refine take_ (i := 3) (N := some 42) (v := (.pointer (some (adk.add i)))) #[true, true, true, true, false, false, false, false, false, false, false] rfl rfl (by kernel_rfl) (fun _ _ _ h => h) (Or.inl ⟨by rfl, by intro w hSw; (try dsimp only at hSw); go_simp⟩) hS rfl ?_
          try simp only [Act.put, List.setIfInBounds_toArray, List.set_cons_zero, List.set_cons_succ]
          refine take_ (i := 4) (N := some 43) (v := (.string k)) #[true, true, true, true, true, false, false, false, false, false, false] rfl rfl (by kernel_rfl) (fun _ _ _ h => h) (Or.inl ⟨by rfl, by intro w hSw; (try dsimp only at hSw); go_simp⟩) hS rfl ?_
          try simp only [Act.put, List.setIfInBounds_toArray, List.set_cons_zero, List.set_cons_succ]
          refine take_ (i := 5) (N := some 44) (v := (.slice (some ad2) ks.length d)) #[true, true, true, true, true, true, false, false, false, false, false] rfl rfl (by kernel_rfl) (fun _ _ _ h => h) (Or.inl ⟨by rfl, by intro w hSw; (try dsimp only at hSw); go_simp⟩) hS rfl ?_
          try simp only [Act.put, List.setIfInBounds_toArray, List.set_cons_zero, List.set_cons_succ]
          refine take_ (i := 6) (N := some 45) (v := (.int .i64 (i : Int))) #[true, true, true, true, true, true, true, false, false, false, false] rfl rfl (by kernel_rfl) (fun _ _ _ h => h) (Or.inl ⟨by rfl, by intro w hSw; (try dsimp only at hSw); go_simp⟩) hS rfl ?_
          try simp only [Act.put, List.setIfInBounds_toArray, List.set_cons_zero, List.set_cons_succ]
          refine take_ (i := 7) (N := some 46) (v := (.pointer (some (ad2.add (i * 5))))) #[true, true, true, true, true, true, true, true, false, false, false] rfl rfl (by kernel_rfl) (fun _ _ _ h => h) (Or.inl ⟨by rfl, by intro w hSw; (try dsimp only at hSw); go_simp⟩) hS rfl ?_
          try simp only [Act.put, List.setIfInBounds_toArray, List.set_cons_zero, List.set_cons_succ]
          refine take_ (i := 8) (N := some 47) (v := (.agg #[.int .i64 y.f0, .int .i64 y.f1, .string y.f2, .slice Y3 y.f3.length y3, .slice Y4 y.f4.length y4])) #[true, true, true, true, true, true, true, true, true, false, false] rfl rfl (by kernel_rfl) (fun _ _ _ h => h) (Or.inl ⟨by rfl, by intro w hSw; (try dsimp only at hSw); go_simp⟩) hS rfl ?_
          try simp only [Act.put, List.setIfInBounds_toArray, List.set_cons_zero, List.set_cons_succ]
          refine one_ (i := 9) (N := some 48) #[true, true, true, true, true, true, true, true, true, true, false] rfl rfl (by kernel_rfl) (by decide) ?_
          intro K hK
          go_simp
          go_at_call 55
          (with_reducible refine (HPut.out _ HD.out).mono ?_)
          rintro e u1 ⟨zk, ze, Z3, z3, Z4, z4, rfl, hl, hl2, hz, hk, he, hb⟩
          have HB1 : Aside0 (Below wr.heap.size wr u1) := ⟨below_step HD.out hb⟩
          have HPo := Aside0.mk (And.intro hl (And.intro hl2 hz))
          have HRk := Aside0.mk hk
          have HRe := Aside0.mk he
          clear hl hl2 hz hk he hb
          have HOu : Aside0 (u1.heap[b]? = some (.cells #[.int .i64 v.f0, .int .i64 v.f1, .string v.f2, .slice X3 v.f3.length d3, .slice X4 v.f4.length d4] 28 (0, 0))) := ⟨(HB1.out.block b (Array.getElem?_eq_some_iff.1 HOo.out).1).trans HOo.out⟩
          refine hK.out _ _ (HSt.out _ HB1.out) (fun hS => ?_)
          clear hK K
          try simp only [Act.put, List.setIfInBounds_toArray, List.set_cons_zero, List.set_cons_succ]
          have t0 : ∀ j, u1.frozen? ⟨b, j, none⟩ = false := (fun j => by simp [World.frozen?, HOu.out])
          obtain ⟨t1, t2, t3, t4, t5⟩ := cells5 HOu.out
          refine last_ (i := 10) (N := none) #[true, true, true, true, true, true, true, true, true, true, true] rfl rfl (by kernel_rfl) (by decide) ?_
          intro K hK
          go_simp
          refine hK.out _ _ ?_
          clear hK K t0 t1 t2 t3 t4 t5 hS HSt HPut
          refine done_ (by kernel_rfl) ?_
          obtain ⟨W', hW', hblk, hg, hz, hsz⟩ := fill5g (w := w) HOu.out (below_step HO.out.z HB1.out) (by have := HLo.out; omega) (.int .i64 6) (.int .i64 0) (.string ⟨#[]⟩) (.slice Z3 zk.length z3) (.slice Z4 ze.length z4)
          rw [hW']
          clear hW'
          have HEq : Aside0 (zk = (mkO (foldP ((ks.zip es).take (i + 1)))).f3 ∧ ze = (mkO (foldP ((ks.zip es).take (i + 1)))).f4) := ⟨by
            have h := HPo.out.2.2
            rw [HVv.out.2.2, ← foldP_app ((ks.zip es).take i) (k, y), ← HTk.out] at h
            simp only [mkO]
            rw [← h]
            exact ⟨(List.map_fst_zip (by have := HPo.out.1; omega)).symm, (List.map_snd_zip (by have := HPo.out.1; omega)).symm⟩⟩
          have HNew : Aside0 (Obs w (ks.zip es) b (i + 1) Z3 z3 Z4 z4 W') := ⟨by
            have hwd : b + 1 ≤ Wd.heap.size := by have := HO.out.s; have := HD.out.size; omega
            have hb1 := HB1.out.size
            have hr1 := (HB1.out.block _ (Array.getElem?_eq_some_iff.1 HO.out.r).1).trans HO.out.r
            refine ⟨hz, (hg.block _ (Array.getElem?_eq_some_iff.1 hr1).1 (fun e => by have := Option.some.inj e; have := HLo.out; omega)).trans hr1, ?_, ?_, ?_, by have := HO.out.s; omega⟩
            · rw [← HEq.out.1, ← HEq.out.2]; exact hblk
            · rw [← HEq.out.1]
              exact (OwnRow.other HRk.out hg (Or.inr (fun e => by obtain ⟨i0, ho, _⟩ := HRk.out; have := Go.Proofs.YtgpjkojnmeaoiaaW.PrintWords.own_base ho _ e; omega))).lower hwd
            · rw [← HEq.out.2]
              exact (OwnRow.other HRe.out hg (Or.inr (fun e => by obtain ⟨i0, ho, _⟩ := HRe.out; have := Go.Proofs.YtgpjkojnmeaoiaaW.PrintWords.own_base ho _ e; omega))).lower hwd⟩
          clear HO HOo HOk HOe HPo HRk HRe HOu hblk hg hz hsz HEq HVv HTk HCk HCe HYd HB1 HD
          go_wp2_with fail
          go_roundg j1
          case measure => omega
          case rel => exact ⟨i + 1, Z3, z3, Z4, z4, by have := HI.out; omega, rfl, HNew⟩
        · have g0 : decide ((i : Int) < (ks.length : Int)) = false := decide_eq_false (by omega)
          have g0' : decide (i < ks.length) = false := decide_eq_false ci
          have hii : i = ks.length := by omega
          have htk : (ks.zip es).take i = ks.zip es := List.take_of_length_le (by rw [List.length_zip]; omega)
          have HLo2 := Aside0.mk HLo.out
          obtain ⟨hz, hr, ho, hk, he, hs⟩ := HO.out
          rw [htk] at ho hk he
          obtain ⟨V, hV⟩ : ∃ V, mkO (foldP (ks.zip es)) = V := ⟨_, rfl⟩
          have HON : Aside0 (objN ks es = (if vd V = true then 0 else 2) ∧ objV ks es = (if vd V = true then V else zV)) := ⟨by
            unfold objN objV
            rw [HU2.out, HAl.out, hV]
            cases vd V <;> simp [HLn.out.1]⟩
          rw [hV] at HFt ho hk he
          have hRd : Rd wr X3 d3 X4 d4 V := by
            obtain ⟨A, c, e, h1, h2⟩ := hk.reads
            injection e with e1 e2 e3
            subst e1 e3
            obtain ⟨A, c, e, h3, h4⟩ := he.reads
            injection e with e1 e2 e3
            subst e1 e3
            exact ⟨h1, h2, h3, h4.imp_ (Below.refl _ _) (fun _ _ h => k28.K_below hz h)⟩
          have HRk := Aside0.mk hk
          have HRe := Aside0.mk he
          have HRr := Aside0.mk hr
          have HZz := Aside0.mk hz
          have HRd := Aside0.mk hRd
          have HSs := Aside0.mk hs
          obtain ⟨q0, q1, q2, q3, q4⟩ := cells5 ho
          clear hz hr ho hk he hs hRd hV hii htk HO HU2 HAl hi ci HLo
          go_wp2_with (first | (go_at_call 46; (with_reducible refine (HFt.out _ _ _ _ _ HRd.out).mono ?_); rintro e we ⟨rfl, hb⟩; have HC := Aside0.mk hb; have HN2 := Aside0.mk ((hb.block _ (Array.getElem?_eq_some_iff.1 HRr.out).1).trans HRr.out); have HB2 := Aside0.mk (below_step HZz.out hb); clear hb; obtain ⟨t0, t1, t2, t3, t4, t5⟩ := zero5 HN2.out; obtain ⟨bv, hbv⟩ : ∃ bv, vd V = bv := ⟨_, rfl⟩; rw [hbv] at HON ⊢; clear hbv; cases bv))
          · obtain ⟨W', hW', ⟨u0, u1, u2, u3, u4⟩, hg, hz⟩ := fill5 HN2.out HB2.out (Nat.le_refl _) (.int .i64 0) (.int .i64 0) (.string ⟨#[]⟩) (.slice none 0 0) (.slice none 0 0)
            rw [hW']
            exact bodyPost_ret (v := .tuple #[.agg #[.int .i64 0, .int .i64 0, .string ⟨#[]⟩, .slice none 0 0, .slice none 0 0], .int .i64 2]) (by simp [results, Try.results18, go_sem, u0, u1, u2, u3, u4]) rfl (by rw [HON.out.1, HON.out.2]; exact MkPost.bad ⟨rfl, hz⟩)
          · obtain ⟨W', hW', ⟨u0, u1, u2, u3, u4⟩, hg, hz⟩ := fill5 HN2.out HB2.out (Nat.le_refl _) (.int .i64 V.f0) (.int .i64 V.f1) (.string V.f2) (.slice X3 V.f3.length d3) (.slice X4 V.f4.length d4)
            rw [hW']
            have hlo : w.heap.size < b := (by
              have h1 := (Array.getElem?_eq_some_iff.1 HRr.out).1
              exact HLo2.out)
            have hRd : Rd W' X3 d3 X4 d4 V := by
              obtain ⟨A, c, e, h1, h2⟩ := (OwnRow.other (HRk.out.below HC.out) hg (Or.inr (fun e => by obtain ⟨i0, ho, _⟩ := HRk.out; have := Go.Proofs.YtgpjkojnmeaoiaaW.PrintWords.own_base ho _ e; omega))).reads
              injection e with e1 e2 e3
              subst e1 e3
              obtain ⟨A, c, e, h3, h4⟩ := (OwnRow.other (HRe.out.below HC.out) hg (Or.inr (fun e => by obtain ⟨i0, ho, _⟩ := HRe.out; have := Go.Proofs.YtgpjkojnmeaoiaaW.PrintWords.own_base ho _ e; omega))).reads
              injection e with e1 e2 e3
              subst e1 e3
              exact ⟨h1, h2, h3, h4.imp_ (Below.refl _ _) (fun _ _ h => k28.K_below hz h)⟩
            exact bodyPost_ret (v := .tuple #[.agg #[.int .i64 V.f0, .int .i64 V.f1, .string V.f2, .slice X3 V.f3.length d3, .slice X4 V.f4.length d4], .int .i64 0]) (by simp [results, Try.results18, go_sem, u0, u1, u2, u3, u4]) rfl (by rw [HON.out.1, HON.out.2]; exact ⟨X3, d3, X4, d4, rfl, hRd, hz⟩)
end Go.Proofs.Ytgpjkojnmeaoiaa.QV

/- The makers' answers alike, and the walk of the law ValueMake, by hand. -/
namespace Go.Proofs.Ytgpjkojnmeaoiaa.QV
open Go Go.RowKit Go.Proofs.YtgpjkojnmeaoiaaW.PrintWords Go.Proofs.YtgpjkojnmeaoiaaW.PrintLast Go.Proofs.YtgpjkojnmeaoiaaW.PrintMore
set_option linter.unusedVariables false
set_option linter.unusedSimpArgs false
set_option maxRecDepth 100000
set_option maxHeartbeats 4000000
theorem refObjM (ks : List ByteArray) (es : List S28) (w : World) {A : Option Addr} {c : Nat} {B : Option Addr} {d : Nat} (hk : Kd.C Kd.string w A ks.length ks) (hks : ∀ q ∈ ks, q.size ≤ 50) (he : Kd.C k28 w B es.length es) (hw : ∀ y ∈ es, Wv y ∧ cnt y ≤ 100) (hn : ks.length ≤ 20) (hm : es.length ≤ 20) :
    Calls Try.prog 18 #[.slice A ks.length c, .slice B es.length d] w (MkPost (objV ks es) (objN ks es) w) := by
  by_cases hlen : ks.length = es.length
  · cases hall : es.all vd with
    | false =>
      refine (refObj_inv (c := c) (d := d) (A := A) ks es w hlen he hw hm hall).mono (fun e w' hb => ?_)
      rw [show objV ks es = zV by unfold objV; rw [if_neg (by simp [hall])], show objN ks es = 1 by unfold objN; rw [if_neg (by simpa using hlen), if_pos hall]]
      exact MkPost.bad hb
    | true => exact refObj_ok ks es w hlen hk (fun q hq => by have := hks q hq; omega) he hw hn hall
  · refine (refObj_len (c := c) (d := d) (A := A) (B := B) ks es w hlen (by omega) (by omega)).mono (fun e w' hb => ?_)
    rw [show objV ks es = zV by unfold objV; rw [if_neg (fun h => hlen h.1)], show objN ks es = 3 by unfold objN; rw [if_pos hlen]]
    exact MkPost.bad hb
theorem valueObjM (ks : List ByteArray) (es : List S28) (w : World) {A : Option Addr} {c : Nat} {B : Option Addr} {d : Nat} (hk : Kd.C Kd.string w A ks.length ks) (hks : ∀ q ∈ ks, q.size ≤ 50) (he : Kd.C k28 w B es.length es) (hw : ∀ y ∈ es, Wv y ∧ cnt y ≤ 100) (hn : ks.length ≤ 20) (hm : es.length ≤ 20) :
    Calls Try.prog 17 #[.slice A ks.length c, .slice B es.length d] w (MkPost (objV ks es) (objN ks es) w) := by
  by_cases hlen : ks.length = es.length
  · have hw2 : ∀ y ∈ es, Wv y ∧ cnt y ≤ 1000000000000 := fun y hy => ⟨(hw y hy).1, by have := (hw y hy).2; omega⟩
    have hw3 : ∀ y ∈ es, Wv y ∧ cnt y ≤ 1000000000000000 := fun y hy => ⟨(hw y hy).1, by have := (hw y hy).2; omega⟩
    cases hall : es.all vd with
    | false =>
      refine (valueObj_inv (c := c) (d := d) (A := A) ks es w hlen he hw3 (by omega) hall).mono (fun e w' hb => ?_)
      rw [show objV ks es = zV by unfold objV; rw [if_neg (by simp [hall])], show objN ks es = 1 by unfold objN; rw [if_neg (by simpa using hlen), if_pos hall]]
      exact MkPost.bad hb
    | true =>
      cases hu : ks.all u8 with
      | false =>
        refine (valueObj_bad (c := c) (d := d) ks es w hlen hk (fun q hq => by have := hks q hq; omega) he hw3 (by omega) hall hu).mono (fun e w' hb => ?_)
        rw [show objV ks es = zV by unfold objV; rw [if_neg (by simp [hu])], show objN ks es = 6 by unfold objN; rw [if_neg (by simpa using hlen), if_neg (by simp [hall]), if_pos hu]]
        exact MkPost.bad hb
      | true =>
        have h := valueObj_ok (c := c) (d := d) ks es w hlen hk (fun q hq => by have := hks q hq; omega) he hw2 hn hall hu
        refine h.mono (fun e w' hb => ?_)
        unfold UObj at hb
        rw [if_neg (by
          unfold lg
          rw [List.any_eq_true]
          rintro ⟨k, hk, h⟩
          have := hks k hk
          have := of_decide_eq_true h
          omega)] at hb
        obtain ⟨ms, X3, d3, X4, d4, rfl, hr, hp, hs, hbb, _⟩ := hb
        have hvd := ov_vd hp hs hlen hn (fun k hk => ⟨by have := hks k hk; omega, List.all_eq_true.1 hu k hk⟩) (List.all_eq_true.1 hall)
        have hov : mkO (foldP (ks.zip es)) = ov es ms := by rw [fold_ov hp hs hlen]; simp [mkO, prs, ov]
        unfold objV objN
        rw [hov, hvd, hall, hu]
        cases hft : ft (ov es ms) with
        | false =>
          simp only [hlen, and_false, if_false, ne_eq, not_true_eq_false, if_true, Bool.false_eq_true, if_neg, Bool.true_eq_false]
          exact MkPost.bad ⟨rfl, hbb⟩
        | true =>
          simp only [hlen, and_self, if_true, ne_eq, not_true_eq_false, if_false, Bool.true_eq_false]
          exact ⟨X3, d3, X4, d4, rfl, hr, hbb⟩
  · refine (valueObj_len (c := c) (d := d) (A := A) (B := B) ks es w hlen (by omega) (by omega)).mono (fun e w' hb => ?_)
    rw [show objV ks es = zV by unfold objV; rw [if_neg (fun h => hlen h.1)], show objN ks es = 3 by unfold objN; rw [if_pos hlen]]
    exact MkPost.bad hb
theorem objV_wv {ks : List ByteArray} {es : List S28} (hks : ∀ q ∈ ks, q.size ≤ 50) (hw : ∀ y ∈ es, Wv y ∧ cnt y ≤ 100) (hn : ks.length ≤ 20) : Wv (objV ks es) := by
  unfold objV
  split
  · exact (wv_mkO (fun q hq => by have := hks q hq; omega) hw hn).1
  · exact wv_z
def stV (s : ByteArray) : S28 := if u8 s = true then mkS s else zV
def stN (s : ByteArray) : Int := if u8 s = true then 0 else 6
theorem StrR_mk {s : ByteArray} {w w' : World} {e : Ending} (h : e = .returned (StrR s) ∧ Below w.heap.size w w') : MkPost (stV s) (stN s) w e w' := by
  obtain ⟨rfl, hb⟩ := h
  unfold StrR stV stN
  split
  · exact ⟨none, 0, none, 0, rfl, rd_mkS _ _, hb⟩
  · exact MkPost.bad ⟨rfl, hb⟩
theorem stV_wv {s : ByteArray} (h : s.size ≤ 200) : Wv (stV s) := by
  unfold stV
  split
  · exact wv_mkS h
  · exact wv_z
def arV (l : List S28) : S28 := if l.all vd = true ∧ vd (mkA l) = true then mkA l else zV
def arN (l : List S28) : Int := if l.all vd = false then 1 else if vd (mkA l) = false then 2 else 0
theorem Arr_mk {l : List S28} {w w' : World} {e : Ending} (h : ArrPost l w e w') : MkPost (arV l) (arN l) w e w' := by
  unfold arV arN
  rcases h with ⟨h1, h2, h3⟩ | ⟨h1, h2, h3, h4⟩ | ⟨h1, h2, X, d, h3, h4, h5⟩
  · rw [if_neg (by simp [h1]), if_pos h1]
    exact MkPost.bad ⟨h2, h3⟩
  · rw [if_neg (by simp [h2]), if_neg (by simp [h1]), if_pos h2]
    exact MkPost.bad ⟨h3, h4⟩
  · rw [if_pos ⟨h1, h2⟩, if_neg (by simp [h1]), if_neg (by simp [h2])]
    exact ⟨none, 0, X, d, h3, h4, h5⟩
theorem arV_wv {l : List S28} (h : l.length ≤ 20) (hw : ∀ y ∈ l, Wv y) : Wv (arV l) := by
  unfold arV
  split
  · exact wv_mkA h hw
  · exact wv_z
def bi (b : Bool) : Int := if b then 2 else 1
theorem valueBoolM (b : Bool) (w : World) : Calls Try.prog 20 #[.bool b] w fun e w' => e = .returned (.agg #[.int .i64 (bi b), .int .i64 0, .string ⟨#[]⟩, .slice none 0 0, .slice none 0 0]) ∧ Below w.heap.size w w' := by
  cases b
  · exact valueBoolVF w
  · exact valueBoolVT w
theorem refBoolM (b : Bool) (w : World) : Calls Try.prog 21 #[.bool b] w fun e w' => e = .returned (.agg #[.int .i64 (bi b), .int .i64 0, .string ⟨#[]⟩, .slice none 0 0, .slice none 0 0]) ∧ Below w.heap.size w w' := by
  cases b
  · exact refBoolVF w
  · exact refBoolVT w
theorem sameT (x : S28) (w : World) {A3 : Option Addr} {c3 : Nat} {A4 : Option Addr} {c4 : Nat} {B3 : Option Addr} {d3 : Nat} {B4 : Option Addr} {d4 : Nat} (hx : Wv x) (hr : Rd w A3 c3 A4 c4 x) (hr2 : Rd w B3 d3 B4 d4 x) :
    Calls Try.prog 19 #[.agg #[.int .i64 x.f0, .int .i64 x.f1, .string x.f2, .slice A3 x.f3.length c3, .slice A4 x.f4.length c4], .agg #[.int .i64 x.f0, .int .i64 x.f1, .string x.f2, .slice B3 x.f3.length d3, .slice B4 x.f4.length d4]] w fun e w' => e = .returned (.bool true) ∧ Below w.heap.size w w' :=
  (sameC _ x x w (Nat.lt_succ_self _) hx hr hr2).mono (by
    rintro e w' ⟨r, rfl, h, hb⟩
    exact ⟨by rw [h.2 rfl], hb⟩)
theorem sameI (k i : Int) (hk : -9223372036854775808 ≤ k ∧ k ≤ 9223372036854775807) (hi : -9223372036854775808 ≤ i ∧ i ≤ 9223372036854775807) (w : World) : Calls Try.prog 19 #[.agg #[.int .i64 k, .int .i64 i, .string ⟨#[]⟩, .slice none 0 0, .slice none 0 0], .agg #[.int .i64 k, .int .i64 i, .string ⟨#[]⟩, .slice none 0 0, .slice none 0 0]] w fun e w' => e = .returned (.bool true) ∧ Below w.heap.size w w' := by
  have hr : Rd w none 0 none 0 (⟨k, i, ⟨#[]⟩, [], []⟩ : S28) := ⟨Nat.le_refl _, ⟨rfl, Nat.zero_le _, fun h => absurd h (Nat.lt_irrefl _)⟩, Nat.le_refl _, ⟨rfl, Nat.zero_le _, fun h => absurd h (Nat.lt_irrefl _)⟩⟩
  exact sameT ⟨k, i, ⟨#[]⟩, [], []⟩ w (.mk _ hk hi (show (⟨#[]⟩ : ByteArray).size ≤ 140737488351232 from Nat.zero_le _) (by simp) (by simp) (by simp) (by simp)) hr hr
theorem law_make (b : Bool) (n : Int) (s : ByteArray) (ks : List ByteArray) (es : List S28) (w : World) {A : Option Addr} {c0 : Nat} {B : Option Addr} {c1 : Nat} (hk : Kd.C Kd.string w A ks.length ks) (hc0 : ks.length ≤ c0) (he : Kd.C k28 w B es.length es) (hw : ∀ y ∈ es, Wv y) (hks : ks.length ≤ 140737488351232) (hes : es.length ≤ 140737488351232) (hss : s.size ≤ 140737488351232) (hn : -9223372036854775808 ≤ n ∧ n ≤ 9223372036854775807) :
    Calls Try.prog 3 #[.bool b, .int .i64 n, .string s, .slice A ks.length c0, .slice B es.length c1] w fun e w' => e = .returned (.bool true) ∧ Below w.heap.size w w' := by
  obtain ⟨b1, hb1⟩ : ∃ b, (ks.all fun s => decide ((s.size : Int) ≤ 50)) = b := ⟨_, rfl⟩
  obtain ⟨b2, hb2⟩ : ∃ b, (es.all fun y => decide ((cnt y : Int) ≤ 100)) = b := ⟨_, rfl⟩
  have HSh : Aside0 (∀ W, Below w.heap.size w W → Calls Try.prog 10 #[.int .i64 50, .slice A ks.length c0] W fun e w' => e = .returned (.bool b1) ∧ Below W.heap.size W w') := ⟨fun W hb => by
    have h := shortC 50 ks W (A := A) (c := c0) (Kd.C_below hk hb) hc0 hks
    rw [hb1] at h
    exact h⟩
  have HSm : Aside0 (∀ W, Below w.heap.size w W → Calls Try.prog 11 #[.int .i64 100, .slice B es.length c1] W fun e w' => e = .returned (.bool b2) ∧ Below W.heap.size W w') := ⟨fun W hb => by
    have h := smallC 100 es W (A := B) (c := c1) (by decide) (by decide) (Kd.C_below he hb) hw hes
    rw [hb2] at h
    exact h⟩
  have HB0 := Aside0.mk (Below.refl w.heap.size w)
  have HK := Aside0.mk hk
  have HE := Aside0.mk he
  have HWv := Aside0.mk hw
  have HNr := Aside0.mk hn
  have HB12 := Aside0.mk (And.intro hb1 hb2)
  clear hk he hw hn hb1 hb2 hc0
  go_enter Try.func3, Try.ntmps3
  by_cases hs2 : s.size ≤ 200
  rotate_left
  · skip
    have g1 : decide ((200 : Int) < (s.size : Int)) = true := decide_eq_true (by omega)
    have g2 : decide (200 < s.size) = true := decide_eq_true (by omega)
    go_wp2_with (first | (go_at_call 10; (with_reducible refine (HSh.out _ HB0.out).mono ?_); rintro e v1 ⟨rfl, hb⟩; have HB2 := Aside0.mk (below_step HB0.out hb); clear hb HB0; have HB0 := HB2; clear HB2) | (go_at_call 11; (with_reducible refine (HSm.out _ HB0.out).mono ?_); rintro e v2 ⟨rfl, hb⟩; have HB2 := Aside0.mk (below_step HB0.out hb); clear hb HB0; have HB0 := HB2; clear HB2) | (go_at_call 12; (with_reducible refine (awakeC _).mono ?_); rintro e v3 ⟨rfl, hb⟩; have HB2 := Aside0.mk (below_step HB0.out hb); clear hb HB0; have HB0 := HB2; clear HB2))
    go_ret
    exact ⟨rfl, HB0.out⟩
  have gs1 : decide ((200 : Int) < (s.size : Int)) = false := decide_eq_false (by omega)
  have gs2 : decide (200 < s.size) = false := decide_eq_false (by omega)
  cases b1 with
  | false =>
    go_wp2_with (first | (go_at_call 10; (with_reducible refine (HSh.out _ HB0.out).mono ?_); rintro e v1 ⟨rfl, hb⟩; have HB2 := Aside0.mk (below_step HB0.out hb); clear hb HB0; have HB0 := HB2; clear HB2) | (go_at_call 11; (with_reducible refine (HSm.out _ HB0.out).mono ?_); rintro e v2 ⟨rfl, hb⟩; have HB2 := Aside0.mk (below_step HB0.out hb); clear hb HB0; have HB0 := HB2; clear HB2) | (go_at_call 12; (with_reducible refine (awakeC _).mono ?_); rintro e v3 ⟨rfl, hb⟩; have HB2 := Aside0.mk (below_step HB0.out hb); clear hb HB0; have HB0 := HB2; clear HB2))
    go_ret
    exact ⟨rfl, HB0.out⟩
  | true =>
  by_cases hk2 : ks.length ≤ 20
  rotate_left
  · skip
    have g1 : decide ((20 : Int) < (ks.length : Int)) = true := decide_eq_true (by omega)
    have g2 : decide (20 < ks.length) = true := decide_eq_true (by omega)
    go_wp2_with (first | (go_at_call 10; (with_reducible refine (HSh.out _ HB0.out).mono ?_); rintro e v1 ⟨rfl, hb⟩; have HB2 := Aside0.mk (below_step HB0.out hb); clear hb HB0; have HB0 := HB2; clear HB2) | (go_at_call 11; (with_reducible refine (HSm.out _ HB0.out).mono ?_); rintro e v2 ⟨rfl, hb⟩; have HB2 := Aside0.mk (below_step HB0.out hb); clear hb HB0; have HB0 := HB2; clear HB2) | (go_at_call 12; (with_reducible refine (awakeC _).mono ?_); rintro e v3 ⟨rfl, hb⟩; have HB2 := Aside0.mk (below_step HB0.out hb); clear hb HB0; have HB0 := HB2; clear HB2))
    go_ret
    exact ⟨rfl, HB0.out⟩
  have gk1 : decide ((20 : Int) < (ks.length : Int)) = false := decide_eq_false (by omega)
  have gk2 : decide (20 < ks.length) = false := decide_eq_false (by omega)
  by_cases he2 : es.length ≤ 20
  rotate_left
  · skip
    have g1 : decide ((20 : Int) < (es.length : Int)) = true := decide_eq_true (by omega)
    have g2 : decide (20 < es.length) = true := decide_eq_true (by omega)
    go_wp2_with (first | (go_at_call 10; (with_reducible refine (HSh.out _ HB0.out).mono ?_); rintro e v1 ⟨rfl, hb⟩; have HB2 := Aside0.mk (below_step HB0.out hb); clear hb HB0; have HB0 := HB2; clear HB2) | (go_at_call 11; (with_reducible refine (HSm.out _ HB0.out).mono ?_); rintro e v2 ⟨rfl, hb⟩; have HB2 := Aside0.mk (below_step HB0.out hb); clear hb HB0; have HB0 := HB2; clear HB2) | (go_at_call 12; (with_reducible refine (awakeC _).mono ?_); rintro e v3 ⟨rfl, hb⟩; have HB2 := Aside0.mk (below_step HB0.out hb); clear hb HB0; have HB0 := HB2; clear HB2))
    go_ret
    exact ⟨rfl, HB0.out⟩
  have ge1 : decide ((20 : Int) < (es.length : Int)) = false := decide_eq_false (by omega)
  have ge2 : decide (20 < es.length) = false := decide_eq_false (by omega)
  cases b2 with
  | false =>
    go_wp2_with (first | (go_at_call 10; (with_reducible refine (HSh.out _ HB0.out).mono ?_); rintro e v1 ⟨rfl, hb⟩; have HB2 := Aside0.mk (below_step HB0.out hb); clear hb HB0; have HB0 := HB2; clear HB2) | (go_at_call 11; (with_reducible refine (HSm.out _ HB0.out).mono ?_); rintro e v2 ⟨rfl, hb⟩; have HB2 := Aside0.mk (below_step HB0.out hb); clear hb HB0; have HB0 := HB2; clear HB2) | (go_at_call 12; (with_reducible refine (awakeC _).mono ?_); rintro e v3 ⟨rfl, hb⟩; have HB2 := Aside0.mk (below_step HB0.out hb); clear hb HB0; have HB0 := HB2; clear HB2))
    go_ret
    exact ⟨rfl, HB0.out⟩
  | true =>
  have HKz : Aside0 (∀ q ∈ ks, q.size ≤ 50) := ⟨fun q hq => by have h := List.all_eq_true.1 HB12.out.1 q hq; have := of_decide_eq_true h; omega⟩
  have HEz : Aside0 (∀ y ∈ es, Wv y ∧ cnt y ≤ 100) := ⟨fun y hy => ⟨HWv.out y hy, by have h := List.all_eq_true.1 HB12.out.2 y hy; have := of_decide_eq_true h; omega⟩⟩
  have HC13 : Aside0 (∀ W, Below w.heap.size w W → Calls Try.prog 13 #[.string s] W (MkPost (stV s) (stN s) W)) := ⟨fun W hb => (valueStrC s hs2 W).mono (fun e w' h => StrR_mk h)⟩
  have HC14 : Aside0 (∀ W, Below w.heap.size w W → Calls Try.prog 14 #[.string s] W (MkPost (stV s) (stN s) W)) := ⟨fun W hb => (refStrC s hs2 W).mono (fun e w' h => StrR_mk h)⟩
  have HC15 : Aside0 (∀ W, Below w.heap.size w W → Calls Try.prog 15 #[.slice B es.length c1] W (MkPost (arV es) (arN es) W)) := ⟨fun W hb => (valueArrC es W (Kd.C_below HE.out hb) HEz.out he2).mono (fun e w' h => Arr_mk h)⟩
  have HC16 : Aside0 (∀ W, Below w.heap.size w W → Calls Try.prog 16 #[.slice B es.length c1] W (MkPost (arV es) (arN es) W)) := ⟨fun W hb => (refArrC es W (Kd.C_below HE.out hb) HEz.out he2).mono (fun e w' h => Arr_mk h)⟩
  have HC17 : Aside0 (∀ W, Below w.heap.size w W → Calls Try.prog 17 #[.slice A ks.length c0, .slice B es.length c1] W (MkPost (objV ks es) (objN ks es) W)) := ⟨fun W hb => valueObjM ks es W (Kd.C_below HK.out hb) HKz.out (Kd.C_below HE.out hb) HEz.out hk2 he2⟩
  have HC18 : Aside0 (∀ W, Below w.heap.size w W → Calls Try.prog 18 #[.slice A ks.length c0, .slice B es.length c1] W (MkPost (objV ks es) (objN ks es) W)) := ⟨fun W hb => refObjM ks es W (Kd.C_below HK.out hb) HKz.out (Kd.C_below HE.out hb) HEz.out hk2 he2⟩
  have HW0 := Aside0.mk (stV_wv hs2)
  obtain ⟨r0, hr0⟩ : ∃ r, stV s = r := ⟨_, rfl⟩
  obtain ⟨m0, hm0⟩ : ∃ m, stN s = m := ⟨_, rfl⟩
  rw [hr0] at HW0
  rw [hr0, hm0] at HC13
  rw [hr0, hm0] at HC14
  clear hr0 hm0
  have HW1 := Aside0.mk (arV_wv he2 HWv.out)
  obtain ⟨r1, hr1⟩ : ∃ r, arV es = r := ⟨_, rfl⟩
  obtain ⟨m1, hm1⟩ : ∃ m, arN es = m := ⟨_, rfl⟩
  rw [hr1] at HW1
  rw [hr1, hm1] at HC15
  rw [hr1, hm1] at HC16
  clear hr1 hm1
  have HW2 := Aside0.mk (objV_wv HKz.out HEz.out hk2)
  obtain ⟨r2, hr2⟩ : ∃ r, objV ks es = r := ⟨_, rfl⟩
  obtain ⟨m2, hm2⟩ : ∃ m, objN ks es = m := ⟨_, rfl⟩
  rw [hr2] at HW2
  rw [hr2, hm2] at HC17
  rw [hr2, hm2] at HC18
  clear hr2 hm2
  have HSB : Aside0 (∀ W, Calls Try.prog 19 #[.agg #[.int .i64 (bi b), .int .i64 0, .string ⟨#[]⟩, .slice none 0 0, .slice none 0 0], .agg #[.int .i64 (bi b), .int .i64 0, .string ⟨#[]⟩, .slice none 0 0, .slice none 0 0]] W fun e w' => e = .returned (.bool true) ∧ Below W.heap.size W w') := ⟨fun W => sameI _ _ (by unfold bi; split <;> omega) (by omega) W⟩
  have HSN : Aside0 (∀ W, Calls Try.prog 19 #[.agg #[.int .i64 3, .int .i64 n, .string ⟨#[]⟩, .slice none 0 0, .slice none 0 0], .agg #[.int .i64 3, .int .i64 n, .string ⟨#[]⟩, .slice none 0 0, .slice none 0 0]] W fun e w' => e = .returned (.bool true) ∧ Below W.heap.size W w') := ⟨fun W => sameI _ _ (by omega) HNr.out W⟩
  clear HKz HEz HK HE HWv HNr HB12 hss hks hes
  go_upto_region 3 with (first | (go_at_call 10; (with_reducible refine (HSh.out _ HB0.out).mono ?_); rintro e v1 ⟨rfl, hb⟩; have HB2 := Aside0.mk (below_step HB0.out hb); clear hb HB0; have HB0 := HB2; clear HB2) | (go_at_call 11; (with_reducible refine (HSm.out _ HB0.out).mono ?_); rintro e v2 ⟨rfl, hb⟩; have HB2 := Aside0.mk (below_step HB0.out hb); clear hb HB0; have HB0 := HB2; clear HB2))
  clear HSh HSm gs1 gs2 gk1 gk2 ge1 ge2
  obtain ⟨V0, hV0⟩ : ∃ V, v2 = V := ⟨_, rfl⟩
  rw [hV0] at HB0 ⊢
  clear hV0
  go_upto_region 4 with (first | (go_at_call 13; (with_reducible refine (HC13.out _ HB0.out).mono ?_); rintro e u0 ⟨X0, e0, Y0, f0, rfl, hr, hb⟩; have HBn := Aside0.mk (below_step HB0.out hb); have HV0 := Aside0.mk (Bv.new hr); have HCn := Aside0.mk hb; clear hr hb))
  obtain ⟨b11, hbq⟩ : ∃ b, u0.heap.size = b := ⟨_, rfl⟩
  obtain ⟨V1, hVq⟩ : ∃ V, u0.alloc (.cells #[.int .i64 r0.f0, .int .i64 r0.f1, .string r0.f2, .slice X0 r0.f3.length e0, .slice Y0 r0.f4.length f0] 28) = V := ⟨_, rfl⟩
  have hna := new_below u0 (.cells #[.int .i64 r0.f0, .int .i64 r0.f1, .string r0.f2, .slice X0 r0.f3.length e0, .slice Y0 r0.f4.length f0] 28)
  rw [hVq] at HV0 hna
  rw [hbq] at HV0
  have HB0' := Aside0.mk (below_step HBn.out hna); clear HB0 HBn HCn hna; have HB0 := HB0'; clear HB0'
  rw [hVq, hbq]
  clear hVq hbq HC13
  go_upto_region 5 with (first | (go_at_call 14; (with_reducible refine (HC14.out _ HB0.out).mono ?_); rintro e u1 ⟨X1, e1, Y1, f1, rfl, hr, hb⟩; have HBn := Aside0.mk (below_step HB0.out hb); have HV1 := Aside0.mk (Bv.new hr); have HCn := Aside0.mk hb; clear hr hb))
  obtain ⟨b13, hbq⟩ : ∃ b, u1.heap.size = b := ⟨_, rfl⟩
  obtain ⟨V2, hVq⟩ : ∃ V, u1.alloc (.cells #[.int .i64 r0.f0, .int .i64 r0.f1, .string r0.f2, .slice X1 r0.f3.length e1, .slice Y1 r0.f4.length f1] 28) = V := ⟨_, rfl⟩
  have hna := new_below u1 (.cells #[.int .i64 r0.f0, .int .i64 r0.f1, .string r0.f2, .slice X1 r0.f3.length e1, .slice Y1 r0.f4.length f1] 28)
  rw [hVq] at HV1 hna
  rw [hbq] at HV1
  have HV0' := Aside0.mk ((HV0.out.below HCn.out).below hna); clear HV0; have HV0 := HV0'; clear HV0'
  have HB0' := Aside0.mk (below_step HBn.out hna); clear HB0 HBn HCn hna; have HB0 := HB0'; clear HB0'
  rw [hVq, hbq]
  clear hVq hbq HC14
  go_upto_region 6 with (first | (go_at_call 15; (with_reducible refine (HC15.out _ HB0.out).mono ?_); rintro e u2 ⟨X2, e2, Y2, f2, rfl, hr, hb⟩; have HBn := Aside0.mk (below_step HB0.out hb); have HV2 := Aside0.mk (Bv.new hr); have HCn := Aside0.mk hb; clear hr hb))
  obtain ⟨b15, hbq⟩ : ∃ b, u2.heap.size = b := ⟨_, rfl⟩
  obtain ⟨V3, hVq⟩ : ∃ V, u2.alloc (.cells #[.int .i64 r1.f0, .int .i64 r1.f1, .string r1.f2, .slice X2 r1.f3.length e2, .slice Y2 r1.f4.length f2] 28) = V := ⟨_, rfl⟩
  have hna := new_below u2 (.cells #[.int .i64 r1.f0, .int .i64 r1.f1, .string r1.f2, .slice X2 r1.f3.length e2, .slice Y2 r1.f4.length f2] 28)
  rw [hVq] at HV2 hna
  rw [hbq] at HV2
  have HV0' := Aside0.mk ((HV0.out.below HCn.out).below hna); clear HV0; have HV0 := HV0'; clear HV0'
  have HV1' := Aside0.mk ((HV1.out.below HCn.out).below hna); clear HV1; have HV1 := HV1'; clear HV1'
  have HB0' := Aside0.mk (below_step HBn.out hna); clear HB0 HBn HCn hna; have HB0 := HB0'; clear HB0'
  rw [hVq, hbq]
  clear hVq hbq HC15
  go_upto_region 7 with (first | (go_at_call 16; (with_reducible refine (HC16.out _ HB0.out).mono ?_); rintro e u3 ⟨X3, e3, Y3, f3, rfl, hr, hb⟩; have HBn := Aside0.mk (below_step HB0.out hb); have HV3 := Aside0.mk (Bv.new hr); have HCn := Aside0.mk hb; clear hr hb))
  obtain ⟨b17, hbq⟩ : ∃ b, u3.heap.size = b := ⟨_, rfl⟩
  obtain ⟨V4, hVq⟩ : ∃ V, u3.alloc (.cells #[.int .i64 r1.f0, .int .i64 r1.f1, .string r1.f2, .slice X3 r1.f3.length e3, .slice Y3 r1.f4.length f3] 28) = V := ⟨_, rfl⟩
  have hna := new_below u3 (.cells #[.int .i64 r1.f0, .int .i64 r1.f1, .string r1.f2, .slice X3 r1.f3.length e3, .slice Y3 r1.f4.length f3] 28)
  rw [hVq] at HV3 hna
  rw [hbq] at HV3
  have HV0' := Aside0.mk ((HV0.out.below HCn.out).below hna); clear HV0; have HV0 := HV0'; clear HV0'
  have HV1' := Aside0.mk ((HV1.out.below HCn.out).below hna); clear HV1; have HV1 := HV1'; clear HV1'
  have HV2' := Aside0.mk ((HV2.out.below HCn.out).below hna); clear HV2; have HV2 := HV2'; clear HV2'
  have HB0' := Aside0.mk (below_step HBn.out hna); clear HB0 HBn HCn hna; have HB0 := HB0'; clear HB0'
  rw [hVq, hbq]
  clear hVq hbq HC16
  go_upto_region 8 with (first | (go_at_call 17; (with_reducible refine (HC17.out _ HB0.out).mono ?_); rintro e u4 ⟨X4, e4, Y4, f4, rfl, hr, hb⟩; have HBn := Aside0.mk (below_step HB0.out hb); have HV4 := Aside0.mk (Bv.new hr); have HCn := Aside0.mk hb; clear hr hb))
  obtain ⟨b19, hbq⟩ : ∃ b, u4.heap.size = b := ⟨_, rfl⟩
  obtain ⟨V5, hVq⟩ : ∃ V, u4.alloc (.cells #[.int .i64 r2.f0, .int .i64 r2.f1, .string r2.f2, .slice X4 r2.f3.length e4, .slice Y4 r2.f4.length f4] 28) = V := ⟨_, rfl⟩
  have hna := new_below u4 (.cells #[.int .i64 r2.f0, .int .i64 r2.f1, .string r2.f2, .slice X4 r2.f3.length e4, .slice Y4 r2.f4.length f4] 28)
  rw [hVq] at HV4 hna
  rw [hbq] at HV4
  have HV0' := Aside0.mk ((HV0.out.below HCn.out).below hna); clear HV0; have HV0 := HV0'; clear HV0'
  have HV1' := Aside0.mk ((HV1.out.below HCn.out).below hna); clear HV1; have HV1 := HV1'; clear HV1'
  have HV2' := Aside0.mk ((HV2.out.below HCn.out).below hna); clear HV2; have HV2 := HV2'; clear HV2'
  have HV3' := Aside0.mk ((HV3.out.below HCn.out).below hna); clear HV3; have HV3 := HV3'; clear HV3'
  have HB0' := Aside0.mk (below_step HBn.out hna); clear HB0 HBn HCn hna; have HB0 := HB0'; clear HB0'
  rw [hVq, hbq]
  clear hVq hbq HC17
  go_upto_region 9 with (first | (go_at_call 18; (with_reducible refine (HC18.out _ HB0.out).mono ?_); rintro e u5 ⟨X5, e5, Y5, f5, rfl, hr, hb⟩; have HBn := Aside0.mk (below_step HB0.out hb); have HV5 := Aside0.mk (Bv.new hr); have HCn := Aside0.mk hb; clear hr hb))
  obtain ⟨b21, hbq⟩ : ∃ b, u5.heap.size = b := ⟨_, rfl⟩
  obtain ⟨V6, hVq⟩ : ∃ V, u5.alloc (.cells #[.int .i64 r2.f0, .int .i64 r2.f1, .string r2.f2, .slice X5 r2.f3.length e5, .slice Y5 r2.f4.length f5] 28) = V := ⟨_, rfl⟩
  have hna := new_below u5 (.cells #[.int .i64 r2.f0, .int .i64 r2.f1, .string r2.f2, .slice X5 r2.f3.length e5, .slice Y5 r2.f4.length f5] 28)
  rw [hVq] at HV5 hna
  rw [hbq] at HV5
  have HV0' := Aside0.mk ((HV0.out.below HCn.out).below hna); clear HV0; have HV0 := HV0'; clear HV0'
  have HV1' := Aside0.mk ((HV1.out.below HCn.out).below hna); clear HV1; have HV1 := HV1'; clear HV1'
  have HV2' := Aside0.mk ((HV2.out.below HCn.out).below hna); clear HV2; have HV2 := HV2'; clear HV2'
  have HV3' := Aside0.mk ((HV3.out.below HCn.out).below hna); clear HV3; have HV3 := HV3'; clear HV3'
  have HV4' := Aside0.mk ((HV4.out.below HCn.out).below hna); clear HV4; have HV4 := HV4'; clear HV4'
  have HB0' := Aside0.mk (below_step HBn.out hna); clear HB0 HBn HCn hna; have HB0 := HB0'; clear HB0'
  rw [hVq, hbq]
  clear hVq hbq HC18
  have HST : Aside0 (∀ W, Below V6.heap.size V6 W → Bv W b11 X0 e0 Y0 f0 r0 ∧ Bv W b13 X1 e1 Y1 f1 r0 ∧ Bv W b15 X2 e2 Y2 f2 r1 ∧ Bv W b17 X3 e3 Y3 f3 r1 ∧ Bv W b19 X4 e4 Y4 f4 r2 ∧ Bv W b21 X5 e5 Y5 f5 r2) := ⟨fun W hb => ⟨HV0.out.below hb, HV1.out.below hb, HV2.out.below hb, HV3.out.below hb, HV4.out.below hb, HV5.out.below hb⟩⟩
  have HD := Aside0.mk (Below.refl V6.heap.size V6)
  clear HV0 HV1 HV2 HV3 HV4 HV5
  go_wp2_with (first | (go_at_call 20; (with_reducible refine (valueBoolM b _).mono ?_); rintro e z1 ⟨rfl, hb⟩; have HD2 := Aside0.mk (below_step HD.out hb); clear hb HD; have HD := HD2; clear HD2) | (go_at_call 21; (with_reducible refine (refBoolM b _).mono ?_); rintro e z2 ⟨rfl, hb⟩; have HD2 := Aside0.mk (below_step HD.out hb); clear hb HD; have HD := HD2; clear HD2) | (go_at_call 19; (with_reducible refine (HSB.out _).mono ?_); rintro e z3 ⟨rfl, hb⟩; have HD2 := Aside0.mk (below_step HD.out hb); clear hb HD; have HD := HD2; clear HD2; clear HSB) | (go_at_call 22; (with_reducible refine (valueNumC n _).mono ?_); rintro e z4 ⟨rfl, hb⟩; have HD2 := Aside0.mk (below_step HD.out hb); clear hb HD; have HD := HD2; clear HD2) | (go_at_call 23; (with_reducible refine (refNumV n _).mono ?_); rintro e z5 ⟨rfl, hb⟩; have HD2 := Aside0.mk (below_step HD.out hb); clear hb HD; have HD := HD2; clear HD2) | (go_at_call 19; (with_reducible refine (HSN.out _).mono ?_); rintro e z6 ⟨rfl, hb⟩; have HD2 := Aside0.mk (below_step HD.out hb); clear hb HD; have HD := HD2; clear HD2; obtain ⟨p0a, p0b, p0c, p0d, p0e⟩ := (HST.out _ HD.out).1.cells; obtain ⟨p1a, p1b, p1c, p1d, p1e⟩ := (HST.out _ HD.out).2.1.cells; obtain ⟨p2a, p2b, p2c, p2d, p2e⟩ := (HST.out _ HD.out).2.2.1.cells; obtain ⟨p3a, p3b, p3c, p3d, p3e⟩ := (HST.out _ HD.out).2.2.2.1.cells; obtain ⟨p4a, p4b, p4c, p4d, p4e⟩ := (HST.out _ HD.out).2.2.2.2.1.cells; obtain ⟨p5a, p5b, p5c, p5d, p5e⟩ := (HST.out _ HD.out).2.2.2.2.2.cells) | (go_at_call 19; (with_reducible refine (sameT r0 _ HW0.out (HST.out _ HD.out).1.rd (HST.out _ HD.out).2.1.rd).mono ?_); rintro e z7 ⟨rfl, hb⟩; have HD2 := Aside0.mk (below_step HD.out hb); clear hb HD; have HD := HD2; clear HD2; clear p0a p0b p0c p0d p0e p1a p1b p1c p1d p1e p2a p2b p2c p2d p2e p3a p3b p3c p3d p3e p4a p4b p4c p4d p4e p5a p5b p5c p5d p5e; obtain ⟨p0a, p0b, p0c, p0d, p0e⟩ := (HST.out _ HD.out).1.cells; obtain ⟨p1a, p1b, p1c, p1d, p1e⟩ := (HST.out _ HD.out).2.1.cells; obtain ⟨p2a, p2b, p2c, p2d, p2e⟩ := (HST.out _ HD.out).2.2.1.cells; obtain ⟨p3a, p3b, p3c, p3d, p3e⟩ := (HST.out _ HD.out).2.2.2.1.cells; obtain ⟨p4a, p4b, p4c, p4d, p4e⟩ := (HST.out _ HD.out).2.2.2.2.1.cells; obtain ⟨p5a, p5b, p5c, p5d, p5e⟩ := (HST.out _ HD.out).2.2.2.2.2.cells) | (go_at_call 19; (with_reducible refine (sameT r1 _ HW1.out (HST.out _ HD.out).2.2.1.rd (HST.out _ HD.out).2.2.2.1.rd).mono ?_); rintro e z8 ⟨rfl, hb⟩; have HD2 := Aside0.mk (below_step HD.out hb); clear hb HD; have HD := HD2; clear HD2; clear p0a p0b p0c p0d p0e p1a p1b p1c p1d p1e p2a p2b p2c p2d p2e p3a p3b p3c p3d p3e p4a p4b p4c p4d p4e p5a p5b p5c p5d p5e; obtain ⟨p0a, p0b, p0c, p0d, p0e⟩ := (HST.out _ HD.out).1.cells; obtain ⟨p1a, p1b, p1c, p1d, p1e⟩ := (HST.out _ HD.out).2.1.cells; obtain ⟨p2a, p2b, p2c, p2d, p2e⟩ := (HST.out _ HD.out).2.2.1.cells; obtain ⟨p3a, p3b, p3c, p3d, p3e⟩ := (HST.out _ HD.out).2.2.2.1.cells; obtain ⟨p4a, p4b, p4c, p4d, p4e⟩ := (HST.out _ HD.out).2.2.2.2.1.cells; obtain ⟨p5a, p5b, p5c, p5d, p5e⟩ := (HST.out _ HD.out).2.2.2.2.2.cells) | (go_at_call 19; (with_reducible refine (sameT r2 _ HW2.out (HST.out _ HD.out).2.2.2.2.1.rd (HST.out _ HD.out).2.2.2.2.2.rd).mono ?_); rintro e z9 ⟨rfl, hb⟩; have HD2 := Aside0.mk (below_step HD.out hb); clear hb HD; have HD := HD2; clear HD2; clear p0a p0b p0c p0d p0e p1a p1b p1c p1d p1e p2a p2b p2c p2d p2e p3a p3b p3c p3d p3e p4a p4b p4c p4d p4e p5a p5b p5c p5d p5e) | (go_at_call 12; (with_reducible refine (awakeC _).mono ?_); rintro e z12 ⟨rfl, hb⟩; have HD2 := Aside0.mk (below_step HD.out hb); clear hb HD; have HD := HD2; clear HD2))
  go_ret
  exact ⟨rfl, below_step HB0.out HD.out⟩
end Go.Proofs.Ytgpjkojnmeaoiaa.QV
