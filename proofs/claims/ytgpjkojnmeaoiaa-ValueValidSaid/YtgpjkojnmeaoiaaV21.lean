/- value.Obj, by hand: all keys are UTF-8. -/
import Derived.Test.YtgpjkojnmeaoiaaV20
namespace Go.Proofs.Ytgpjkojnmeaoiaa.QV
open Go Go.RowKit Go.Proofs.YtgpjkojnmeaoiaaW.PrintWords Go.Proofs.YtgpjkojnmeaoiaaW.PrintLast Go.Proofs.YtgpjkojnmeaoiaaW.PrintMore
set_option linter.unusedVariables false
set_option linter.unusedSimpArgs false
set_option maxRecDepth 100000
set_option maxHeartbeats 4000000
theorem dd_mem : ∀ {l : List Mem} {m : Mem}, m ∈ dd l → m ∈ l := by
  intro l
  induction l with
  | nil => intro m h; simp [dd] at h
  | cons a l ih =>
    intro m h
    cases l with
    | nil => simpa [dd] using h
    | cons b l =>
      rw [dd] at h
      by_cases c : b.1 = a.1
      · rw [if_pos c] at h
        exact List.mem_cons_of_mem _ (ih h)
      · rw [if_neg c] at h
        rcases List.mem_cons.1 h with rfl | h
        · exact List.mem_cons_self
        · exact List.mem_cons_of_mem _ (ih h)
theorem ksz_bound {l : List ByteArray} {n : Nat} (h : ∀ q ∈ l, q.size ≤ n) : ksz l ≤ l.length * (n + 1) := by
  induction l with
  | nil => simp [ksz]
  | cons a l ih =>
    have h1 := h a List.mem_cons_self
    have h2 := ih (fun q hq => h q (List.mem_cons_of_mem _ hq))
    simp only [ksz, List.length_cons, Nat.add_mul]
    omega
theorem cntL_bound {l : List S28} {n : Nat} (h : ∀ q ∈ l, cnt q ≤ n) : cntL l ≤ l.length * n := by
  induction l with
  | nil => simp [cntL]
  | cons a l ih =>
    have h1 := h a List.mem_cons_self
    have h2 := ih (fun q hq => h q (List.mem_cons_of_mem _ hq))
    simp only [cntL, List.length_cons, Nat.add_mul]
    omega
theorem ov_keys {ks : List ByteArray} {ms : List Mem} (hp : ms.Perm (mems ks)) {k : ByteArray} (h : k ∈ (dd ms).map (·.1)) : k ∈ ks := by
  obtain ⟨m, hm, rfl⟩ := List.mem_map.1 h
  obtain ⟨k, ix⟩ := m
  obtain ⟨p, hp2, rfl, hkp⟩ := mems_mem (hp.mem_iff.1 (dd_mem hm))
  exact List.mem_of_getElem? hkp
theorem ov_elems {ks : List ByteArray} {es : List S28} {ms : List Mem} (hp : ms.Perm (mems ks)) (hlen : ks.length = es.length) {y : S28} (h : y ∈ (dd ms).map (ge es)) : y ∈ es := by
  obtain ⟨m, hm, rfl⟩ := List.mem_map.1 h
  obtain ⟨k, ix⟩ := m
  obtain ⟨p, hp2, rfl, hkp⟩ := mems_mem (hp.mem_iff.1 (dd_mem hm))
  have hpe : p < es.length := by omega
  unfold ge
  simp [hpe]
theorem ov_wv {ks : List ByteArray} {es : List S28} {ms : List Mem} (hp : ms.Perm (mems ks)) (hlen : ks.length = es.length) (hks : ∀ q ∈ ks, q.size ≤ 140737488351232) (hw : ∀ y ∈ es, Wv y ∧ cnt y ≤ 1000000000000) (hn : ks.length ≤ 20) : Wv (ov es ms) ∧ (lg ks = false → cnt (ov es ms) ≤ 1000000000000000) := by
  have h1 : (dd ms).length ≤ 20 := by
    have := dd_len ms
    have h2 := hp.length_eq
    rw [mems_len] at h2
    omega
  refine ⟨.mk _ (by simp [ov]) (by simp [ov]) (show (⟨#[]⟩ : ByteArray).size ≤ 140737488351232 from Nat.zero_le _) (by simp [ov]; omega) (fun q hq => hks q (ov_keys hp hq)) (by simp [ov]; omega) (fun q hq => (hw q (ov_elems hp hlen hq)).1), fun hl => ?_⟩
  have h2 := ksz_bound (l := (dd ms).map (·.1)) (n := 4096) (fun q hq => by
    have h3 := ov_keys hp hq
    unfold lg at hl
    have h4 := List.any_eq_false.1 hl q h3
    simpa using h4)
  have h3 := cntL_bound (l := (dd ms).map (ge es)) (n := 1000000000000) (fun q hq => (hw q (ov_elems hp hlen hq)).2)
  rw [cnt_eq]
  simp only [ov, List.length_map] at *
  have h4 : (dd ms).length * (4096 + 1) ≤ 20 * 4097 := Nat.mul_le_mul h1 (by omega)
  have h5 : (dd ms).length * 1000000000000 ≤ 20 * 1000000000000 := Nat.mul_le_mul h1 (by omega)
  have h6 : (⟨#[]⟩ : ByteArray).size = 0 := rfl
  omega
/-- Rows of the call's own above block b stay where block b alone is written. -/
theorem rd_end {we1 we2 W' : World} {base b : Nat} {X3 : Option Addr} {d3 : Nat} {X4 : Option Addr} {d4 : Nat} {x : S28} (h3 : OwnRow kR 9 1 we2 we1.heap.size (.slice X3 x.f3.length d3) x.f3) (h4 : OwnRow (k28.M we1 base (fun _ => True)) 28 5 we2 we1.heap.size (.slice X4 x.f4.length d4) x.f4)
    (hb : b < base) (hbase : base ≤ we1.heap.size) (h12 : Below we1.heap.size we1 we2) (hk : ∀ k, k ≠ b → k < we2.heap.size → W'.heap[k]? = we2.heap[k]?) : Rd W' X3 d3 X4 d4 x := by
  obtain ⟨i3, o3, r3⟩ := h3
  obtain ⟨i4, o4, r4⟩ := h4
  have m3 : OwnRow kR 9 1 W' we1.heap.size (.slice X3 x.f3.length d3) x.f3 := ⟨i3, own_move o3 (fun k hq => hk k (by have := Go.Proofs.YtgpjkojnmeaoiaaW.PrintWords.own_base o3 k hq; omega) (own_lt o3 k hq)), r3⟩
  have m4 : OwnRow (k28.K W') 28 5 W' we1.heap.size (.slice X4 x.f4.length d4) x.f4 := ⟨i4, own_move o4 (fun k hq => hk k (by have := Go.Proofs.YtgpjkojnmeaoiaaW.PrintWords.own_base o4 k hq; omega) (own_lt o4 k hq)), r4.imp_ (fun y cs hM => k28.K_of_M (k28.M_move (fun k hq => (hk k (by have := hq.2.1; omega) (by have := hq.2.2.1; have := Below.size h12; omega)).trans (h12.block k hq.2.2.1)) (k28.M_bound hM)))⟩
  obtain ⟨A3, c3, e3, l3, g3⟩ := m3.reads
  obtain ⟨A4, c4, e4, l4, g4⟩ := m4.reads
  injection e3 with a1 a2 a3
  injection e4 with b1 b2 b3
  subst a1 a3 b1 b3
  exact ⟨l3, g3, l4, g4⟩
def OkObj (ks : List ByteArray) (es : List S28) (w : World) (e : Ending) (w' : World) : Prop := ∃ (ms : List Mem) (X3 : Option Addr) (d3 : Nat) (X4 : Option Addr) (d4 : Nat),
  e = .returned (if ft (ov es ms) = true then .tuple #[.agg #[.int .i64 ((ov es ms)).f0, .int .i64 ((ov es ms)).f1, .string ((ov es ms)).f2, .slice X3 ((ov es ms)).f3.length d3, .slice X4 ((ov es ms)).f4.length d4], .int .i64 0] else .tuple #[.agg #[.int .i64 0, .int .i64 0, .string ⟨#[]⟩, .slice none 0 0, .slice none 0 0], .int .i64 2]) ∧
  Rd w' X3 d3 X4 d4 (ov es ms) ∧ ms.Perm (mems ks) ∧ ms.Pairwise lexM ∧ Below w.heap.size w w'
def UObj (ks : List ByteArray) (es : List S28) (w : World) (e : Ending) (w' : World) : Prop := if lg ks = true then BadObj w 2 e w' else OkObj ks es w e w'
theorem valueObj_ok (ks : List ByteArray) (es : List S28) (w : World) {A : Option Addr} {c : Nat} {B : Option Addr} {d : Nat} (hlen : ks.length = es.length) (hk : Kd.C Kd.string w A ks.length ks) (hks : ∀ q ∈ ks, q.size ≤ 140737488351232) (he : Kd.C k28 w B es.length es) (hw : ∀ y ∈ es, Wv y ∧ cnt y ≤ 1000000000000) (hn : ks.length ≤ 20) (hall : es.all vd = true) (hu : ks.all QV.u8 = true) :
    Calls Try.prog 17 #[.slice A ks.length c, .slice B es.length d] w (UObj ks es w) := by
  have HN : Aside0 ((w.alloc (.cells #[.int .i64 0, .int .i64 0, .string ⟨#[]⟩, .slice none 0 0, .slice none 0 0] 28)).heap[w.heap.size]? = some (.cells #[.int .i64 0, .int .i64 0, .string ⟨#[]⟩, .slice none 0 0, .slice none 0 0] 28 (0, 0))) := ⟨heap_alloc_new w _⟩
  have HB := Aside0.mk (new_below w (.cells #[.int .i64 0, .int .i64 0, .string ⟨#[]⟩, .slice none 0 0, .slice none 0 0] 28))
  have HL : Aside0 (w.heap.size < (w.alloc (.cells #[.int .i64 0, .int .i64 0, .string ⟨#[]⟩, .slice none 0 0, .slice none 0 0] 28)).heap.size) := ⟨by simp⟩
  have HQ := Aside0.mk (allC (c := d) es (w.alloc (.cells #[.int .i64 0, .int .i64 0, .string ⟨#[]⟩, .slice none 0 0, .slice none 0 0] 28)) (Kd.C_below he HB.out) (fun y hy => ⟨(hw y hy).1, by have := (hw y hy).2; omega⟩) (by omega))
  have HCo : Aside0 (∀ W, Below w.heap.size w W → Calls Try.prog 51 #[.slice B ks.length d] W fun e w' => ∃ X d, e = .returned (.slice X ks.length d) ∧ ReadsRow (k28.M w' W.heap.size (fun _ => True)) 5 w' X es.length es ∧ Below W.heap.size W w') := ⟨fun W hb => by
    rw [hlen]
    refine (copiesC (c := d) es W (Kd.C_below he hb) (fun y hy => (hw y hy).2) (by omega)).mono ?_
    rintro e w' ⟨X, d, rfl, hR, hB⟩
    obtain ⟨A2, c2, e2, _, hC⟩ := (hR.2.imp_ (fun _ _ hM => k28.M_mono (fun k hk => hk.1) hM)).reads
    injection e2 with e3 e4 e5
    subst e3
    exact ⟨X, d, rfl, hC, hB⟩⟩
  have HOb : Aside0 (∀ W X d (base : Nat), Below w.heap.size w W → ReadsRow (k28.M W base (fun _ => True)) 5 W X es.length es → Calls Try.prog 54 #[.slice A ks.length c, .slice X ks.length d] W (ObjPost (k28.M W base (fun _ => True)) ks es W)) := ⟨fun W X d base hb hC => by
    have h := objC (c := c) (d := d) ks es W (Kd.C_below hk hb) (fun _ _ h => k28.K_of_M h) hC hlen hn
    rw [← hlen] at h
    exact h⟩
  have HFt : Aside0 (lg ks = false → ∀ (ms : List Mem) (W : World) (X3 : Option Addr) (d3 : Nat) (X4 : Option Addr) (d4 : Nat), ms.Perm (mems ks) → Rd W X3 d3 X4 d4 (ov es ms) → Calls Try.prog 49 #[.agg #[.int .i64 ((ov es ms)).f0, .int .i64 ((ov es ms)).f1, .string ((ov es ms)).f2, .slice X3 ((ov es ms)).f3.length d3, .slice X4 ((ov es ms)).f4.length d4]] W fun e w' => e = .returned (if ft (ov es ms) = true then .tuple #[.agg #[.int .i64 ((ov es ms)).f0, .int .i64 ((ov es ms)).f1, .string ((ov es ms)).f2, .slice X3 ((ov es ms)).f3.length d3, .slice X4 ((ov es ms)).f4.length d4], .int .i64 0] else .tuple #[.agg #[.int .i64 0, .int .i64 0, .string ⟨#[]⟩, .slice none 0 0, .slice none 0 0], .int .i64 2]) ∧ Below W.heap.size W w') :=
    ⟨fun hl ms W X3 d3 X4 d4 hp hr => fitTopC (ov es ms) W (ov_wv hp hlen hks hw hn).1 ((ov_wv hp hlen hks hw hn).2 hl) hr⟩
  rw [hall, ← hlen] at HQ
  have HK := Aside0.mk hk
  have HKs := Aside0.mk hks
  have HU : Aside0 (∀ q ∈ ks, QV.u8 q = true) := ⟨fun q hq => List.all_eq_true.1 hu q hq⟩
  rw [← hlen]
  clear he hw hall hlen hk hks hu
  go_enter Try.func17, Try.ntmps17
  go_upto_region 6 with (first | (go_at_call 48; (with_reducible refine HQ.out.mono ?_); rintro e we ⟨rfl, hb⟩; have HC := Aside0.mk hb; clear hb; have HN2 := Aside0.mk ((HC.out.block _ HL.out).trans HN.out); have HB2 := Aside0.mk (below_step HB.out HC.out)))
  have H0 : Aside0 (Below w.heap.size w we ∧ we.heap[w.heap.size]? = some (.cells #[.int .i64 0, .int .i64 0, .string ⟨#[]⟩, .slice none 0 0, .slice none 0 0] 28 (0, 0))) := ⟨HB2.out, HN2.out⟩
  clear HN HB HL HQ HC HN2 HB2
  go_wp2_with fail
  go_loopg [6, 23] ks.length (fun kq v6 v23 w' => ∃ (i : Nat), kq + i = ks.length ∧ v23 = .int .i64 (i : Int) ∧ v6 = .bool (lg (ks.take i)) ∧ Aside0 (Below w.heap.size w w' ∧ w'.heap[w.heap.size]? = some (.cells #[.int .i64 0, .int .i64 0, .string ⟨#[]⟩, .slice none 0 0, .slice none 0 0] 28 (0, 0))))
  case atStart => exact ⟨0, by omega, rfl, rfl, H0⟩
  case round =>
    clear H0
    obtain ⟨i, hi, rfl, rfl, HW⟩ := hrel
    by_cases ci : i < ks.length
    rotate_left
    · have g0 : decide (i < ks.length) = false := decide_eq_false ci
      have e1 : lg (ks.take i) = lg ks := by rw [List.take_of_length_le (by omega)]
      obtain ⟨L, hL⟩ : ∃ L, lg ks = L := ⟨_, rfl⟩
      have HO : Aside0 (∀ e w', (if L = true then BadObj w 2 e w' else OkObj ks es w e w') → UObj ks es w e w') := ⟨fun e w' h => by unfold UObj; rw [hL]; exact h⟩
      rw [e1, hL]
      rw [hL] at HFt
      clear e1 hL ci hi HU HKs
      cases L with
      | true =>
        obtain ⟨t0, t1, t2, t3, t4, t5⟩ := zero5 HW.out.2
        go_wp2_with fail
        obtain ⟨W', hW', ⟨u0, u1, u2, u3, u4⟩, hg, hz⟩ := fill5 HW.out.2 HW.out.1 (Nat.le_refl _) (.int .i64 0) (.int .i64 0) (.string ⟨#[]⟩) (.slice none 0 0) (.slice none 0 0)
        rw [hW']
        exact bodyPost_ret (v := .tuple #[.agg #[.int .i64 0, .int .i64 0, .string ⟨#[]⟩, .slice none 0 0, .slice none 0 0], .int .i64 2]) (by simp [results, Try.results17, go_sem, u0, u1, u2, u3, u4]) rfl (HO.out _ _ ⟨rfl, hz⟩)
      | false =>
        have HF2 := Aside0.mk (HFt.out rfl)
        clear HFt
        go_wp2_with (first | (go_at_call 51; (with_reducible refine (HCo.out _ HW.out.1).mono ?_); rintro e we1 ⟨X, dX, rfl, hC, hb⟩; have HC := Aside0.mk hC; have HC1 := Aside0.mk hb; have HN2 := Aside0.mk ((hb.block _ (Array.getElem?_eq_some_iff.1 HW.out.2).1).trans HW.out.2); have HB2 := Aside0.mk (below_step HW.out.1 hb); clear hC hb) | (go_at_call 54; (with_reducible refine (HOb.out _ _ _ _ HB2.out HC.out).mono ?_); rintro e we2 ⟨ms, X3, d3, X4, d4, rfl, hr3, hr4, hp, hs, hb⟩; have HRr := Aside0.mk (And.intro hr3 hr4); have HR := Aside0.mk (rd_end hr3 hr4 (Nat.lt_of_lt_of_le (Array.getElem?_eq_some_iff.1 HW.out.2).1 (Nat.le_refl _)) (Below.size HC1.out) hb (fun k _ _ => rfl)); have HC2 := Aside0.mk hb; have HP := Aside0.mk (And.intro hp hs); have HN3 := Aside0.mk ((hb.block _ (Array.getElem?_eq_some_iff.1 HN2.out).1).trans HN2.out); have HB3 := Aside0.mk (below_step HB2.out hb); clear hr3 hr4 hp hs hb))
        go_at_call 49
        refine (HF2.out _ _ _ _ _ _ HP.out.1 HR.out).mono ?_
        rintro e we3 ⟨rfl, hb⟩; have HC3 := Aside0.mk hb; have HN4 := Aside0.mk ((hb.block _ (Array.getElem?_eq_some_iff.1 HN3.out).1).trans HN3.out); have HB4 := Aside0.mk (below_step HB3.out hb); clear hb; obtain ⟨t0, t1, t2, t3, t4, t5⟩ := zero5 HN4.out; clear HN2 HN3
        have HFin : Aside0 (∀ W', we3.grownBy W' (some w.heap.size) → Rd W' X3 d3 X4 d4 (ov es ms)) := ⟨fun W' hg => rd_end HRr.out.1 HRr.out.2 (Nat.lt_of_lt_of_le (Array.getElem?_eq_some_iff.1 HW.out.2).1 (Nat.le_refl _)) (Below.size HC1.out) HC2.out (fun k hk hlt => (hg.block k (by have := Below.size HC3.out; omega) (fun e => hk (Option.some.inj e))).trans (HC3.out.block k hlt))⟩
        by_cases hft : ft (ov es ms) = true
        · rw [if_pos hft]
          have HFT := Aside0.mk hft
          clear hft
          go_wp2_with fail
          obtain ⟨W', hW', ⟨u0, u1, u2, u3, u4⟩, hg, hz⟩ := fill5 HN4.out HB4.out (Nat.le_refl _) (.int .i64 (ov es ms).f0) (.int .i64 (ov es ms).f1) (.string (ov es ms).f2) (.slice X3 (ov es ms).f3.length d3) (.slice X4 (ov es ms).f4.length d4)
          rw [hW']
          exact bodyPost_ret (v := .tuple #[.agg #[.int .i64 ((ov es ms)).f0, .int .i64 ((ov es ms)).f1, .string ((ov es ms)).f2, .slice X3 ((ov es ms)).f3.length d3, .slice X4 ((ov es ms)).f4.length d4], .int .i64 0]) (by simp [results, Try.results17, go_sem, u0, u1, u2, u3, u4]) rfl (HO.out _ _ ⟨ms, X3, d3, X4, d4, by rw [if_pos HFT.out], HFin.out _ hg, HP.out.1, HP.out.2, hz⟩)
        · rw [if_neg hft]
          have HFT := Aside0.mk hft
          clear hft
          go_wp2_with fail
          obtain ⟨W', hW', ⟨u0, u1, u2, u3, u4⟩, hg, hz⟩ := fill5 HN4.out HB4.out (Nat.le_refl _) (.int .i64 0) (.int .i64 0) (.string ⟨#[]⟩) (.slice none 0 0) (.slice none 0 0)
          rw [hW']
          exact bodyPost_ret (v := .tuple #[.agg #[.int .i64 0, .int .i64 0, .string ⟨#[]⟩, .slice none 0 0, .slice none 0 0], .int .i64 2]) (by simp [results, Try.results17, go_sem, u0, u1, u2, u3, u4]) rfl (HO.out _ _ ⟨ms, X3, d3, X4, d4, by rw [if_neg HFT.out], HFin.out _ hg, HP.out.1, HP.out.2, hz⟩)
    have g0 : decide ((i : Int) < (ks.length : Int)) = true := decide_eq_true (by omega)
    have g2 : (0 ≤ (i : Int)) = True := eq_true (by omega)
    have g3 : ((i : Int) < (ks.length : Int)) = True := eq_true (by omega)
    obtain ⟨j1, rfl⟩ : ∃ j1, gk = j1 + 1 := ⟨gk - 1, by omega⟩
    have hil : ks[i]? = some ks[i] := List.getElem?_eq_getElem ci
    have hq := HKs.out _ (List.getElem_mem ci)
    have hqu := HU.out _ (List.getElem_mem ci)
    obtain ⟨y, hq'⟩ : ∃ y, ks[i] = y := ⟨_, rfl⟩
    rw [hq'] at hil hq hqu
    obtain ⟨ad, e1, he0⟩ := str_at (Kd.C_below HK.out HW.out.1) i ci hil
    have HT := Aside0.mk (lg_take hil)
    have HI := Aside0.mk hi
    have HUC := Aside0.mk (fun W => u8C y hq W)
    obtain ⟨L, hL⟩ : ∃ L, lg (ks.take i) = L := ⟨_, rfl⟩
    rw [hqu] at HUC
    rw [hL] at HT ⊢
    clear hil hq' hi hL hqu
    subst e1
    cases L with
    | false =>
      go_wp2_with (first | (go_at_call 43; (with_reducible refine (HUC.out _).mono ?_); rintro e we2 ⟨rfl, hd⟩; have HN2 := Aside0.mk (((drawn_below hd).block _ (Array.getElem?_eq_some_iff.1 HW.out.2).1).trans HW.out.2); have HB2 := Aside0.mk (step_drawn HW.out.1 hd); clear hd))
      go_roundg j1
      case measure => omega
      case rel => exact ⟨i + 1, by have := HI.out; omega, rfl, by rw [HT.out, Bool.false_or]; exact congrArg Value.bool (decide_eq_decide.2 (by omega)), ⟨HB2.out, HN2.out⟩⟩
    | true =>
      go_wp2_with (first | (go_at_call 43; (with_reducible refine (HUC.out _).mono ?_); rintro e we2 ⟨rfl, hd⟩; have HN2 := Aside0.mk (((drawn_below hd).block _ (Array.getElem?_eq_some_iff.1 HW.out.2).1).trans HW.out.2); have HB2 := Aside0.mk (step_drawn HW.out.1 hd); clear hd))
      go_roundg j1
      case measure => omega
      case rel => exact ⟨i + 1, by have := HI.out; omega, rfl, by rw [HT.out]; rfl, ⟨HB2.out, HN2.out⟩⟩
end Go.Proofs.Ytgpjkojnmeaoiaa.QV
