/- keep.Strings, keep.Same, keep.Values, by hand. -/
import Derived.Test.YtgpjkojnmeaoiaaV7
import Derived.WideShapes
namespace Go.Proofs.Ytgpjkojnmeaoiaa.QV
open Go Go.RowKit Go.Proofs.YtgpjkojnmeaoiaaW.PrintWords Go.Proofs.YtgpjkojnmeaoiaaW.PrintLast Go.Proofs.YtgpjkojnmeaoiaaW.PrintMore
set_option linter.unusedVariables false
set_option linter.unusedSimpArgs false
set_option maxRecDepth 100000
set_option maxHeartbeats 4000000
theorem tl_inj {a b : ByteArray} : a.toList = b.toList ↔ a = b := by
  rw [ByteArray.toList_eq, ByteArray.toList_eq]
  exact ⟨Go.WideShapes.bytes_inj, fun h => by rw [h]⟩
def SamePost (p : Prop) (w : World) (e : Ending) (w' : World) : Prop := ∃ r : Bool, e = .returned (.bool r) ∧ (r = true ↔ p) ∧ Below w.heap.size w w'
theorem strings_loop (l m : List ByteArray) (hlm : l.length = m.length) (hl : l.length ≤ 4611686018427387904) : ∀ (d : Nat) (i : Nat) (k : Nat), l.length - i ≤ d → d < k → i ≤ l.length → ∃ r, ndjqkeep_Strings.l0 k l m (i : Int) = some r ∧ (r = true ↔ l.drop i = m.drop i)
  | d, i, k, hd, hk, hi => by
    obtain ⟨k, rfl⟩ : ∃ j, k = j + 1 := ⟨k - 1, by omega⟩
    simp only [ndjqkeep_Strings.l0]
    by_cases c : i < l.length
    · rw [if_pos (by omega), if_pos (by omega), if_pos (by omega)]
      have h1 := List.drop_eq_getElem_cons c
      have h2 := List.drop_eq_getElem_cons (l := m) (i := i) (by omega)
      have e1 : rdOf ByteArray.empty l (i : Int) = l[i] := by unfold rdOf; simp [c]
      have e2 : rdOf ByteArray.empty m (i : Int) = m[i]'(by omega) := by unfold rdOf; simp [show i < m.length by omega]
      rw [e1, e2]
      by_cases q : l[i].toList = (m[i]'(by omega)).toList
      · rw [if_pos q]
        have q' := tl_inj.1 q
        obtain ⟨d, rfl⟩ : ∃ j, d = j + 1 := ⟨d - 1, by omega⟩
        obtain ⟨r, hr, hq⟩ := strings_loop l m hlm hl d (i + 1) k (by omega) (by omega) (by omega)
        refine ⟨r, ?_, ?_⟩
        · rw [← hr, wrap_id ((i : Int) + 1) (by omega) (by omega)]
          rfl
        · rw [hq, h1, h2, q']
          simp only [List.cons.injEq, true_and]
      · rw [if_neg q]
        refine ⟨false, rfl, ?_⟩
        rw [h1, h2]
        simp only [Bool.false_eq_true, List.cons.injEq, false_iff]
        exact fun h => q (tl_inj.2 h.1)
    · rw [if_neg (by omega)]
      refine ⟨true, rfl, ?_⟩
      rw [List.drop_eq_nil_of_le (by omega), List.drop_eq_nil_of_le (by omega)]
      simp
theorem stringsC (l m : List ByteArray) (w : World) {A : Option Addr} {c : Nat} {B : Option Addr} {d : Nat} (hl : Kd.C Kd.string w A l.length l) (hc : l.length ≤ c) (hm : Kd.C Kd.string w B m.length m) (hd : m.length ≤ d) (hn : l.length ≤ 140737488351232) :
    Calls Try.prog 42 #[.slice A l.length c, .slice B m.length d] w (SamePost (l = m) w) := by
  obtain ⟨r, hr, hq⟩ : ∃ r, ndjqkeep_Strings.f (l.length + 1) l m = some r ∧ (r = true ↔ l = m) := by
    unfold ndjqkeep_Strings.f
    by_cases c : l.length = m.length
    · rw [if_pos (by omega)]
      exact strings_loop l m c (by omega) l.length 0 _ (by omega) (by omega) (by omega)
    · rw [if_neg (by omega)]
      exact ⟨false, rfl, by simp only [Bool.false_eq_true, false_iff]; exact fun h => c (by rw [h])⟩
  refine (ndjqkeep_Strings.calls (l.length + 1) A c l B d m r w hl hc hm hd hr).mono ?_
  rintro e w' ⟨rfl, hb⟩
  exact ⟨r, rfl, hq, drawn_below hb⟩
theorem valuesC (l m : List S28) (w : World) {A : Option Addr} {c : Nat} {B : Option Addr} {d : Nat} (hl : Kd.C k28 w A l.length l) (hm : Kd.C k28 w B m.length m) (hn : l.length ≤ 140737488351232)
    (ih : ∀ y ∈ l, ∀ (z : S28) (W : World) {A3 : Option Addr} {c3 : Nat} {A4 : Option Addr} {c4 : Nat} {B3 : Option Addr} {d3 : Nat} {B4 : Option Addr} {d4 : Nat}, Rd W A3 c3 A4 c4 y → Rd W B3 d3 B4 d4 z → Calls Try.prog 19 #[.agg #[.int .i64 y.f0, .int .i64 y.f1, .string y.f2, .slice A3 y.f3.length c3, .slice A4 y.f4.length c4], .agg #[.int .i64 z.f0, .int .i64 z.f1, .string z.f2, .slice B3 z.f3.length d3, .slice B4 z.f4.length d4]] W (SamePost (y = z) W)) :
    Calls Try.prog 56 #[.slice A l.length c, .slice B m.length d] w (SamePost (l = m) w) := by
  have HL := Aside0.mk hl
  have HM := Aside0.mk hm
  have HI := Aside0.mk @ih
  clear hl hm ih
  by_cases hlm : l.length = m.length
  rotate_left
  · have g1 : ((l.length : Int) != (m.length : Int)) = true := bne_iff_ne.mpr (by omega)
    have g2 : (l.length != m.length) = true := bne_iff_ne.mpr hlm
    have HF : Aside0 (¬ l = m) := ⟨fun h => hlm (by rw [h])⟩
    clear hlm
    go_enter Try.func56, Try.ntmps56
    go_wp2
    go_ret
    exact ⟨false, rfl, by simp only [Bool.false_eq_true, false_iff]; exact HF.out, Below.refl _ _⟩
  have g1 : ((l.length : Int) != (m.length : Int)) = false := by rw [bne_eq_false_iff_eq]; omega
  have g2 : (l.length != m.length) = false := by rw [bne_eq_false_iff_eq]; exact hlm
  have HLM := Aside0.mk hlm
  have H0 : Aside0 ((l = m) ↔ (l.drop 0 = m.drop 0)) := ⟨by simp⟩
  have HW0 : Aside0 (Below w.heap.size w w) := ⟨Below.refl _ _⟩
  clear hlm
  go_enter Try.func56, Try.ntmps56
  go_wp2
  go_loopg [5] l.length (fun kq v5 w' => ∃ (i : Nat), kq + i = l.length ∧ v5 = .int .i64 (i : Int) ∧ Aside0 ((l = m) ↔ (l.drop i = m.drop i)) ∧ Aside0 (Below w.heap.size w w'))
  case atStart => exact ⟨0, by omega, rfl, H0, HW0⟩
  case round =>
    clear H0 HW0
    obtain ⟨i, hi, rfl, HQ, HW⟩ := hrel
    by_cases ci : i < l.length
    rotate_left
    · have g0 : decide ((i : Int) < (l.length : Int)) = false := decide_eq_false (by omega)
      have g0' : decide (i < l.length) = false := decide_eq_false ci
      have HT : Aside0 (l = m) := ⟨HQ.out.2 (by have := HLM.out; rw [List.drop_eq_nil_of_le (by omega), List.drop_eq_nil_of_le (by omega)])⟩
      clear HQ ci hi
      go_wp2
      go_ret
      exact ⟨true, rfl, by simp only [true_iff]; exact HT.out, HW.out⟩
    have g0 : decide ((i : Int) < (l.length : Int)) = true := decide_eq_true (by omega)
    have g2 : (0 ≤ (i : Int)) = True := eq_true (by omega)
    have g3 : ((i : Int) < (l.length : Int)) = True := eq_true (by omega)
    have g4 : ((i : Int) < (m.length : Int)) = True := eq_true (by have := HLM.out; omega)
    obtain ⟨j1, rfl⟩ : ∃ j1, gk = j1 + 1 := ⟨gk - 1, by omega⟩
    have hil : l[i]? = some l[i] := List.getElem?_eq_getElem ci
    have him : m[i]? = some (m[i]'(by have := HLM.out; omega)) := List.getElem?_eq_getElem (by have := HLM.out; omega)
    have hd1 := List.drop_eq_getElem_cons ci
    have hd2 := List.drop_eq_getElem_cons (l := m) (i := i) (by have := HLM.out; omega)
    have hmem := List.getElem_mem ci
    obtain ⟨y, hy⟩ : ∃ y, l[i] = y := ⟨_, rfl⟩
    obtain ⟨z, hz⟩ : ∃ z, m[i]'(by have := HLM.out; omega) = z := ⟨_, rfl⟩
    rw [hy] at hil hd1 hmem
    rw [hz] at him hd2
    obtain ⟨ad, Y3, y3, Y4, y4, e1, hey⟩ := el_at (Kd.C_below HL.out HW.out) i ci hil
    obtain ⟨ad2, Z3, z3, Z4, z4, e2, hez⟩ := el_at (Kd.C_below HM.out HW.out) i (by have := HLM.out; omega) him
    have HY : Aside0 (∀ W, Below wr.heap.size wr W → Calls Try.prog 19 #[.agg #[.int .i64 y.f0, .int .i64 y.f1, .string y.f2, .slice Y3 y.f3.length y3, .slice Y4 y.f4.length y4], .agg #[.int .i64 z.f0, .int .i64 z.f1, .string z.f2, .slice Z3 z.f3.length z3, .slice Z4 z.f4.length z4]] W (SamePost (y = z) W)) := ⟨fun W hb => HI.out y hmem z W (hey.rd.below hb) (hez.rd.below hb)⟩
    have HQ2 : Aside0 ((l = m) ↔ (y = z ∧ l.drop (i + 1) = m.drop (i + 1))) := ⟨by have h := HQ.out; rw [hd1, hd2] at h; rw [h]; simp⟩
    have HII := Aside0.mk hi
    obtain ⟨a0, a1, a2, a3, a4, _⟩ := hey
    obtain ⟨b0, b1, b2, b3, b4, _⟩ := hez
    clear hil him hd1 hd2 hmem hy hz HQ hi
    subst e1 e2
    go_upto_region 6 with fail
    have HDr : Aside0 (Below wr.heap.size wr wr.drew) := ⟨drawn_below ⟨_, rfl⟩⟩
    go_region_with ((try go_at_call 19); (with_reducible refine (HY.out _ HDr.out).mono ?_); rintro e we ⟨r, rfl, hq, hb⟩; have HR := Aside0.mk hq; have HW2 := Aside0.mk (below_step HW.out (below_step HDr.out hb)); clear hq hb)
    all_goals
      cases r with
      | false =>
        have HF : Aside0 (¬ l = m) := ⟨fun h => by have h1 := (HQ2.out.1 h).1; have h2 := HR.out.2 h1; cases h2⟩
        go_wp2
        go_ret
        exact ⟨false, rfl, by simp only [Bool.false_eq_true, false_iff]; exact HF.out, HW2.out⟩
      | true =>
        go_wp2
        go_roundg j1
        case measure => omega
        case rel => exact ⟨i + 1, by have := HII.out; omega, rfl, ⟨by rw [HQ2.out]; exact ⟨fun h => h.2, fun h => ⟨by simpa using HR.out, h⟩⟩⟩, HW2⟩
/-- Two boxes. -/
theorem box2 {w : World} {x y : S28} {A3 : Option Addr} {c3 : Nat} {A4 : Option Addr} {c4 : Nat} {B3 : Option Addr} {d3 : Nat} {B4 : Option Addr} {d4 : Nat} (hr : Rd w A3 c3 A4 c4 x) (hr2 : Rd w B3 d3 B4 d4 y) :
    Bv ((w.alloc (.cells #[.int .i64 x.f0, .int .i64 x.f1, .string x.f2, .slice A3 x.f3.length c3, .slice A4 x.f4.length c4] 28)).alloc (.cells #[.int .i64 y.f0, .int .i64 y.f1, .string y.f2, .slice B3 y.f3.length d3, .slice B4 y.f4.length d4] 28)) w.heap.size A3 c3 A4 c4 x ∧ Bv ((w.alloc (.cells #[.int .i64 x.f0, .int .i64 x.f1, .string x.f2, .slice A3 x.f3.length c3, .slice A4 x.f4.length c4] 28)).alloc (.cells #[.int .i64 y.f0, .int .i64 y.f1, .string y.f2, .slice B3 y.f3.length d3, .slice B4 y.f4.length d4] 28)) (w.heap.size + 1) B3 d3 B4 d4 y ∧ Below w.heap.size w ((w.alloc (.cells #[.int .i64 x.f0, .int .i64 x.f1, .string x.f2, .slice A3 x.f3.length c3, .slice A4 x.f4.length c4] 28)).alloc (.cells #[.int .i64 y.f0, .int .i64 y.f1, .string y.f2, .slice B3 y.f3.length d3, .slice B4 y.f4.length d4] 28)) := by
  have hB2 := Bv.new (hr2.below (new_below w (.cells #[.int .i64 x.f0, .int .i64 x.f1, .string x.f2, .slice A3 x.f3.length c3, .slice A4 x.f4.length c4] 28)))
  rw [show (w.alloc (.cells #[.int .i64 x.f0, .int .i64 x.f1, .string x.f2, .slice A3 x.f3.length c3, .slice A4 x.f4.length c4] 28)).heap.size = w.heap.size + 1 from by simp] at hB2
  exact ⟨(Bv.new hr).below (new_below (w.alloc (.cells #[.int .i64 x.f0, .int .i64 x.f1, .string x.f2, .slice A3 x.f3.length c3, .slice A4 x.f4.length c4] 28)) (.cells #[.int .i64 y.f0, .int .i64 y.f1, .string y.f2, .slice B3 y.f3.length d3, .slice B4 y.f4.length d4] 28)), hB2, below_step (new_below w (.cells #[.int .i64 x.f0, .int .i64 x.f1, .string x.f2, .slice A3 x.f3.length c3, .slice A4 x.f4.length c4] 28)) (new_below (w.alloc (.cells #[.int .i64 x.f0, .int .i64 x.f1, .string x.f2, .slice A3 x.f3.length c3, .slice A4 x.f4.length c4] 28)) (.cells #[.int .i64 y.f0, .int .i64 y.f1, .string y.f2, .slice B3 y.f3.length d3, .slice B4 y.f4.length d4] 28))⟩
theorem sameC (s : Nat) : ∀ (x y : S28) (w : World) {A3 : Option Addr} {c3 : Nat} {A4 : Option Addr} {c4 : Nat} {B3 : Option Addr} {d3 : Nat} {B4 : Option Addr} {d4 : Nat}, SizeOf.sizeOf x < s → Wv x → Rd w A3 c3 A4 c4 x → Rd w B3 d3 B4 d4 y →
    Calls Try.prog 19 #[.agg #[.int .i64 x.f0, .int .i64 x.f1, .string x.f2, .slice A3 x.f3.length c3, .slice A4 x.f4.length c4], .agg #[.int .i64 y.f0, .int .i64 y.f1, .string y.f2, .slice B3 y.f3.length d3, .slice B4 y.f4.length d4]] w (SamePost (x = y) w) := by
  induction s with
  | zero => intro x y w A3 c3 A4 c4 B3 d3 B4 d4 h; omega
  | succ s ih =>
  intro x y w A3 c3 A4 c4 B3 d3 B4 d4 hs hx hr hr2
  have HV : Aside0 (∀ W, Below w.heap.size w W → Calls Try.prog 56 #[.slice A4 x.f4.length c4, .slice B4 y.f4.length d4] W (SamePost (x.f4 = y.f4) W)) := ⟨fun W hb => valuesC x.f4 y.f4 W (Kd.C_below hr.r4 hb) (Kd.C_below hr2.r4 hb) hx.el (fun q hq z W => ih q z W (by have := sz_mem hq; omega) (hx.es q hq))⟩
  have HS : Aside0 (∀ W, Below w.heap.size w W → Calls Try.prog 42 #[.slice A3 x.f3.length c3, .slice B3 y.f3.length d3] W (SamePost (x.f3 = y.f3) W)) := ⟨fun W hb => stringsC x.f3 y.f3 W (Kd.C_below hr.r3 hb) hr.k3 (Kd.C_below hr2.r3 hb) hr2.k3 hx.kl⟩
  have HE : Aside0 (x = y ↔ (x.f0 = y.f0 ∧ x.f1 = y.f1 ∧ x.f2 = y.f2 ∧ x.f3 = y.f3 ∧ x.f4 = y.f4)) := ⟨by cases x; cases y; simp⟩
  obtain ⟨hB1, hB2, hb⟩ := box2 hr hr2
  obtain ⟨p0, p1, p2, p3, p4⟩ := hB1.cells
  obtain ⟨q0, q1, q2, q3, q4⟩ := hB2.cells
  have HW := Aside0.mk hb
  clear hx hr hr2 ih hB1 hB2 hb hs
  by_cases h0 : x.f0 = y.f0
  rotate_left
  · have g0 : (x.f0 == y.f0) = false := by simpa using h0
    have HF : Aside0 (¬ x = y) := ⟨fun h => h0 (by rw [h])⟩
    clear h0 HE
    go_enter Try.func19, Try.ntmps19
    go_wp2_with fail
    go_ret
    exact ⟨false, rfl, by simp only [Bool.false_eq_true, false_iff]; exact HF.out, HW.out⟩
  have g0 : (x.f0 == y.f0) = true := by simpa using h0
  by_cases h1 : x.f1 = y.f1
  rotate_left
  · have g1 : (x.f1 == y.f1) = false := by simpa using h1
    have HF : Aside0 (¬ x = y) := ⟨fun h => h1 (by rw [h])⟩
    clear h0 h1 HE
    go_enter Try.func19, Try.ntmps19
    go_wp2_with fail
    go_ret
    exact ⟨false, rfl, by simp only [Bool.false_eq_true, false_iff]; exact HF.out, HW.out⟩
  have g1 : (x.f1 == y.f1) = true := by simpa using h1
  by_cases h2 : x.f2 = y.f2
  rotate_left
  · have g2 : (x.f2.toList == y.f2.toList) = false := by rw [beq_eq_false_iff_ne]; exact fun h => h2 (tl_inj.1 h)
    have HF : Aside0 (¬ x = y) := ⟨fun h => h2 (by rw [h])⟩
    clear h0 h1 h2 HE
    go_enter Try.func19, Try.ntmps19
    go_wp2_with fail
    go_ret
    exact ⟨false, rfl, by simp only [Bool.false_eq_true, false_iff]; exact HF.out, HW.out⟩
  have g2 : (x.f2.toList == y.f2.toList) = true := by rw [h2]; simp
  have HE2 : Aside0 (x = y ↔ (x.f3 = y.f3 ∧ x.f4 = y.f4)) := ⟨by rw [HE.out]; simp [h0, h1, h2]⟩
  clear h0 h1 h2 HE
  by_cases h3 : x.f3 = y.f3
  rotate_left
  · have HS2 : Aside0 (∀ W, Below w.heap.size w W → Calls Try.prog 42 #[.slice A3 x.f3.length c3, .slice B3 y.f3.length d3] W fun e w' => e = .returned (.bool false) ∧ Below W.heap.size W w') := ⟨fun W hb => (HS.out W hb).mono (by
      rintro e w' ⟨r, rfl, hq, hb⟩
      cases r with
      | false => exact ⟨rfl, hb⟩
      | true => exact absurd (hq.1 rfl) h3)⟩
    have HF : Aside0 (¬ x = y) := ⟨fun h => h3 (by rw [h])⟩
    clear h3 HE2 HS
    go_enter Try.func19, Try.ntmps19
    go_wp2_with (first | (go_at_call 42; (with_reducible refine (HS2.out _ HW.out).mono ?_); rintro e we ⟨rfl, hb⟩; have HW2 := Aside0.mk (below_step HW.out hb); clear hb))
    go_ret
    exact ⟨false, rfl, by simp only [Bool.false_eq_true, false_iff]; exact HF.out, HW2.out⟩
  have HS2 : Aside0 (∀ W, Below w.heap.size w W → Calls Try.prog 42 #[.slice A3 x.f3.length c3, .slice B3 y.f3.length d3] W fun e w' => e = .returned (.bool true) ∧ Below W.heap.size W w') := ⟨fun W hb => (HS.out W hb).mono (by
      rintro e w' ⟨r, rfl, hq, hb⟩
      rw [hq.2 h3]
      exact ⟨rfl, hb⟩)⟩
  have HE3 : Aside0 (x = y ↔ x.f4 = y.f4) := ⟨by rw [HE2.out]; simp [h3]⟩
  have HB : Aside0 (∀ W, Below ((w.alloc (.cells #[.int .i64 x.f0, .int .i64 x.f1, .string x.f2, .slice A3 x.f3.length c3, .slice A4 x.f4.length c4] 28)).alloc (.cells #[.int .i64 y.f0, .int .i64 y.f1, .string y.f2, .slice B3 y.f3.length d3, .slice B4 y.f4.length d4] 28)).heap.size ((w.alloc (.cells #[.int .i64 x.f0, .int .i64 x.f1, .string x.f2, .slice A3 x.f3.length c3, .slice A4 x.f4.length c4] 28)).alloc (.cells #[.int .i64 y.f0, .int .i64 y.f1, .string y.f2, .slice B3 y.f3.length d3, .slice B4 y.f4.length d4] 28)) W → W.cell? ⟨w.heap.size, 4, none⟩ = some (.slice A4 x.f4.length c4) ∧ W.cell? ⟨w.heap.size + 1, 4, none⟩ = some (.slice B4 y.f4.length d4)) :=
    ⟨fun W hb => ⟨(hb.cell (World.block_lt_of_cell? _ _ p4)).trans p4, (hb.cell (World.block_lt_of_cell? _ _ q4)).trans q4⟩⟩
  clear h3 HE2 HS
  go_enter Try.func19, Try.ntmps19
  go_wp2_with (first | (go_at_call 42; (with_reducible refine (HS2.out _ HW.out).mono ?_); rintro e we ⟨rfl, hb⟩; obtain ⟨u0, u1⟩ := HB.out _ hb; have HW2 := Aside0.mk (below_step HW.out hb); clear hb) | (go_at_call 56; (with_reducible refine (HV.out _ HW2.out).mono ?_); rintro e we2 ⟨r, rfl, hq, hb⟩; have HQ := Aside0.mk hq; have HW3 := Aside0.mk (below_step HW2.out hb); clear hb hq))
  go_ret
  exact ⟨r, by first | rfl | simp, HQ.out.trans HE3.out.symm, HW3.out⟩
end Go.Proofs.Ytgpjkojnmeaoiaa.QV
