/- Values in memory, keep.Count, vals.formed and the meter, by hand. -/
import Derived.Test.YtgpjkojnmeaoiaaKA
import Derived.Test.YtgpjkojnmeaoiaaUp
import Derived.Deep.CutBlock
import Derived.Deep.RegionHeld3
import Derived.WalkLawsBesides
import Derived.Sort.Walk0
import Derived.RegionTactic
import Derived.ChangeAlike
/- Values of JSON, by hand: how they lie in memory; keep.Count and keep.Small. -/
namespace Go.Proofs.Ytgpjkojnmeaoiaa.QV
open Go Go.RowKit Go.Proofs.YtgpjkojnmeaoiaaW.PrintWords Go.Proofs.YtgpjkojnmeaoiaaW.PrintLast Go.Proofs.YtgpjkojnmeaoiaaW.PrintMore
set_option linter.unusedVariables false
set_option linter.unusedSimpArgs false
set_option maxRecDepth 100000
set_option maxHeartbeats 4000000
/-- The rows of a value. -/
structure Rd (w : World) (A3 : Option Addr) (c3 : Nat) (A4 : Option Addr) (c4 : Nat) (x : S28) : Prop where
  k3 : x.f3.length ≤ c3
  r3 : Kd.C Kd.string w A3 x.f3.length x.f3
  k4 : x.f4.length ≤ c4
  r4 : Kd.C k28 w A4 x.f4.length x.f4
theorem Rd.below {w w' : World} {A3 c3 A4 c4} {x : S28} (h : Rd w A3 c3 A4 c4 x) (hb : Below w.heap.size w w') : Rd w' A3 c3 A4 c4 x := ⟨h.k3, Kd.C_below h.r3 hb, h.k4, Kd.C_below h.r4 hb⟩
/-- A value in five cells from an address on. -/
structure Ce (w : World) (ad : Addr) (A3 : Option Addr) (c3 : Nat) (A4 : Option Addr) (c4 : Nat) (x : S28) : Prop where
  h0 : w.cell? ad = some (.int .i64 x.f0)
  h1 : w.cell? ⟨ad.block, ad.off + 1, none⟩ = some (.int .i64 x.f1)
  h2 : w.cell? ⟨ad.block, ad.off + 2, none⟩ = some (.string x.f2)
  h3 : w.cell? ⟨ad.block, ad.off + 3, none⟩ = some (.slice A3 x.f3.length c3)
  h4 : w.cell? ⟨ad.block, ad.off + 4, none⟩ = some (.slice A4 x.f4.length c4)
  rd : Rd w A3 c3 A4 c4 x
theorem Ce.below {w w' : World} {ad : Addr} {A3 c3 A4 c4} {x : S28} (h : Ce w ad A3 c3 A4 c4 x) (hb : Below w.heap.size w w') : Ce w' ad A3 c3 A4 c4 x :=
  ⟨(hb.cell (World.block_lt_of_cell? w _ h.h0)).trans h.h0, (hb.cell (World.block_lt_of_cell? w _ h.h1)).trans h.h1, (hb.cell (World.block_lt_of_cell? w _ h.h2)).trans h.h2, (hb.cell (World.block_lt_of_cell? w _ h.h3)).trans h.h3,
    (hb.cell (World.block_lt_of_cell? w _ h.h4)).trans h.h4, h.rd.below hb⟩
theorem el_at {w : World} {A : Option Addr} {n : Nat} {l : List S28} (h : Kd.C k28 w A n l) (i : Nat) (hi : i < n) {x : S28} (hx : l[i]? = some x) : ∃ ad A3 c3 A4 c4, A = some ad ∧ Ce w (ad.add (i * 5)) A3 c3 A4 c4 x := by
  obtain ⟨ad, A3, c3, A4, c4, e, a0, a1, a2, a3, a4, b1, b2, b3, b4⟩ := at_T28 h (i : Int) (by omega) (by omega)
  have e2 : rd_T28 l (i : Int) = x := by unfold rd_T28; rw [Int.toNat_natCast, List.getD_eq_getElem?_getD, hx]; rfl
  subst e2
  rw [Int.toNat_natCast] at *
  exact ⟨ad, A3, c3, A4, c4, e, ⟨a0, a1, a2, a3, a4, ⟨b1, b2, b3, b4⟩⟩⟩
/-- A value in block b. -/
structure Bv (w : World) (b : Nat) (A3 : Option Addr) (c3 : Nat) (A4 : Option Addr) (c4 : Nat) (x : S28) : Prop where
  blk : w.heap[b]? = some (.cells #[.int .i64 x.f0, .int .i64 x.f1, .string x.f2, .slice A3 x.f3.length c3, .slice A4 x.f4.length c4] 28 (0, 0))
  rd : Rd w A3 c3 A4 c4 x
theorem Bv.below {w w' : World} {b : Nat} {A3 c3 A4 c4} {x : S28} (h : Bv w b A3 c3 A4 c4 x) (hb : Below w.heap.size w w') : Bv w' b A3 c3 A4 c4 x :=
  ⟨(hb.block b (Array.getElem?_eq_some_iff.1 h.blk).1).trans h.blk, h.rd.below hb⟩
theorem Bv.cells {w : World} {b : Nat} {A3 c3 A4 c4} {x : S28} (h : Bv w b A3 c3 A4 c4 x) :
    w.cell? ⟨b, 0, none⟩ = some (.int .i64 x.f0) ∧ w.cell? ⟨b, 1, none⟩ = some (.int .i64 x.f1) ∧ w.cell? ⟨b, 2, none⟩ = some (.string x.f2) ∧ w.cell? ⟨b, 3, none⟩ = some (.slice A3 x.f3.length c3) ∧ w.cell? ⟨b, 4, none⟩ = some (.slice A4 x.f4.length c4) := by
  have hb := h.blk
  refine ⟨?_, ?_, ?_, ?_, ?_⟩ <;> simp [World.cell?, hb]
theorem Bv.new {w : World} {A3 c3 A4 c4} {x : S28} (h : Rd w A3 c3 A4 c4 x) : Bv (w.alloc (.cells #[.int .i64 x.f0, .int .i64 x.f1, .string x.f2, .slice A3 x.f3.length c3, .slice A4 x.f4.length c4] 28)) w.heap.size A3 c3 A4 c4 x :=
  ⟨heap_alloc_new w _, h.below ((Below.refl w.heap.size w).alloc (Nat.le_refl _) _)⟩
theorem new_below (w : World) (o : Obj) : Below w.heap.size w (w.alloc o) := (Below.refl w.heap.size w).alloc (Nat.le_refl _) _
/-- What is known of a value that came in. -/
inductive Wv : S28 → Prop
  | mk (x : S28) : (-9223372036854775808 ≤ x.f0 ∧ x.f0 ≤ 9223372036854775807) → (-9223372036854775808 ≤ x.f1 ∧ x.f1 ≤ 9223372036854775807) → x.f2.size ≤ 140737488351232 → x.f3.length ≤ 140737488351232 → (∀ q ∈ x.f3, q.size ≤ 140737488351232) → x.f4.length ≤ 140737488351232 → (∀ q ∈ x.f4, Wv q) → Wv x
theorem Wv.s {x : S28} (h : Wv x) : x.f2.size ≤ 140737488351232 := by cases h; assumption
theorem Wv.ks {x : S28} (h : Wv x) : ∀ q ∈ x.f3, q.size ≤ 140737488351232 := by cases h; assumption
theorem Wv.kl {x : S28} (h : Wv x) : x.f3.length ≤ 140737488351232 := by cases h; assumption
theorem Wv.el {x : S28} (h : Wv x) : x.f4.length ≤ 140737488351232 := by cases h; assumption
theorem Wv.es {x : S28} (h : Wv x) : ∀ q ∈ x.f4, Wv q := by cases h; assumption
theorem Wv.k {x : S28} (h : Wv x) : -9223372036854775808 ≤ x.f0 ∧ x.f0 ≤ 9223372036854775807 := by cases h; assumption
theorem Wv.i {x : S28} (h : Wv x) : -9223372036854775808 ≤ x.f1 ∧ x.f1 ≤ 9223372036854775807 := by cases h; assumption
theorem sz_mem {x y : S28} (h : y ∈ x.f4) : SizeOf.sizeOf y < SizeOf.sizeOf x := by
  have h1 := List.sizeOf_lt_of_mem h
  obtain ⟨a, b, c, d, e⟩ := x
  simp only [S28.mk.sizeOf_spec] at *
  omega
/-! ### keep.Count, keep.Small -/
def ksz : List ByteArray → Nat
  | [] => 0
  | k :: l => 1 + k.size + ksz l
mutual
def cnt : S28 → Nat
  | ⟨_, _, s, ks, es⟩ => 1 + s.size + ksz ks + cntL es
def cntL : List S28 → Nat
  | [] => 0
  | e :: l => cnt e + cntL l
end
theorem cnt_eq (x : S28) : cnt x = 1 + x.f2.size + ksz x.f3 + cntL x.f4 := by obtain ⟨a, b, c, d, e⟩ := x; rw [cnt]
theorem ksz_app (l m : List ByteArray) : ksz (l ++ m) = ksz l + ksz m := by
  induction l with
  | nil => simp [ksz]
  | cons k l ih => simp only [List.cons_append, ksz, ih]; omega
theorem cntL_app (l m : List S28) : cntL (l ++ m) = cntL l + cntL m := by
  induction l with
  | nil => simp [cntL]
  | cons k l ih => simp only [List.cons_append, cntL, ih]; omega
theorem ksz_take {l : List ByteArray} {i : Nat} {k : ByteArray} (h : l[i]? = some k) : ksz (l.take (i + 1)) = ksz (l.take i) + (1 + k.size) := by
  rw [List.take_add_one, h, ksz_app]
  simp [ksz]
theorem cntL_take {l : List S28} {i : Nat} {k : S28} (h : l[i]? = some k) : cntL (l.take (i + 1)) = cntL (l.take i) + cnt k := by
  rw [List.take_add_one, h, cntL_app]
  simp [cntL]
theorem ksz_le (l : List ByteArray) (i : Nat) : ksz (l.take i) ≤ ksz l := by
  have h := ksz_app (l.take i) (l.drop i)
  rw [List.take_append_drop] at h
  omega
theorem cntL_le (l : List S28) (i : Nat) : cntL (l.take i) ≤ cntL l := by
  have h := cntL_app (l.take i) (l.drop i)
  rw [List.take_append_drop] at h
  omega
def CntPost (most : Int) (c : Nat) (w : World) (e : Ending) (w' : World) : Prop := ∃ n : Int, e = .returned (.int .i64 n) ∧ 0 ≤ n ∧ n ≤ most + 281474976710656 ∧ ((c : Int) ≤ most ↔ n ≤ most) ∧ ((c : Int) ≤ most → n = (c : Int)) ∧ Below w.heap.size w w'
theorem str_at {w : World} {A : Option Addr} {n : Nat} {l : List ByteArray} (h : Kd.C Kd.string w A n l) (i : Nat) (hi : i < n) {x : ByteArray} (hx : l[i]? = some x) : ∃ ad, A = some ad ∧ w.cell? (ad.add i) = some (.string x) := by
  obtain ⟨ad, c, e, hl, hK, hc0⟩ := Kd.C_get h (⟨#[]⟩ : ByteArray) (i : Int) (by omega) (by omega)
  rw [Int.toNat_natCast, List.getD_eq_getElem?_getD, hx] at hK
  have hK : c = [.string x] := hK
  subst hK
  refine ⟨ad, e, ?_⟩
  have := hc0 0 _ rfl
  rwa [Int.toNat_natCast, show i * Kd.string.sz + 0 = i from by show i * 1 + 0 = i; omega] at this
theorem countC (s : Nat) : ∀ (x : S28) (most : Int) (w : World) {A3 : Option Addr} {c3 : Nat} {A4 : Option Addr} {c4 : Nat}, SizeOf.sizeOf x < s → Wv x → 0 ≤ most → most ≤ 1000000 → Rd w A3 c3 A4 c4 x →
    Calls Try.prog 41 #[.agg #[.int .i64 x.f0, .int .i64 x.f1, .string x.f2, .slice A3 x.f3.length c3, .slice A4 x.f4.length c4], .int .i64 most] w (CntPost most (cnt x) w) := by
  induction s with
  | zero => intro x most w A3 c3 A4 c4 h; omega
  | succ s ih =>
  intro x most w A3 c3 A4 c4 hs hx h0 h1 hr
  have HR := Aside0.mk hr
  have HX := Aside0.mk hx
  have HS := Aside0.mk hs
  have h2 := hx.s
  have h3 := hx.kl
  have h4 := hx.el
  clear hs hx hr
  go_enter Try.func41, Try.ntmps41
  go_upto_region 2 with fail
  have HB := Aside0.mk (Bv.new (HR.out))
  have HW := Aside0.mk (new_below w (.cells #[.int .i64 x.f0, .int .i64 x.f1, .string x.f2, .slice A3 x.f3.length c3, .slice A4 x.f4.length c4] 28))
  obtain ⟨b, hb⟩ : ∃ b, w.heap.size = b := ⟨_, rfl⟩
  obtain ⟨W, hW⟩ : ∃ W, w.alloc (.cells #[.int .i64 x.f0, .int .i64 x.f1, .string x.f2, .slice A3 x.f3.length c3, .slice A4 x.f4.length c4] 28) = W := ⟨_, rfl⟩
  rw [hW, hb] at HB
  rw [hW] at HW
  rw [hW, hb]
  clear hW hb HR
  go_wp2_with fail
  obtain ⟨c0, c1, c2, c3_, c4_⟩ := HB.out.cells
  go_loopg [5, 6] x.f3.length (fun kq v5 v6 w' => ∃ (i : Nat) (n : Int), kq + i = x.f3.length ∧ v6 = .int .i64 (i : Int) ∧ v5 = .int .i64 n ∧ Aside0 (n = 1 + x.f2.size + ksz (x.f3.take i)) ∧ (0 ≤ n ∧ n ≤ most + 281474976710656) ∧ w' = W)
  case atStart => exact ⟨0, _, by omega, rfl, rfl, ⟨by simp [ksz]⟩, by omega, rfl⟩
  case round =>
    obtain ⟨i, n, hi, rfl, rfl, HN, hn, rfl⟩ := hrel
    by_cases ci : i < x.f3.length ∧ n ≤ most
    · obtain ⟨ci, cn⟩ := ci
      have g0 : decide ((i : Int) < (x.f3.length : Int)) = true := decide_eq_true (by omega)
      have g1 : decide (n ≤ most) = true := decide_eq_true (by omega)
      have g2 : (0 ≤ (i : Int)) = True := eq_true (by omega)
      have g3 : ((i : Int) < (x.f3.length : Int)) = True := eq_true (by omega)
      obtain ⟨j1, rfl⟩ : ∃ j1, gk = j1 + 1 := ⟨gk - 1, by omega⟩
      have hil : x.f3[i]? = some x.f3[i] := List.getElem?_eq_getElem ci
      have hq := HX.out.ks _ (List.getElem_mem ci)
      obtain ⟨q, hq'⟩ : ∃ q, x.f3[i] = q := ⟨_, rfl⟩
      rw [hq'] at hil hq
      obtain ⟨ad, e1, he⟩ := str_at HB.out.rd.r3 i ci hil
      have HT := Aside0.mk (ksz_take hil)
      have HI := Aside0.mk hi
      clear hil hq' hi
      subst e1
      go_wp2
      go_roundg j1
      case measure => omega
      case rel => exact ⟨i + 1, n + (1 + (q.size : Int)), by have := HI.out; omega, rfl, rfl, ⟨by have h1 := HT.out; have h2 := HN.out; omega⟩, by omega, rfl⟩
    · have hle := ksz_le x.f3 i
      have hc := cnt_eq x
      have HJ : Aside0 ((n ≤ most → n = 1 + x.f2.size + ksz x.f3 + cntL (x.f4.take 0)) ∧ (most < n → most < (cnt x : Int))) := ⟨by
        have h1 := HN.out
        refine ⟨fun hm => ?_, fun hm => by omega⟩
        have hil : i = x.f3.length := by omega
        rw [hil, List.take_length] at h1
        simp [cntL]
        omega⟩
      have g : (decide (i < x.f3.length) = true ∧ decide (n ≤ most) = false) ∨ decide (i < x.f3.length) = false := by
        by_cases c : i < x.f3.length
        · exact .inl ⟨decide_eq_true (by omega), decide_eq_false (by omega)⟩
        · exact .inr (decide_eq_false (by omega))
      clear hle hc ci HN hi
      rcases g with ⟨g0, g1⟩ | g0
      all_goals
        go_wp2
        clear c0 c1 c2 c3_ c4_
        go_loopg [5, 7] x.f4.length (fun kq v5 v7 w' => ∃ (i : Nat) (n : Int), kq + i = x.f4.length ∧ v7 = .int .i64 (i : Int) ∧ v5 = .int .i64 n ∧ Aside0 ((n ≤ most → n = 1 + x.f2.size + ksz x.f3 + cntL (x.f4.take i)) ∧ (most < n → most < (cnt x : Int))) ∧ (0 ≤ n ∧ n ≤ most + 281474976710656) ∧ Aside0 (Bv w' b A3 c3 A4 c4 x) ∧ Aside0 (Below w.heap.size w w'))
        case atStart => exact ⟨0, _, by omega, rfl, rfl, HJ, by omega, HB, HW⟩
        case round =>
          clear HB HW HJ
          obtain ⟨i, n, hi, rfl, rfl, HN, hn, HB, HW⟩ := hrel
          obtain ⟨c0, c1, c2, c3_, c4_⟩ := HB.out.cells
          by_cases ci : i < x.f4.length ∧ n ≤ most
          · obtain ⟨ci, cn⟩ := ci
            have g0 : decide ((i : Int) < (x.f4.length : Int)) = true := decide_eq_true (by omega)
            have g1 : decide (n ≤ most) = true := decide_eq_true (by omega)
            have g2 : (0 ≤ (i : Int)) = True := eq_true (by omega)
            have g3 : ((i : Int) < (x.f4.length : Int)) = True := eq_true (by omega)
            obtain ⟨j1, rfl⟩ : ∃ j1, gk = j1 + 1 := ⟨gk - 1, by omega⟩
            have hil : x.f4[i]? = some x.f4[i] := List.getElem?_eq_getElem ci
            have hm := List.getElem_mem ci
            have hq := HX.out.es _ hm
            have hz := sz_mem hm
            obtain ⟨y, hq'⟩ : ∃ y, x.f4[i] = y := ⟨_, rfl⟩
            rw [hq'] at hil hq hz
            obtain ⟨ad, Y3, y3, Y4, y4, e1, he⟩ := el_at HB.out.rd.r4 i ci hil
            have HT := Aside0.mk (cntL_take hil)
            have HI := Aside0.mk hi
            have HY := Aside0.mk (ih y (most - n) wr (by have := HS.out; omega) hq (by omega) (by omega) he.rd)
            obtain ⟨e0, e2, e3, e4, e5, _⟩ := he
            have hc := cnt_eq x
            have hle := cntL_le x.f4 (i + 1)
            have HC : Aside0 (cnt x = 1 + x.f2.size + ksz x.f3 + cntL x.f4 ∧ cntL (x.f4.take (i + 1)) ≤ cntL x.f4) := ⟨hc, hle⟩
            clear hil hq' hi hm hq hz hc hle
            subst e1
            go_wp2_with (go_at_call 41; (with_reducible refine HY.out.mono ?_); rintro e we ⟨n3, rfl, p0, p1, p2, p3, hb⟩; have HP := Aside0.mk (And.intro p2 p3); have HB2 := Aside0.mk (HB.out.below hb); clear HB; have HB := HB2; clear HB2; have HW2 := Aside0.mk (below_step HW.out hb); clear HW; have HW := HW2; clear HW2 p2 p3 hb)
            go_roundg j1
            case measure => omega
            case rel =>
              refine ⟨i + 1, n + n3, by have := HI.out; omega, rfl, rfl, ⟨?_⟩, by omega, HB, HW⟩
              have h1 := HT.out
              have h2 := HN.out
              have h3 := HP.out
              have h4 := HC.out
              omega
          · have HC := Aside0.mk (And.intro (cnt_eq x) ci)
            have g : (decide (i < x.f4.length) = true ∧ decide (n ≤ most) = false) ∨ decide (i < x.f4.length) = false := by
              by_cases c : i < x.f4.length
              · exact .inl ⟨decide_eq_true (by omega), decide_eq_false (by omega)⟩
              · exact .inr (decide_eq_false (by omega))
            have HF : Aside0 (((cnt x : Int) ≤ most ↔ n ≤ most) ∧ ((cnt x : Int) ≤ most → n = (cnt x : Int))) := ⟨by
              have h2 := HN.out
              obtain ⟨h3, h4⟩ := HC.out
              have h5 : n ≤ most → n = (cnt x : Int) := fun hm => by
                have hil : i = x.f4.length := by omega
                rw [hil, List.take_length] at h2
                omega
              refine ⟨⟨fun hm => by omega, fun hm => by have := h5 hm; omega⟩, fun hm => h5 (by omega)⟩⟩
            clear HC ci hi HN
            rcases g with ⟨g0, g1⟩ | g0
            all_goals
              go_wp2
              go_ret
              exact ⟨n, rfl, hn.1, hn.2, HF.out.1, HF.out.2, HW.out⟩
end Go.Proofs.Ytgpjkojnmeaoiaa.QV

/- The preorder of worlds for regions that draw their order. -/
namespace Go.Proofs.Ytgpjkojnmeaoiaa.QV
open Go Go.RowKit Go.Proofs.YtgpjkojnmeaoiaaW.PrintWords Go.Proofs.YtgpjkojnmeaoiaaW.PrintLast Go.Proofs.YtgpjkojnmeaoiaaW.PrintMore
def AB (a b : World) : Prop := Below a.heap.size a b
theorem preB : Go.Up.Pre AB := ⟨fun _ => Below.refl _ _, fun h k => below_step h k⟩
end Go.Proofs.Ytgpjkojnmeaoiaa.QV

/- vals.formed, the meter, vals.Valid, by hand. -/
namespace Go.Proofs.Ytgpjkojnmeaoiaa.QV
open Go Go.RowKit Go.Proofs.YtgpjkojnmeaoiaaW.PrintWords Go.Proofs.YtgpjkojnmeaoiaaW.PrintLast Go.Proofs.YtgpjkojnmeaoiaaW.PrintMore
set_option linter.unusedVariables false
set_option linter.unusedSimpArgs false
set_option maxRecDepth 100000
set_option maxHeartbeats 4000000
theorem drawn_below {w w' : World} (h : Drawn0 w w') : Below w.heap.size w w' := Drawn0.below h
theorem u8C (s : ByteArray) (hs : s.size ≤ 140737488351232) (w : World) : Calls Try.prog 43 #[.string s] w fun e w' => e = .returned (.bool (u8 s)) ∧ Drawn0 w w' :=
  utf_Valid.calls (s.size + 10) s _ w (valid_at s hs _ (Nat.le_refl _))
theorem ru8C (s : ByteArray) (hs : s.size < 17592186044416) (w : World) : Calls Try.prog 45 #[.string s] w fun e w' => e = .returned (.bool (u8 s)) ∧ Below w.heap.size w w' :=
  ndjqref01_Valid.calls (s.size + 20) s _ w (rvalid_at s hs _ (Nat.le_refl _))
/-! ### the keys in ascending order, a value's fields -/
def blt (a b : ByteArray) : Bool := Op.bytesLess a.toList b.toList
def ko : Option ByteArray → List ByteArray → Bool
  | _, [] => true
  | p, k :: l => decide (k.size ≤ 4096) && u8 k && (match p with | none => true | some q => blt q k) && ko (some k) l
theorem ko_nil (p : Option ByteArray) : ko p [] = true := by cases p <;> rfl
theorem ko_cons (p : Option ByteArray) (k : ByteArray) (l : List ByteArray) : ko p (k :: l) = (decide (k.size ≤ 4096) && u8 k && (match p with | none => true | some q => blt q k) && ko (some k) l) := by cases p <;> rfl
def kz (x : S28) : Bool := (x.f0 == 3 || x.f1 == 0) && (x.f0 == 4 || x.f2.toList == []) && (x.f0 == 6 || x.f3.length == 0) && (decide (5 ≤ x.f0) || x.f4.length == 0)
def fm (x : S28) : Bool := kz x && u8 x.f2 && (x.f0 != 6 || (x.f3.length == x.f4.length && decide (x.f3.length ≤ 1024) && ko none x.f3))
theorem rdS_at {l : List ByteArray} {i : Nat} {k : ByteArray} (h : l[i]? = some k) : rdOf ByteArray.empty l (i : Int) = k := by
  unfold rdOf
  rw [Int.toNat_natCast, List.getD_eq_getElem?_getD, h]
  rfl
theorem below_drawn {B : Nat} {w W W' : World} (h : Below B w W) (hB : B ≤ W.heap.size) (hd : Drawn0 W W') : Below B w W' := h.trans ((drawn_below hd).mono hB)
theorem step_drawn {w W W' : World} (h : Below w.heap.size w W) (hd : Drawn0 W W') : Below w.heap.size w W' := below_step h (drawn_below hd)
theorem isE {s : ByteArray} (h : s.toList = []) : s.toList.isEmpty = true ∧ (!s.toList.isEmpty) = false := by rw [h]; exact ⟨rfl, rfl⟩
theorem isN {s : ByteArray} (h : ¬ s.toList = []) : s.toList.isEmpty = false ∧ (!s.toList.isEmpty) = true := by
  cases e : s.toList with
  | nil => exact absurd e h
  | cons a l => exact ⟨rfl, rfl⟩
theorem blt_cases (p q : ByteArray) : (blt p q = true ∧ Op.bytesLess q.toList p.toList = false ∧ (q.toList == p.toList) = false) ∨ (blt p q = false ∧ Op.bytesLess q.toList p.toList = true) ∨ (blt p q = false ∧ Op.bytesLess q.toList p.toList = false ∧ (q.toList == p.toList) = true) := by
  unfold blt
  rw [bytesLess_eq, bytesLess_eq]
  by_cases h1 : p.toList < q.toList
  · refine .inl ⟨decide_eq_true h1, decide_eq_false (List.lt_asymm h1), ?_⟩
    rw [beq_eq_false_iff_ne]
    intro e
    rw [e] at h1
    exact List.lt_irrefl _ h1
  · by_cases h2 : q.toList < p.toList
    · exact .inr (.inl ⟨decide_eq_false h1, decide_eq_true h2⟩)
    · refine .inr (.inr ⟨decide_eq_false h1, decide_eq_false h2, ?_⟩)
      rw [beq_iff_eq]
      exact List.le_antisymm (List.not_lt.1 h1) (List.not_lt.1 h2)
theorem fmC (x : S28) (hx : Wv x) (w : World) {A3 : Option Addr} {c3 : Nat} {A4 : Option Addr} {c4 : Nat} (hr : Rd w A3 c3 A4 c4 x) : Calls Try.prog 85 #[.agg #[.int .i64 x.f0, .int .i64 x.f1, .string x.f2, .slice A3 x.f3.length c3, .slice A4 x.f4.length c4]] w fun e w' => e = .returned (.bool (fm x)) ∧ Below w.heap.size w w' := by
  obtain ⟨a, b, s, ks, es⟩ := x
  have hs := hx.s
  have HX := Aside0.mk hx
  have HR := Aside0.mk hr
  have HU := Aside0.mk (fun W => u8C s hs W)
  obtain ⟨u, hu⟩ : ∃ u, u8 s = u := ⟨_, rfl⟩
  obtain ⟨r, hfr⟩ : ∃ r, fm ⟨a, b, s, ks, es⟩ = r := ⟨_, rfl⟩
  rw [hu] at HU
  rw [hfr]
  have HF := Aside0.mk hfr
  have Hu := Aside0.mk hu
  have h2 := hx.kl
  have h3 := hx.el
  dsimp only at *
  clear hx hr hs hu hfr
  go_enter Try.func85, Try.ntmps85
  go_upto_region 1 with fail
  have HB := Aside0.mk (Bv.new (HR.out))
  have HW := Aside0.mk (new_below w (.cells #[.int .i64 ((S28.mk a b s ks es)).f0, .int .i64 ((S28.mk a b s ks es)).f1, .string ((S28.mk a b s ks es)).f2, .slice A3 ((S28.mk a b s ks es)).f3.length c3, .slice A4 ((S28.mk a b s ks es)).f4.length c4] 28))
  dsimp only at HB HW
  obtain ⟨bb, hb⟩ : ∃ b, w.heap.size = b := ⟨_, rfl⟩
  obtain ⟨W, hW⟩ : ∃ W, w.alloc (.cells #[.int .i64 a, .int .i64 b, .string s, .slice A3 ks.length c3, .slice A4 es.length c4] 28) = W := ⟨_, rfl⟩
  rw [hW, hb] at HB
  rw [hW] at HW
  rw [hW, hb]
  clear hW hb HR
  obtain ⟨q0, q1, q2, q3, q4⟩ := HB.out.cells
  dsimp only at q0 q1 q2 q3 q4
  have cls : a = 3 ∨ a = 4 ∨ a = 6 ∨ (a ≠ 3 ∧ a ≠ 4 ∧ a ≠ 6 ∧ a < 5) ∨ (a ≠ 3 ∧ a ≠ 4 ∧ a ≠ 6 ∧ 5 ≤ a) := by omega
  rcases cls with rfl | rfl | rfl | cls | cls
  · skip
    by_cases ts : s.toList = []
    rotate_left
    · have HT := Aside0.mk ts
      obtain ⟨p2, p2'⟩ := isN ts
      clear ts
      have hF := HF.out
      have hff : r = false := by rw [← hF]; simp [fm, kz, HT.out]
      subst hff
      clear hF
      clear HF
      go_wp2_with (first | (go_at_call 43; (with_reducible refine (HU.out _).mono ?_); rintro e we ⟨rfl, ⟨nd, rfl⟩⟩))
      go_ret
      first | exact ⟨rfl, HW.out⟩ | exact ⟨rfl, step_drawn HW.out ⟨_, rfl⟩⟩
    have HTs := Aside0.mk ts
    obtain ⟨p2, p2'⟩ := isE ts
    clear ts
    by_cases tk : ks.length = 0
    rotate_left
    · have HT := Aside0.mk tk
      have p3 : decide (0 < ks.length) = true := decide_eq_true (by omega); have p3' : decide ((0 : Int) < (ks.length : Int)) = true := decide_eq_true (by omega)
      clear tk
      have hF := HF.out
      have hff : r = false := by rw [← hF]; simp [fm, kz, HT.out, HTs.out]
      subst hff
      clear hF
      clear HF
      go_wp2_with (first | (go_at_call 43; (with_reducible refine (HU.out _).mono ?_); rintro e we ⟨rfl, ⟨nd, rfl⟩⟩))
      go_ret
      first | exact ⟨rfl, HW.out⟩ | exact ⟨rfl, step_drawn HW.out ⟨_, rfl⟩⟩
    have HTk := Aside0.mk tk
    have p3 : decide (0 < ks.length) = false := decide_eq_false (by omega); have p3' : decide ((0 : Int) < (ks.length : Int)) = false := decide_eq_false (by omega)
    clear tk
    by_cases te : es.length = 0
    rotate_left
    · have HT := Aside0.mk te
      have p4 : decide (0 < es.length) = true := decide_eq_true (by omega); have p4' : decide ((0 : Int) < (es.length : Int)) = true := decide_eq_true (by omega)
      clear te
      have hF := HF.out
      have hff : r = false := by rw [← hF]; simp [fm, kz, HT.out, HTs.out, HTk.out]
      subst hff
      clear hF
      clear HF
      go_wp2_with (first | (go_at_call 43; (with_reducible refine (HU.out _).mono ?_); rintro e we ⟨rfl, ⟨nd, rfl⟩⟩))
      go_ret
      first | exact ⟨rfl, HW.out⟩ | exact ⟨rfl, step_drawn HW.out ⟨_, rfl⟩⟩
    have HTe := Aside0.mk te
    have p4 : decide (0 < es.length) = false := decide_eq_false (by omega); have p4' : decide ((0 : Int) < (es.length : Int)) = false := decide_eq_false (by omega)
    clear te
    cases u with
    | false =>
      have hF := HF.out
      have hff : r = false := by rw [← hF]; simp [fm, kz, Hu.out, HTs.out, HTk.out, HTe.out]
      subst hff
      clear hF
      clear HF
      go_wp2_with (first | (go_at_call 43; (with_reducible refine (HU.out _).mono ?_); rintro e we ⟨rfl, ⟨nd, rfl⟩⟩))
      go_ret
      first | exact ⟨rfl, HW.out⟩ | exact ⟨rfl, step_drawn HW.out ⟨_, rfl⟩⟩
    | true =>
      have hF := HF.out
      have hff : r = true := by rw [← hF]; simp [fm, kz, Hu.out, HTs.out, HTk.out, HTe.out]
      subst hff
      clear hF HF
      go_wp2_with (first | (go_at_call 43; (with_reducible refine (HU.out _).mono ?_); rintro e we ⟨rfl, ⟨nd, rfl⟩⟩))
      go_ret
      exact ⟨rfl, step_drawn HW.out ⟨_, rfl⟩⟩
  · skip
    by_cases tb : b = 0
    rotate_left
    · have HT := Aside0.mk tb
      have p1 : (b != 0) = true := by simpa using tb
      clear tb
      have hF := HF.out
      have hff : r = false := by rw [← hF]; simp [fm, kz, HT.out]
      subst hff
      clear hF
      clear HF
      go_wp2_with (first | (go_at_call 43; (with_reducible refine (HU.out _).mono ?_); rintro e we ⟨rfl, ⟨nd, rfl⟩⟩))
      go_ret
      first | exact ⟨rfl, HW.out⟩ | exact ⟨rfl, step_drawn HW.out ⟨_, rfl⟩⟩
    have HTb := Aside0.mk tb
    have p1 : (b != 0) = false := by rw [tb]; rfl
    clear tb
    by_cases tk : ks.length = 0
    rotate_left
    · have HT := Aside0.mk tk
      have p3 : decide (0 < ks.length) = true := decide_eq_true (by omega); have p3' : decide ((0 : Int) < (ks.length : Int)) = true := decide_eq_true (by omega)
      clear tk
      have hF := HF.out
      have hff : r = false := by rw [← hF]; simp [fm, kz, HT.out, HTb.out]
      subst hff
      clear hF
      clear HF
      go_wp2_with (first | (go_at_call 43; (with_reducible refine (HU.out _).mono ?_); rintro e we ⟨rfl, ⟨nd, rfl⟩⟩))
      go_ret
      first | exact ⟨rfl, HW.out⟩ | exact ⟨rfl, step_drawn HW.out ⟨_, rfl⟩⟩
    have HTk := Aside0.mk tk
    have p3 : decide (0 < ks.length) = false := decide_eq_false (by omega); have p3' : decide ((0 : Int) < (ks.length : Int)) = false := decide_eq_false (by omega)
    clear tk
    by_cases te : es.length = 0
    rotate_left
    · have HT := Aside0.mk te
      have p4 : decide (0 < es.length) = true := decide_eq_true (by omega); have p4' : decide ((0 : Int) < (es.length : Int)) = true := decide_eq_true (by omega)
      clear te
      have hF := HF.out
      have hff : r = false := by rw [← hF]; simp [fm, kz, HT.out, HTb.out, HTk.out]
      subst hff
      clear hF
      clear HF
      go_wp2_with (first | (go_at_call 43; (with_reducible refine (HU.out _).mono ?_); rintro e we ⟨rfl, ⟨nd, rfl⟩⟩))
      go_ret
      first | exact ⟨rfl, HW.out⟩ | exact ⟨rfl, step_drawn HW.out ⟨_, rfl⟩⟩
    have HTe := Aside0.mk te
    have p4 : decide (0 < es.length) = false := decide_eq_false (by omega); have p4' : decide ((0 : Int) < (es.length : Int)) = false := decide_eq_false (by omega)
    clear te
    cases u with
    | false =>
      have hF := HF.out
      have hff : r = false := by rw [← hF]; simp [fm, kz, Hu.out, HTb.out, HTk.out, HTe.out]
      subst hff
      clear hF
      clear HF
      go_wp2_with (first | (go_at_call 43; (with_reducible refine (HU.out _).mono ?_); rintro e we ⟨rfl, ⟨nd, rfl⟩⟩))
      go_ret
      first | exact ⟨rfl, HW.out⟩ | exact ⟨rfl, step_drawn HW.out ⟨_, rfl⟩⟩
    | true =>
      have hF := HF.out
      have hff : r = true := by rw [← hF]; simp [fm, kz, Hu.out, HTb.out, HTk.out, HTe.out]
      subst hff
      clear hF HF
      go_wp2_with (first | (go_at_call 43; (with_reducible refine (HU.out _).mono ?_); rintro e we ⟨rfl, ⟨nd, rfl⟩⟩))
      go_ret
      exact ⟨rfl, step_drawn HW.out ⟨_, rfl⟩⟩
  · skip
    by_cases tb : b = 0
    rotate_left
    · have HT := Aside0.mk tb
      have p1 : (b != 0) = true := by simpa using tb
      clear tb
      have hF := HF.out
      have hff : r = false := by rw [← hF]; simp [fm, kz, HT.out]
      subst hff
      clear hF
      clear HF
      go_wp2_with (first | (go_at_call 43; (with_reducible refine (HU.out _).mono ?_); rintro e we ⟨rfl, ⟨nd, rfl⟩⟩))
      go_ret
      first | exact ⟨rfl, HW.out⟩ | exact ⟨rfl, step_drawn HW.out ⟨_, rfl⟩⟩
    have HTb := Aside0.mk tb
    have p1 : (b != 0) = false := by rw [tb]; rfl
    clear tb
    by_cases ts : s.toList = []
    rotate_left
    · have HT := Aside0.mk ts
      obtain ⟨p2, p2'⟩ := isN ts
      clear ts
      have hF := HF.out
      have hff : r = false := by rw [← hF]; simp [fm, kz, HT.out, HTb.out]
      subst hff
      clear hF
      clear HF
      go_wp2_with (first | (go_at_call 43; (with_reducible refine (HU.out _).mono ?_); rintro e we ⟨rfl, ⟨nd, rfl⟩⟩))
      go_ret
      first | exact ⟨rfl, HW.out⟩ | exact ⟨rfl, step_drawn HW.out ⟨_, rfl⟩⟩
    have HTs := Aside0.mk ts
    obtain ⟨p2, p2'⟩ := isE ts
    clear ts
    cases u with
    | false =>
      have hF := HF.out
      have hff : r = false := by rw [← hF]; simp [fm, kz, Hu.out, HTb.out, HTs.out]
      subst hff
      clear hF
      clear HF
      go_wp2_with (first | (go_at_call 43; (with_reducible refine (HU.out _).mono ?_); rintro e we ⟨rfl, ⟨nd, rfl⟩⟩))
      go_ret
      first | exact ⟨rfl, HW.out⟩ | exact ⟨rfl, step_drawn HW.out ⟨_, rfl⟩⟩
    | true =>
      by_cases tl : ks.length = es.length
      rotate_left
      · have HT := Aside0.mk tl
        have p5 : (ks.length != es.length) = true := bne_iff_ne.mpr tl
        have p5' : ((ks.length : Int) != (es.length : Int)) = true := bne_iff_ne.mpr (by omega)
        clear tl
        have hF := HF.out
        have hff : r = false := by rw [← hF]; simp [fm, kz, HT.out, Hu.out, HTb.out, HTs.out]
        subst hff
        clear hF
        clear HF
        go_wp2_with (first | (go_at_call 43; (with_reducible refine (HU.out _).mono ?_); rintro e we ⟨rfl, ⟨nd, rfl⟩⟩))
        go_ret
        first | exact ⟨rfl, HW.out⟩ | exact ⟨rfl, step_drawn HW.out ⟨_, rfl⟩⟩
      have HTl := Aside0.mk tl
      have p5 : (ks.length != es.length) = false := by rw [tl]; simp
      have p5' : ((ks.length : Int) != (es.length : Int)) = false := by rw [tl]; simp
      clear tl
      by_cases tm : ks.length ≤ 1024
      rotate_left
      · have HT := Aside0.mk tm
        have p6 : decide (1024 < ks.length) = true := decide_eq_true (by omega)
        have p6' : decide ((1024 : Int) < (ks.length : Int)) = true := decide_eq_true (by omega)
        have p6'' : decide ((ks.length : Int) > 1024) = true := decide_eq_true (by omega)
        clear tm
        have hF := HF.out
        have hff : r = false := by rw [← hF]; simp [fm, kz, HT.out, Hu.out, HTb.out, HTs.out]
        subst hff
        clear hF
        clear HF
        go_wp2_with (first | (go_at_call 43; (with_reducible refine (HU.out _).mono ?_); rintro e we ⟨rfl, ⟨nd, rfl⟩⟩))
        go_ret
        first | exact ⟨rfl, HW.out⟩ | exact ⟨rfl, step_drawn HW.out ⟨_, rfl⟩⟩
      have HF2 : Aside0 (ko none ks = r) := ⟨by
        have hF := HF.out
        rw [← hF]
        simp [fm, kz, Hu.out, HTb.out, HTs.out, HTl.out]
        intro _
        have := HTl.out
        omega⟩
      have p6 : decide (1024 < ks.length) = false := decide_eq_false (by omega)
      have p6' : decide ((1024 : Int) < (ks.length : Int)) = false := decide_eq_false (by omega)
      have p6'' : decide ((ks.length : Int) > 1024) = false := decide_eq_false (by omega)
      clear HF HTl HTb HTs Hu
      go_wp2_with (first | (go_at_call 43; (with_reducible refine (HU.out _).mono ?_); rintro e we ⟨rfl, ⟨nd, rfl⟩⟩))
      clear p1 p2 p2' p5 p5' p6 p6' p6'' q0 q1 q2 q3 q4 HU
      go_loopg [70] ks.length (fun kq v70 w' => ∃ (i : Nat), kq + i = ks.length ∧ v70 = .int .i64 (i : Int) ∧ Aside0 (ko (if i = 0 then none else ks[i - 1]?) (ks.drop i) = r) ∧ Aside0 (Bv w' bb A3 c3 A4 c4 ⟨6, b, s, ks, es⟩) ∧ Aside0 (Below w.heap.size w w'))
      case atStart => exact ⟨0, by omega, rfl, HF2, ⟨HB.out.below (drawn_below ⟨_, rfl⟩)⟩, ⟨step_drawn HW.out ⟨_, rfl⟩⟩⟩
      case round =>
        clear HB HW HF2
        obtain ⟨i, hi, rfl, HF, HB, HW⟩ := hrel
        obtain ⟨q0, q1, q2, q3, q4⟩ := HB.out.cells
        dsimp only at q0 q1 q2 q3 q4
        have hkr := HB.out.rd.r3
        dsimp only at hkr
        by_cases ci : i < ks.length
        rotate_left
        · have g0 : decide (i < ks.length) = false := decide_eq_false ci
          have hF := HF.out
          rw [List.drop_eq_nil_of_le (by omega), ko_nil] at hF
          subst hF
          clear HF hkr
          go_wp2
          go_ret
          exact ⟨rfl, HW.out⟩
        have hil : ks[i]? = some ks[i] := List.getElem?_eq_getElem ci
        have hm := List.getElem_mem ci
        have hqz := HX.out.ks _ hm
        have hd := List.drop_eq_getElem_cons ci
        obtain ⟨q, hq⟩ : ∃ q, ks[i] = q := ⟨_, rfl⟩
        rw [hq] at hil hqz hd
        obtain ⟨ad, e1, he⟩ := str_at hkr i ci hil
        have hF := HF.out
        rw [hd, ko_cons] at hF
        have g0 : decide ((i : Int) < (ks.length : Int)) = true := decide_eq_true (by omega)
        have g2 : (0 ≤ (i : Int)) = True := eq_true (by omega)
        have g3 : ((i : Int) < (ks.length : Int)) = True := eq_true (by omega)
        obtain ⟨j1, rfl⟩ : ∃ j1, gk = j1 + 1 := ⟨gk - 1, by omega⟩
        have HI := Aside0.mk hi
        have HD := Aside0.mk hil
        have HV := Aside0.mk (fun W => u8C q hqz W)
        subst e1
        clear hi hd hq hm HF
        by_cases c1 : q.size ≤ 4096
        rotate_left
        · have hff : r = false := by rw [← hF, decide_eq_false c1]; rfl
          subst hff
          have p7 : decide (4096 < q.size) = true := decide_eq_true (by omega)
          have p7' : decide ((q.size : Int) > 4096) = true := decide_eq_true (by omega)
          clear hF hil hqz hkr c1 HV
          go_wp2
          go_ret
          exact ⟨rfl, HW.out⟩
        have p7 : decide (4096 < q.size) = false := decide_eq_false (by omega)
        have p7' : decide ((q.size : Int) > 4096) = false := decide_eq_false (by omega)
        rw [decide_eq_true c1, Bool.true_and] at hF
        obtain ⟨v, hv⟩ : ∃ v, u8 q = v := ⟨_, rfl⟩
        rw [hv] at hF HV
        cases v with
        | false =>
          have hff : r = false := by rw [← hF]; rfl
          subst hff
          clear hF hil hqz hkr c1 hv
          go_wp2_with (first | (go_at_call 43; (with_reducible refine (HV.out _).mono ?_); rintro e we ⟨rfl, ⟨nd, rfl⟩⟩))
          go_ret
          exact ⟨rfl, step_drawn HW.out ⟨_, rfl⟩⟩
        | true =>
          rw [Bool.true_and] at hF
          by_cases c2 : i = 0
          · subst c2
            have hG : Aside0 (ko (some q) (ks.drop 1) = r) := ⟨hF⟩
            have he0 : wr.cell? ad = some (.string q) := he
            clear hF hil hqz hkr c1 hv he
            go_wp2_with (first | (go_at_call 43; (with_reducible refine (HV.out _).mono ?_); rintro e we ⟨rfl, ⟨nd, rfl⟩⟩))
            go_roundg j1
            case measure => omega
            case rel => exact ⟨1, by have := HI.out; omega, rfl, ⟨by have h1 := HD.out; simp only [Nat.sub_self, h1]; exact hG.out⟩, ⟨HB.out.below (drawn_below ⟨_, rfl⟩)⟩, ⟨step_drawn HW.out ⟨_, rfl⟩⟩⟩
          · obtain ⟨i, rfl⟩ : ∃ m, i = m + 1 := ⟨i - 1, by omega⟩
            have hpi : ks[i]? = some ks[i] := List.getElem?_eq_getElem (by omega)
            obtain ⟨p, hp⟩ : ∃ p, ks[i] = p := ⟨_, rfl⟩
            rw [hp] at hpi
            obtain ⟨ad', e1', he'⟩ := str_at hkr i (by omega) hpi
            obtain rfl : ad = ad' := Option.some.inj e1'
            rw [if_neg c2, Nat.add_sub_cancel, hpi] at hF
            dsimp only at hF
            have g4 : decide (((i + 1 : Nat) : Int) > 0) = true := decide_eq_true (by omega)
            have g5 : decide (0 < i + 1) = true := decide_eq_true (by omega)
            have hcs := blt_cases p q
            have he0 : wr.cell? ⟨ad.block, ad.off + (i + 1), none⟩ = some (.string q) := he
            have g6 : (0 ≤ (i : Int)) = True := eq_true (by omega)
            have g7 : ((i : Int) < (ks.length : Int)) = True := eq_true (by omega)
            clear hil hqz hkr c1 hv hp hpi e1' c2 he
            rcases hcs with ⟨b1, b2, b3⟩ | ⟨b1, b2⟩ | ⟨b1, b2, b3⟩
            · rw [b1, Bool.true_and] at hF
              have hG := Aside0.mk hF
              clear hF b1
              go_wp2_with (first | (go_at_call 43; (with_reducible refine (HV.out _).mono ?_); rintro e we ⟨rfl, ⟨nd, rfl⟩⟩))
              go_roundg j1
              case measure => omega
              case rel => exact ⟨i + 2, by have := HI.out; omega, by first | rfl | (congr 1; omega), ⟨by have h1 := HD.out; rw [if_neg (by omega), show i + 2 - 1 = i + 1 by omega, h1]; exact hG.out⟩, ⟨HB.out.below (drawn_below ⟨_, rfl⟩)⟩, ⟨step_drawn HW.out ⟨_, rfl⟩⟩⟩
            · rw [b1, Bool.false_and] at hF
              subst hF
              clear b1
              go_wp2_with (first | (go_at_call 43; (with_reducible refine (HV.out _).mono ?_); rintro e we ⟨rfl, ⟨nd, rfl⟩⟩))
              go_ret
              exact ⟨rfl, step_drawn HW.out ⟨_, rfl⟩⟩
            · rw [b1, Bool.false_and] at hF
              subst hF
              clear b1
              go_wp2_with (first | (go_at_call 43; (with_reducible refine (HV.out _).mono ?_); rintro e we ⟨rfl, ⟨nd, rfl⟩⟩))
              go_ret
              exact ⟨rfl, step_drawn HW.out ⟨_, rfl⟩⟩
  · skip
    have g3 : (a != 3) = true := by simpa using cls.1
    have g4 : (a != 4) = true := by simpa using cls.2.1
    have g6 : (a != 6) = true := by simpa using cls.2.2.1
    have g5 : decide (a < 5) = true := decide_eq_true cls.2.2.2
    have HK := Aside0.mk cls
    clear cls
    by_cases tb : b = 0
    rotate_left
    · have HT := Aside0.mk tb
      have p1 : (b != 0) = true := by simpa using tb
      clear tb
      have hF := HF.out
      have hff : r = false := by rw [← hF]; simp [fm, kz, HT.out, HK.out.1, HK.out.2.1, HK.out.2.2.1, (show ¬ 5 ≤ a by have := HK.out; omega)]
      subst hff
      clear hF
      clear HF
      go_wp2_with (first | (go_at_call 43; (with_reducible refine (HU.out _).mono ?_); rintro e we ⟨rfl, ⟨nd, rfl⟩⟩))
      go_ret
      first | exact ⟨rfl, HW.out⟩ | exact ⟨rfl, step_drawn HW.out ⟨_, rfl⟩⟩
    have HTb := Aside0.mk tb
    have p1 : (b != 0) = false := by rw [tb]; rfl
    clear tb
    by_cases ts : s.toList = []
    rotate_left
    · have HT := Aside0.mk ts
      obtain ⟨p2, p2'⟩ := isN ts
      clear ts
      have hF := HF.out
      have hff : r = false := by rw [← hF]; simp [fm, kz, HT.out, HTb.out, HK.out.1, HK.out.2.1, HK.out.2.2.1, (show ¬ 5 ≤ a by have := HK.out; omega)]
      subst hff
      clear hF
      clear HF
      go_wp2_with (first | (go_at_call 43; (with_reducible refine (HU.out _).mono ?_); rintro e we ⟨rfl, ⟨nd, rfl⟩⟩))
      go_ret
      first | exact ⟨rfl, HW.out⟩ | exact ⟨rfl, step_drawn HW.out ⟨_, rfl⟩⟩
    have HTs := Aside0.mk ts
    obtain ⟨p2, p2'⟩ := isE ts
    clear ts
    by_cases tk : ks.length = 0
    rotate_left
    · have HT := Aside0.mk tk
      have p3 : decide (0 < ks.length) = true := decide_eq_true (by omega); have p3' : decide ((0 : Int) < (ks.length : Int)) = true := decide_eq_true (by omega)
      clear tk
      have hF := HF.out
      have hff : r = false := by rw [← hF]; simp [fm, kz, HT.out, HTb.out, HTs.out, HK.out.1, HK.out.2.1, HK.out.2.2.1, (show ¬ 5 ≤ a by have := HK.out; omega)]
      subst hff
      clear hF
      clear HF
      go_wp2_with (first | (go_at_call 43; (with_reducible refine (HU.out _).mono ?_); rintro e we ⟨rfl, ⟨nd, rfl⟩⟩))
      go_ret
      first | exact ⟨rfl, HW.out⟩ | exact ⟨rfl, step_drawn HW.out ⟨_, rfl⟩⟩
    have HTk := Aside0.mk tk
    have p3 : decide (0 < ks.length) = false := decide_eq_false (by omega); have p3' : decide ((0 : Int) < (ks.length : Int)) = false := decide_eq_false (by omega)
    clear tk
    by_cases te : es.length = 0
    rotate_left
    · have HT := Aside0.mk te
      have p4 : decide (0 < es.length) = true := decide_eq_true (by omega); have p4' : decide ((0 : Int) < (es.length : Int)) = true := decide_eq_true (by omega)
      clear te
      have hF := HF.out
      have hff : r = false := by rw [← hF]; simp [fm, kz, HT.out, HTb.out, HTs.out, HTk.out, HK.out.1, HK.out.2.1, HK.out.2.2.1, (show ¬ 5 ≤ a by have := HK.out; omega)]
      subst hff
      clear hF
      clear HF
      go_wp2_with (first | (go_at_call 43; (with_reducible refine (HU.out _).mono ?_); rintro e we ⟨rfl, ⟨nd, rfl⟩⟩))
      go_ret
      first | exact ⟨rfl, HW.out⟩ | exact ⟨rfl, step_drawn HW.out ⟨_, rfl⟩⟩
    have HTe := Aside0.mk te
    have p4 : decide (0 < es.length) = false := decide_eq_false (by omega); have p4' : decide ((0 : Int) < (es.length : Int)) = false := decide_eq_false (by omega)
    clear te
    cases u with
    | false =>
      have hF := HF.out
      have hff : r = false := by rw [← hF]; simp [fm, kz, Hu.out, HTb.out, HTs.out, HTk.out, HTe.out, HK.out.1, HK.out.2.1, HK.out.2.2.1, (show ¬ 5 ≤ a by have := HK.out; omega)]
      subst hff
      clear hF
      clear HF
      go_wp2_with (first | (go_at_call 43; (with_reducible refine (HU.out _).mono ?_); rintro e we ⟨rfl, ⟨nd, rfl⟩⟩))
      go_ret
      first | exact ⟨rfl, HW.out⟩ | exact ⟨rfl, step_drawn HW.out ⟨_, rfl⟩⟩
    | true =>
      have hF := HF.out
      have hff : r = true := by rw [← hF]; simp [fm, kz, Hu.out, HTb.out, HTs.out, HTk.out, HTe.out, HK.out.1, HK.out.2.1, HK.out.2.2.1, (show ¬ 5 ≤ a by have := HK.out; omega)]
      subst hff
      clear hF HF
      go_wp2_with (first | (go_at_call 43; (with_reducible refine (HU.out _).mono ?_); rintro e we ⟨rfl, ⟨nd, rfl⟩⟩))
      go_ret
      exact ⟨rfl, step_drawn HW.out ⟨_, rfl⟩⟩
  · skip
    have g3 : (a != 3) = true := by simpa using cls.1
    have g4 : (a != 4) = true := by simpa using cls.2.1
    have g6 : (a != 6) = true := by simpa using cls.2.2.1
    have g5 : decide (a < 5) = false := decide_eq_false (by omega)
    have HK := Aside0.mk cls
    clear cls
    by_cases tb : b = 0
    rotate_left
    · have HT := Aside0.mk tb
      have p1 : (b != 0) = true := by simpa using tb
      clear tb
      have hF := HF.out
      have hff : r = false := by rw [← hF]; simp [fm, kz, HT.out, HK.out.1, HK.out.2.1, HK.out.2.2.1, (show 5 ≤ a from HK.out.2.2.2)]
      subst hff
      clear hF
      clear HF
      go_wp2_with (first | (go_at_call 43; (with_reducible refine (HU.out _).mono ?_); rintro e we ⟨rfl, ⟨nd, rfl⟩⟩))
      go_ret
      first | exact ⟨rfl, HW.out⟩ | exact ⟨rfl, step_drawn HW.out ⟨_, rfl⟩⟩
    have HTb := Aside0.mk tb
    have p1 : (b != 0) = false := by rw [tb]; rfl
    clear tb
    by_cases ts : s.toList = []
    rotate_left
    · have HT := Aside0.mk ts
      obtain ⟨p2, p2'⟩ := isN ts
      clear ts
      have hF := HF.out
      have hff : r = false := by rw [← hF]; simp [fm, kz, HT.out, HTb.out, HK.out.1, HK.out.2.1, HK.out.2.2.1, (show 5 ≤ a from HK.out.2.2.2)]
      subst hff
      clear hF
      clear HF
      go_wp2_with (first | (go_at_call 43; (with_reducible refine (HU.out _).mono ?_); rintro e we ⟨rfl, ⟨nd, rfl⟩⟩))
      go_ret
      first | exact ⟨rfl, HW.out⟩ | exact ⟨rfl, step_drawn HW.out ⟨_, rfl⟩⟩
    have HTs := Aside0.mk ts
    obtain ⟨p2, p2'⟩ := isE ts
    clear ts
    by_cases tk : ks.length = 0
    rotate_left
    · have HT := Aside0.mk tk
      have p3 : decide (0 < ks.length) = true := decide_eq_true (by omega); have p3' : decide ((0 : Int) < (ks.length : Int)) = true := decide_eq_true (by omega)
      clear tk
      have hF := HF.out
      have hff : r = false := by rw [← hF]; simp [fm, kz, HT.out, HTb.out, HTs.out, HK.out.1, HK.out.2.1, HK.out.2.2.1, (show 5 ≤ a from HK.out.2.2.2)]
      subst hff
      clear hF
      clear HF
      go_wp2_with (first | (go_at_call 43; (with_reducible refine (HU.out _).mono ?_); rintro e we ⟨rfl, ⟨nd, rfl⟩⟩))
      go_ret
      first | exact ⟨rfl, HW.out⟩ | exact ⟨rfl, step_drawn HW.out ⟨_, rfl⟩⟩
    have HTk := Aside0.mk tk
    have p3 : decide (0 < ks.length) = false := decide_eq_false (by omega); have p3' : decide ((0 : Int) < (ks.length : Int)) = false := decide_eq_false (by omega)
    clear tk
    cases u with
    | false =>
      have hF := HF.out
      have hff : r = false := by rw [← hF]; simp [fm, kz, Hu.out, HTb.out, HTs.out, HTk.out, HK.out.1, HK.out.2.1, HK.out.2.2.1, (show 5 ≤ a from HK.out.2.2.2)]
      subst hff
      clear hF
      clear HF
      go_wp2_with (first | (go_at_call 43; (with_reducible refine (HU.out _).mono ?_); rintro e we ⟨rfl, ⟨nd, rfl⟩⟩))
      go_ret
      first | exact ⟨rfl, HW.out⟩ | exact ⟨rfl, step_drawn HW.out ⟨_, rfl⟩⟩
    | true =>
      have hF := HF.out
      have hff : r = true := by rw [← hF]; simp [fm, kz, Hu.out, HTb.out, HTs.out, HTk.out, HK.out.1, HK.out.2.1, HK.out.2.2.1, (show 5 ≤ a from HK.out.2.2.2)]
      subst hff
      clear hF HF
      go_wp2_with (first | (go_at_call 43; (with_reducible refine (HU.out _).mono ?_); rintro e we ⟨rfl, ⟨nd, rfl⟩⟩))
      go_ret
      exact ⟨rfl, step_drawn HW.out ⟨_, rfl⟩⟩
end Go.Proofs.Ytgpjkojnmeaoiaa.QV

/- The meter of vals: fits, by hand. -/
namespace Go.Proofs.Ytgpjkojnmeaoiaa.QV
open Go Go.RowKit Go.Proofs.YtgpjkojnmeaoiaaW.PrintWords Go.Proofs.YtgpjkojnmeaoiaaW.PrintLast Go.Proofs.YtgpjkojnmeaoiaaW.PrintMore
set_option linter.unusedVariables false
set_option linter.unusedSimpArgs false
set_option maxRecDepth 100000
set_option maxHeartbeats 4000000
def ksum : List ByteArray → Nat
  | [] => 0
  | k :: l => k.size + ksum l
theorem ksum_app (l m : List ByteArray) : ksum (l ++ m) = ksum l + ksum m := by
  induction l with
  | nil => simp [ksum]
  | cons k l ih => simp only [List.cons_append, ksum, ih]; omega
theorem ksum_take {l : List ByteArray} {i : Nat} {k : ByteArray} (h : l[i]? = some k) : ksum (l.take (i + 1)) = ksum (l.take i) + k.size := by
  rw [List.take_add_one, h, ksum_app]
  simp [ksum]
theorem ksum_ksz (l : List ByteArray) : ksum l ≤ ksz l := by
  induction l with
  | nil => simp [ksum, ksz]
  | cons k l ih => simp only [ksum, ksz]; omega
theorem ksum_le (l : List ByteArray) (i : Nat) : ksum (l.take i) ≤ ksum l := by
  have h := ksum_app (l.take i) (l.drop i)
  rw [List.take_append_drop] at h
  omega
mutual
def okv : Bool → Nat → S28 → Bool
  | form, ar, ⟨a, b, s, ks, es⟩ => decide (0 ≤ a) && decide (a ≤ 6) && !(a == 4 && decide (4096 < s.size)) && (!form || fm ⟨a, b, s, ks, es⟩) && (decide (a < 5) || (decide (ar < 32) && decide (es.length ≤ 1024) && okL form (ar + 1) es))
def okL : Bool → Nat → List S28 → Bool
  | _, _, [] => true
  | form, ar, e :: l => okv form ar e && okL form ar l
end
mutual
def nds : S28 → Nat
  | ⟨a, _, _, _, es⟩ => 1 + if a < 5 then 0 else ndsL es
def ndsL : List S28 → Nat
  | [] => 0
  | e :: l => nds e + ndsL l
end
mutual
def bts : S28 → Nat
  | ⟨a, _, s, ks, es⟩ => s.size + ksum ks + if a < 5 then 0 else btsL es
def btsL : List S28 → Nat
  | [] => 0
  | e :: l => bts e + btsL l
end
theorem okv_eq (form : Bool) (ar : Nat) (x : S28) : okv form ar x = (decide (0 ≤ x.f0) && decide (x.f0 ≤ 6) && !(x.f0 == 4 && decide (4096 < x.f2.size)) && (!form || fm x) && (decide (x.f0 < 5) || (decide (ar < 32) && decide (x.f4.length ≤ 1024) && okL form (ar + 1) x.f4))) := by obtain ⟨a, b, c, d, e⟩ := x; rw [okv]
theorem nds_eq (x : S28) : nds x = 1 + if x.f0 < 5 then 0 else ndsL x.f4 := by obtain ⟨a, b, c, d, e⟩ := x; rw [nds]
theorem bts_eq (x : S28) : bts x = x.f2.size + ksum x.f3 + if x.f0 < 5 then 0 else btsL x.f4 := by obtain ⟨a, b, c, d, e⟩ := x; rw [bts]
theorem okL_app (form : Bool) (ar : Nat) (l m : List S28) : okL form ar (l ++ m) = (okL form ar l && okL form ar m) := by
  induction l with
  | nil => simp [okL]
  | cons k l ih => simp only [List.cons_append, okL, ih, Bool.and_assoc]
theorem ndsL_app (l m : List S28) : ndsL (l ++ m) = ndsL l + ndsL m := by
  induction l with
  | nil => simp [ndsL]
  | cons k l ih => simp only [List.cons_append, ndsL, ih]; omega
theorem btsL_app (l m : List S28) : btsL (l ++ m) = btsL l + btsL m := by
  induction l with
  | nil => simp [btsL]
  | cons k l ih => simp only [List.cons_append, btsL, ih]; omega
theorem okL_take {form : Bool} {ar : Nat} {l : List S28} {i : Nat} {k : S28} (h : l[i]? = some k) : okL form ar (l.take (i + 1)) = (okL form ar (l.take i) && okv form ar k) := by
  rw [List.take_add_one, h, okL_app]
  simp [okL]
theorem ndsL_take {l : List S28} {i : Nat} {k : S28} (h : l[i]? = some k) : ndsL (l.take (i + 1)) = ndsL (l.take i) + nds k := by
  rw [List.take_add_one, h, ndsL_app]
  simp [ndsL]
theorem btsL_take {l : List S28} {i : Nat} {k : S28} (h : l[i]? = some k) : btsL (l.take (i + 1)) = btsL (l.take i) + bts k := by
  rw [List.take_add_one, h, btsL_app]
  simp [btsL]
theorem part_le {form : Bool} {ar : Nat} (l : List S28) (i : Nat) : ndsL (l.take i) ≤ ndsL l ∧ btsL (l.take i) ≤ btsL l ∧ (okL form ar l = true → okL form ar (l.take i) = true) := by
  have h := ndsL_app (l.take i) (l.drop i)
  have h' := btsL_app (l.take i) (l.drop i)
  have h'' := okL_app form ar (l.take i) (l.drop i)
  rw [List.take_append_drop] at h h' h''
  refine ⟨by omega, by omega, fun e => ?_⟩
  rw [h''] at e
  simpa using (Bool.and_eq_true_iff.1 e).1
/-- What the meter answers. -/
def fitR (form : Bool) (ar : Nat) (x : S28) (n b : Int) : Bool := okv form ar x && decide (n + nds x ≤ 4096) && decide (b + bts x ≤ 65536)
/-- Between two steps: the meter in block m, the boxed value in block v, all else as it was. -/
structure Ft (w0 w W : World) (m v : Nat) (n b : Int) (A3 : Option Addr) (c3 : Nat) (A4 : Option Addr) (c4 : Nat) (x : S28) : Prop where
  z : Below w0.heap.size w0 W
  mm : W.heap[m]? = some (.cells #[.int .i64 n, .int .i64 b] 72 (0, 0))
  vv : W.heap[v]? = some (.cells #[.int .i64 x.f0, .int .i64 x.f1, .string x.f2, .slice A3 x.f3.length c3, .slice A4 x.f4.length c4] 28 (0, 0))
  g : w.grownBy W (some m)
  ne : v ≠ m
  lt : w0.heap.size ≤ m
theorem grown_of_below {W W' : World} {r : Option Nat} (h : Below W.heap.size W W') : W.grownBy W' r := ⟨h.os, h.tape, h.output, h.size, fun k hk _ => h.block k hk⟩
theorem below_of_grown {B m : Nat} {w W W' : World} (h : Below B w W) (hB : B ≤ m) (hs : B ≤ W.heap.size) (hg : W.grownBy W' (some m)) : Below B w W' :=
  h.trans ⟨hg.os, hg.tape, hg.output, hg.size, fun k hk => hg.block k (by omega) (fun e => by have := Option.some.inj e; omega)⟩
theorem grownBy_cell (W : World) (b j : Nat) (v : Value) : W.grownBy (W.setCell ⟨b, j, none⟩ v) (some b) :=
  ⟨rfl, rfl, rfl, by simp, fun k _ hk => Below.heap_setCell _ _ _ k (fun e => hk (by rw [e]))⟩
section
variable {w0 w W W' : World} {m v : Nat} {n b n' b' : Int} {A3 : Option Addr} {c3 : Nat} {A4 : Option Addr} {c4 : Nat} {x : S28}
theorem Ft.cells (h : Ft w0 w W m v n b A3 c3 A4 c4 x) : W.cell? ⟨m, 0, none⟩ = some (.int .i64 n) ∧ W.cell? ⟨m, 1, none⟩ = some (.int .i64 b) ∧ (∀ j, W.frozen? ⟨m, j, none⟩ = false) ∧
    W.cell? ⟨v, 0, none⟩ = some (.int .i64 x.f0) ∧ W.cell? ⟨v, 1, none⟩ = some (.int .i64 x.f1) ∧ W.cell? ⟨v, 2, none⟩ = some (.string x.f2) ∧ W.cell? ⟨v, 3, none⟩ = some (.slice A3 x.f3.length c3) ∧ W.cell? ⟨v, 4, none⟩ = some (.slice A4 x.f4.length c4) := by
  have h1 := h.mm
  have h2 := h.vv
  refine ⟨?_, ?_, fun j => ?_, ?_, ?_, ?_, ?_, ?_⟩ <;> simp [World.cell?, World.frozen?, h1, h2]
theorem Ft.size (h : Ft w0 w W m v n b A3 c3 A4 c4 x) : w0.heap.size ≤ W.heap.size := by
  have := (Array.getElem?_eq_some_iff.1 h.mm).1
  have := h.lt
  omega
theorem Ft.put (h : Ft w0 w W m v n b A3 c3 A4 c4 x) (hg : W.grownBy W' (some m)) (hm : W'.heap[m]? = some (.cells #[.int .i64 n', .int .i64 b'] 72 (0, 0))) : Ft w0 w W' m v n' b' A3 c3 A4 c4 x :=
  ⟨below_of_grown h.z h.lt h.size hg, hm, (hg.block v (Array.getElem?_eq_some_iff.1 h.vv).1 (fun e => h.ne (Option.some.inj e))).trans h.vv, h.g.trans hg, h.ne, h.lt⟩
theorem Ft.set0 (h : Ft w0 w W m v n b A3 c3 A4 c4 x) : Ft w0 w (W.setCell ⟨m, 0, none⟩ (.int .i64 n')) m v n' b A3 c3 A4 c4 x := h.put (grownBy_cell _ _ _ _) (heap_setCell_same _ _ _ _ _ _ h.mm)
theorem Ft.set1 (h : Ft w0 w W m v n b A3 c3 A4 c4 x) : Ft w0 w (W.setCell ⟨m, 1, none⟩ (.int .i64 b')) m v n b' A3 c3 A4 c4 x := h.put (grownBy_cell _ _ _ _) (heap_setCell_same _ _ _ _ _ _ h.mm)
theorem Ft.below (h : Ft w0 w W m v n b A3 c3 A4 c4 x) (hb : Below W.heap.size W W') : Ft w0 w W' m v n b A3 c3 A4 c4 x := h.put (grown_of_below hb) ((hb.block m (Array.getElem?_eq_some_iff.1 h.mm).1).trans h.mm)
end
theorem Ft.count {w0 w W : World} {m v : Nat} {n b : Int} {A3 c3 A4 c4} {x : S28} (h : Ft w0 w W m v n b A3 c3 A4 c4 x) (d : Int) : ∃ W3, (W.setCell ⟨m, 1, none⟩ (.int .i64 (b + d))).drew = W3 ∧ Ft w0 w W3 m v n (b + d) A3 c3 A4 c4 x :=
  ⟨_, rfl, (h.set1 (b' := b + d)).below ((Below.refl _ _).drew)⟩
theorem Ft.add {w0 w W : World} {m v : Nat} {n b : Int} {A3 c3 A4 c4} {x : S28} (h : Ft w0 w W m v n b A3 c3 A4 c4 x) (d : Int) : ∃ W3, W.setCell ⟨m, 1, none⟩ (.int .i64 (b + d)) = W3 ∧ Ft w0 w W3 m v n (b + d) A3 c3 A4 c4 x :=
  ⟨_, rfl, h.set1 (b' := b + d)⟩
theorem bts_cnt (s : Nat) : ∀ x : S28, SizeOf.sizeOf x < s → bts x ≤ cnt x ∧ nds x ≤ cnt x := by
  induction s with
  | zero => intro x h; omega
  | succ s ih =>
    intro x h
    have hl : ∀ l : List S28, (∀ y ∈ l, SizeOf.sizeOf y < s) → btsL l ≤ cntL l ∧ ndsL l ≤ cntL l := fun l => by
      induction l with
      | nil => intro _; simp [btsL, ndsL, cntL]
      | cons y l ihl =>
        intro hy
        have h1 := ih y (hy y List.mem_cons_self)
        have h2 := ihl (fun z hz => hy z (List.mem_cons_of_mem _ hz))
        simp only [btsL, ndsL, cntL]
        omega
    have h1 := hl x.f4 (fun y hy => by have := sz_mem hy; omega)
    have h2 := ksum_ksz x.f3
    have h3 := cnt_eq x
    rw [bts_eq, nds_eq]
    split <;> omega
theorem nds_pos (x : S28) : 1 ≤ nds x := by rw [nds_eq]; omega
theorem bts_min (x : S28) : x.f2.size + ksum x.f3 ≤ bts x := by rw [bts_eq]; omega
section
variable {form : Bool} {ar : Nat} {x : S28} {n b : Int}
theorem fitR_n (h : 4096 < n + 1) : fitR form ar x n b = false := by
  unfold fitR
  have := nds_pos x
  rw [decide_eq_false (show ¬ n + nds x ≤ 4096 by omega)]
  simp
theorem fitR_b (h : 65536 < b + (x.f2.size + ksum x.f3 : Nat)) : fitR form ar x n b = false := by
  unfold fitR
  have := bts_min x
  rw [decide_eq_false (show ¬ b + bts x ≤ 65536 by omega)]
  simp
theorem fitR_o (h : okv form ar x = false) : fitR form ar x n b = false := by unfold fitR; rw [h]; rfl
theorem fitR_k0 (h : x.f0 < 0) : fitR form ar x n b = false := fitR_o (by rw [okv_eq, decide_eq_false (by omega)]; rfl)
theorem fitR_k6 (h : 6 < x.f0) : fitR form ar x n b = false := fitR_o (by rw [okv_eq, decide_eq_false (show ¬ x.f0 ≤ 6 by omega)]; simp)
theorem fitR_s (h : x.f0 = 4) (h2 : 4096 < x.f2.size) : fitR form ar x n b = false := fitR_o (by rw [okv_eq, h, decide_eq_true h2]; rfl)
theorem fitR_f (h : fm x = false) : fitR true ar x n b = false := fitR_o (by rw [okv_eq, h]; simp)
theorem fitR_ar (h : 5 ≤ x.f0) (h2 : 32 ≤ ar) : fitR form ar x n b = false := fitR_o (by rw [okv_eq, decide_eq_false (show ¬ x.f0 < 5 by omega), decide_eq_false (show ¬ ar < 32 by omega)]; simp)
theorem fitR_el (h : 5 ≤ x.f0) (h2 : 1024 < x.f4.length) : fitR form ar x n b = false := fitR_o (by rw [okv_eq, decide_eq_false (show ¬ x.f0 < 5 by omega), decide_eq_false (show ¬ x.f4.length ≤ 1024 by omega)]; simp)
/-- What has been asked when the bytes are counted. -/
structure Pass (form : Bool) (x : S28) (n : Int) : Prop where
  n1 : n + 1 ≤ 4096
  k0 : 0 ≤ x.f0
  k6 : x.f0 ≤ 6
  s : ¬ (x.f0 = 4 ∧ 4096 < x.f2.size)
  f : form = false ∨ fm x = true
theorem Pass.sB (h : Pass form x n) : (x.f0 == 4 && decide (4096 < x.f2.size)) = false := by
  have := h.s
  by_cases c : x.f0 = 4
  · rw [decide_eq_false (fun e => this ⟨c, e⟩)]; simp
  · simp [c]
theorem Pass.fB (h : Pass form x n) : (!form || fm x) = true := by
  rcases h.f with e | e <;> rw [e] <;> simp
theorem fitR_leaf (h : Pass form x n) (hb : b + (x.f2.size + ksum x.f3 : Nat) ≤ 65536) (hk : x.f0 < 5) : fitR form ar x n b = true ∧ nds x = 1 ∧ bts x = x.f2.size + ksum x.f3 := by
  have e1 : nds x = 1 := by rw [nds_eq, if_pos hk]
  have e2 : bts x = x.f2.size + ksum x.f3 := by rw [bts_eq, if_pos hk]; rfl
  refine ⟨?_, e1, e2⟩
  unfold fitR
  rw [okv_eq, decide_eq_true h.k0, decide_eq_true h.k6, h.sB, h.fB, decide_eq_true hk, e1, e2, decide_eq_true (show n + ((1 : Nat) : Int) ≤ 4096 from h.n1), decide_eq_true hb]
  rfl
theorem fitR_go (h : Pass form x n) (hk : 5 ≤ x.f0) (ha : ar < 32) (hl : x.f4.length ≤ 1024) : fitR form ar x n b = (okL form (ar + 1) x.f4 && decide (n + 1 + ndsL x.f4 ≤ 4096) && decide (b + (x.f2.size + ksum x.f3 : Nat) + btsL x.f4 ≤ 65536)) ∧ nds x = 1 + ndsL x.f4 ∧ bts x = x.f2.size + ksum x.f3 + btsL x.f4 := by
  have e1 : nds x = 1 + ndsL x.f4 := by rw [nds_eq, if_neg (by omega)]
  have e2 : bts x = x.f2.size + ksum x.f3 + btsL x.f4 := by rw [bts_eq, if_neg (by omega)]
  refine ⟨?_, e1, e2⟩
  unfold fitR
  rw [okv_eq, decide_eq_true h.k0, decide_eq_true h.k6, h.sB, h.fB, decide_eq_false (show ¬ x.f0 < 5 by omega), decide_eq_true ha, decide_eq_true hl, e1, e2]
  have a1 : (n + ((1 + ndsL x.f4 : Nat) : Int) ≤ 4096) = (n + 1 + (ndsL x.f4 : Int) ≤ 4096) := propext (by omega)
  have a2 : (b + ((x.f2.size + ksum x.f3 + btsL x.f4 : Nat) : Int) ≤ 65536) = (b + ((x.f2.size + ksum x.f3 : Nat) : Int) + (btsL x.f4 : Int) ≤ 65536) := propext (by omega)
  simp only [a1, a2]
  simp
end
end Go.Proofs.Ytgpjkojnmeaoiaa.QV

/- The meter's walk. -/
namespace Go.Proofs.Ytgpjkojnmeaoiaa.QV
open Go Go.RowKit Go.Proofs.YtgpjkojnmeaoiaaW.PrintWords Go.Proofs.YtgpjkojnmeaoiaaW.PrintLast Go.Proofs.YtgpjkojnmeaoiaaW.PrintMore
set_option linter.unusedVariables false
set_option linter.unusedSimpArgs false
set_option maxRecDepth 100000
set_option maxHeartbeats 4000000
def FitPost (form : Bool) (ar : Nat) (x : S28) (n b : Int) (m : Nat) (w : World) (e : Ending) (w' : World) : Prop :=
  ∃ n' b' : Int, e = .returned (.bool (fitR form ar x n b)) ∧ w.grownBy w' (some m) ∧ w'.heap[m]? = some (.cells #[.int .i64 n', .int .i64 b'] 72 (0, 0)) ∧ (fitR form ar x n b = true → n' = n + nds x ∧ b' = b + bts x)
theorem fitC (form : Bool) (s : Nat) : ∀ (x : S28) (ar : Nat) (n b : Int) (m : Nat) (w0 w : World) {A3 : Option Addr} {c3 : Nat} {A4 : Option Addr} {c4 : Nat}, SizeOf.sizeOf x < s → Wv x → cnt x ≤ 1000000000000000 → ar ≤ 40 → 0 ≤ n → n ≤ 4096 → 0 ≤ b → b ≤ 65536 →
    Rd w0 A3 c3 A4 c4 x → w0.heap.size ≤ m → Below w0.heap.size w0 w → w.heap[m]? = some (.cells #[.int .i64 n, .int .i64 b] 72 (0, 0)) →
    Calls Try.prog 72 #[.pointer (some ⟨m, 0, none⟩), .agg #[.int .i64 x.f0, .int .i64 x.f1, .string x.f2, .slice A3 x.f3.length c3, .slice A4 x.f4.length c4], .int .i64 (ar : Int), .bool form] w (FitPost form ar x n b m w) := by
  induction s with
  | zero => intro x ar n b m w0 w A3 c3 A4 c4 h; omega
  | succ s ih =>
  intro x ar n b m w0 w A3 c3 A4 c4 hs hx hc har hn0 hn1 hb0 hb1 hr hm hB hM
  have HS := Aside0.mk hs
  have HX := Aside0.mk hx
  have HC := Aside0.mk hc
  have HR := Aside0.mk hr
  obtain ⟨r, hfr⟩ : ∃ r, fitR form ar x n b = r := ⟨_, rfl⟩
  have HP : Aside0 (∀ (e : Ending) (w' : World) (n' b' : Int), e = .returned (.bool r) → w.grownBy w' (some m) → w'.heap[m]? = some (.cells #[.int .i64 n', .int .i64 b'] 72 (0, 0)) → (r = true → n' = n + nds x ∧ b' = b + bts x) → FitPost form ar x n b m w e w') :=
    ⟨fun e w' n' b' h1 h2 h3 h4 => ⟨n', b', by rw [hfr]; exact h1, h2, h3, by rw [hfr]; exact h4⟩⟩
  have HF := Aside0.mk hfr
  have hlt : m < w.heap.size := (Array.getElem?_eq_some_iff.1 hM).1
  have hR := hr
  have HT : Aside0 (Ft w0 w (w.alloc (.cells #[.int .i64 x.f0, .int .i64 x.f1, .string x.f2, .slice A3 x.f3.length c3, .slice A4 x.f4.length c4] 28)) m w.heap.size n b A3 c3 A4 c4 x) := ⟨by
    have ha := new_below w (.cells #[.int .i64 x.f0, .int .i64 x.f1, .string x.f2, .slice A3 x.f3.length c3, .slice A4 x.f4.length c4] 28)
    exact ⟨below_of_grown hB hm (by omega) (grown_of_below ha), (ha.block m hlt).trans hM, heap_alloc_new w _, grown_of_below ha, by omega, hm⟩⟩
  have s1 := hx.s
  have s2 := hx.kl
  have s3 := hx.el
  have hkz := ksum_ksz x.f3
  have hce := cnt_eq x
  have s4 : x.f2.size ≤ 1000000000000000 ∧ ksum x.f3 ≤ 1000000000000000 := by omega
  clear hkz hce hfr hs hx hc hr hR hB hM hm hlt
  go_enter Try.func72, Try.ntmps72
  go_upto_region 1 with fail
  obtain ⟨v, hv⟩ : ∃ v, w.heap.size = v := ⟨_, rfl⟩
  obtain ⟨W, hW⟩ : ∃ W, w.alloc (.cells #[.int .i64 x.f0, .int .i64 x.f1, .string x.f2, .slice A3 x.f3.length c3, .slice A4 x.f4.length c4] 28) = W := ⟨_, rfl⟩
  rw [hW, hv] at HT
  rw [hW, hv]
  clear hW hv
  obtain ⟨q0, q1, q2, p0, p1, p2, p3, p4⟩ := HT.out.cells
  go_upto_region 2 with fail
  have HT2 := Aside0.mk (HT.out.set0 (n' := n + 1)); clear HT; have HT := HT2; clear HT2
  obtain ⟨W1, hW⟩ : ∃ W', W.setCell ⟨m, 0, none⟩ (.int .i64 (n + 1)) = W' := ⟨_, rfl⟩
  rw [hW] at HT
  rw [hW]
  clear hW q0 q1 q2 p0 p1 p2 p3 p4
  obtain ⟨q0, q1, q2, p0, p1, p2, p3, p4⟩ := HT.out.cells
  by_cases t1 : 4096 < n + 1
  · have g1 : decide (n + 1 > 4096) = true := decide_eq_true (by omega)
    have hff : r = false := by rw [← HF.out]; exact fitR_n t1
    subst hff
    clear HF
    go_wp2_with fail
    go_ret
    exact HP.out _ _ _ _ rfl HT.out.g HT.out.mm (fun e => by cases e)
  have g1 : decide (n + 1 > 4096) = false := decide_eq_false (by omega)
  by_cases t2 : x.f0 < 0
  · have g2 : decide (x.f0 < 0) = true := decide_eq_true (by omega)
    have hff : r = false := by rw [← HF.out]; exact fitR_k0 t2
    subst hff
    clear HF
    go_wp2_with fail
    go_ret
    exact HP.out _ _ _ _ rfl HT.out.g HT.out.mm (fun e => by cases e)
  have g2 : decide (x.f0 < 0) = false := decide_eq_false (by omega)
  by_cases t3 : 6 < x.f0
  · have g3 : decide (x.f0 > 6) = true := decide_eq_true (by omega)
    have hff : r = false := by rw [← HF.out]; exact fitR_k6 t3
    subst hff
    clear HF
    go_wp2_with fail
    go_ret
    exact HP.out _ _ _ _ rfl HT.out.g HT.out.mm (fun e => by cases e)
  have g3 : decide (x.f0 > 6) = false := decide_eq_false (by omega)
  go_upto_region 4 with fail
  clear g1 g2 g3
  have H4 : ((x.f0 == 4) = true ∧ 4096 < x.f2.size) ∨ ((x.f0 == 4) = true ∧ x.f2.size ≤ 4096) ∨ (x.f0 == 4) = false := by
    by_cases c : x.f0 = 4
    · by_cases c2 : 4096 < x.f2.size
      · exact .inl ⟨by rw [c]; rfl, c2⟩
      · exact .inr (.inl ⟨by rw [c]; rfl, by omega⟩)
    · exact .inr (.inr (by simpa using c))
  rcases H4 with ⟨g4, t4⟩ | H4
  · have g5 : decide (4096 < x.f2.size) = true := decide_eq_true t4
    have g5' : decide ((x.f2.size : Int) > 4096) = true := decide_eq_true (by omega)
    have hff : r = false := by rw [← HF.out]; exact fitR_s (by simpa using g4) t4
    subst hff
    clear HF
    go_wp2_with fail
    go_ret
    exact HP.out _ _ _ _ rfl HT.out.g HT.out.mm (fun e => by cases e)
  have t5 : ¬ (x.f0 = 4 ∧ 4096 < x.f2.size) := by
    rintro ⟨c1, c2⟩
    rcases H4 with ⟨_, h⟩ | h
    · omega
    · rw [c1] at h; cases h
  have H5 : ((x.f0 == 4) = true ∧ decide (4096 < x.f2.size) = false ∧ decide ((x.f2.size : Int) > 4096) = false) ∨ (x.f0 == 4) = false := H4.imp (fun h => ⟨h.1, decide_eq_false (by omega), decide_eq_false (by omega)⟩) id
  clear H4
  have HQ : Aside0 (Pass form x n ∨ (form = true ∧ fm x = false)) := ⟨by
    cases form with
    | false => exact .inl ⟨by omega, by omega, by omega, t5, .inl rfl⟩
    | true => cases hf : fm x with
      | true => exact .inl ⟨by omega, by omega, by omega, t5, .inr hf⟩
      | false => exact .inr ⟨rfl, rfl⟩⟩
  clear t5
  have HU : Aside0 (∀ W, Below w0.heap.size w0 W → Calls Try.prog 85 #[.agg #[.int .i64 x.f0, .int .i64 x.f1, .string x.f2, .slice A3 x.f3.length c3, .slice A4 x.f4.length c4]] W fun e w' => e = .returned (.bool (fm x)) ∧ Below W.heap.size W w') := ⟨fun W hb => fmC x HX.out W (HR.out.below hb)⟩
  obtain ⟨fb, hfb⟩ : ∃ fb, fm x = fb := ⟨_, rfl⟩
  rw [hfb] at HQ HU
  have HFb := Aside0.mk hfb
  clear hfb
  -- the ways to the region that counts the bytes
  have ways : (form = true ∧ fb = false) ∨ (form = true ∧ fb = true) ∨ form = false := by cases form <;> cases fb <;> simp
  rcases ways with ⟨rfl, rfl⟩ | ways
  · rcases H5 with ⟨g4, g5, g5'⟩ | g4
    all_goals
      have hff : r = false := by rw [← HF.out]; exact fitR_f HFb.out
      subst hff
      clear HF
      go_wp2_with (first | (go_at_call 85; (with_reducible refine (HU.out _ HT.out.z).mono ?_); rintro e we ⟨rfl, hb⟩; have HT2 := Aside0.mk (HT.out.below hb); clear HT; have HT := HT2; clear HT2 hb))
      go_ret
      exact HP.out _ _ _ _ rfl HT.out.g HT.out.mm (fun e => by cases e)
  have HQ2 : Aside0 (Pass form x n) := ⟨by
    rcases HQ.out with h | ⟨h1, h2⟩
    · exact h
    · rcases ways with ⟨_, h3⟩ | h3
      · rw [h2] at h3; cases h3
      · rw [h1] at h3; cases h3⟩
  clear HQ HFb
  rcases ways with ⟨rfl, rfl⟩ | rfl
  · rcases H5 with ⟨g4, g5, g5'⟩ | g4
    all_goals
      go_upto_region 6 with (first | (go_at_call 85; (with_reducible refine (HU.out _ HT.out.z).mono ?_); rintro e we ⟨rfl, hb⟩; have HT2 := Aside0.mk (HT.out.below hb); clear HT; have HT := HT2; clear HT2 hb))
      (try clear g4); (try clear g5); (try clear g5'); clear q0 q1 q2 p0 p1 p2 p3 p4 HU
      obtain ⟨q0, q1, q2, p0, p1, p2, p3, p4⟩ := HT.out.cells
      go_region
      clear q0 q1 q2 p0 p1 p2 p3 p4
      obtain ⟨W3, hW3, hT3⟩ := HT.out.count (x.f2.size : Int)
      rw [hW3]
      clear hW3 HT
      have HT := Aside0.mk hT3
      clear hT3
      obtain ⟨q0, q1, q2, p0, p1, p2, p3, p4⟩ := HT.out.cells
      go_wp2_with fail
      clear q0 q1 q2 p0 p1 p2 p3 p4
      go_loopg [65] x.f3.length (fun kq v65 w' => ∃ (i : Nat) (c : Int), kq + i = x.f3.length ∧ v65 = .int .i64 (i : Int) ∧ Aside0 (c = b + (x.f2.size + ksum (x.f3.take i) : Nat)) ∧ (0 ≤ c ∧ c ≤ 3000000000000000) ∧ Aside0 (Ft w0 w w' m v (n + 1) c A3 c3 A4 c4 x))
      case atStart => exact ⟨0, _, by omega, rfl, ⟨by simp [ksum]⟩, by omega, HT⟩
      case round =>
        clear HT
        obtain ⟨i, c, hi, rfl, HN, hn, HT⟩ := hrel
        obtain ⟨q0, q1, q2, p0, p1, p2, p3, p4⟩ := HT.out.cells
        by_cases ci : i < x.f3.length
        · have g0 : decide ((i : Int) < (x.f3.length : Int)) = true := decide_eq_true (by omega)
          have g2 : (0 ≤ (i : Int)) = True := eq_true (by omega)
          have g3 : ((i : Int) < (x.f3.length : Int)) = True := eq_true (by omega)
          obtain ⟨j1, rfl⟩ : ∃ j1, gk = j1 + 1 := ⟨gk - 1, by omega⟩
          have hil : x.f3[i]? = some x.f3[i] := List.getElem?_eq_getElem ci
          have hqs := HX.out.ks _ (List.getElem_mem ci)
          obtain ⟨q, hq'⟩ : ∃ q, x.f3[i] = q := ⟨_, rfl⟩
          rw [hq'] at hil hqs
          obtain ⟨ad, e1, he⟩ := str_at (HR.out.below HT.out.z).r3 i ci hil
          have HK := Aside0.mk (ksum_take hil)
          have hle := ksum_le x.f3 (i + 1)
          have hcb : c + (q.size : Int) ≤ 3000000000000000 := by
            have h1 := HK.out
            have h2 := HN.out
            omega
          have HI := Aside0.mk hi
          clear hil hq' hi hle
          subst e1
          go_wp2
          obtain ⟨W4, hW4, hT4⟩ := HT.out.add (q.size : Int)
          rw [hW4]
          go_roundg j1
          case measure => omega
          case rel => exact ⟨i + 1, c + (q.size : Int), by have := HI.out; omega, rfl, ⟨by have h1 := HK.out; have h2 := HN.out; omega⟩, by omega, ⟨hT4⟩⟩
        · have g0 : decide (i < x.f3.length) = false := decide_eq_false ci
          have hcc : c = b + (x.f2.size + ksum x.f3 : Nat) := by
            have h1 := HN.out
            rw [List.take_of_length_le (by omega)] at h1
            exact h1
          have HCc := Aside0.mk hcc
          clear hcc HN ci hi
          by_cases t6 : 65536 < c
          · have g6 : decide (c > 65536) = true := decide_eq_true t6
            have hff : r = false := by rw [← HF.out]; exact fitR_b (by have := HCc.out; omega)
            subst hff
            clear HF
            go_wp2_with fail
            go_ret
            exact HP.out _ _ _ _ rfl HT.out.g HT.out.mm (fun e => by cases e)
          have g6 : decide (c > 65536) = false := decide_eq_false (by omega)
          by_cases t7 : x.f0 < 5
          · have g7 : decide (x.f0 < 5) = true := decide_eq_true t7
            have hl := fitR_leaf (ar := ar) HQ2.out (show b + (x.f2.size + ksum x.f3 : Nat) ≤ 65536 by have := HCc.out; omega) t7
            have hff : r = true := by rw [← HF.out]; exact hl.1
            have HL := Aside0.mk hl
            subst hff
            clear HF hl
            go_wp2_with fail
            go_ret
            exact HP.out _ _ _ _ rfl HT.out.g HT.out.mm (fun _ => ⟨by have := HL.out.2.1; omega, by have := HL.out.2.2; have := HCc.out; omega⟩)
          have g7 : decide (x.f0 < 5) = false := decide_eq_false t7
          by_cases t8 : 32 ≤ ar
          · have g8 : decide ((ar : Int) ≥ 32) = true := decide_eq_true (by omega)
            have g8' : decide (32 ≤ ar) = true := decide_eq_true (by omega)
            have hff : r = false := by rw [← HF.out]; exact fitR_ar (by omega) t8
            subst hff
            clear HF
            go_wp2_with fail
            go_ret
            exact HP.out _ _ _ _ rfl HT.out.g HT.out.mm (fun e => by cases e)
          have g8 : decide ((ar : Int) ≥ 32) = false := decide_eq_false (by omega)
          have g8' : decide (32 ≤ ar) = false := decide_eq_false (by omega)
          by_cases t9 : 1024 < x.f4.length
          · have g9 : decide ((x.f4.length : Int) > 1024) = true := decide_eq_true (by omega)
            have g9' : decide (1024 < x.f4.length) = true := decide_eq_true (by omega)
            have hff : r = false := by rw [← HF.out]; exact fitR_el (by omega) t9
            subst hff
            clear HF
            go_wp2_with fail
            go_ret
            exact HP.out _ _ _ _ rfl HT.out.g HT.out.mm (fun e => by cases e)
          have g9 : decide ((x.f4.length : Int) > 1024) = false := decide_eq_false (by omega)
          have g9' : decide (1024 < x.f4.length) = false := decide_eq_false (by omega)
          have hgo := fitR_go (b := b) HQ2.out (by omega : 5 ≤ x.f0) (show ar < 32 by omega) (show x.f4.length ≤ 1024 by omega)
          have HG := Aside0.mk hgo
          have hc2 := HCc.out
          have HI0 : Aside0 ((n + 1 : Int) = n + 1 + ndsL (x.f4.take 0) ∧ c = b + (x.f2.size + ksum x.f3 : Nat) + btsL (x.f4.take 0) ∧ okL true (ar + 1) (x.f4.take 0) = true) := ⟨⟨by simp [ndsL], by simp [btsL]; omega, by simp [okL]⟩⟩
          have hn16 : n + 1 ≤ 4096 := by omega
          clear hgo hc2
          go_wp2_with fail
          clear g0 g6 g7 g8 g8' g9 g9' q0 q1 q2 p0 p1 p2 p3 p4
          go_loopg [98] x.f4.length (fun kq v98 w' => ∃ (i : Nat) (ni bi : Int), kq + i = x.f4.length ∧ v98 = .int .i64 (i : Int) ∧ Aside0 (ni = n + 1 + ndsL (x.f4.take i) ∧ bi = b + (x.f2.size + ksum x.f3 : Nat) + btsL (x.f4.take i) ∧ okL true (ar + 1) (x.f4.take i) = true) ∧ (0 ≤ ni ∧ ni ≤ 4096 ∧ 0 ≤ bi ∧ bi ≤ 65536) ∧ Aside0 (Ft w0 w w' m v ni bi A3 c3 A4 c4 x))
          case atStart => exact ⟨0, n + 1, c, by omega, rfl, HI0, by omega, HT⟩
          case round =>
            clear HT HI0
            obtain ⟨i, ni, bi, hi, rfl, HN, hnb, HT⟩ := hrel
            obtain ⟨q0, q1, q2, p0, p1, p2, p3, p4⟩ := HT.out.cells
            by_cases ci : i < x.f4.length
            · have g0 : decide ((i : Int) < (x.f4.length : Int)) = true := decide_eq_true (by omega)
              have g2 : (0 ≤ (i : Int)) = True := eq_true (by omega)
              have g3 : ((i : Int) < (x.f4.length : Int)) = True := eq_true (by omega)
              obtain ⟨j1, rfl⟩ : ∃ j1, gk = j1 + 1 := ⟨gk - 1, by omega⟩
              have hil : x.f4[i]? = some x.f4[i] := List.getElem?_eq_getElem ci
              have hm := List.getElem_mem ci
              have hq := HX.out.es _ hm
              have hz := sz_mem hm
              obtain ⟨y, hq'⟩ : ∃ y, x.f4[i] = y := ⟨_, rfl⟩
              rw [hq'] at hil hq hz
              obtain ⟨ad, Y3, y3, Y4, y4, e1, he0⟩ := el_at HR.out.r4 i ci hil
              have he := he0.below HT.out.z
              have HKt := Aside0.mk (And.intro (ndsL_take hil) (And.intro (btsL_take hil) (okL_take (form := true) (ar := ar + 1) hil)))
              have HPl := Aside0.mk (part_le (form := true) (ar := ar + 1) x.f4 (i + 1))
              have HI := Aside0.mk hi
              have hcy : cnt y ≤ 1000000000000000 := by
                have h1 := HC.out
                have h2 := cnt_eq x
                have h3 := cntL_take hil
                have h4 := cntL_le x.f4 (i + 1)
                omega
              have HY0 := fun W1 hz2 hz3 => ih y (ar + 1) ni bi m w0 W1 (by have := HS.out; omega) hq hcy (by omega) hnb.1 hnb.2.1 hnb.2.2.1 hnb.2.2.2 he0.rd HT.out.lt hz2 hz3
              obtain ⟨ry, hry⟩ : ∃ ry, fitR true (ar + 1) y ni bi = ry := ⟨_, rfl⟩
              have HRy := Aside0.mk hry
              have HY : Aside0 (∀ W1, Below w0.heap.size w0 W1 → W1.heap[m]? = some (.cells #[.int .i64 ni, .int .i64 bi] 72 (0, 0)) → Calls Try.prog 72 #[.pointer (some ⟨m, 0, none⟩), .agg #[.int .i64 y.f0, .int .i64 y.f1, .string y.f2, .slice Y3 y.f3.length y3, .slice Y4 y.f4.length y4], .int .i64 ((ar : Int) + 1), .bool true] W1 fun e we => ∃ n2 b2 : Int, e = .returned (.bool ry) ∧ W1.grownBy we (some m) ∧ we.heap[m]? = some (.cells #[.int .i64 n2, .int .i64 b2] 72 (0, 0)) ∧ (ry = true → n2 = ni + nds y ∧ b2 = bi + bts y)) := ⟨fun W1 h1 h2 => by
                have h := HY0 W1 h1 h2
                rw [show ((ar + 1 : Nat) : Int) = (ar : Int) + 1 by omega] at h
                refine h.mono ?_
                rintro e we ⟨n2, b2, k1, k2, k3, k4⟩
                exact ⟨n2, b2, by rw [← hry]; exact k1, k2, k3, by rw [← hry]; exact k4⟩⟩
              have HTa := Aside0.mk (HT.out.below (new_below wr (.cells #[.int .i64 y.f0, .int .i64 y.f1, .string y.f2, .slice Y3 y.f3.length y3, .slice Y4 y.f4.length y4] 28)))
              obtain ⟨e0, e2, e3, e4, e5, _⟩ := he
              clear hil hq' hi hm hq hz hry he0 hcy HY0
              subst e1
              cases ry with
              | false =>
                have hff : r = false := by
                  rw [← HF.out, HG.out.1]
                  have h1 := HRy.out
                  obtain ⟨k1, k2, k3⟩ := HKt.out
                  obtain ⟨l1, l2, l3⟩ := HPl.out
                  obtain ⟨n1, n2, n3⟩ := HN.out
                  unfold fitR at h1
                  by_cases z1 : okL true (ar + 1) x.f4 = true
                  · have z2 := l3 z1
                    rw [k3, n3, Bool.true_and] at z2
                    rw [z2, Bool.true_and] at h1
                    by_cases z3 : n + 1 + (ndsL x.f4 : Int) ≤ 4096
                    · rw [decide_eq_true (show ni + (nds y : Int) ≤ 4096 by omega), Bool.true_and, decide_eq_false_iff_not] at h1
                      rw [decide_eq_false (show ¬ b + ((x.f2.size + ksum x.f3 : Nat) : Int) + (btsL x.f4 : Int) ≤ 65536 by omega)]
                      simp
                    · rw [decide_eq_false z3]
                      simp
                  · rw [Bool.eq_false_iff.2 z1]
                    rfl
                subst hff
                clear HF
                go_wp2_with (first | (go_at_call 72; (with_reducible refine (HY.out _ HTa.out.z HTa.out.mm).mono ?_); rintro e we ⟨n2, b2, rfl, hg, hmm, him⟩; have HT2 := Aside0.mk (HTa.out.put hg hmm); clear HT HTa; have HT := HT2; clear HT2 hg hmm))
                go_ret
                exact HP.out _ _ _ _ rfl HT.out.g HT.out.mm (fun e => by cases e)
              | true =>
                have hfit : ni + nds y ≤ 4096 ∧ bi + bts y ≤ 65536 ∧ okv true (ar + 1) y = true := by
                  have h1 := HRy.out
                  unfold fitR at h1
                  simp only [Bool.and_eq_true, decide_eq_true_eq] at h1
                  exact ⟨h1.1.2, h1.2, h1.1.1⟩
                have HN2 : Aside0 (ni + nds y = n + 1 + ndsL (x.f4.take (i + 1)) ∧ bi + bts y = b + (x.f2.size + ksum x.f3 : Nat) + btsL (x.f4.take (i + 1)) ∧ okL true (ar + 1) (x.f4.take (i + 1)) = true) := ⟨by
                  obtain ⟨k1, k2, k3⟩ := HKt.out
                  obtain ⟨n1, n2, n3⟩ := HN.out
                  exact ⟨by omega, by omega, by rw [k3, n3, hfit.2.2]; rfl⟩⟩
                have hf1 := hfit.1
                have hf2 := hfit.2.1
                clear hfit HN HKt HPl
                go_wp2_with (first | (go_at_call 72; (with_reducible refine (HY.out _ HTa.out.z HTa.out.mm).mono ?_); rintro e we ⟨n2, b2, rfl, hg, hmm, him⟩; have HT2 := Aside0.mk (HTa.out.put hg hmm); clear HT HTa; have HT := HT2; clear HT2 hg hmm))
                obtain ⟨rfl, rfl⟩ := him (by first | trivial | rfl)
                go_roundg j1
                case measure => omega
                case rel => exact ⟨i + 1, ni + nds y, bi + bts y, by have := HI.out; omega, rfl, HN2, by omega, HT⟩
            · have g0 : decide (i < x.f4.length) = false := decide_eq_false ci
              have hff : r = true := by
                rw [← HF.out, HG.out.1]
                obtain ⟨n1, n2, n3⟩ := HN.out
                rw [List.take_of_length_le (by omega)] at n1 n2 n3
                rw [n3, decide_eq_true (by omega), decide_eq_true (by omega)]
                rfl
              have HE : Aside0 (ni = n + nds x ∧ bi = b + bts x) := ⟨by
                obtain ⟨n1, n2, n3⟩ := HN.out
                rw [List.take_of_length_le (by omega)] at n1 n2 n3
                have h1 := HG.out.2.1
                have h2 := HG.out.2.2
                omega⟩
              subst hff
              clear HF ci hi
              go_wp2
              go_ret
              exact HP.out _ _ _ _ rfl HT.out.g HT.out.mm (fun _ => HE.out)
  · rcases H5 with ⟨g4, g5, g5'⟩ | g4
    all_goals
      go_upto_region 6 with (first | (go_at_call 85; (with_reducible refine (HU.out _ HT.out.z).mono ?_); rintro e we ⟨rfl, hb⟩; have HT2 := Aside0.mk (HT.out.below hb); clear HT; have HT := HT2; clear HT2 hb))
      (try clear g4); (try clear g5); (try clear g5'); clear q0 q1 q2 p0 p1 p2 p3 p4 HU
      obtain ⟨q0, q1, q2, p0, p1, p2, p3, p4⟩ := HT.out.cells
      go_region
      clear q0 q1 q2 p0 p1 p2 p3 p4
      obtain ⟨W3, hW3, hT3⟩ := HT.out.count (x.f2.size : Int)
      rw [hW3]
      clear hW3 HT
      have HT := Aside0.mk hT3
      clear hT3
      obtain ⟨q0, q1, q2, p0, p1, p2, p3, p4⟩ := HT.out.cells
      go_wp2_with fail
      clear q0 q1 q2 p0 p1 p2 p3 p4
      go_loopg [65] x.f3.length (fun kq v65 w' => ∃ (i : Nat) (c : Int), kq + i = x.f3.length ∧ v65 = .int .i64 (i : Int) ∧ Aside0 (c = b + (x.f2.size + ksum (x.f3.take i) : Nat)) ∧ (0 ≤ c ∧ c ≤ 3000000000000000) ∧ Aside0 (Ft w0 w w' m v (n + 1) c A3 c3 A4 c4 x))
      case atStart => exact ⟨0, _, by omega, rfl, ⟨by simp [ksum]⟩, by omega, HT⟩
      case round =>
        clear HT
        obtain ⟨i, c, hi, rfl, HN, hn, HT⟩ := hrel
        obtain ⟨q0, q1, q2, p0, p1, p2, p3, p4⟩ := HT.out.cells
        by_cases ci : i < x.f3.length
        · have g0 : decide ((i : Int) < (x.f3.length : Int)) = true := decide_eq_true (by omega)
          have g2 : (0 ≤ (i : Int)) = True := eq_true (by omega)
          have g3 : ((i : Int) < (x.f3.length : Int)) = True := eq_true (by omega)
          obtain ⟨j1, rfl⟩ : ∃ j1, gk = j1 + 1 := ⟨gk - 1, by omega⟩
          have hil : x.f3[i]? = some x.f3[i] := List.getElem?_eq_getElem ci
          have hqs := HX.out.ks _ (List.getElem_mem ci)
          obtain ⟨q, hq'⟩ : ∃ q, x.f3[i] = q := ⟨_, rfl⟩
          rw [hq'] at hil hqs
          obtain ⟨ad, e1, he⟩ := str_at (HR.out.below HT.out.z).r3 i ci hil
          have HK := Aside0.mk (ksum_take hil)
          have hle := ksum_le x.f3 (i + 1)
          have hcb : c + (q.size : Int) ≤ 3000000000000000 := by
            have h1 := HK.out
            have h2 := HN.out
            omega
          have HI := Aside0.mk hi
          clear hil hq' hi hle
          subst e1
          go_wp2
          obtain ⟨W4, hW4, hT4⟩ := HT.out.add (q.size : Int)
          rw [hW4]
          go_roundg j1
          case measure => omega
          case rel => exact ⟨i + 1, c + (q.size : Int), by have := HI.out; omega, rfl, ⟨by have h1 := HK.out; have h2 := HN.out; omega⟩, by omega, ⟨hT4⟩⟩
        · have g0 : decide (i < x.f3.length) = false := decide_eq_false ci
          have hcc : c = b + (x.f2.size + ksum x.f3 : Nat) := by
            have h1 := HN.out
            rw [List.take_of_length_le (by omega)] at h1
            exact h1
          have HCc := Aside0.mk hcc
          clear hcc HN ci hi
          by_cases t6 : 65536 < c
          · have g6 : decide (c > 65536) = true := decide_eq_true t6
            have hff : r = false := by rw [← HF.out]; exact fitR_b (by have := HCc.out; omega)
            subst hff
            clear HF
            go_wp2_with fail
            go_ret
            exact HP.out _ _ _ _ rfl HT.out.g HT.out.mm (fun e => by cases e)
          have g6 : decide (c > 65536) = false := decide_eq_false (by omega)
          by_cases t7 : x.f0 < 5
          · have g7 : decide (x.f0 < 5) = true := decide_eq_true t7
            have hl := fitR_leaf (ar := ar) HQ2.out (show b + (x.f2.size + ksum x.f3 : Nat) ≤ 65536 by have := HCc.out; omega) t7
            have hff : r = true := by rw [← HF.out]; exact hl.1
            have HL := Aside0.mk hl
            subst hff
            clear HF hl
            go_wp2_with fail
            go_ret
            exact HP.out _ _ _ _ rfl HT.out.g HT.out.mm (fun _ => ⟨by have := HL.out.2.1; omega, by have := HL.out.2.2; have := HCc.out; omega⟩)
          have g7 : decide (x.f0 < 5) = false := decide_eq_false t7
          by_cases t8 : 32 ≤ ar
          · have g8 : decide ((ar : Int) ≥ 32) = true := decide_eq_true (by omega)
            have g8' : decide (32 ≤ ar) = true := decide_eq_true (by omega)
            have hff : r = false := by rw [← HF.out]; exact fitR_ar (by omega) t8
            subst hff
            clear HF
            go_wp2_with fail
            go_ret
            exact HP.out _ _ _ _ rfl HT.out.g HT.out.mm (fun e => by cases e)
          have g8 : decide ((ar : Int) ≥ 32) = false := decide_eq_false (by omega)
          have g8' : decide (32 ≤ ar) = false := decide_eq_false (by omega)
          by_cases t9 : 1024 < x.f4.length
          · have g9 : decide ((x.f4.length : Int) > 1024) = true := decide_eq_true (by omega)
            have g9' : decide (1024 < x.f4.length) = true := decide_eq_true (by omega)
            have hff : r = false := by rw [← HF.out]; exact fitR_el (by omega) t9
            subst hff
            clear HF
            go_wp2_with fail
            go_ret
            exact HP.out _ _ _ _ rfl HT.out.g HT.out.mm (fun e => by cases e)
          have g9 : decide ((x.f4.length : Int) > 1024) = false := decide_eq_false (by omega)
          have g9' : decide (1024 < x.f4.length) = false := decide_eq_false (by omega)
          have hgo := fitR_go (b := b) HQ2.out (by omega : 5 ≤ x.f0) (show ar < 32 by omega) (show x.f4.length ≤ 1024 by omega)
          have HG := Aside0.mk hgo
          have hc2 := HCc.out
          have HI0 : Aside0 ((n + 1 : Int) = n + 1 + ndsL (x.f4.take 0) ∧ c = b + (x.f2.size + ksum x.f3 : Nat) + btsL (x.f4.take 0) ∧ okL false (ar + 1) (x.f4.take 0) = true) := ⟨⟨by simp [ndsL], by simp [btsL]; omega, by simp [okL]⟩⟩
          have hn16 : n + 1 ≤ 4096 := by omega
          clear hgo hc2
          go_wp2_with fail
          clear g0 g6 g7 g8 g8' g9 g9' q0 q1 q2 p0 p1 p2 p3 p4
          go_loopg [98] x.f4.length (fun kq v98 w' => ∃ (i : Nat) (ni bi : Int), kq + i = x.f4.length ∧ v98 = .int .i64 (i : Int) ∧ Aside0 (ni = n + 1 + ndsL (x.f4.take i) ∧ bi = b + (x.f2.size + ksum x.f3 : Nat) + btsL (x.f4.take i) ∧ okL false (ar + 1) (x.f4.take i) = true) ∧ (0 ≤ ni ∧ ni ≤ 4096 ∧ 0 ≤ bi ∧ bi ≤ 65536) ∧ Aside0 (Ft w0 w w' m v ni bi A3 c3 A4 c4 x))
          case atStart => exact ⟨0, n + 1, c, by omega, rfl, HI0, by omega, HT⟩
          case round =>
            clear HT HI0
            obtain ⟨i, ni, bi, hi, rfl, HN, hnb, HT⟩ := hrel
            obtain ⟨q0, q1, q2, p0, p1, p2, p3, p4⟩ := HT.out.cells
            by_cases ci : i < x.f4.length
            · have g0 : decide ((i : Int) < (x.f4.length : Int)) = true := decide_eq_true (by omega)
              have g2 : (0 ≤ (i : Int)) = True := eq_true (by omega)
              have g3 : ((i : Int) < (x.f4.length : Int)) = True := eq_true (by omega)
              obtain ⟨j1, rfl⟩ : ∃ j1, gk = j1 + 1 := ⟨gk - 1, by omega⟩
              have hil : x.f4[i]? = some x.f4[i] := List.getElem?_eq_getElem ci
              have hm := List.getElem_mem ci
              have hq := HX.out.es _ hm
              have hz := sz_mem hm
              obtain ⟨y, hq'⟩ : ∃ y, x.f4[i] = y := ⟨_, rfl⟩
              rw [hq'] at hil hq hz
              obtain ⟨ad, Y3, y3, Y4, y4, e1, he0⟩ := el_at HR.out.r4 i ci hil
              have he := he0.below HT.out.z
              have HKt := Aside0.mk (And.intro (ndsL_take hil) (And.intro (btsL_take hil) (okL_take (form := false) (ar := ar + 1) hil)))
              have HPl := Aside0.mk (part_le (form := false) (ar := ar + 1) x.f4 (i + 1))
              have HI := Aside0.mk hi
              have hcy : cnt y ≤ 1000000000000000 := by
                have h1 := HC.out
                have h2 := cnt_eq x
                have h3 := cntL_take hil
                have h4 := cntL_le x.f4 (i + 1)
                omega
              have HY0 := fun W1 hz2 hz3 => ih y (ar + 1) ni bi m w0 W1 (by have := HS.out; omega) hq hcy (by omega) hnb.1 hnb.2.1 hnb.2.2.1 hnb.2.2.2 he0.rd HT.out.lt hz2 hz3
              obtain ⟨ry, hry⟩ : ∃ ry, fitR false (ar + 1) y ni bi = ry := ⟨_, rfl⟩
              have HRy := Aside0.mk hry
              have HY : Aside0 (∀ W1, Below w0.heap.size w0 W1 → W1.heap[m]? = some (.cells #[.int .i64 ni, .int .i64 bi] 72 (0, 0)) → Calls Try.prog 72 #[.pointer (some ⟨m, 0, none⟩), .agg #[.int .i64 y.f0, .int .i64 y.f1, .string y.f2, .slice Y3 y.f3.length y3, .slice Y4 y.f4.length y4], .int .i64 ((ar : Int) + 1), .bool false] W1 fun e we => ∃ n2 b2 : Int, e = .returned (.bool ry) ∧ W1.grownBy we (some m) ∧ we.heap[m]? = some (.cells #[.int .i64 n2, .int .i64 b2] 72 (0, 0)) ∧ (ry = true → n2 = ni + nds y ∧ b2 = bi + bts y)) := ⟨fun W1 h1 h2 => by
                have h := HY0 W1 h1 h2
                rw [show ((ar + 1 : Nat) : Int) = (ar : Int) + 1 by omega] at h
                refine h.mono ?_
                rintro e we ⟨n2, b2, k1, k2, k3, k4⟩
                exact ⟨n2, b2, by rw [← hry]; exact k1, k2, k3, by rw [← hry]; exact k4⟩⟩
              have HTa := Aside0.mk (HT.out.below (new_below wr (.cells #[.int .i64 y.f0, .int .i64 y.f1, .string y.f2, .slice Y3 y.f3.length y3, .slice Y4 y.f4.length y4] 28)))
              obtain ⟨e0, e2, e3, e4, e5, _⟩ := he
              clear hil hq' hi hm hq hz hry he0 hcy HY0
              subst e1
              cases ry with
              | false =>
                have hff : r = false := by
                  rw [← HF.out, HG.out.1]
                  have h1 := HRy.out
                  obtain ⟨k1, k2, k3⟩ := HKt.out
                  obtain ⟨l1, l2, l3⟩ := HPl.out
                  obtain ⟨n1, n2, n3⟩ := HN.out
                  unfold fitR at h1
                  by_cases z1 : okL false (ar + 1) x.f4 = true
                  · have z2 := l3 z1
                    rw [k3, n3, Bool.true_and] at z2
                    rw [z2, Bool.true_and] at h1
                    by_cases z3 : n + 1 + (ndsL x.f4 : Int) ≤ 4096
                    · rw [decide_eq_true (show ni + (nds y : Int) ≤ 4096 by omega), Bool.true_and, decide_eq_false_iff_not] at h1
                      rw [decide_eq_false (show ¬ b + ((x.f2.size + ksum x.f3 : Nat) : Int) + (btsL x.f4 : Int) ≤ 65536 by omega)]
                      simp
                    · rw [decide_eq_false z3]
                      simp
                  · rw [Bool.eq_false_iff.2 z1]
                    rfl
                subst hff
                clear HF
                go_wp2_with (first | (go_at_call 72; (with_reducible refine (HY.out _ HTa.out.z HTa.out.mm).mono ?_); rintro e we ⟨n2, b2, rfl, hg, hmm, him⟩; have HT2 := Aside0.mk (HTa.out.put hg hmm); clear HT HTa; have HT := HT2; clear HT2 hg hmm))
                go_ret
                exact HP.out _ _ _ _ rfl HT.out.g HT.out.mm (fun e => by cases e)
              | true =>
                have hfit : ni + nds y ≤ 4096 ∧ bi + bts y ≤ 65536 ∧ okv false (ar + 1) y = true := by
                  have h1 := HRy.out
                  unfold fitR at h1
                  simp only [Bool.and_eq_true, decide_eq_true_eq] at h1
                  exact ⟨h1.1.2, h1.2, h1.1.1⟩
                have HN2 : Aside0 (ni + nds y = n + 1 + ndsL (x.f4.take (i + 1)) ∧ bi + bts y = b + (x.f2.size + ksum x.f3 : Nat) + btsL (x.f4.take (i + 1)) ∧ okL false (ar + 1) (x.f4.take (i + 1)) = true) := ⟨by
                  obtain ⟨k1, k2, k3⟩ := HKt.out
                  obtain ⟨n1, n2, n3⟩ := HN.out
                  exact ⟨by omega, by omega, by rw [k3, n3, hfit.2.2]; rfl⟩⟩
                have hf1 := hfit.1
                have hf2 := hfit.2.1
                clear hfit HN HKt HPl
                go_wp2_with (first | (go_at_call 72; (with_reducible refine (HY.out _ HTa.out.z HTa.out.mm).mono ?_); rintro e we ⟨n2, b2, rfl, hg, hmm, him⟩; have HT2 := Aside0.mk (HTa.out.put hg hmm); clear HT HTa; have HT := HT2; clear HT2 hg hmm))
                obtain ⟨rfl, rfl⟩ := him (by first | trivial | rfl)
                go_roundg j1
                case measure => omega
                case rel => exact ⟨i + 1, ni + nds y, bi + bts y, by have := HI.out; omega, rfl, HN2, by omega, HT⟩
            · have g0 : decide (i < x.f4.length) = false := decide_eq_false ci
              have hff : r = true := by
                rw [← HF.out, HG.out.1]
                obtain ⟨n1, n2, n3⟩ := HN.out
                rw [List.take_of_length_le (by omega)] at n1 n2 n3
                rw [n3, decide_eq_true (by omega), decide_eq_true (by omega)]
                rfl
              have HE : Aside0 (ni = n + nds x ∧ bi = b + bts x) := ⟨by
                obtain ⟨n1, n2, n3⟩ := HN.out
                rw [List.take_of_length_le (by omega)] at n1 n2 n3
                have h1 := HG.out.2.1
                have h2 := HG.out.2.2
                omega⟩
              subst hff
              clear HF ci hi
              go_wp2
              go_ret
              exact HP.out _ _ _ _ rfl HT.out.g HT.out.mm (fun _ => HE.out)
end Go.Proofs.Ytgpjkojnmeaoiaa.QV
