/- Values of JSON, by hand: how they lie in memory; keep.Count and keep.Small. -/
import Derived.Test.YtgpjkojnmeaoiaaQVx1
import Derived.Test.YtgpjkojnmeaoiaaQVx2
import Derived.Test.YtgpjkojnmeaoiaaQVx4
import Derived.Test.YtgpjkojnmeaoiaaQVx5
import Derived.Test.YtgpjkojnmeaoiaaUp
import Derived.Deep.CutBlock
import Derived.Deep.RegionHeld3
namespace Go.Proofs.Ytgpjkojnmeaoiaa.QV
open Go Go.RowKit Go.Proofs.YtgpjkojnmeaoiaaW.PrintWords Go.Proofs.YtgpjkojnmeaoiaaW.PrintLast Go.Proofs.YtgpjkojnmeaoiaaW.PrintMore
set_option linter.unusedVariables false
set_option linter.unusedSimpArgs false
set_option maxRecDepth 100000
set_option maxHeartbeats 4000000
/-- The rows of a value. -/
structure Rd (w : World) (A3 : Option Addr) (c3 : Nat) (A4 : Option Addr) (c4 : Nat) (x : S28) : Prop where
  k3 : x.f3.length ≤ c3
  r3 : Kd.C Kd.string w A3 x.f3.length x.f3
  k4 : x.f4.length ≤ c4
  r4 : Kd.C k28 w A4 x.f4.length x.f4
theorem Rd.below {w w' : World} {A3 c3 A4 c4} {x : S28} (h : Rd w A3 c3 A4 c4 x) (hb : Below w.heap.size w w') : Rd w' A3 c3 A4 c4 x := ⟨h.k3, Kd.C_below h.r3 hb, h.k4, Kd.C_below h.r4 hb⟩
/-- A value in five cells from an address on. -/
structure Ce (w : World) (ad : Addr) (A3 : Option Addr) (c3 : Nat) (A4 : Option Addr) (c4 : Nat) (x : S28) : Prop where
  h0 : w.cell? ad = some (.int .i64 x.f0)
  h1 : w.cell? ⟨ad.block, ad.off + 1, none⟩ = some (.int .i64 x.f1)
  h2 : w.cell? ⟨ad.block, ad.off + 2, none⟩ = some (.string x.f2)
  h3 : w.cell? ⟨ad.block, ad.off + 3, none⟩ = some (.slice A3 x.f3.length c3)
  h4 : w.cell? ⟨ad.block, ad.off + 4, none⟩ = some (.slice A4 x.f4.length c4)
  rd : Rd w A3 c3 A4 c4 x
theorem Ce.below {w w' : World} {ad : Addr} {A3 c3 A4 c4} {x : S28} (h : Ce w ad A3 c3 A4 c4 x) (hb : Below w.heap.size w w') : Ce w' ad A3 c3 A4 c4 x :=
  ⟨(hb.cell (World.block_lt_of_cell? w _ h.h0)).trans h.h0, (hb.cell (World.block_lt_of_cell? w _ h.h1)).trans h.h1, (hb.cell (World.block_lt_of_cell? w _ h.h2)).trans h.h2, (hb.cell (World.block_lt_of_cell? w _ h.h3)).trans h.h3,
    (hb.cell (World.block_lt_of_cell? w _ h.h4)).trans h.h4, h.rd.below hb⟩
theorem el_at {w : World} {A : Option Addr} {n : Nat} {l : List S28} (h : Kd.C k28 w A n l) (i : Nat) (hi : i < n) {x : S28} (hx : l[i]? = some x) : ∃ ad A3 c3 A4 c4, A = some ad ∧ Ce w (ad.add (i * 5)) A3 c3 A4 c4 x := by
  obtain ⟨ad, A3, c3, A4, c4, e, a0, a1, a2, a3, a4, b1, b2, b3, b4⟩ := at_T28 h (i : Int) (by omega) (by omega)
  have e2 : rd_T28 l (i : Int) = x := by unfold rd_T28; rw [Int.toNat_natCast, List.getD_eq_getElem?_getD, hx]; rfl
  subst e2
  rw [Int.toNat_natCast] at *
  exact ⟨ad, A3, c3, A4, c4, e, ⟨a0, a1, a2, a3, a4, ⟨b1, b2, b3, b4⟩⟩⟩
/-- A value in block b. -/
structure Bv (w : World) (b : Nat) (A3 : Option Addr) (c3 : Nat) (A4 : Option Addr) (c4 : Nat) (x : S28) : Prop where
  blk : w.heap[b]? = some (.cells #[.int .i64 x.f0, .int .i64 x.f1, .string x.f2, .slice A3 x.f3.length c3, .slice A4 x.f4.length c4] 28 (0, 0))
  rd : Rd w A3 c3 A4 c4 x
theorem Bv.below {w w' : World} {b : Nat} {A3 c3 A4 c4} {x : S28} (h : Bv w b A3 c3 A4 c4 x) (hb : Below w.heap.size w w') : Bv w' b A3 c3 A4 c4 x :=
  ⟨(hb.block b (Array.getElem?_eq_some_iff.1 h.blk).1).trans h.blk, h.rd.below hb⟩
theorem Bv.cells {w : World} {b : Nat} {A3 c3 A4 c4} {x : S28} (h : Bv w b A3 c3 A4 c4 x) :
    w.cell? ⟨b, 0, none⟩ = some (.int .i64 x.f0) ∧ w.cell? ⟨b, 1, none⟩ = some (.int .i64 x.f1) ∧ w.cell? ⟨b, 2, none⟩ = some (.string x.f2) ∧ w.cell? ⟨b, 3, none⟩ = some (.slice A3 x.f3.length c3) ∧ w.cell? ⟨b, 4, none⟩ = some (.slice A4 x.f4.length c4) := by
  have hb := h.blk
  refine ⟨?_, ?_, ?_, ?_, ?_⟩ <;> simp [World.cell?, hb]
theorem Bv.new {w : World} {A3 c3 A4 c4} {x : S28} (h : Rd w A3 c3 A4 c4 x) : Bv (w.alloc (.cells #[.int .i64 x.f0, .int .i64 x.f1, .string x.f2, .slice A3 x.f3.length c3, .slice A4 x.f4.length c4] 28)) w.heap.size A3 c3 A4 c4 x :=
  ⟨heap_alloc_new w _, h.below ((Below.refl w.heap.size w).alloc (Nat.le_refl _) _)⟩
theorem new_below (w : World) (o : Obj) : Below w.heap.size w (w.alloc o) := (Below.refl w.heap.size w).alloc (Nat.le_refl _) _
/-- What is known of a value that came in. -/
inductive Wv : S28 → Prop
  | mk (x : S28) : (-9223372036854775808 ≤ x.f0 ∧ x.f0 ≤ 9223372036854775807) → (-9223372036854775808 ≤ x.f1 ∧ x.f1 ≤ 9223372036854775807) → x.f2.size ≤ 140737488351232 → x.f3.length ≤ 140737488351232 → (∀ q ∈ x.f3, q.size ≤ 140737488351232) → x.f4.length ≤ 140737488351232 → (∀ q ∈ x.f4, Wv q) → Wv x
theorem Wv.s {x : S28} (h : Wv x) : x.f2.size ≤ 140737488351232 := by cases h; assumption
theorem Wv.ks {x : S28} (h : Wv x) : ∀ q ∈ x.f3, q.size ≤ 140737488351232 := by cases h; assumption
theorem Wv.kl {x : S28} (h : Wv x) : x.f3.length ≤ 140737488351232 := by cases h; assumption
theorem Wv.el {x : S28} (h : Wv x) : x.f4.length ≤ 140737488351232 := by cases h; assumption
theorem Wv.es {x : S28} (h : Wv x) : ∀ q ∈ x.f4, Wv q := by cases h; assumption
theorem Wv.k {x : S28} (h : Wv x) : -9223372036854775808 ≤ x.f0 ∧ x.f0 ≤ 9223372036854775807 := by cases h; assumption
theorem Wv.i {x : S28} (h : Wv x) : -9223372036854775808 ≤ x.f1 ∧ x.f1 ≤ 9223372036854775807 := by cases h; assumption
theorem sz_mem {x y : S28} (h : y ∈ x.f4) : SizeOf.sizeOf y < SizeOf.sizeOf x := by
  have h1 := List.sizeOf_lt_of_mem h
  obtain ⟨a, b, c, d, e⟩ := x
  simp only [S28.mk.sizeOf_spec] at *
  omega
/-! ### keep.Count, keep.Small -/
def ksz : List ByteArray → Nat
  | [] => 0
  | k :: l => 1 + k.size + ksz l
mutual
def cnt : S28 → Nat
  | ⟨_, _, s, ks, es⟩ => 1 + s.size + ksz ks + cntL es
def cntL : List S28 → Nat
  | [] => 0
  | e :: l => cnt e + cntL l
end
theorem cnt_eq (x : S28) : cnt x = 1 + x.f2.size + ksz x.f3 + cntL x.f4 := by obtain ⟨a, b, c, d, e⟩ := x; rw [cnt]
theorem ksz_app (l m : List ByteArray) : ksz (l ++ m) = ksz l + ksz m := by
  induction l with
  | nil => simp [ksz]
  | cons k l ih => simp only [List.cons_append, ksz, ih]; omega
theorem cntL_app (l m : List S28) : cntL (l ++ m) = cntL l + cntL m := by
  induction l with
  | nil => simp [cntL]
  | cons k l ih => simp only [List.cons_append, cntL, ih]; omega
theorem ksz_take {l : List ByteArray} {i : Nat} {k : ByteArray} (h : l[i]? = some k) : ksz (l.take (i + 1)) = ksz (l.take i) + (1 + k.size) := by
  rw [List.take_add_one, h, ksz_app]
  simp [ksz]
theorem cntL_take {l : List S28} {i : Nat} {k : S28} (h : l[i]? = some k) : cntL (l.take (i + 1)) = cntL (l.take i) + cnt k := by
  rw [List.take_add_one, h, cntL_app]
  simp [cntL]
theorem ksz_le (l : List ByteArray) (i : Nat) : ksz (l.take i) ≤ ksz l := by
  have h := ksz_app (l.take i) (l.drop i)
  rw [List.take_append_drop] at h
  omega
theorem cntL_le (l : List S28) (i : Nat) : cntL (l.take i) ≤ cntL l := by
  have h := cntL_app (l.take i) (l.drop i)
  rw [List.take_append_drop] at h
  omega
def CntPost (most : Int) (c : Nat) (w : World) (e : Ending) (w' : World) : Prop := ∃ n : Int, e = .returned (.int .i64 n) ∧ 0 ≤ n ∧ n ≤ most + 281474976710656 ∧ ((c : Int) ≤ most ↔ n ≤ most) ∧ ((c : Int) ≤ most → n = (c : Int)) ∧ Below w.heap.size w w'
theorem str_at {w : World} {A : Option Addr} {n : Nat} {l : List ByteArray} (h : Kd.C Kd.string w A n l) (i : Nat) (hi : i < n) {x : ByteArray} (hx : l[i]? = some x) : ∃ ad, A = some ad ∧ w.cell? (ad.add i) = some (.string x) := by
  obtain ⟨ad, c, e, hl, hK, hc0⟩ := Kd.C_get h (⟨#[]⟩ : ByteArray) (i : Int) (by omega) (by omega)
  rw [Int.toNat_natCast, List.getD_eq_getElem?_getD, hx] at hK
  have hK : c = [.string x] := hK
  subst hK
  refine ⟨ad, e, ?_⟩
  have := hc0 0 _ rfl
  rwa [Int.toNat_natCast, show i * Kd.string.sz + 0 = i from by show i * 1 + 0 = i; omega] at this
theorem countC (s : Nat) : ∀ (x : S28) (most : Int) (w : World) {A3 : Option Addr} {c3 : Nat} {A4 : Option Addr} {c4 : Nat}, SizeOf.sizeOf x < s → Wv x → 0 ≤ most → most ≤ 1000000 → Rd w A3 c3 A4 c4 x →
    Calls Try.prog 41 #[.agg #[.int .i64 x.f0, .int .i64 x.f1, .string x.f2, .slice A3 x.f3.length c3, .slice A4 x.f4.length c4], .int .i64 most] w (CntPost most (cnt x) w) := by
  induction s with
  | zero => intro x most w A3 c3 A4 c4 h; omega
  | succ s ih =>
  intro x most w A3 c3 A4 c4 hs hx h0 h1 hr
  have HR := Aside0.mk hr
  have HX := Aside0.mk hx
  have HS := Aside0.mk hs
  have h2 := hx.s
  have h3 := hx.kl
  have h4 := hx.el
  clear hs hx hr
  go_enter Try.func41, Try.ntmps41
  go_upto_region 2 with fail
  have HB := Aside0.mk (Bv.new (HR.out))
  have HW := Aside0.mk (new_below w (.cells #[.int .i64 x.f0, .int .i64 x.f1, .string x.f2, .slice A3 x.f3.length c3, .slice A4 x.f4.length c4] 28))
  obtain ⟨b, hb⟩ : ∃ b, w.heap.size = b := ⟨_, rfl⟩
  obtain ⟨W, hW⟩ : ∃ W, w.alloc (.cells #[.int .i64 x.f0, .int .i64 x.f1, .string x.f2, .slice A3 x.f3.length c3, .slice A4 x.f4.length c4] 28) = W := ⟨_, rfl⟩
  rw [hW, hb] at HB
  rw [hW] at HW
  rw [hW, hb]
  clear hW hb HR
  go_wp2_with fail
  obtain ⟨c0, c1, c2, c3_, c4_⟩ := HB.out.cells
  go_loopg [5, 6] x.f3.length (fun kq v5 v6 w' => ∃ (i : Nat) (n : Int), kq + i = x.f3.length ∧ v6 = .int .i64 (i : Int) ∧ v5 = .int .i64 n ∧ Aside0 (n = 1 + x.f2.size + ksz (x.f3.take i)) ∧ (0 ≤ n ∧ n ≤ most + 281474976710656) ∧ w' = W)
  case atStart => exact ⟨0, _, by omega, rfl, rfl, ⟨by simp [ksz]⟩, by omega, rfl⟩
  case round =>
    obtain ⟨i, n, hi, rfl, rfl, HN, hn, rfl⟩ := hrel
    by_cases ci : i < x.f3.length ∧ n ≤ most
    · obtain ⟨ci, cn⟩ := ci
      have g0 : decide ((i : Int) < (x.f3.length : Int)) = true := decide_eq_true (by omega)
      have g1 : decide (n ≤ most) = true := decide_eq_true (by omega)
      have g2 : (0 ≤ (i : Int)) = True := eq_true (by omega)
      have g3 : ((i : Int) < (x.f3.length : Int)) = True := eq_true (by omega)
      obtain ⟨j1, rfl⟩ : ∃ j1, gk = j1 + 1 := ⟨gk - 1, by omega⟩
      have hil : x.f3[i]? = some x.f3[i] := List.getElem?_eq_getElem ci
      have hq := HX.out.ks _ (List.getElem_mem ci)
      obtain ⟨q, hq'⟩ : ∃ q, x.f3[i] = q := ⟨_, rfl⟩
      rw [hq'] at hil hq
      obtain ⟨ad, e1, he⟩ := str_at HB.out.rd.r3 i ci hil
      have HT := Aside0.mk (ksz_take hil)
      have HI := Aside0.mk hi
      clear hil hq' hi
      subst e1
      go_wp2
      go_roundg j1
      case measure => omega
      case rel => exact ⟨i + 1, n + (1 + (q.size : Int)), by have := HI.out; omega, rfl, rfl, ⟨by have h1 := HT.out; have h2 := HN.out; omega⟩, by omega, rfl⟩
    · have hle := ksz_le x.f3 i
      have hc := cnt_eq x
      have HJ : Aside0 ((n ≤ most → n = 1 + x.f2.size + ksz x.f3 + cntL (x.f4.take 0)) ∧ (most < n → most < (cnt x : Int))) := ⟨by
        have h1 := HN.out
        refine ⟨fun hm => ?_, fun hm => by omega⟩
        have hil : i = x.f3.length := by omega
        rw [hil, List.take_length] at h1
        simp [cntL]
        omega⟩
      have g : (decide (i < x.f3.length) = true ∧ decide (n ≤ most) = false) ∨ decide (i < x.f3.length) = false := by
        by_cases c : i < x.f3.length
        · exact .inl ⟨decide_eq_true (by omega), decide_eq_false (by omega)⟩
        · exact .inr (decide_eq_false (by omega))
      clear hle hc ci HN hi
      rcases g with ⟨g0, g1⟩ | g0
      all_goals
        go_wp2
        clear c0 c1 c2 c3_ c4_
        go_loopg [5, 7] x.f4.length (fun kq v5 v7 w' => ∃ (i : Nat) (n : Int), kq + i = x.f4.length ∧ v7 = .int .i64 (i : Int) ∧ v5 = .int .i64 n ∧ Aside0 ((n ≤ most → n = 1 + x.f2.size + ksz x.f3 + cntL (x.f4.take i)) ∧ (most < n → most < (cnt x : Int))) ∧ (0 ≤ n ∧ n ≤ most + 281474976710656) ∧ Aside0 (Bv w' b A3 c3 A4 c4 x) ∧ Aside0 (Below w.heap.size w w'))
        case atStart => exact ⟨0, _, by omega, rfl, rfl, HJ, by omega, HB, HW⟩
        case round =>
          clear HB HW HJ
          obtain ⟨i, n, hi, rfl, rfl, HN, hn, HB, HW⟩ := hrel
          obtain ⟨c0, c1, c2, c3_, c4_⟩ := HB.out.cells
          by_cases ci : i < x.f4.length ∧ n ≤ most
          · obtain ⟨ci, cn⟩ := ci
            have g0 : decide ((i : Int) < (x.f4.length : Int)) = true := decide_eq_true (by omega)
            have g1 : decide (n ≤ most) = true := decide_eq_true (by omega)
            have g2 : (0 ≤ (i : Int)) = True := eq_true (by omega)
            have g3 : ((i : Int) < (x.f4.length : Int)) = True := eq_true (by omega)
            obtain ⟨j1, rfl⟩ : ∃ j1, gk = j1 + 1 := ⟨gk - 1, by omega⟩
            have hil : x.f4[i]? = some x.f4[i] := List.getElem?_eq_getElem ci
            have hm := List.getElem_mem ci
            have hq := HX.out.es _ hm
            have hz := sz_mem hm
            obtain ⟨y, hq'⟩ : ∃ y, x.f4[i] = y := ⟨_, rfl⟩
            rw [hq'] at hil hq hz
            obtain ⟨ad, Y3, y3, Y4, y4, e1, he⟩ := el_at HB.out.rd.r4 i ci hil
            have HT := Aside0.mk (cntL_take hil)
            have HI := Aside0.mk hi
            have HY := Aside0.mk (ih y (most - n) wr (by have := HS.out; omega) hq (by omega) (by omega) he.rd)
            obtain ⟨e0, e2, e3, e4, e5, _⟩ := he
            have hc := cnt_eq x
            have hle := cntL_le x.f4 (i + 1)
            have HC : Aside0 (cnt x = 1 + x.f2.size + ksz x.f3 + cntL x.f4 ∧ cntL (x.f4.take (i + 1)) ≤ cntL x.f4) := ⟨hc, hle⟩
            clear hil hq' hi hm hq hz hc hle
            subst e1
            go_wp2_with (go_at_call 41; (with_reducible refine HY.out.mono ?_); rintro e we ⟨n3, rfl, p0, p1, p2, p3, hb⟩; have HP := Aside0.mk (And.intro p2 p3); have HB2 := Aside0.mk (HB.out.below hb); clear HB; have HB := HB2; clear HB2; have HW2 := Aside0.mk (below_step HW.out hb); clear HW; have HW := HW2; clear HW2 p2 p3 hb)
            go_roundg j1
            case measure => omega
            case rel =>
              refine ⟨i + 1, n + n3, by have := HI.out; omega, rfl, rfl, ⟨?_⟩, by omega, HB, HW⟩
              have h1 := HT.out
              have h2 := HN.out
              have h3 := HP.out
              have h4 := HC.out
              omega
          · have HC := Aside0.mk (And.intro (cnt_eq x) ci)
            have g : (decide (i < x.f4.length) = true ∧ decide (n ≤ most) = false) ∨ decide (i < x.f4.length) = false := by
              by_cases c : i < x.f4.length
              · exact .inl ⟨decide_eq_true (by omega), decide_eq_false (by omega)⟩
              · exact .inr (decide_eq_false (by omega))
            have HF : Aside0 (((cnt x : Int) ≤ most ↔ n ≤ most) ∧ ((cnt x : Int) ≤ most → n = (cnt x : Int))) := ⟨by
              have h2 := HN.out
              obtain ⟨h3, h4⟩ := HC.out
              have h5 : n ≤ most → n = (cnt x : Int) := fun hm => by
                have hil : i = x.f4.length := by omega
                rw [hil, List.take_length] at h2
                omega
              refine ⟨⟨fun hm => by omega, fun hm => by have := h5 hm; omega⟩, fun hm => h5 (by omega)⟩⟩
            clear HC ci hi HN
            rcases g with ⟨g0, g1⟩ | g0
            all_goals
              go_wp2
              go_ret
              exact ⟨n, rfl, hn.1, hn.2, HF.out.1, HF.out.2, HW.out⟩
end Go.Proofs.Ytgpjkojnmeaoiaa.QV
