/- awake, by hand. -/
import Derived.Test.YtgpjkojnmeaoiaaV23
namespace Go.Proofs.Ytgpjkojnmeaoiaa.QV
open Go Go.RowKit Go.Proofs.YtgpjkojnmeaoiaaW.PrintWords Go.Proofs.YtgpjkojnmeaoiaaW.PrintLast Go.Proofs.YtgpjkojnmeaoiaaW.PrintMore
set_option linter.unusedVariables false
set_option linter.unusedSimpArgs false
set_option maxRecDepth 100000
set_option maxHeartbeats 4000000
/-- A row of strings that a literal makes. -/
theorem strLit (W : World) (l : List ByteArray) (hl : l.length ≤ 1000000) : Kd.C Kd.string (W.alloc (.cells (l.map Value.string).toArray 9)) (some ⟨W.heap.size, 0, none⟩) l.length l := by
  have hr : Reps kR 1 l (l.map Value.string) := ⟨by simp, fun j p h => by
    have : (List.take 1 (List.drop (j * 1) (l.map Value.string))) = [Value.string p] := by
      obtain ⟨h1, h2⟩ := List.getElem?_eq_some_iff.1 h
      rw [Nat.mul_one, List.drop_eq_getElem_cons (by simpa using h1)]
      simp [h2]
    rw [this]; rfl⟩
  obtain ⟨A, c, e, _, hC⟩ := (OwnRow.lit (e := 9) W 0 hr (Nat.zero_le _) (by omega)).reads
  injection e with e1 e2 e3
  subst e1
  exact hC
theorem k28_nm (w : World) (n : Int) : k28.K w (nm1 n) [.int .i64 3, .int .i64 n, .string ⟨#[]⟩, .slice none 0 0, .slice none 0 0] :=
  k28_mk w (nm1 n) (A3 := none) (c3 := 0) (Nat.le_refl _) ⟨rfl, by simp [nm1], fun h => absurd h (by simp [nm1])⟩ (A4 := none) (c4 := 0) (Nat.le_refl _) ⟨rfl, by simp [nm1], fun h => absurd h (by simp [nm1])⟩
theorem aw_lit (W : World) : Kd.C k28 (W.alloc (.cells #[.int .i64 3, .int .i64 1, .string ⟨#[]⟩, .slice none 0 0, .slice none 0 0, .int .i64 3, .int .i64 2, .string ⟨#[]⟩, .slice none 0 0, .slice none 0 0, .int .i64 3, .int .i64 3, .string ⟨#[]⟩, .slice none 0 0, .slice none 0 0] 28)) (some ⟨W.heap.size, 0, none⟩) awEs.length awEs := by
  have hr : Reps (k28.K W) 5 awEs [.int .i64 3, .int .i64 1, .string ⟨#[]⟩, .slice none 0 0, .slice none 0 0, .int .i64 3, .int .i64 2, .string ⟨#[]⟩, .slice none 0 0, .slice none 0 0, .int .i64 3, .int .i64 3, .string ⟨#[]⟩, .slice none 0 0, .slice none 0 0] := ⟨rfl, fun j p h => by
    match j, h with
    | 0, h => obtain rfl := Option.some.inj h; exact k28_nm W 1
    | 1, h => obtain rfl := Option.some.inj h; exact k28_nm W 2
    | 2, h => obtain rfl := Option.some.inj h; exact k28_nm W 3
    | j + 3, h => simp [awEs] at h⟩
  obtain ⟨A, c, e, _, hC⟩ := ((OwnRow.lit (e := 28) W 0 hr (Nat.zero_le _) (by simp [awEs])).imp_ (fun _ _ h => k28.K_below (new_below W _) h)).reads
  injection e with e1 e2 e3
  subst e1
  exact hC
theorem awObjC (W : World) (A B : Option Addr) (hk : Kd.C Kd.string W A awKs.length awKs) (he : Kd.C k28 W B awEs.length awEs) :
    Calls Try.prog 17 #[.slice A 3 3, .slice B 3 3] W fun e w' => ∃ (X3 : Option Addr) (d3 : Nat) (X4 : Option Addr) (d4 : Nat), e = .returned (.tuple #[.agg #[.int .i64 6, .int .i64 0, .string ⟨#[]⟩, .slice X3 2 d3, .slice X4 2 d4], .int .i64 0]) ∧ Rd w' X3 d3 X4 d4 awX ∧ Below W.heap.size W w' := by
  have h := valueObj_ok (c := 3) (d := 3) awKs awEs W rfl hk (by simp [awKs, show sA.size = 1 from rfl, show sB.size = 1 from rfl]) he (by simp [awEs, wv_nm, cnt_nm]) (by simp [awKs]) (by simp [awEs, vd_nm]) (by simp [awKs, u8A, u8B])
  refine h.mono ?_
  intro e w' hu
  unfold UObj at hu
  rw [if_neg (by simp [lg, awKs, show sA.size = 1 from rfl, show sB.size = 1 from rfl])] at hu
  obtain ⟨ms, X3, d3, X4, d4, rfl, hr, hp, hs, hb⟩ := hu
  have e1 := aw_ov hp hs
  rw [e1] at hr ⊢
  exact ⟨X3, d3, X4, d4, by rw [if_pos (show ft awX = true from awFit false)]; rfl, hr, hb⟩
theorem awTail (W : World) {X3 : Option Addr} {d3 : Nat} {ad : Addr} {d4 : Nat} (hr : Rd W X3 d3 (some ad) d4 awX) :
    (Calls Try.prog 42 #[.slice X3 2 d3, .slice (some ⟨W.heap.size + 1, 0, none⟩) 2 2] ((W.alloc (.cells #[.int .i64 6, .int .i64 0, .string ⟨#[]⟩, .slice X3 2 d3, .slice (some ad) 2 d4] 28)).alloc (.cells #[.string ⟨#[97]⟩, .string ⟨#[98]⟩] 9)) fun e w' => e = .returned (.bool true) ∧ Below ((W.alloc (.cells #[.int .i64 6, .int .i64 0, .string ⟨#[]⟩, .slice X3 2 d3, .slice (some ad) 2 d4] 28)).alloc (.cells #[.string ⟨#[97]⟩, .string ⟨#[98]⟩] 9)).heap.size ((W.alloc (.cells #[.int .i64 6, .int .i64 0, .string ⟨#[]⟩, .slice X3 2 d3, .slice (some ad) 2 d4] 28)).alloc (.cells #[.string ⟨#[97]⟩, .string ⟨#[98]⟩] 9)) w') ∧
    (∀ W', Below ((W.alloc (.cells #[.int .i64 6, .int .i64 0, .string ⟨#[]⟩, .slice X3 2 d3, .slice (some ad) 2 d4] 28)).alloc (.cells #[.string ⟨#[97]⟩, .string ⟨#[98]⟩] 9)).heap.size ((W.alloc (.cells #[.int .i64 6, .int .i64 0, .string ⟨#[]⟩, .slice X3 2 d3, .slice (some ad) 2 d4] 28)).alloc (.cells #[.string ⟨#[97]⟩, .string ⟨#[98]⟩] 9)) W' → W'.cell? ⟨W.heap.size, 0, none⟩ = some (.int .i64 6) ∧ W'.cell? ⟨W.heap.size, 1, none⟩ = some (.int .i64 0) ∧ W'.cell? ⟨W.heap.size, 2, none⟩ = some (.string ⟨#[]⟩) ∧ W'.cell? ⟨W.heap.size, 3, none⟩ = some (.slice X3 2 d3) ∧ W'.cell? ⟨W.heap.size, 4, none⟩ = some (.slice (some ad) 2 d4)) ∧
    (∀ W', Below ((W.alloc (.cells #[.int .i64 6, .int .i64 0, .string ⟨#[]⟩, .slice X3 2 d3, .slice (some ad) 2 d4] 28)).alloc (.cells #[.string ⟨#[97]⟩, .string ⟨#[98]⟩] 9)).heap.size ((W.alloc (.cells #[.int .i64 6, .int .i64 0, .string ⟨#[]⟩, .slice X3 2 d3, .slice (some ad) 2 d4] 28)).alloc (.cells #[.string ⟨#[97]⟩, .string ⟨#[98]⟩] 9)) W' → (Calls Try.prog 30 #[.agg #[.int .i64 6, .int .i64 0, .string ⟨#[]⟩, .slice X3 2 d3, .slice (some ad) 2 d4]] W' fun e w' => e = .returned (.bool true) ∧ Below W'.heap.size W' w') ∧
      (∀ W2, Below W'.heap.size W' W2 → Calls Try.prog 32 #[.agg #[.int .i64 6, .int .i64 0, .string ⟨#[]⟩, .slice X3 2 d3, .slice (some ad) 2 d4]] W2 fun e w' => e = .returned (.string ⟨#[111, 98, 106, 101, 99, 116]⟩) ∧ Below W2.heap.size W2 w') ∧
      (∀ W2, Below W'.heap.size W' W2 → W2.cell? ⟨W.heap.size, 0, none⟩ = some (.int .i64 6) ∧ W2.cell? ⟨W.heap.size, 1, none⟩ = some (.int .i64 0) ∧ W2.cell? ⟨W.heap.size, 2, none⟩ = some (.string ⟨#[]⟩) ∧ W2.cell? ⟨W.heap.size, 3, none⟩ = some (.slice X3 2 d3) ∧ W2.cell? ⟨W.heap.size, 4, none⟩ = some (.slice (some ad) 2 d4))) := by
  have hB : Bv (W.alloc (.cells #[.int .i64 6, .int .i64 0, .string ⟨#[]⟩, .slice X3 2 d3, .slice (some ad) 2 d4] 28)) W.heap.size X3 d3 (some ad) d4 awX := Bv.new hr
  have hB2 : Bv ((W.alloc (.cells #[.int .i64 6, .int .i64 0, .string ⟨#[]⟩, .slice X3 2 d3, .slice (some ad) 2 d4] 28)).alloc (.cells #[.string ⟨#[97]⟩, .string ⟨#[98]⟩] 9)) W.heap.size X3 d3 (some ad) d4 awX := hB.below (new_below _ _)
  have hb2 := below_step (new_below W (.cells #[.int .i64 6, .int .i64 0, .string ⟨#[]⟩, .slice X3 2 d3, .slice (some ad) 2 d4] 28)) (new_below (W.alloc (.cells #[.int .i64 6, .int .i64 0, .string ⟨#[]⟩, .slice X3 2 d3, .slice (some ad) 2 d4] 28)) (.cells #[.string ⟨#[97]⟩, .string ⟨#[98]⟩] 9))
  have hs : Kd.C Kd.string ((W.alloc (.cells #[.int .i64 6, .int .i64 0, .string ⟨#[]⟩, .slice X3 2 d3, .slice (some ad) 2 d4] 28)).alloc (.cells #[.string ⟨#[97]⟩, .string ⟨#[98]⟩] 9)) (some ⟨W.heap.size + 1, 0, none⟩) [sA, sB].length [sA, sB] := by
    have h := strLit (W.alloc (.cells #[.int .i64 6, .int .i64 0, .string ⟨#[]⟩, .slice X3 2 d3, .slice (some ad) 2 d4] 28)) [sA, sB] (by simp)
    rw [show (W.alloc (.cells #[.int .i64 6, .int .i64 0, .string ⟨#[]⟩, .slice X3 2 d3, .slice (some ad) 2 d4] 28)).heap.size = W.heap.size + 1 from by simp] at h
    exact h
  refine ⟨?_, fun W' hb => (hB2.below hb).cells, fun W' hb => ⟨?_, fun W2 hb2 => ?_, fun W2 hb2 => (hB2.below (below_step hb hb2)).cells⟩⟩
  · refine (stringsC (d := 2) awX.f3 [sA, sB] _ hB2.rd.r3 hB2.rd.k3 hs (Nat.le_refl _) (by decide)).mono ?_
    rintro e w' ⟨r, rfl, hq, hb⟩
    rw [hq.2 rfl]
    exact ⟨rfl, hb⟩
  · refine (valueTruthyC awX W' wv_awX (by have := cnt_awX; omega) (hB2.rd.below hb)).mono ?_
    rintro e w' ⟨rfl, hb⟩
    rw [vd_awX]
    exact ⟨rfl, hb⟩
  · refine (valueTypeNameC awX W2 wv_awX (by have := cnt_awX; omega) (hB2.rd.below (below_step hb hb2))).mono ?_
    rintro e w' ⟨rfl, hb⟩
    rw [vd_awX]
    exact ⟨rfl, hb⟩
theorem awakeC (w : World) : Calls Try.prog 12 #[] w fun e w' => e = .returned (.bool true) ∧ Below w.heap.size w w' := by
  have HN : Aside0 (∀ n W, Calls Try.prog 22 #[.int .i64 n] W fun e w' => e = .returned (.agg #[.int .i64 3, .int .i64 n, .string ⟨#[]⟩, .slice none 0 0, .slice none 0 0]) ∧ Below W.heap.size W w') := ⟨fun n W => valueNumC n W⟩
  have HK : Aside0 (Kd.C Kd.string (w.alloc (.cells #[.string ⟨#[98]⟩, .string ⟨#[97]⟩, .string ⟨#[98]⟩] 9)) (some ⟨w.heap.size, 0, none⟩) awKs.length awKs) := ⟨strLit w awKs (by simp [awKs])⟩
  have HB := Aside0.mk (new_below w (.cells #[.string ⟨#[98]⟩, .string ⟨#[97]⟩, .string ⟨#[98]⟩] 9))
  have HB1 : Aside0 (Below (w.alloc (.cells #[.string ⟨#[98]⟩, .string ⟨#[97]⟩, .string ⟨#[98]⟩] 9)).heap.size (w.alloc (.cells #[.string ⟨#[98]⟩, .string ⟨#[97]⟩, .string ⟨#[98]⟩] 9)) (w.alloc (.cells #[.string ⟨#[98]⟩, .string ⟨#[97]⟩, .string ⟨#[98]⟩] 9))) := ⟨Below.refl _ _⟩
  go_enter Try.func12, Try.ntmps12
  go_wp2_with (first | (go_at_call 22; (with_reducible refine (HN.out _ _).mono ?_); rintro e we ⟨rfl, hb⟩; have HB2 := Aside0.mk (below_step HB1.out hb); clear hb HB1; have HB1 := HB2; clear HB2) | (go_at_call 17; (with_reducible refine (awObjC _ _ _ (Kd.C_below HK.out (below_step HB1.out (new_below _ _))) (aw_lit _)).mono ?_); rintro e we2 ⟨X3, d3, X4, d4, rfl, hr, hb⟩; obtain ⟨ad, Y3, y3, Y4, y4, rfl, hce⟩ := el_at hr.r4 1 (by decide) (x := nm1 3) rfl; have HF := Aside0.mk (awTail we2 hr); have HCe := Aside0.mk hce; have HB2 := Aside0.mk (below_step HB.out (below_step HB1.out (below_step (new_below _ _) hb))); clear hr hb hce) | (go_at_call 42; (with_reducible refine HF.out.1.mono ?_); rintro e we3 ⟨rfl, hb⟩; obtain ⟨c0, c1, c2, c3, c4⟩ := HF.out.2.1 _ hb; have HB3 := Aside0.mk (below_step HB2.out (below_step (below_step (new_below _ _) (new_below _ _)) hb)); have e1 : we3.cell? ⟨ad.block, ad.off + 5 + 1, none⟩ = some (.int .i64 3) := (HCe.out.below (below_step (below_step (new_below _ _) (new_below _ _)) hb)).h1; have HT := Aside0.mk (HF.out.2.2 _ hb); clear hb HCe HF) | (go_at_call 30; (with_reducible refine (HT.out.1).mono ?_); rintro e we4 ⟨rfl, hb⟩; have HB4 := Aside0.mk (below_step HB3.out hb); obtain ⟨c0, c1, c2, c3, c4⟩ := HT.out.2.2 _ hb; have HU := Aside0.mk (HT.out.2.1 _ hb); clear hb HT) | (go_at_call 32; (with_reducible refine (HU.out).mono ?_); rintro e we5 ⟨rfl, hb⟩; have HB5 := Aside0.mk (below_step HB4.out hb); clear hb HU))
  go_ret
  exact ⟨rfl, HB5.out⟩
end Go.Proofs.Ytgpjkojnmeaoiaa.QV
