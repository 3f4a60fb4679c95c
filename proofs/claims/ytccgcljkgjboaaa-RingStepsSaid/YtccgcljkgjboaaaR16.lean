import Derived.Test.YtccgcljkgjboaaaR14
import Derived.Deep.CutBlock
import Derived.Laws.ResultCell
/- Take of the reference's ring, and the comparison of results, by hand. -/
namespace Go.Proofs.Ytccgcljkgjboaaa.Rg
open Go.RowKit Go.Proofs.YtccgcljkgjboaaaW.PrintWords Go.Proofs.YtccgcljkgjboaaaW.PrintLast Go.Proofs.YtccgcljkgjboaaaW.PrintMore
set_option linter.unusedVariables false
set_option linter.unusedSimpArgs false
attribute [local go_sem] max2_int min2_int max_two min_two max_three min_three max_four min_four
set_option maxRecDepth 100000
set_option maxHeartbeats 4000000
theorem resultsB (w : World) (A A' : Option Addr) (c c' : Nat) (x : Res) (h : RdB w A x.out) (h' : RdB w A' x.out) (n n' : Nat) (hn : x.out.length = n) (hn' : x.out.length = n') :
    Calls Try.prog 19 #[.agg #[.slice A n c, .int .i64 x.st, .int .i64 x.rc], .agg #[.slice A' n' c', .int .i64 x.st, .int .i64 x.rc]] w fun e w' => e = .returned (.bool true) ∧ Below w.heap.size w w' := by
  subst hn; subst hn'
  have hb := ((Below.refl w.heap.size w).alloc (Nat.le_refl _) (.cells #[.slice A x.out.length c, .int .i64 x.st, .int .i64 x.rc] 33)).alloc (by simp) (.cells #[.slice A' x.out.length c', .int .i64 x.st, .int .i64 x.rc] 33)
  have s1 := conv9 (c := c) (h.below hb)
  have s2 := conv9 (c := c') (h'.below hb)
  have HB := Aside0.mk hb
  clear h h' hb
  go_enter Try.func19, Try.ntmps19
  go_wp2
  go_ret
  exact ⟨by first | rfl | (simp; done) | (simp [*]; done), HB.out⟩
theorem rTakeNone (w : World) (h cap next cr : Nat) (ns : List Int) (xs : List Res) (hR : IsR w h cap next cr ns xs) (hl : ns.length ≤ 1000) (hn : (next : Int) ∉ ns) :
    Calls Try.prog 18 #[P h] w fun e w' => e = .returned (.tuple #[.agg #[.slice none 0 0, .int .i64 0, .int .i64 0], .int .i64 15]) ∧ Below w.heap.size w w' := by
  have hA : Below w.heap.size w (w.alloc (.cells #[.slice none 0 0, .int .i64 0, .int .i64 0] 33)) := (Below.refl w.heap.size w).alloc (Nat.le_refl _) _
  have HP := Aside0.mk (rReady _ h cap next cr ns xs (hR.below hA) hl false (decide_eq_false hn))
  have H := Aside0.mk hA
  clear hR hA hn
  go_enter Try.func18, Try.ntmps18
  go_wp2_with (go_at_call 23; (with_reducible refine (HP.out).mono ?_); rintro e w1 ⟨rfl, hd⟩; have HF := Aside0.mk (below_D H.out hd); have hX := ((below0 hd).block w.heap.size (by simp)).trans (heap_alloc_new w _); obtain ⟨x0, x1, x2, xf⟩ := cells3 hX; clear hX HP hd)
  refine bodyPost_ret (v := .tuple #[.agg #[.slice none 0 0, .int .i64 0, .int .i64 0], .int .i64 15]) (by rw [results_cell_tmp rfl]; go_simp) rfl ?_
  exact ⟨rfl, ((HF.out.setCell (Nat.le_refl _) _).setCell (Nat.le_refl _) _).setCell (Nat.le_refl _) _⟩
abbrev Cs (cap : Nat) (next cr : Int) (A : Option Addr) (n c : Nat) (B : Option Addr) (m d : Nat) : Array Value := #[.int .i64 (cap : Int), .int .i64 next, .int .i64 cr, .slice A n c, .slice B m d]
theorem rTake (w : World) (h cap next cr : Nat) (n0 : Int) (ns : List Int) (x : Res) (xs : List Res) (hR : IsR w h cap next cr (n0 :: ns) (x :: xs)) (hn0 : n0 = (next : Int)) (hl : ns.length ≤ 100) (hlx : xs.length = ns.length) (hcap : cap ≤ 64) (hcr : cr ≤ cap) (hnx : next ≤ 100000) :
    Calls Try.prog 18 #[P h] w fun e w' => ∃ A c, e = .returned (.tuple #[.agg #[.slice A x.out.length c, .int .i64 x.st, .int .i64 x.rc], .int .i64 0]) ∧ RdB w' A x.out ∧ IsR w' h cap (next + 1) (min (cr + 1) cap) ns xs ∧ Fr h h w w' := by
  have hA : Below w.heap.size w (w.alloc (.cells #[.slice none 0 0, .int .i64 0, .int .i64 0] 33)) := (Below.refl w.heap.size w).alloc (Nat.le_refl _) _
  have HP := Aside0.mk (rReady _ h cap next cr _ _ (hR.below hA) (by simp; omega) true (decide_eq_true (by rw [hn0]; exact List.mem_cons_self)))
  obtain ⟨A, c, B, d, hk, hc, hd2, hrA, hrB⟩ := hR
  have HK := Aside0.mk hk
  have HA := Aside0.mk hA
  have HLN := Aside0.mk (And.intro hl (And.intro hlx (And.intro hcap (And.intro hcr hnx))))
  rw [List.length_cons] at hc hd2
  have HCD := Aside0.mk (And.intro hc hd2)
  obtain ⟨A2, hA2⟩ : ∃ A2, (if c = 1 then A else A.map (·.add 1)) = A2 := ⟨_, rfl⟩
  obtain ⟨B2, hB2⟩ : ∃ B2, (if d = 1 then B else B.map (·.add (1 * 3))) = B2 := ⟨_, rfl⟩
  have HRB := Aside0.mk hrB
  have HDr := Aside0.mk (And.intro (by have h := hrA.drop 1 c (by simp) (by simpa using hc); rw [hA2] at h; exact h : Rd w A2 ns) (by have h := hrB.drop 1 d (by simp) (by simpa using hd2); rw [hB2] at h; exact h : RX w B2 xs))
  have hD1 : ∀ W, (Instr.slice 22 (.slice A (ns.length + 1) c) (some (.int .i64 1)) none none).run Try.prog W = .ok (.slice A2 ns.length (c - 1)) W := fun W => by
    have h := dropRun (P := Try.prog) 22 3 Try.underlying22 rfl 1 rfl A (ns.length + 1) c 1 (by omega) hc W
    simp only [Nat.mul_one, Nat.add_sub_cancel, hA2] at h
    exact h
  have hD2 : ∀ W, (Instr.slice 37 (.slice B (xs.length + 1) d) (some (.int .i64 1)) none none).run Try.prog W = .ok (.slice B2 xs.length (d - 1)) W := fun W => by
    have h := dropRun (P := Try.prog) 37 33 Try.underlying37 rfl 3 rfl B (xs.length + 1) d 1 (by omega) hd2 W
    simp only [Nat.add_sub_cancel, hB2] at h
    exact h
  have HD1 := Aside0.mk hD1
  have HD2 := Aside0.mk hD2
  clear hA hl hlx hcap hcr hnx hn0 hk hc hd2 hrA hrB hD1 hD2 hA2 hB2
  go_enter Try.func18, Try.ntmps18
  go_upto_region 4 with (go_at_call 23; (with_reducible refine (HP.out).mono ?_); rintro e w1 ⟨rfl, hd⟩; have HF := Aside0.mk (below_D HA.out hd); have HX := Aside0.mk (((below0 hd).block w.heap.size (by simp)).trans (heap_alloc_new w _)); have hk := (HF.out.block h (hlt HK.out)).trans HK.out; have HK1 := Aside0.mk hk; obtain ⟨k0, k1, k2, k3, k4, kf⟩ := cells5 hk; obtain ⟨rows, hrl, hrc, hrt, hre⟩ := HRB.out.below HF.out; obtain ⟨bq, oq, curq, eq_, hcq⟩ := hrt (by simp); subst eq_; obtain ⟨ad, eq_, hcell⟩ := hrc.2.2 (by simp); obtain rfl := Option.some.inj eq_; have hx0 : ∃ r0 rs, rows = r0 :: rs := (by cases rows with | nil => simp at hrl | cons r0 rs => exact ⟨r0, rs, rfl⟩); obtain ⟨r0, rs, rfl⟩ := hx0; obtain ⟨cs0, hcs1, hcs2, hcs3⟩ := hcell 0 r0 rfl; obtain ⟨Bx, cx, rfl, hcx, hrx⟩ := hre 0 x r0 rfl rfl; obtain rfl := hcs2.1; have y0 := hcs3 0 _ rfl; have y1 := hcs3 1 _ rfl; have y2 := hcs3 2 _ rfl; have HRx := Aside0.mk hrx; simp [Addr.add] at y0 y1 y2; rw [List.length_cons] at k3 k4; clear HP hd hk hrl hrc hrt hre hcell hcs1 hcs2 hcs3 hrx hcx eq_)
  obtain ⟨W4, hW4⟩ : ∃ W4, w1.alloc (.cells #[.slice Bx x.out.length cx, .int .i64 x.st, .int .i64 x.rc] 33) = W4 := ⟨_, rfl⟩
  have hb4 : Below w1.heap.size w1 W4 := by rw [← hW4]; exact (Below.refl _ _).alloc (Nat.le_refl _) _
  have HT4 : Aside0 (W4.heap[w1.heap.size]? = some (.cells #[.slice Bx x.out.length cx, .int .i64 x.st, .int .i64 x.rc] 33 (0, 0))) := ⟨by rw [← hW4]; exact heap_alloc_new w1 _⟩
  have HF4 := Aside0.mk (below_step HF.out hb4)
  have HX4 := Aside0.mk ((hb4.block _ (hlt HX.out)).trans HX.out)
  have HK4 := Aside0.mk ((hb4.block _ (hlt HK1.out)).trans HK1.out)
  have HRx4 := Aside0.mk (HRx.out.below hb4)
  have HNE : Aside0 (w1.heap.size ≠ w.heap.size) := ⟨by have := hlt HX.out; omega⟩
  rw [hW4]
  clear hW4 hb4 k0 k1 k2 k3 k4 kf y0 y1 y2 hcq HF HX HRx HK1 HRB
  go_cut [] (fun wc => Aside0 (wc.heap[h]? = some (.cells (Cs cap (next : Int) (cr : Int) A2 ns.length (c - 1) B2 xs.length (d - 1)) 39 (0, 0))) ∧ Aside0 (wc.heap[w1.heap.size]? = some (.cells #[.slice Bx x.out.length cx, .int .i64 x.st, .int .i64 x.rc] 33 (0, 0))) ∧ Aside0 (wc.heap[w.heap.size]? = some (.cells #[.slice none 0 0, .int .i64 0, .int .i64 0] 33 (0, 0))) ∧ Aside0 (RdB wc Bx x.out) ∧ Aside0 (Fr h h w wc))
  case first =>
    obtain ⟨k0, k1, k2, k3, k4, kf⟩ := cells5 HK4.out
    rw [List.length_cons] at k3 k4
    have hD1 := HD1.out
    have hD2 := HD2.out
    go_region
    go_wp2
    go_meet
    obtain ⟨W5, hW5⟩ : ∃ W5, ((W4.setCell ⟨h, 3, none⟩ (.slice A2 ns.length (c - 1))).setCell ⟨h, 4, none⟩ (.slice B2 xs.length (d - 1))).drew = W5 := ⟨_, rfl⟩
    have g5 : W4.grownBy W5 (some h) := by
      have g := (grownBy_cell W4 h 3 (.slice A2 ns.length (c - 1))).trans (grownBy_cell _ h 4 (.slice B2 xs.length (d - 1)))
      rw [← hW5]
      exact ⟨g.os, g.tape, g.output, g.size, g.block⟩
    have b5 : W5.heap[h]? = some (.cells (Cs cap (next : Int) (cr : Int) A2 ns.length (c - 1) B2 xs.length (d - 1)) 39 (0, 0)) := by
      rw [← hW5]
      show ((W4.setCell ⟨h, 3, none⟩ (.slice A2 ns.length (c - 1))).setCell ⟨h, 4, none⟩ (.slice B2 xs.length (d - 1))).heap[h]? = _
      rw [heap_setCell_same _ h 4 _ 39 _ (heap_setCell_same W4 h 3 _ 39 _ HK4.out)]
      rfl
    rw [hW5]
    have hne : ∀ (k : Nat) (cur : Array Value) (t : TypeId), t ≠ 39 → W4.heap[k]? = some (.cells cur t (0, 0)) → W5.heap[k]? = some (.cells cur t (0, 0)) := fun k cur t ht hk => (g5.block k (hlt hk) (fun e => by cases e; exact ht (type_ne hk HK4.out))).trans hk
    exact ⟨⟨b5⟩, ⟨hne _ _ 33 (by decide) HT4.out⟩, ⟨hne _ _ 33 (by decide) HX4.out⟩, ⟨HRx4.out.move (fun k cur hk => (hne k cur 5 (by decide) hk).trans hk.symm)⟩, ⟨(Fr.new HF4.out).trans (Fr.g g5)⟩⟩
  case rest =>
    obtain ⟨HK5, HT5, HX5, HRx5, HFr5⟩ := hcut
    clear HK4 HT4 HX4 HRx4 HF4 HD1 HD2
    obtain ⟨k0, k1, k2, k3, k4, kf⟩ := cells5 HK5.out
    have hwn : IntKind.i64.wrap ((next : Int) + 1) = (next : Int) + 1 := by have := HLN.out.2.2.2.2; rw [i64_w]; unfold Go.RowKit.wrap64; omega
    go_upto_region 6 with fail
    obtain ⟨W6, hW6⟩ : ∃ W6, wc.setCell ⟨h, 1, none⟩ (.int .i64 ((next : Int) + 1)) = W6 := ⟨_, rfl⟩
    have g6 : wc.grownBy W6 (some h) := by rw [← hW6]; exact grownBy_cell _ _ _ _
    have b6 : W6.heap[h]? = some (.cells (Cs cap ((next : Int) + 1) (cr : Int) A2 ns.length (c - 1) B2 xs.length (d - 1)) 39 (0, 0)) := by
      rw [← hW6, heap_setCell_same _ _ _ _ _ _ HK5.out]
      rfl
    have hne : ∀ (k : Nat) (cur : Array Value) (t : TypeId), t ≠ 39 → wc.heap[k]? = some (.cells cur t (0, 0)) → W6.heap[k]? = some (.cells cur t (0, 0)) := fun k cur t ht hk => (g6.block k (hlt hk) (fun e => by cases e; exact ht (type_ne hk HK5.out))).trans hk
    have HK6 := Aside0.mk b6
    have HT6 := Aside0.mk (hne _ _ 33 (by decide) HT5.out)
    have HX6 := Aside0.mk (hne _ _ 33 (by decide) HX5.out)
    have HRx6 := Aside0.mk (HRx5.out.move (w' := W6) (fun k cur hk => (hne k cur 5 (by decide) hk).trans hk.symm))
    have HFr6 := Aside0.mk (HFr5.out.trans (Fr.g g6))
    rw [hW6]
    clear hW6 g6 hne HK5 HT5 HX5 HRx5 HFr5 k0 k1 k2 k3 k4 kf hwn
    obtain ⟨k0, k1, k2, k3, k4, kf⟩ := cells5 b6
    have hcrr := HLN.out.2.2.2.1
    have hcapp := HLN.out.2.2.1
    have hwr : IntKind.i64.wrap ((cr : Int) + 1) = (cr : Int) + 1 := by rw [i64_w]; unfold Go.RowKit.wrap64; omega
    clear b6
    go_region
    have hmin : (if (cap : Int) < (cr : Int) + 1 then (cap : Int) else (cr : Int) + 1) = ((min (cr + 1) cap : Nat) : Int) := by split <;> omega
    rw [hmin]
    obtain ⟨W7, hW7⟩ : ∃ W7, (W6.setCell ⟨h, 2, none⟩ (.int .i64 ((min (cr + 1) cap : Nat) : Int))).drew = W7 := ⟨_, rfl⟩
    have g7 : W6.grownBy W7 (some h) := by
      have g := grownBy_cell W6 h 2 (.int .i64 ((min (cr + 1) cap : Nat) : Int))
      rw [← hW7]
      exact ⟨g.os, g.tape, g.output, g.size, g.block⟩
    have HK7 : Aside0 (W7.heap[h]? = some (.cells (Cs cap ((next : Int) + 1) ((min (cr + 1) cap : Nat) : Int) A2 ns.length (c - 1) B2 xs.length (d - 1)) 39 (0, 0))) := ⟨by
      rw [← hW7]
      show (W6.setCell ⟨h, 2, none⟩ _).heap[h]? = _
      rw [heap_setCell_same _ _ _ _ _ _ HK6.out]
      rfl⟩
    have hne : ∀ (k : Nat) (cur : Array Value) (t : TypeId), t ≠ 39 → W6.heap[k]? = some (.cells cur t (0, 0)) → W7.heap[k]? = some (.cells cur t (0, 0)) := fun k cur t ht hk => (g7.block k (hlt hk) (fun e => by cases e; exact ht (type_ne hk HK6.out))).trans hk
    have HT7 := Aside0.mk (hne _ _ 33 (by decide) HT6.out)
    have HX7 := Aside0.mk (hne _ _ 33 (by decide) HX6.out)
    have HRx7 := Aside0.mk (HRx6.out.move (w' := W7) (fun k cur hk => (hne k cur 5 (by decide) hk).trans hk.symm))
    have HFr7 := Aside0.mk (HFr6.out.trans (Fr.g g7))
    rw [hW7]
    clear hW7 g7 hne HK6 HT6 HX6 HRx6 HFr6 k0 k1 k2 k3 k4 kf hwr hmin hcrr hcapp
    obtain ⟨x0, x1, x2, xf⟩ := cells3 HX7.out
    obtain ⟨t0, t1, t2, tf⟩ := cells3 HT7.out
    go_wp2
    refine bodyPost_ret (v := .tuple #[.agg #[.slice Bx x.out.length cx, .int .i64 x.st, .int .i64 x.rc], .int .i64 0]) (by rw [results_cell_tmp rfl]; go_simp) rfl ?_
    have g8 := ((grownBy_cell W7 w.heap.size 0 (.slice Bx x.out.length cx)).trans (grownBy_cell _ w.heap.size 1 (.int .i64 x.st))).trans (grownBy_cell _ w.heap.size 2 (.int .i64 x.rc))
    have m8 : ∀ (k : Nat) (cur : Array Value) (t : TypeId), t ≠ 33 → W7.heap[k]? = some (.cells cur t (0, 0)) → _ = W7.heap[k]? := fun k cur t ht hc => g8.block k (hlt hc) (fun e => by cases e; exact ht (type_ne hc HX7.out))
    have fr : Fr h h w _ := ⟨g8.os.trans HFr7.out.os, g8.tape.trans HFr7.out.tape, g8.output.trans HFr7.out.output, Nat.le_trans HFr7.out.size g8.size, fun k hk h1 h2 => (g8.block k (Nat.lt_of_lt_of_le hk HFr7.out.size) (fun e => by have := Option.some.inj e; omega)).trans (HFr7.out.block k hk h1 h2)⟩
    have hne : ∀ (k : Nat) (cur : Array Value) (t : TypeId), t ≠ 39 → w.heap[k]? = some (.cells cur t (0, 0)) → _ = w.heap[k]? := fun k cur t ht hk => fr.block k (hlt hk) (fun e => by subst e; exact ht (type_ne hk HK.out)) (fun e => by subst e; exact ht (type_ne hk HK.out))
    have hcd := HCD.out
    exact ⟨Bx, cx, rfl, HRx7.out.move (fun k cur hk => m8 k cur 5 (by decide) hk), ⟨A2, c - 1, B2, d - 1, ((m8 _ _ 39 (by decide) HK7.out).trans HK7.out).trans (by rw [show ((next + 1 : Nat) : Int) = (next : Int) + 1 by omega]), by omega, by omega, HDr.out.1.move (fun k cur hk => hne k cur 3 (by decide) hk), HDr.out.2.move (fun k cur t ht hk => hne k cur t (by rcases ht with rfl | rfl <;> decide) hk)⟩, fr⟩
end Go.Proofs.Ytccgcljkgjboaaa.Rg
