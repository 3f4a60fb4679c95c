import Derived.Test.YtccgcljkgjboaaaR12
import Derived.Deep.LoopGhost
import Derived.Deep.CutBlock
import Derived.Deep.RegionHeld3
/- Put of the reference's ring, by hand: a result is stored. -/
namespace Go.Proofs.Ytccgcljkgjboaaa.Rg
open Go.RowKit Go.Proofs.YtccgcljkgjboaaaW.PrintWords Go.Proofs.YtccgcljkgjboaaaW.PrintLast Go.Proofs.YtccgcljkgjboaaaW.PrintMore
set_option linter.unusedVariables false
set_option linter.unusedSimpArgs false
set_option maxRecDepth 100000
set_option maxHeartbeats 4000000
theorem ReadsInt.below {w w' : World} {A : Option Addr} {n : Nat} {l : List Int} (h : ReadsInt w .u8 A n l) (hb : Below w.heap.size w w') : ReadsInt w' .u8 A n l :=
  Kd.reads_of_C (d := (0 : Int)) (h1 := fun _ => rfl) (Kd.C_below (Kd.C_of_reads (d := (0 : Int)) (h1 := fun _ => rfl) h) hb)
theorem Rd.below {w w' : World} {A : Option Addr} {l : List Int} (h : Rd w A l) (hb : Below w.heap.size w w') : Rd w' A l := h.move (fun k cur hk => hb.block k (hlt hk))
theorem RX.below {w w' : World} {A : Option Addr} {l : List Res} (h : RX w A l) (hb : Below w.heap.size w w') : RX w' A l := h.move (fun k cur t _ hk => hb.block k (hlt hk))
theorem OwnX.below {B : Nat} {w w' : World} {v : Value} {xs : List Res} (h : OwnX B w v xs) (hb : Below w.heap.size w w') : OwnX B w' v xs := by
  obtain ⟨rows, hl, hR, hE⟩ := h
  exact ⟨rows, hl, Kd.R_below hR hb, fun j x cs h1 h2 => by obtain ⟨B, c, e, hc, hr⟩ := hE j x cs h1 h2; exact ⟨B, c, e, hc, hr.below hb⟩⟩
theorem alloc_old {w : World} {k : Nat} {o : Obj} (h : w.heap[k]? = some o) (o' : Obj) : (w.alloc o').heap[k]? = some o := (Below.heap_alloc w o' k (hlt h)).trans h
theorem alloc_two_new (w : World) (a b : Obj) : ((w.alloc a).alloc b).heap[w.heap.size + 1]? = some b := by
  have h := heap_alloc_new (w.alloc a) b
  simpa using h
theorem grow_old {w w' : World} {row : Option Nat} (hg : w.grownBy w' row) {k : Nat} {o : Obj} (h : w.heap[k]? = some o) (hne : some k ≠ row) : w'.heap[k]? = some o := (hg.block k (hlt h) hne).trans h
theorem drawn_of {w w' : World} (h : Drawn0 w w') {k : Nat} {o : Obj} (hk : w.heap[k]? = some o) : w'.heap[k]? = some o := by
  obtain ⟨n, rfl⟩ := h
  exact hk
theorem rPut (w : World) (h cap next cr : Nat) (ns : List Int) (xs : List Res) (hR : IsR w h cap next cr ns xs) (hnx : next ≤ 1000000) (hcap : cap ≤ 64) (M : Int) (hm1 : (next : Int) ≤ M) (hm2 : M < next + cap) (hl : ns.length ≤ 100) (hlx : xs.length = ns.length) (hi : M ∉ ns)
    (A : Option Addr) (n c : Nat) (x : Res) (hr : ReadsInt w .u8 A n x.out) (hn : n ≤ 1000) :
    Calls Try.prog 12 #[P h, .int .i64 M, .agg #[.slice A n c, .int .i64 x.st, .int .i64 x.rc]] w fun e w' => e = .returned (.int .i64 0) ∧ IsR w' h cap next cr (ns.take (pos ns M) ++ [M] ++ ns.drop (pos ns M)) (xs.take (pos ns M) ++ [x] ++ xs.drop (pos ns M)) ∧ Fr h h w w' := by
  have hA : Below w.heap.size w (w.alloc (.cells #[.slice A n c, .int .i64 x.st, .int .i64 x.rc] 33)) := (Below.refl w.heap.size w).alloc (Nat.le_refl _) _
  have HP := Aside0.mk (fun n => rAt (World.drewN _ n) h cap next cr ns xs ((hR.below hA).below (below0 (w' := World.drewN _ n) ⟨n, rfl⟩)) M (by omega))
  have HH := Aside0.mk (hR.below hA)
  have HR0 := Aside0.mk hR
  have HXw := Aside0.mk (heap_alloc_new w (.cells #[.slice A n c, .int .i64 x.st, .int .i64 x.rc] 33))
  have HA := Aside0.mk hA
  have HI := Aside0.mk hi
  have HRd := Aside0.mk (ReadsInt.below hr hA)
  have HN := Aside0.mk hn
  have HNl := Aside0.mk hl
  have HLX := Aside0.mk hlx
  have HFr := Aside0.mk (Fr.new hA : Fr h h w _)
  obtain ⟨p, hp⟩ : ∃ p, pos ns M = p := ⟨_, rfl⟩
  rw [hp]
  have hpl := pos_le ns M
  have hpt := pos_lt ns M
  have hpg := pos_ge ns M
  rw [hp] at hpl hpt hpg
  have HPo := Aside0.mk (And.intro hpl (And.intro hpt hpg))
  have k0 : decide (M < (next : Int)) = false := decide_eq_false (by omega)
  have hs : IntKind.i64.wrap (M - (next : Int)) = M - (next : Int) := by rw [i64_w]; unfold Go.RowKit.wrap64; omega
  have k1 : decide (M - (next : Int) ≥ (cap : Int)) = false := decide_eq_false (by omega)
  have k2 : decide ((cap : Int) ≤ M - (next : Int)) = false := k1
  obtain ⟨A0, c0, B0, d0, hk, hc0, hd0, hA0, hB0⟩ := hR.below hA
  obtain ⟨h0, h1, h2, h3, h4, hf⟩ := cells5 hk
  have HAo := Aside0.mk hA0
  obtain ⟨bx, hbx⟩ : ∃ bx, w.heap.size = bx := ⟨_, rfl⟩
  have HBX := Aside0.mk hbx
  clear hA hR hk hi hm1 hm2 hlx hd0 hA0 hB0 hr hn hp hpl hpt hpg hbx
  go_enter Try.func12, Try.ntmps12
  go_wp2
  go_quiet (fail)
  go_upto_block 1 with (go_at_call 26; (with_reducible refine (HP.out _).mono ?_); rintro e w_ ⟨⟨r, rfl, hr⟩, ⟨nd, rfl⟩⟩; have hr0 : decide (0 ≤ r) = false := (by rcases hr with ⟨h, _⟩ | ⟨_, h⟩; exact absurd h HI.out; exact h); have hr1 : decide (r ≥ 0) = false := hr0; clear hr HP)
  clear hr0 hr1 k0 k1 k2 hs
  go_cut [7] (fun v7 wc => v7 = .int .i64 (p : Int) ∧ Aside0 (Drawn0 (w.alloc (.cells #[.slice A n c, .int .i64 x.st, .int .i64 x.rc] 33)) wc))
  case first =>
    go_wp2_with fail
    go_loopg [7] p (fun kq v7 w' => ∃ i : Nat, kq + i = p ∧ v7 = .int .i64 (i : Int) ∧ Drawn0 (w.alloc (.cells #[.slice A n c, .int .i64 x.st, .int .i64 x.rc] 33)) w')
    case atStart => exact ⟨0, by omega, rfl, by repeat (first | exact ⟨_, rfl⟩ | exact Drawn0.refl _ | apply Drawn0.step)⟩
    case round =>
      obtain ⟨i, hi, rfl, ⟨nd2, rfl⟩⟩ := hrel
      obtain ⟨L, hL⟩ : ∃ L, ns.length = L := ⟨_, rfl⟩
      rw [hL] at h3 hc0 hl
      by_cases e : i < L
      · have c1 : decide ((i : Int) < (L : Int)) = true := decide_eq_true (by omega)
        have hle : i + 1 ≤ L := e
        obtain ⟨ad, rfl, hcell⟩ := HAo.out.1.2.2 (by omega)
        have hx := hcell i (by omega)
        obtain ⟨y, hy⟩ : ∃ y, ns.getD i 0 = y := ⟨_, rfl⟩
        rw [hy] at hx
        clear hcell
        have HL2 := Aside0.mk hL
        have HY := Aside0.mk hy
        by_cases c : i < p
        · have c2 : decide (y < M) = true := decide_eq_true (by rw [← hy]; exact HPo.out.2.1 i c)
          obtain ⟨j1, rfl⟩ : ∃ j1, gk = j1 + 1 := ⟨gk - 1, by omega⟩
          clear e c hL hy
          go_wp2
          repeat (go_quiet (fail); try go_wp2)
          go_roundg j1
          case measure => omega
          case rel => exact ⟨i + 1, by omega, by first | rfl | (congr 1; unfold wrap64; omega), by repeat (first | exact ⟨_, rfl⟩ | exact Drawn0.refl _ | apply Drawn0.step)⟩
        · obtain rfl : i = p := by omega
          have c2 : decide (y < M) = false := decide_eq_false (by rw [← hy]; have := HPo.out.2.2 (by omega); omega)
          clear e c hL hy
          go_wp2
          repeat (go_quiet (fail); try go_wp2)
          go_meet
          exact ⟨rfl, ⟨by repeat (first | exact ⟨_, rfl⟩ | exact Drawn0.refl _ | apply Drawn0.step)⟩⟩
      · obtain rfl : i = L := by have := HPo.out.1; omega
        have c1 : decide ((i : Int) < (i : Int)) = false := decide_eq_false (by omega)
        obtain rfl : i = p := by have := HPo.out.1; omega
        clear e hL
        go_wp2
        repeat (go_quiet (fail); try go_wp2)
        go_meet
        exact ⟨rfl, ⟨by repeat (first | exact ⟨_, rfl⟩ | exact Drawn0.refl _ | apply Drawn0.step)⟩⟩
  case rest =>
    obtain ⟨rfl, HD⟩ := hcut
    have hD := HD.out
    have HX2 := Aside0.mk (drawn_of hD HXw.out)
    have HF2 := Aside0.mk (below_D HA.out hD)
    have HRd2 := Aside0.mk (ReadsInt.below HRd.out (below0 hD))
    obtain ⟨x0, x1, x2, xf⟩ := cells3 HX2.out
    have y0 := (World.cell?_of_block (w := wc) (a := ⟨w.heap.size, 0, none⟩) (Below.heap_alloc wc (.cells #[] 5) w.heap.size (hlt HX2.out))).trans x0
    clear hD HD HH HXw HA HRd HAo h0 h1 h2 h3 h4 hf hc0 HFr hnx hcap
    go_upto_region 9 with (at_builtin; refine rowBytes (w0 := wc) rfl wc.heap.size (.tmp 53) (.tmp 55) rfl (.slice (some ⟨wc.heap.size, 0, none⟩) 0 0) [] x.out A n c (fun _ => True) rfl rfl (fun _ _ => trivial) (own_emptyB _ _ _ (Nat.le_refl _) trivial) (Kd.C_of_reads (d := (0 : Int)) (h1 := fun _ => rfl) (HRd2.out.allocS _)) ((Below.refl _ _).alloc (Nat.le_refl _) _) (by simp) (by have := HN.out; simp; omega) ?_; intro v1 w1 ho hb hg hat; rw [List.nil_append] at ho; obtain ⟨A1, c1, e1⟩ := Kd.R_slice ho; have HC1 := Aside0.mk (by rw [e1] at ho; exact (Kd.R_reads' ho).2.1 : x.out.length ≤ c1); have HO := Aside0.mk (by rw [e1] at ho; exact RdB.of ho : RdB w1 A1 x.out); subst e1; have HB1 := Aside0.mk hb; have hx1 := (hb.block _ (hlt HX2.out)).trans HX2.out; obtain ⟨y0, y1, y2, yf⟩ := cells3 hx1; have HX3 := Aside0.mk hx1; clear ho hb hg hat hx1)
    obtain ⟨W2, hW2⟩ : ∃ W2, w1.setCell ⟨w.heap.size, 0, none⟩ (.slice A1 x.out.length c1) = W2 := ⟨_, rfl⟩
    have HF3 : Aside0 (Below w.heap.size w W2) := ⟨by rw [← hW2]; exact (HF2.out.trans (HB1.out.mono (below_size HF2.out))).setCell (p := ⟨w.heap.size, 0, none⟩) (Nat.le_refl _) _⟩
    have HX4 : Aside0 (W2.heap[w.heap.size]? = some (.cells #[.slice A1 x.out.length c1, .int .i64 x.st, .int .i64 x.rc] 33 (0, 0))) := ⟨by rw [← hW2, heap_setCell_same _ _ _ _ _ _ HX3.out]; rfl⟩
    have HO4 : Aside0 (RdB W2 A1 x.out) := ⟨HO.out.move (fun k cur hk => by rw [← hW2]; exact Below.heap_setCell _ _ _ k (fun e => by have e' : k = w.heap.size := e; subst e'; exact absurd (type_ne hk HX3.out) (by decide)))⟩
    rw [hW2]
    clear hW2 HX3 HO HB1 HF2 HX2 HRd2 y0 y1 y2 yf
    have HR2 := Aside0.mk (HR0.out.below HF3.out)
    clear HR0
    go_cut [] (fun wd => Aside0 (IsR wd h cap next cr (ns.take p ++ [M] ++ ns.drop p) xs) ∧ Aside0 (wd.heap[w.heap.size]? = some (.cells #[.slice A1 x.out.length c1, .int .i64 x.st, .int .i64 x.rc] 33 (0, 0))) ∧ Aside0 (RdB wd A1 x.out) ∧ Aside0 (Fr h h w wd))
    case first =>
      obtain ⟨A0, c0, B0, d0, hk, hc0, hd0, hA0, hB0⟩ := HR2.out
      have HS := Aside0.mk (fun W (hb : Below W2.heap.size W2 W) => (by obtain ⟨_, _, _, h3, _, hf⟩ := cells5 ((hb.block h (hlt hk)).trans hk); exact ⟨h3, hf 3⟩ : W.cell? ⟨h, 3, none⟩ = some (.slice A0 ns.length c0) ∧ W.frozen? ⟨h, 3, none⟩ = false))
      have HK := Aside0.mk (And.intro hk (And.intro hc0 (And.intro hd0 (And.intro hA0 hB0))))
      have HB := Aside0.mk (Below.refl W2.heap.size W2)
      obtain ⟨h3, hf3⟩ := HS.out _ HB.out
      have hT := takeRun (P := Try.prog) 22 3 Try.underlying22 rfl A0 ns.length c0 p HPo.out.1 hc0
      have hDr := dropRun (P := Try.prog) 22 3 Try.underlying22 rfl 1 rfl A0 ns.length c0 p HPo.out.1 hc0
      rename_i ax Jx Kx ay az
      clear hk hc0 hd0 hA0 hB0 ax x0 x1 x2 xf y0 hl
      have HB2 := Aside0.mk HB.out.drew
      clear HB
      have HB := HB2
      clear HB2
      obtain ⟨A2, hA2⟩ : ∃ A2, (if c0 = p then A0 else A0.map (·.add p)) = A2 := ⟨_, rfl⟩
      have HD2 := Aside0.mk (HK.out.2.2.2.1.drop p c0 HPo.out.1 HK.out.2.1)
      rw [hA2] at HD2
      simp only [Nat.mul_one, hA2] at hDr
      clear hA2
      refine start_ (n := 22) (S := fun w' => w'.cell? ⟨h, 3, none⟩ = some (.slice A0 ns.length c0) ∧ w'.frozen? ⟨h, 3, none⟩ = false) (ds := [21]) #[false, false, false, false, false, false, false, false, false, false, false, false, false, false, false, false, false, false, false, false, false, false] (by kernel_rfl) rfl (by rfl) (HS.out _ HB.out) (fun hS => ?_)
      refine Go.Proofs.YtccgcljkgjboaaaW.PrintLast.take_ (i := 0) (N := some 58) (v := P h) #[true, false, false, false, false, false, false, false, false, false, false, false, false, false, false, false, false, false, false, false, false, false] rfl rfl (by kernel_rfl) (fun _ _ _ h => h) (Or.inl ⟨by rfl, by intro w hSw; (try dsimp only at hSw); go_simp⟩) hS rfl ?_
      try simp only [Act.put, List.setIfInBounds_toArray, List.set_cons_zero, List.set_cons_succ]
      refine Go.Proofs.YtccgcljkgjboaaaW.PrintLast.take_ (i := 2) (N := some 60) (v := P h) #[true, false, true, false, false, false, false, false, false, false, false, false, false, false, false, false, false, false, false, false, false, false] rfl rfl (by kernel_rfl) (fun _ _ _ h => h) (Or.inl ⟨by rfl, by intro w hSw; (try dsimp only at hSw); go_simp⟩) hS rfl ?_
      try simp only [Act.put, List.setIfInBounds_toArray, List.set_cons_zero, List.set_cons_succ]
      refine Go.Proofs.YtccgcljkgjboaaaW.PrintLast.take_ (i := 3) (N := some 61) (v := P h) #[true, false, true, true, false, false, false, false, false, false, false, false, false, false, false, false, false, false, false, false, false, false] rfl rfl (by kernel_rfl) (fun _ _ _ h => h) (Or.inl ⟨by rfl, by intro w hSw; (try dsimp only at hSw); go_simp⟩) hS rfl ?_
      try simp only [Act.put, List.setIfInBounds_toArray, List.set_cons_zero, List.set_cons_succ]
      refine Go.Proofs.YtccgcljkgjboaaaW.PrintLast.take_ (i := 4) (N := some 62) (v := (.pointer (some ⟨h, 3, none⟩))) #[true, false, true, true, true, false, false, false, false, false, false, false, false, false, false, false, false, false, false, false, false, false] rfl rfl (by kernel_rfl) (fun _ _ _ h => h) (Or.inl ⟨by rfl, by intro w hSw; (try dsimp only at hSw); go_simp⟩) hS rfl ?_
      try simp only [Act.put, List.setIfInBounds_toArray, List.set_cons_zero, List.set_cons_succ]
      refine Go.Proofs.YtccgcljkgjboaaaW.PrintLast.take_ (i := 5) (N := some 63) (v := (.slice A0 ns.length c0)) #[true, false, true, true, true, true, false, false, false, false, false, false, false, false, false, false, false, false, false, false, false, false] rfl rfl (by kernel_rfl) (fun _ _ _ h => h) (Or.inl ⟨by rfl, by intro w hSw; (try dsimp only at hSw); go_simp⟩) hS rfl ?_
      try simp only [Act.put, List.setIfInBounds_toArray, List.set_cons_zero, List.set_cons_succ]
      refine Go.Proofs.YtccgcljkgjboaaaW.PrintLast.take_ (i := 6) (N := some 64) (v := (.int .i64 (p : Int))) #[true, false, true, true, true, true, true, false, false, false, false, false, false, false, false, false, false, false, false, false, false, false] rfl rfl (by kernel_rfl) (fun _ _ _ h => h) (Or.inl ⟨by rfl, by intro w hSw; (try dsimp only at hSw); go_simp⟩) hS rfl ?_
      try simp only [Act.put, List.setIfInBounds_toArray, List.set_cons_zero, List.set_cons_succ]
      refine Go.Proofs.YtccgcljkgjboaaaW.PrintLast.take_ (i := 7) (N := some 65) (v := (.slice A0 p c0)) #[true, false, true, true, true, true, true, true, false, false, false, false, false, false, false, false, false, false, false, false, false, false] rfl rfl (by kernel_rfl) (fun _ _ _ h => h) (Or.inl ⟨by rfl, by intro w hSw; (try dsimp only at hSw); go_simp⟩) hS rfl ?_
      try simp only [Act.put, List.setIfInBounds_toArray, List.set_cons_zero, List.set_cons_succ]
      refine Go.Proofs.YtccgcljkgjboaaaW.PrintLast.take_ (i := 9) (N := some 67) (v := (.int .i64 M)) #[true, false, true, true, true, true, true, true, false, true, false, false, false, false, false, false, false, false, false, false, false, false] rfl rfl (by kernel_rfl) (fun _ _ _ h => h) (Or.inl ⟨by rfl, by intro w hSw; (try dsimp only at hSw); go_simp⟩) hS rfl ?_
      try simp only [Act.put, List.setIfInBounds_toArray, List.set_cons_zero, List.set_cons_succ]
      refine Go.Proofs.YtccgcljkgjboaaaW.PrintLast.take_ (i := 12) (N := some 70) (v := P h) #[true, false, true, true, true, true, true, true, false, true, false, false, true, false, false, false, false, false, false, false, false, false] rfl rfl (by kernel_rfl) (fun _ _ _ h => h) (Or.inl ⟨by rfl, by intro w hSw; (try dsimp only at hSw); go_simp⟩) hS rfl ?_
      try simp only [Act.put, List.setIfInBounds_toArray, List.set_cons_zero, List.set_cons_succ]
      refine Go.Proofs.YtccgcljkgjboaaaW.PrintLast.take_ (i := 13) (N := some 71) (v := P h) #[true, false, true, true, true, true, true, true, false, true, false, false, true, true, false, false, false, false, false, false, false, false] rfl rfl (by kernel_rfl) (fun _ _ _ h => h) (Or.inl ⟨by rfl, by intro w hSw; (try dsimp only at hSw); go_simp⟩) hS rfl ?_
      try simp only [Act.put, List.setIfInBounds_toArray, List.set_cons_zero, List.set_cons_succ]
      refine Go.Proofs.YtccgcljkgjboaaaW.PrintLast.take_ (i := 14) (N := some 72) (v := (.pointer (some ⟨h, 3, none⟩))) #[true, false, true, true, true, true, true, true, false, true, false, false, true, true, true, false, false, false, false, false, false, false] rfl rfl (by kernel_rfl) (fun _ _ _ h => h) (Or.inl ⟨by rfl, by intro w hSw; (try dsimp only at hSw); go_simp⟩) hS rfl ?_
      try simp only [Act.put, List.setIfInBounds_toArray, List.set_cons_zero, List.set_cons_succ]
      refine Go.Proofs.YtccgcljkgjboaaaW.PrintLast.take_ (i := 15) (N := some 73) (v := (.slice A0 ns.length c0)) #[true, false, true, true, true, true, true, true, false, true, false, false, true, true, true, true, false, false, false, false, false, false] rfl rfl (by kernel_rfl) (fun _ _ _ h => h) (Or.inl ⟨by rfl, by intro w hSw; (try dsimp only at hSw); go_simp⟩) hS rfl ?_
      try simp only [Act.put, List.setIfInBounds_toArray, List.set_cons_zero, List.set_cons_succ]
      refine Go.Proofs.YtccgcljkgjboaaaW.PrintLast.take_ (i := 16) (N := some 74) (v := (.int .i64 (p : Int))) #[true, false, true, true, true, true, true, true, false, true, false, false, true, true, true, true, true, false, false, false, false, false] rfl rfl (by kernel_rfl) (fun _ _ _ h => h) (Or.inl ⟨by rfl, by intro w hSw; (try dsimp only at hSw); go_simp⟩) hS rfl ?_
      try simp only [Act.put, List.setIfInBounds_toArray, List.set_cons_zero, List.set_cons_succ]
      refine Go.Proofs.YtccgcljkgjboaaaW.PrintLast.take_ (i := 17) (N := some 75) (v := (.slice A2 (ns.length - p) (c0 - p))) #[true, false, true, true, true, true, true, true, false, true, false, false, true, true, true, true, true, true, false, false, false, false] rfl rfl (by kernel_rfl) (fun _ _ _ h => h) (Or.inl ⟨by rfl, by intro w hSw; (try dsimp only at hSw); go_simp⟩) hS rfl ?_
      try simp only [Act.put, List.setIfInBounds_toArray, List.set_cons_zero, List.set_cons_succ]
      refine join_ (σ := Value × Value × Value) 5 #[true, true, true, true, true, true, true, true, true, true, true, false, true, true, true, true, true, true, false, false, false, false] (fun s => [(59, s.1), (66, s.2.1), (68, s.2.2)]) (fun s w' => Own W2.heap.size (fun _ => True) w' s.2.1 (ns.take p) ∧ (∃ k, s.2.2 = .slice (some ⟨k, 0, none⟩) 1 1 ∧ Rd w' (some ⟨k, 0, none⟩) [M]) ∧ Below W2.heap.size W2 w') (fun s w' hF => ?_) (fun hj => ?_)
      rotate_left
      refine two_ (i := 1) (j := 10) (Ni := some 59) (Nj := some 68) #[true, true, true, true, true, true, true, true, false, true, false, false, true, true, true, true, true, true, false, false, false, false] #[true, false, true, true, true, true, true, true, false, true, true, false, true, true, true, true, true, true, false, false, false, false] rfl rfl rfl rfl (by kernel_rfl) (by decide) (by decide) ?_ ?_
      · intro K hK
        go_simp
        refine hK.out _ _ (by first | exact HS.out _ HB.out | exact HS.out _ (HB.out.alloc (below_size HB.out) _) | exact HS.out _ ((HB.out.alloc (below_size HB.out) _).alloc (below_size (HB.out.alloc (below_size HB.out) _)) _)) (fun hS => ?_)
        clear hK K
        try simp only [Act.put, List.setIfInBounds_toArray, List.set_cons_zero, List.set_cons_succ]
        refine two_ (i := 8) (j := 10) (Ni := some 66) (Nj := some 68) #[true, true, true, true, true, true, true, true, true, true, false, false, true, true, true, true, true, true, false, false, false, false] #[true, true, true, true, true, true, true, true, false, true, true, false, true, true, true, true, true, true, false, false, false, false] rfl rfl rfl rfl (by kernel_rfl) (by decide) (by decide) ?_ ?_
        · intro K hK
          refine stepRow (w0 := W2) rfl W2.heap.size (.tmp 59) (.tmp 65) rfl (.slice (some ⟨W2.heap.size, 0, none⟩) 0 0) [] (ns.take p) A0 p c0 rfl rfl (own_empty (cur := #[]) (heap_alloc_new _ _) (by simp)) ((HK.out.2.2.2.1.take p HPo.out.1).below (HB.out.alloc (below_size HB.out) _)) (by rw [List.length_take]; have := HPo.out.1; omega) (HB.out.alloc (below_size HB.out) _) (below_size (HB.out.alloc (below_size HB.out) _)) (by have := HNl.out; have := HPo.out.1; simp; omega) ?_; intro v9 w9 ho hb hg; rw [List.nil_append] at ho; have HO := Aside0.mk ho; have HG := Aside0.mk (fun k o => grow_old hg (k := k) (o := o)); clear ho hg; have HB2 := Aside0.mk hb; clear hb HB; have HB := HB2; clear HB2
          refine hK.out _ _ (by first | exact HS.out _ HB.out | exact HS.out _ (HB.out.alloc (below_size HB.out) _) | exact HS.out _ ((HB.out.alloc (below_size HB.out) _).alloc (below_size (HB.out.alloc (below_size HB.out) _)) _)) (fun hS => ?_)
          clear hK K
          try simp only [Act.put, List.setIfInBounds_toArray, List.set_cons_zero, List.set_cons_succ]
          refine one_ (i := 10) (N := some 68) #[true, true, true, true, true, true, true, true, true, true, true, false, true, true, true, true, true, true, false, false, false, false] rfl rfl (by kernel_rfl) (by decide) ?_
          intro K hK
          go_simp
          refine hK.out _ _ (by first | exact HS.out _ HB.out | exact HS.out _ (HB.out.alloc (below_size HB.out) _) | exact HS.out _ ((HB.out.alloc (below_size HB.out) _).alloc (below_size (HB.out.alloc (below_size HB.out) _)) _)) (fun hS => ?_)
          clear hK K
          try simp only [Act.put, List.setIfInBounds_toArray, List.set_cons_zero, List.set_cons_succ]
          have hj2 := hj (.slice (some ⟨W2.heap.size, 0, none⟩) 0 0, v9, .slice (some ⟨w9.heap.size, 0, none⟩) 1 1) (w9.alloc (.cells #[.int .i64 M] 3)) ⟨Kd.R_alloc HO.out _, ⟨_, rfl, Rd.lit (heap_alloc_new _ _)⟩, HB.out.alloc (below_size HB.out) _⟩; (try simp only [putAll, Act.put, List.setIfInBounds_toArray, List.set_cons_zero, List.set_cons_succ] at hj2); exact hj2
        · intro K hK
          go_simp
          refine hK.out _ _ (by first | exact HS.out _ HB.out | exact HS.out _ (HB.out.alloc (below_size HB.out) _) | exact HS.out _ ((HB.out.alloc (below_size HB.out) _).alloc (below_size (HB.out.alloc (below_size HB.out) _)) _)) (fun hS => ?_)
          clear hK K
          try simp only [Act.put, List.setIfInBounds_toArray, List.set_cons_zero, List.set_cons_succ]
          refine one_ (i := 8) (N := some 66) #[true, true, true, true, true, true, true, true, true, true, true, false, true, true, true, true, true, true, false, false, false, false] rfl rfl (by kernel_rfl) (by decide) ?_
          intro K hK
          refine stepRow (w0 := W2) rfl W2.heap.size (.tmp 59) (.tmp 65) rfl (.slice (some ⟨W2.heap.size, 0, none⟩) 0 0) [] (ns.take p) A0 p c0 rfl rfl (own_empty (cur := #[]) (alloc_old (heap_alloc_new _ _) _) (by simp)) ((HK.out.2.2.2.1.take p HPo.out.1).below ((HB.out.alloc (below_size HB.out) _).alloc (below_size (HB.out.alloc (below_size HB.out) _)) _)) (by rw [List.length_take]; have := HPo.out.1; omega) ((HB.out.alloc (below_size HB.out) _).alloc (below_size (HB.out.alloc (below_size HB.out) _)) _) (below_size ((HB.out.alloc (below_size HB.out) _).alloc (below_size (HB.out.alloc (below_size HB.out) _)) _)) (by have := HNl.out; have := HPo.out.1; simp; omega) ?_; intro v9 w9 ho hb hg; rw [List.nil_append] at ho; have HO := Aside0.mk ho; have HG := Aside0.mk (fun k o => grow_old hg (k := k) (o := o)); clear ho hg; have HB2 := Aside0.mk hb; clear hb HB; have HB := HB2; clear HB2
          refine hK.out _ _ (by first | exact HS.out _ HB.out | exact HS.out _ (HB.out.alloc (below_size HB.out) _) | exact HS.out _ ((HB.out.alloc (below_size HB.out) _).alloc (below_size (HB.out.alloc (below_size HB.out) _)) _)) (fun hS => ?_)
          clear hK K
          try simp only [Act.put, List.setIfInBounds_toArray, List.set_cons_zero, List.set_cons_succ]
          have hj2 := hj (.slice (some ⟨W2.heap.size, 0, none⟩) 0 0, v9, .slice (some ⟨W2.heap.size + 1, 0, none⟩) 1 1) w9 ⟨HO.out, ⟨_, rfl, Rd.lit (HG.out _ _ (alloc_two_new _ _ _) (by simp [Value.ownBlock]))⟩, HB.out⟩; (try simp only [putAll, Act.put, List.setIfInBounds_toArray, List.set_cons_zero, List.set_cons_succ] at hj2); exact hj2
      · intro K hK
        go_simp
        refine hK.out _ _ (by first | exact HS.out _ HB.out | exact HS.out _ (HB.out.alloc (below_size HB.out) _) | exact HS.out _ ((HB.out.alloc (below_size HB.out) _).alloc (below_size (HB.out.alloc (below_size HB.out) _)) _)) (fun hS => ?_)
        clear hK K
        try simp only [Act.put, List.setIfInBounds_toArray, List.set_cons_zero, List.set_cons_succ]
        refine one_ (i := 1) (N := some 59) #[true, true, true, true, true, true, true, true, false, true, true, false, true, true, true, true, true, true, false, false, false, false] rfl rfl (by kernel_rfl) (by decide) ?_
        intro K hK
        go_simp
        refine hK.out _ _ (by first | exact HS.out _ HB.out | exact HS.out _ (HB.out.alloc (below_size HB.out) _) | exact HS.out _ ((HB.out.alloc (below_size HB.out) _).alloc (below_size (HB.out.alloc (below_size HB.out) _)) _)) (fun hS => ?_)
        clear hK K
        try simp only [Act.put, List.setIfInBounds_toArray, List.set_cons_zero, List.set_cons_succ]
        refine one_ (i := 8) (N := some 66) #[true, true, true, true, true, true, true, true, true, true, true, false, true, true, true, true, true, true, false, false, false, false] rfl rfl (by kernel_rfl) (by decide) ?_
        intro K hK
        refine stepRow (w0 := W2) rfl W2.heap.size (.tmp 59) (.tmp 65) rfl (.slice (some ⟨W2.heap.size + 1, 0, none⟩) 0 0) [] (ns.take p) A0 p c0 rfl rfl (own_empty (cur := #[]) (alloc_two_new _ _ _) (by simp)) ((HK.out.2.2.2.1.take p HPo.out.1).below ((HB.out.alloc (below_size HB.out) _).alloc (below_size (HB.out.alloc (below_size HB.out) _)) _)) (by rw [List.length_take]; have := HPo.out.1; omega) ((HB.out.alloc (below_size HB.out) _).alloc (below_size (HB.out.alloc (below_size HB.out) _)) _) (below_size ((HB.out.alloc (below_size HB.out) _).alloc (below_size (HB.out.alloc (below_size HB.out) _)) _)) (by have := HNl.out; have := HPo.out.1; simp; omega) ?_; intro v9 w9 ho hb hg; rw [List.nil_append] at ho; have HO := Aside0.mk ho; have HG := Aside0.mk (fun k o => grow_old hg (k := k) (o := o)); clear ho hg; have HB2 := Aside0.mk hb; clear hb HB; have HB := HB2; clear HB2
        refine hK.out _ _ (by first | exact HS.out _ HB.out | exact HS.out _ (HB.out.alloc (below_size HB.out) _) | exact HS.out _ ((HB.out.alloc (below_size HB.out) _).alloc (below_size (HB.out.alloc (below_size HB.out) _)) _)) (fun hS => ?_)
        clear hK K
        try simp only [Act.put, List.setIfInBounds_toArray, List.set_cons_zero, List.set_cons_succ]
        have hj2 := hj (.slice (some ⟨W2.heap.size + 1, 0, none⟩) 0 0, v9, .slice (some ⟨W2.heap.size, 0, none⟩) 1 1) w9 ⟨HO.out, ⟨_, rfl, Rd.lit (HG.out _ _ (alloc_old (heap_alloc_new _ _) _) (by simp [Value.ownBlock]))⟩, HB.out⟩; (try simp only [putAll, Act.put, List.setIfInBounds_toArray, List.set_cons_zero, List.set_cons_succ] at hj2); exact hj2
      obtain ⟨s1, s2, s3⟩ := s; obtain ⟨ho, ⟨kl, rfl, hl⟩, hb⟩ := hF; have HO := Aside0.mk ho; have HLt := Aside0.mk hl; clear ho hl; have HB2 := Aside0.mk hb; clear hb HB; have HB := HB2; clear HB2; replace hS := HS.out _ HB.out
      simp only [putAll, Act.put, List.setIfInBounds_toArray, List.set_cons_zero, List.set_cons_succ]
      refine one_ (i := 11) (N := some 69) #[true, true, true, true, true, true, true, true, true, true, true, true, true, true, true, true, true, true, false, false, false, false] rfl rfl (by kernel_rfl) (by decide) ?_
      intro K hK
      refine stepRow (w0 := W2) rfl W2.heap.size (.tmp 66) (.tmp 68) rfl s2 (ns.take p) [M] _ 1 1 rfl rfl HO.out HLt.out rfl HB.out (below_size HB.out) (by rw [List.length_take]; have := HNl.out; have := HPo.out.1; omega) ?_; intro v10 w10 ho hb hg; clear HO HLt hg; have HO := Aside0.mk ho; clear ho; have HB2 := Aside0.mk hb; clear hb HB; have HB := HB2; clear HB2
      refine hK.out _ _ (by first | exact HS.out _ HB.out | exact HS.out _ (HB.out.alloc (below_size HB.out) _) | exact HS.out _ ((HB.out.alloc (below_size HB.out) _).alloc (below_size (HB.out.alloc (below_size HB.out) _)) _)) (fun hS => ?_)
      clear hK K
      try simp only [Act.put, List.setIfInBounds_toArray, List.set_cons_zero, List.set_cons_succ]
      refine one_ (i := 18) (N := some 76) #[true, true, true, true, true, true, true, true, true, true, true, true, true, true, true, true, true, true, true, false, false, false] rfl rfl (by kernel_rfl) (by decide) ?_
      intro K hK
      refine stepRow (w0 := W2) rfl W2.heap.size (.tmp 69) (.tmp 75) rfl v10 (ns.take p ++ [M]) (ns.drop p) A2 (ns.length - p) (c0 - p) rfl rfl HO.out (HD2.out.below HB.out) (by rw [List.length_drop]) HB.out (below_size HB.out) (by rw [List.length_append, List.length_take]; have := HNl.out; have := HPo.out.1; simp; omega) ?_; intro v11 w11 ho hb hg; obtain ⟨A5, c5, e5⟩ := Kd.R_slice ho; obtain ⟨n5, hn5⟩ : ∃ n5, (ns.take p ++ [M] ++ ns.drop p).length = n5 := ⟨_, rfl⟩; rw [hn5] at e5; have HN5 := Aside0.mk hn5; clear hn5; subst e5; clear HO hg; have HO := Aside0.mk ho; clear ho; have HB2 := Aside0.mk hb; clear hb HB; have HB := HB2; clear HB2
      refine hK.out _ _ (by first | exact HS.out _ HB.out | exact HS.out _ (HB.out.alloc (below_size HB.out) _) | exact HS.out _ ((HB.out.alloc (below_size HB.out) _).alloc (below_size (HB.out.alloc (below_size HB.out) _)) _)) (fun hS => ?_)
      clear hK K
      try simp only [Act.put, List.setIfInBounds_toArray, List.set_cons_zero, List.set_cons_succ]
      refine Go.Proofs.YtccgcljkgjboaaaW.PrintLast.take_ (i := 19) (N := some 77) (v := P h) #[true, true, true, true, true, true, true, true, true, true, true, true, true, true, true, true, true, true, true, true, false, false] rfl rfl (by kernel_rfl) (fun _ _ _ h => h) (Or.inl ⟨by rfl, by intro w hSw; (try dsimp only at hSw); go_simp⟩) hS rfl ?_
      try simp only [Act.put, List.setIfInBounds_toArray, List.set_cons_zero, List.set_cons_succ]
      refine Go.Proofs.YtccgcljkgjboaaaW.PrintLast.take_ (i := 20) (N := some 78) (v := (.pointer (some ⟨h, 3, none⟩))) #[true, true, true, true, true, true, true, true, true, true, true, true, true, true, true, true, true, true, true, true, true, false] rfl rfl (by kernel_rfl) (fun _ _ _ h => h) (Or.inl ⟨by rfl, by intro w hSw; (try dsimp only at hSw); go_simp⟩) hS rfl ?_
      try simp only [Act.put, List.setIfInBounds_toArray, List.set_cons_zero, List.set_cons_succ]
      have hfz := hS.2
      refine last_ (i := 21) (N := none) #[true, true, true, true, true, true, true, true, true, true, true, true, true, true, true, true, true, true, true, true, true, true] rfl rfl (by kernel_rfl) (by decide) ?_
      intro K hK
      go_simp
      refine hK.out _ _ ?_
      clear hK K
      refine done_ (by kernel_rfl) ?_
      go_wp2
      go_meet
      have hkb := (HB.out.block h (hlt HK.out.1)).trans HK.out.1
      have hbx := (HB.out.block _ (hlt HX4.out)).trans HX4.out
      exact ⟨⟨(HR2.out.below HB.out).set (grownBy_cell _ _ _ _) A5 c5 B0 d0 (by rw [HN5.out]; exact (Kd.R_reads' HO.out).2.1) HK.out.2.2.1 (Rd.of HO.out) (HK.out.2.2.2.2.below HB.out) (by rw [heap_setCell_same _ _ _ _ _ _ hkb, HN5.out]; rfl)⟩,
        ⟨(Below.heap_setCell w11 ⟨h, 3, none⟩ _ _ (fun e => by have e' : w.heap.size = h := e; rw [e'] at hbx; exact absurd (type_ne hbx hkb) (by decide))).trans hbx⟩,
        ⟨(HO4.out.below HB.out).move (fun k cur hk => Below.heap_setCell _ _ _ k (fun e => by have e' : k = h := e; subst e'; exact absurd (type_ne hk hkb) (by decide)))⟩,
        ⟨(Fr.new (below_step HF3.out HB.out)).trans (Fr.g (grownBy_cell _ _ _ _))⟩⟩
    case rest =>
      obtain ⟨HR3, HX5, HO5, HF4⟩ := hcut
      clear HR2 HX4 HO4 HF3 x0 x1 x2 xf y0
      go_upto_region 10 with fail
      obtain ⟨A0, c0, B0, d0, hk, hc0, hd0, hA0, hB0⟩ := HR3.out
      have hbx := HX5.out
      have HS := Aside0.mk (fun W (hb : Below wc.heap.size wc W) => (by obtain ⟨_, _, _, _, h4, hf⟩ := cells5 ((hb.block h (hlt hk)).trans hk); obtain ⟨q0, q1, q2, _⟩ := cells3 ((hb.block _ (hlt hbx)).trans hbx); exact ⟨h4, hf 4, q0, q1, q2⟩ : W.cell? ⟨h, 4, none⟩ = some (.slice B0 xs.length d0) ∧ W.frozen? ⟨h, 4, none⟩ = false ∧ W.cell? ⟨w.heap.size, 0, none⟩ = some (.slice A1 x.out.length c1) ∧ W.cell? ⟨w.heap.size, 1, none⟩ = some (.int .i64 x.st) ∧ W.cell? ⟨w.heap.size, 2, none⟩ = some (.int .i64 x.rc)))
      have HK := Aside0.mk (And.intro hk (And.intro hc0 (And.intro hd0 (And.intro hA0 hB0))))
      have HPx : Aside0 (p ≤ xs.length) := ⟨by rw [HLX.out]; exact HPo.out.1⟩
      have HNx : Aside0 (xs.length ≤ 100) := ⟨by rw [HLX.out]; exact HNl.out⟩
      have hT := takeRun (P := Try.prog) 37 33 Try.underlying37 rfl B0 xs.length d0 p HPx.out hd0
      have hDr := dropRun (P := Try.prog) 37 33 Try.underlying37 rfl 3 rfl B0 xs.length d0 p HPx.out hd0
      clear hk hc0 hd0 hA0 hB0 hbx hl
      have HB := Aside0.mk (Below.refl wc.heap.size wc).drew
      obtain ⟨A2, hA2⟩ : ∃ A2, (if d0 = p then B0 else B0.map (·.add (p * 3))) = A2 := ⟨_, rfl⟩
      have HD2 := Aside0.mk (HK.out.2.2.2.2.drop p d0 HPx.out HK.out.2.2.1)
      rw [hA2] at HD2
      simp only [hA2] at hDr
      clear hA2
      refine start_ (n := 22) (S := fun w' => w'.cell? ⟨h, 4, none⟩ = some (.slice B0 xs.length d0) ∧ w'.frozen? ⟨h, 4, none⟩ = false ∧ w'.cell? ⟨w.heap.size, 0, none⟩ = some (.slice A1 x.out.length c1) ∧ w'.cell? ⟨w.heap.size, 1, none⟩ = some (.int .i64 x.st) ∧ w'.cell? ⟨w.heap.size, 2, none⟩ = some (.int .i64 x.rc)) (ds := [21]) #[false, false, false, false, false, false, false, false, false, false, false, false, false, false, false, false, false, false, false, false, false, false] (by kernel_rfl) rfl (by rfl) (HS.out _ HB.out) (fun hS => ?_)
      refine Go.Proofs.YtccgcljkgjboaaaW.PrintLast.take_ (i := 0) (N := some 79) (v := P h) #[true, false, false, false, false, false, false, false, false, false, false, false, false, false, false, false, false, false, false, false, false, false] rfl rfl (by kernel_rfl) (fun _ _ _ h => h) (Or.inl ⟨by rfl, by intro w hSw; (try dsimp only at hSw); go_simp⟩) hS rfl ?_
      try simp only [Act.put, List.setIfInBounds_toArray, List.set_cons_zero, List.set_cons_succ]
      refine Go.Proofs.YtccgcljkgjboaaaW.PrintLast.take_ (i := 2) (N := some 81) (v := P h) #[true, false, true, false, false, false, false, false, false, false, false, false, false, false, false, false, false, false, false, false, false, false] rfl rfl (by kernel_rfl) (fun _ _ _ h => h) (Or.inl ⟨by rfl, by intro w hSw; (try dsimp only at hSw); go_simp⟩) hS rfl ?_
      try simp only [Act.put, List.setIfInBounds_toArray, List.set_cons_zero, List.set_cons_succ]
      refine Go.Proofs.YtccgcljkgjboaaaW.PrintLast.take_ (i := 3) (N := some 82) (v := P h) #[true, false, true, true, false, false, false, false, false, false, false, false, false, false, false, false, false, false, false, false, false, false] rfl rfl (by kernel_rfl) (fun _ _ _ h => h) (Or.inl ⟨by rfl, by intro w hSw; (try dsimp only at hSw); go_simp⟩) hS rfl ?_
      try simp only [Act.put, List.setIfInBounds_toArray, List.set_cons_zero, List.set_cons_succ]
      refine Go.Proofs.YtccgcljkgjboaaaW.PrintLast.take_ (i := 4) (N := some 83) (v := (.pointer (some ⟨h, 4, none⟩))) #[true, false, true, true, true, false, false, false, false, false, false, false, false, false, false, false, false, false, false, false, false, false] rfl rfl (by kernel_rfl) (fun _ _ _ h => h) (Or.inl ⟨by rfl, by intro w hSw; (try dsimp only at hSw); go_simp⟩) hS rfl ?_
      try simp only [Act.put, List.setIfInBounds_toArray, List.set_cons_zero, List.set_cons_succ]
      refine Go.Proofs.YtccgcljkgjboaaaW.PrintLast.take_ (i := 5) (N := some 84) (v := (.slice B0 xs.length d0)) #[true, false, true, true, true, true, false, false, false, false, false, false, false, false, false, false, false, false, false, false, false, false] rfl rfl (by kernel_rfl) (fun _ _ _ h => h) (Or.inl ⟨by rfl, by intro w hSw; (try dsimp only at hSw); go_simp⟩) hS rfl ?_
      try simp only [Act.put, List.setIfInBounds_toArray, List.set_cons_zero, List.set_cons_succ]
      refine Go.Proofs.YtccgcljkgjboaaaW.PrintLast.take_ (i := 6) (N := some 85) (v := (.int .i64 (p : Int))) #[true, false, true, true, true, true, true, false, false, false, false, false, false, false, false, false, false, false, false, false, false, false] rfl rfl (by kernel_rfl) (fun _ _ _ h => h) (Or.inl ⟨by rfl, by intro w hSw; (try dsimp only at hSw); go_simp⟩) hS rfl ?_
      try simp only [Act.put, List.setIfInBounds_toArray, List.set_cons_zero, List.set_cons_succ]
      refine Go.Proofs.YtccgcljkgjboaaaW.PrintLast.take_ (i := 7) (N := some 86) (v := (.slice B0 p d0)) #[true, false, true, true, true, true, true, true, false, false, false, false, false, false, false, false, false, false, false, false, false, false] rfl rfl (by kernel_rfl) (fun _ _ _ h => h) (Or.inl ⟨by rfl, by intro w hSw; (try dsimp only at hSw); go_simp⟩) hS rfl ?_
      try simp only [Act.put, List.setIfInBounds_toArray, List.set_cons_zero, List.set_cons_succ]
      refine Go.Proofs.YtccgcljkgjboaaaW.PrintLast.take_ (i := 9) (N := some 88) (v := (.agg #[.slice A1 x.out.length c1, .int .i64 x.st, .int .i64 x.rc])) #[true, false, true, true, true, true, true, true, false, true, false, false, false, false, false, false, false, false, false, false, false, false] rfl rfl (by kernel_rfl) (fun _ _ _ h => h) (Or.inl ⟨by rfl, by intro w hSw; (try dsimp only at hSw); go_simp⟩) hS rfl ?_
      try simp only [Act.put, List.setIfInBounds_toArray, List.set_cons_zero, List.set_cons_succ]
      refine Go.Proofs.YtccgcljkgjboaaaW.PrintLast.take_ (i := 12) (N := some 91) (v := P h) #[true, false, true, true, true, true, true, true, false, true, false, false, true, false, false, false, false, false, false, false, false, false] rfl rfl (by kernel_rfl) (fun _ _ _ h => h) (Or.inl ⟨by rfl, by intro w hSw; (try dsimp only at hSw); go_simp⟩) hS rfl ?_
      try simp only [Act.put, List.setIfInBounds_toArray, List.set_cons_zero, List.set_cons_succ]
      refine Go.Proofs.YtccgcljkgjboaaaW.PrintLast.take_ (i := 13) (N := some 92) (v := P h) #[true, false, true, true, true, true, true, true, false, true, false, false, true, true, false, false, false, false, false, false, false, false] rfl rfl (by kernel_rfl) (fun _ _ _ h => h) (Or.inl ⟨by rfl, by intro w hSw; (try dsimp only at hSw); go_simp⟩) hS rfl ?_
      try simp only [Act.put, List.setIfInBounds_toArray, List.set_cons_zero, List.set_cons_succ]
      refine Go.Proofs.YtccgcljkgjboaaaW.PrintLast.take_ (i := 14) (N := some 93) (v := (.pointer (some ⟨h, 4, none⟩))) #[true, false, true, true, true, true, true, true, false, true, false, false, true, true, true, false, false, false, false, false, false, false] rfl rfl (by kernel_rfl) (fun _ _ _ h => h) (Or.inl ⟨by rfl, by intro w hSw; (try dsimp only at hSw); go_simp⟩) hS rfl ?_
      try simp only [Act.put, List.setIfInBounds_toArray, List.set_cons_zero, List.set_cons_succ]
      refine Go.Proofs.YtccgcljkgjboaaaW.PrintLast.take_ (i := 15) (N := some 94) (v := (.slice B0 xs.length d0)) #[true, false, true, true, true, true, true, true, false, true, false, false, true, true, true, true, false, false, false, false, false, false] rfl rfl (by kernel_rfl) (fun _ _ _ h => h) (Or.inl ⟨by rfl, by intro w hSw; (try dsimp only at hSw); go_simp⟩) hS rfl ?_
      try simp only [Act.put, List.setIfInBounds_toArray, List.set_cons_zero, List.set_cons_succ]
      refine Go.Proofs.YtccgcljkgjboaaaW.PrintLast.take_ (i := 16) (N := some 95) (v := (.int .i64 (p : Int))) #[true, false, true, true, true, true, true, true, false, true, false, false, true, true, true, true, true, false, false, false, false, false] rfl rfl (by kernel_rfl) (fun _ _ _ h => h) (Or.inl ⟨by rfl, by intro w hSw; (try dsimp only at hSw); go_simp⟩) hS rfl ?_
      try simp only [Act.put, List.setIfInBounds_toArray, List.set_cons_zero, List.set_cons_succ]
      refine Go.Proofs.YtccgcljkgjboaaaW.PrintLast.take_ (i := 17) (N := some 96) (v := (.slice A2 (xs.length - p) (d0 - p))) #[true, false, true, true, true, true, true, true, false, true, false, false, true, true, true, true, true, true, false, false, false, false] rfl rfl (by kernel_rfl) (fun _ _ _ h => h) (Or.inl ⟨by rfl, by intro w hSw; (try dsimp only at hSw); go_simp⟩) hS rfl ?_
      try simp only [Act.put, List.setIfInBounds_toArray, List.set_cons_zero, List.set_cons_succ]
      refine join_ (σ := Value × Value × Value) 5 #[true, true, true, true, true, true, true, true, true, true, true, false, true, true, true, true, true, true, false, false, false, false] (fun s => [(80, s.1), (87, s.2.1), (89, s.2.2)]) (fun s w' => OwnX wc.heap.size w' s.2.1 (xs.take p) ∧ (∃ k, s.2.2 = .slice (some ⟨k, 0, none⟩) 1 1 ∧ RX w' (some ⟨k, 0, none⟩) [x]) ∧ Below wc.heap.size wc w') (fun s w' hF => ?_) (fun hj => ?_)
      rotate_left
      refine two_ (i := 1) (j := 10) (Ni := some 80) (Nj := some 89) #[true, true, true, true, true, true, true, true, false, true, false, false, true, true, true, true, true, true, false, false, false, false] #[true, false, true, true, true, true, true, true, false, true, true, false, true, true, true, true, true, true, false, false, false, false] rfl rfl rfl rfl (by kernel_rfl) (by decide) (by decide) ?_ ?_
      · intro K hK
        go_simp
        refine hK.out _ _ (by first | exact HS.out _ HB.out | exact HS.out _ (HB.out.alloc (below_size HB.out) _) | exact HS.out _ ((HB.out.alloc (below_size HB.out) _).alloc (below_size (HB.out.alloc (below_size HB.out) _)) _)) (fun hS => ?_)
        clear hK K
        try simp only [Act.put, List.setIfInBounds_toArray, List.set_cons_zero, List.set_cons_succ]
        refine two_ (i := 8) (j := 10) (Ni := some 87) (Nj := some 89) #[true, true, true, true, true, true, true, true, true, true, false, false, true, true, true, true, true, true, false, false, false, false] #[true, true, true, true, true, true, true, true, false, true, true, false, true, true, true, true, true, true, false, false, false, false] rfl rfl rfl rfl (by kernel_rfl) (by decide) (by decide) ?_ ?_
        · intro K hK
          refine stepX (w0 := wc) rfl wc.heap.size (.tmp 80) (.tmp 86) rfl (.slice (some ⟨wc.heap.size, 0, none⟩) 0 0) [] (xs.take p) B0 p d0 rfl rfl (ownX_empty (heap_alloc_new _ _) (by simp)) ((HK.out.2.2.2.2.take p HPx.out).below (HB.out.alloc (below_size HB.out) _)) (by rw [List.length_take]; have := HPx.out; omega) (HB.out.alloc (below_size HB.out) _) (below_size (HB.out.alloc (below_size HB.out) _)) (by have := HNx.out; have := HPx.out; simp; omega) ?_; intro v9 w9 ho hb hg ht; rw [List.nil_append] at ho; have HO := Aside0.mk ho; have HG := Aside0.mk (fun k o => grow_old hg (k := k) (o := o)); clear ho hg ht; have HB2 := Aside0.mk hb; clear hb HB; have HB := HB2; clear HB2
          refine hK.out _ _ (by first | exact HS.out _ HB.out | exact HS.out _ (HB.out.alloc (below_size HB.out) _) | exact HS.out _ ((HB.out.alloc (below_size HB.out) _).alloc (below_size (HB.out.alloc (below_size HB.out) _)) _)) (fun hS => ?_)
          clear hK K
          try simp only [Act.put, List.setIfInBounds_toArray, List.set_cons_zero, List.set_cons_succ]
          refine one_ (i := 10) (N := some 89) #[true, true, true, true, true, true, true, true, true, true, true, false, true, true, true, true, true, true, false, false, false, false] rfl rfl (by kernel_rfl) (by decide) ?_
          intro K hK
          go_simp
          refine hK.out _ _ (by first | exact HS.out _ HB.out | exact HS.out _ (HB.out.alloc (below_size HB.out) _) | exact HS.out _ ((HB.out.alloc (below_size HB.out) _).alloc (below_size (HB.out.alloc (below_size HB.out) _)) _)) (fun hS => ?_)
          clear hK K
          try simp only [Act.put, List.setIfInBounds_toArray, List.set_cons_zero, List.set_cons_succ]
          have hj2 := hj (.slice (some ⟨wc.heap.size, 0, none⟩) 0 0, v9, .slice (some ⟨w9.heap.size, 0, none⟩) 1 1) (w9.alloc (.cells #[.slice A1 x.out.length c1, .int .i64 x.st, .int .i64 x.rc] 33)) ⟨OwnX.below HO.out ((Below.refl _ _).alloc (Nat.le_refl _) _), ⟨_, rfl, RX.lit (heap_alloc_new _ _) HC1.out (HO5.out.below (HB.out.alloc (below_size HB.out) _))⟩, HB.out.alloc (below_size HB.out) _⟩; (try simp only [putAll, Act.put, List.setIfInBounds_toArray, List.set_cons_zero, List.set_cons_succ] at hj2); exact hj2
        · intro K hK
          go_simp
          refine hK.out _ _ (by first | exact HS.out _ HB.out | exact HS.out _ (HB.out.alloc (below_size HB.out) _) | exact HS.out _ ((HB.out.alloc (below_size HB.out) _).alloc (below_size (HB.out.alloc (below_size HB.out) _)) _)) (fun hS => ?_)
          clear hK K
          try simp only [Act.put, List.setIfInBounds_toArray, List.set_cons_zero, List.set_cons_succ]
          refine one_ (i := 8) (N := some 87) #[true, true, true, true, true, true, true, true, true, true, true, false, true, true, true, true, true, true, false, false, false, false] rfl rfl (by kernel_rfl) (by decide) ?_
          intro K hK
          refine stepX (w0 := wc) rfl wc.heap.size (.tmp 80) (.tmp 86) rfl (.slice (some ⟨wc.heap.size, 0, none⟩) 0 0) [] (xs.take p) B0 p d0 rfl rfl (ownX_empty (alloc_old (heap_alloc_new _ _) _) (by simp)) ((HK.out.2.2.2.2.take p HPx.out).below ((HB.out.alloc (below_size HB.out) _).alloc (below_size (HB.out.alloc (below_size HB.out) _)) _)) (by rw [List.length_take]; have := HPx.out; omega) ((HB.out.alloc (below_size HB.out) _).alloc (below_size (HB.out.alloc (below_size HB.out) _)) _) (below_size ((HB.out.alloc (below_size HB.out) _).alloc (below_size (HB.out.alloc (below_size HB.out) _)) _)) (by have := HNx.out; have := HPx.out; simp; omega) ?_; intro v9 w9 ho hb hg ht; rw [List.nil_append] at ho; have HO := Aside0.mk ho; have HG := Aside0.mk (fun k o => grow_old hg (k := k) (o := o)); clear ho hg ht; have HB2 := Aside0.mk hb; clear hb HB; have HB := HB2; clear HB2
          refine hK.out _ _ (by first | exact HS.out _ HB.out | exact HS.out _ (HB.out.alloc (below_size HB.out) _) | exact HS.out _ ((HB.out.alloc (below_size HB.out) _).alloc (below_size (HB.out.alloc (below_size HB.out) _)) _)) (fun hS => ?_)
          clear hK K
          try simp only [Act.put, List.setIfInBounds_toArray, List.set_cons_zero, List.set_cons_succ]
          have hj2 := hj (.slice (some ⟨wc.heap.size, 0, none⟩) 0 0, v9, .slice (some ⟨wc.heap.size + 1, 0, none⟩) 1 1) w9 ⟨HO.out, ⟨_, rfl, RX.lit (HG.out _ _ (alloc_two_new _ _ _) (by simp [Value.ownBlock])) HC1.out (HO5.out.below (HB.out))⟩, HB.out⟩; (try simp only [putAll, Act.put, List.setIfInBounds_toArray, List.set_cons_zero, List.set_cons_succ] at hj2); exact hj2
      · intro K hK
        go_simp
        refine hK.out _ _ (by first | exact HS.out _ HB.out | exact HS.out _ (HB.out.alloc (below_size HB.out) _) | exact HS.out _ ((HB.out.alloc (below_size HB.out) _).alloc (below_size (HB.out.alloc (below_size HB.out) _)) _)) (fun hS => ?_)
        clear hK K
        try simp only [Act.put, List.setIfInBounds_toArray, List.set_cons_zero, List.set_cons_succ]
        refine one_ (i := 1) (N := some 80) #[true, true, true, true, true, true, true, true, false, true, true, false, true, true, true, true, true, true, false, false, false, false] rfl rfl (by kernel_rfl) (by decide) ?_
        intro K hK
        go_simp
        refine hK.out _ _ (by first | exact HS.out _ HB.out | exact HS.out _ (HB.out.alloc (below_size HB.out) _) | exact HS.out _ ((HB.out.alloc (below_size HB.out) _).alloc (below_size (HB.out.alloc (below_size HB.out) _)) _)) (fun hS => ?_)
        clear hK K
        try simp only [Act.put, List.setIfInBounds_toArray, List.set_cons_zero, List.set_cons_succ]
        refine one_ (i := 8) (N := some 87) #[true, true, true, true, true, true, true, true, true, true, true, false, true, true, true, true, true, true, false, false, false, false] rfl rfl (by kernel_rfl) (by decide) ?_
        intro K hK
        refine stepX (w0 := wc) rfl wc.heap.size (.tmp 80) (.tmp 86) rfl (.slice (some ⟨wc.heap.size + 1, 0, none⟩) 0 0) [] (xs.take p) B0 p d0 rfl rfl (ownX_empty (alloc_two_new _ _ _) (by simp)) ((HK.out.2.2.2.2.take p HPx.out).below ((HB.out.alloc (below_size HB.out) _).alloc (below_size (HB.out.alloc (below_size HB.out) _)) _)) (by rw [List.length_take]; have := HPx.out; omega) ((HB.out.alloc (below_size HB.out) _).alloc (below_size (HB.out.alloc (below_size HB.out) _)) _) (below_size ((HB.out.alloc (below_size HB.out) _).alloc (below_size (HB.out.alloc (below_size HB.out) _)) _)) (by have := HNx.out; have := HPx.out; simp; omega) ?_; intro v9 w9 ho hb hg ht; rw [List.nil_append] at ho; have HO := Aside0.mk ho; have HG := Aside0.mk (fun k o => grow_old hg (k := k) (o := o)); clear ho hg ht; have HB2 := Aside0.mk hb; clear hb HB; have HB := HB2; clear HB2
        refine hK.out _ _ (by first | exact HS.out _ HB.out | exact HS.out _ (HB.out.alloc (below_size HB.out) _) | exact HS.out _ ((HB.out.alloc (below_size HB.out) _).alloc (below_size (HB.out.alloc (below_size HB.out) _)) _)) (fun hS => ?_)
        clear hK K
        try simp only [Act.put, List.setIfInBounds_toArray, List.set_cons_zero, List.set_cons_succ]
        have hj2 := hj (.slice (some ⟨wc.heap.size + 1, 0, none⟩) 0 0, v9, .slice (some ⟨wc.heap.size, 0, none⟩) 1 1) w9 ⟨HO.out, ⟨_, rfl, RX.lit (HG.out _ _ (alloc_old (heap_alloc_new _ _) _) (by simp [Value.ownBlock])) HC1.out (HO5.out.below (HB.out))⟩, HB.out⟩; (try simp only [putAll, Act.put, List.setIfInBounds_toArray, List.set_cons_zero, List.set_cons_succ] at hj2); exact hj2
      obtain ⟨s1, s2, s3⟩ := s; obtain ⟨ho, ⟨kl, rfl, hl⟩, hb⟩ := hF; have HO := Aside0.mk ho; have HLt := Aside0.mk hl; clear ho hl; have HB2 := Aside0.mk hb; clear hb HB; have HB := HB2; clear HB2; replace hS := HS.out _ HB.out
      simp only [putAll, Act.put, List.setIfInBounds_toArray, List.set_cons_zero, List.set_cons_succ]
      refine one_ (i := 11) (N := some 90) #[true, true, true, true, true, true, true, true, true, true, true, true, true, true, true, true, true, true, false, false, false, false] rfl rfl (by kernel_rfl) (by decide) ?_
      intro K hK
      refine stepX (w0 := wc) rfl wc.heap.size (.tmp 87) (.tmp 89) rfl s2 (xs.take p) [x] _ 1 1 rfl rfl HO.out HLt.out rfl HB.out (below_size HB.out) (by rw [List.length_take]; have := HNx.out; have := HPx.out; omega) ?_; intro v10 w10 ho hb hg ht; clear HO HLt hg ht; have HO := Aside0.mk ho; clear ho; have HB2 := Aside0.mk hb; clear hb HB; have HB := HB2; clear HB2
      refine hK.out _ _ (by first | exact HS.out _ HB.out | exact HS.out _ (HB.out.alloc (below_size HB.out) _) | exact HS.out _ ((HB.out.alloc (below_size HB.out) _).alloc (below_size (HB.out.alloc (below_size HB.out) _)) _)) (fun hS => ?_)
      clear hK K
      try simp only [Act.put, List.setIfInBounds_toArray, List.set_cons_zero, List.set_cons_succ]
      refine one_ (i := 18) (N := some 97) #[true, true, true, true, true, true, true, true, true, true, true, true, true, true, true, true, true, true, true, false, false, false] rfl rfl (by kernel_rfl) (by decide) ?_
      intro K hK
      refine stepX (w0 := wc) rfl wc.heap.size (.tmp 90) (.tmp 96) rfl v10 (xs.take p ++ [x]) (xs.drop p) A2 (xs.length - p) (d0 - p) rfl rfl HO.out (HD2.out.below HB.out) (by rw [List.length_drop]) HB.out (below_size HB.out) (by rw [List.length_append, List.length_take]; have := HNx.out; have := HPx.out; simp; omega) ?_; intro v11 w11 ho hb hg ht; obtain ⟨A5, c5, e5, hc5, hx5⟩ := RX.of ho; obtain ⟨n5, hn5⟩ : ∃ n5, (xs.take p ++ [x] ++ xs.drop p).length = n5 := ⟨_, rfl⟩; rw [hn5] at e5; have HN5 := Aside0.mk hn5; clear hn5; subst e5; clear HO hg ht; have HO := Aside0.mk (And.intro hc5 hx5); clear ho hc5 hx5; have HB2 := Aside0.mk hb; clear hb HB; have HB := HB2; clear HB2
      refine hK.out _ _ (by first | exact HS.out _ HB.out | exact HS.out _ (HB.out.alloc (below_size HB.out) _) | exact HS.out _ ((HB.out.alloc (below_size HB.out) _).alloc (below_size (HB.out.alloc (below_size HB.out) _)) _)) (fun hS => ?_)
      clear hK K
      try simp only [Act.put, List.setIfInBounds_toArray, List.set_cons_zero, List.set_cons_succ]
      refine Go.Proofs.YtccgcljkgjboaaaW.PrintLast.take_ (i := 19) (N := some 98) (v := P h) #[true, true, true, true, true, true, true, true, true, true, true, true, true, true, true, true, true, true, true, true, false, false] rfl rfl (by kernel_rfl) (fun _ _ _ h => h) (Or.inl ⟨by rfl, by intro w hSw; (try dsimp only at hSw); go_simp⟩) hS rfl ?_
      try simp only [Act.put, List.setIfInBounds_toArray, List.set_cons_zero, List.set_cons_succ]
      refine Go.Proofs.YtccgcljkgjboaaaW.PrintLast.take_ (i := 20) (N := some 99) (v := (.pointer (some ⟨h, 4, none⟩))) #[true, true, true, true, true, true, true, true, true, true, true, true, true, true, true, true, true, true, true, true, true, false] rfl rfl (by kernel_rfl) (fun _ _ _ h => h) (Or.inl ⟨by rfl, by intro w hSw; (try dsimp only at hSw); go_simp⟩) hS rfl ?_
      try simp only [Act.put, List.setIfInBounds_toArray, List.set_cons_zero, List.set_cons_succ]
      have hfz := hS.2.1
      refine last_ (i := 21) (N := none) #[true, true, true, true, true, true, true, true, true, true, true, true, true, true, true, true, true, true, true, true, true, true] rfl rfl (by kernel_rfl) (by decide) ?_
      intro K hK
      go_simp
      refine hK.out _ _ ?_
      clear hK K
      refine done_ (by kernel_rfl) ?_
      go_wp2
      go_ret
      have hkb := (HB.out.block h (hlt HK.out.1)).trans HK.out.1
      exact ⟨rfl, (HR3.out.below HB.out).set (grownBy_cell _ _ _ _) A0 c0 A5 c5 HK.out.2.1 HO.out.1 (HK.out.2.2.2.1.below HB.out) HO.out.2 (by rw [heap_setCell_same _ _ _ _ _ _ hkb, HN5.out]; rfl), (HF4.out.trans (Fr.new HB.out)).trans (Fr.g (grownBy_cell _ _ _ _))⟩
end Go.Proofs.Ytccgcljkgjboaaa.Rg
