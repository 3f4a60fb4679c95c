import Derived.Test.YtccgcljkgjboaaaR14
import Derived.Test.YtccgcljkgjboaaaR5
import Derived.Deep.LoopGhost
import Derived.Deep.CutBlock
import Derived.Deep.RegionHeld3
/- RingRaw, by hand. -/
namespace Go.Proofs.Ytccgcljkgjboaaa.Rg
open Go.RowKit Go.Proofs.YtccgcljkgjboaaaW.PrintWords Go.Proofs.YtccgcljkgjboaaaW.PrintLast Go.Proofs.YtccgcljkgjboaaaW.PrintMore Go.Proofs.Ytccgcljkgjboaaa.PRingSteps
set_option linter.unusedVariables false
set_option linter.unusedSimpArgs false
set_option maxRecDepth 100000
set_option maxHeartbeats 4000000
theorem ints_loop (l : List Int) (hl : l.length ≤ 4611686018427387904) : ∀ (d : Nat) (i : Int) (k : Nat), 0 ≤ i → (l.length : Int) - i ≤ d → d < k → i ≤ l.length → ndjqkeep_Ints.l0 k l l i = some true
  | 0, i, k, h0, hd, hk, hi => by
    obtain ⟨k, rfl⟩ : ∃ j, k = j + 1 := ⟨k - 1, by omega⟩
    simp only [ndjqkeep_Ints.l0]
    rw [if_neg (by omega)]
  | d + 1, i, k, h0, hd, hk, hi => by
    obtain ⟨k, rfl⟩ : ∃ j, k = j + 1 := ⟨k - 1, by omega⟩
    simp only [ndjqkeep_Ints.l0]
    by_cases c : i < (l.length : Int)
    · rw [if_pos c, if_pos h0, if_pos c, if_pos trivial, show wrap64 (i + 1) = i + 1 by unfold wrap64; omega]
      exact ints_loop l hl d (i + 1) k (by omega) (by omega) (by omega) (by omega)
    · rw [if_neg c]
theorem ints_same (l : List Int) (hl : l.length ≤ 4611686018427387904) (k : Nat) (hk : l.length < k) : ndjqkeep_Ints.f k l l = some true := by
  unfold ndjqkeep_Ints.f
  rw [if_pos rfl]
  exact ints_loop l hl l.length 0 k (by omega) (by omega) hk (by omega)
theorem intsN (w : World) (A0 : Option Addr) (n0 c0 : Nat) (A1 : Option Addr) (n1 c1 : Nat) (l : List Int) (h0 : Kd.C (Kd.int .i64) w A0 n0 l) (e0 : l.length = n0) (hc0 : n0 ≤ c0) (h1 : Kd.C (Kd.int .i64) w A1 n1 l) (e1 : l.length = n1) (hc1 : n1 ≤ c1) (hn : n0 ≤ 1000) :
    Calls Try.prog 13 #[.slice A0 n0 c0, .slice A1 n1 c1] w fun e w' => e = .returned (.bool true) ∧ Drawn0 w w' := by
  subst e0; subst e1
  exact ndjqkeep_Ints.calls (l.length + 1) A0 c0 l A1 c1 l true w h0 hc0 h1 hc1 (ints_same l (by omega) _ (by omega))
theorem IsR.down {w : World} {h cap next cr : Nat} {ns : List Int} {xs : List Res} (hR : IsR w h cap next cr ns xs) : ∃ A c, w.cell? ⟨h, 3, none⟩ = some (.slice A ns.length c) ∧ ns.length ≤ c ∧ Rd w A ns := by
  obtain ⟨A, c, B, d, hk, h1, h2, h3, h4⟩ := hR
  obtain ⟨_, _, _, q, _⟩ := cells5 hk
  exact ⟨A, c, q, h1, h3⟩
theorem wf_le {x : Int} (h : (Lit.int .i64 x).wf = true) : x ≤ 9223372036854775807 := by
  have h2 := h
  simp only [Lit.wf, Bool.and_eq_true, decide_eq_true_eq] at h2
  have h3 : IntKind.i64.max = 9223372036854775807 := rfl
  omega
theorem rNewI (w : World) (cap : Nat) (V : Int) (hV : V = (cap : Int)) : Calls Try.prog 10 #[.int .i64 V] w fun e w' => ∃ h, e = .returned (P h) ∧ IsR w' h cap 1 cap [] [] ∧ Below w.heap.size w w' ∧ w.heap.size ≤ h := by
  subst hV
  exact rNew w cap
theorem ringRaw (cap0 : Int) (A1 : Option Addr) (c1 : Nat) (l1 : List Int) (w : World) (hr1 : Kd.C (Kd.int .i64) w A1 l1.length l1) (hc1 : l1.length ≤ c1) (hw : ∀ x ∈ l1, x ≤ 9223372036854775807) :
    Calls Try.prog 3 #[.int .i64 cap0, .slice A1 l1.length c1] w fun e w' => e = .returned (.bool true) ∧ Below w.heap.size w w' := by
  have HB := Aside0.mk (Below.refl w.heap.size w)
  obtain ⟨m, hm, hmod⟩ := modN cap0 64 (by omega) (by omega)
  have HM := Aside0.mk (show ndjqkeep_Mod.f cap0 64 = some (m : Int) from hmod)
  have hw1 : IntKind.i64.wrap ((m : Int) + 1) = (m : Int) + 1 := by rw [i64_w]; unfold Go.RowKit.wrap64; omega
  have HN := Aside0.mk (fun w => new_ w ((m : Int) + 1) (m + 1) rfl (by omega) (by omega))
  have HNr := Aside0.mk (fun w => rNewI w (m + 1) ((m : Int) + 1) (by omega))
  have HR1 := Aside0.mk hr1
  have HW := Aside0.mk hw
  clear hmod hr1 hw
  go_enter Try.func3, Try.ntmps3
  by_cases hbig : 40 < l1.length
  · have hb0 : decide ((l1.length : Int) > 40) = true := decide_eq_true (by omega)
    go_wp2_with (first | (go_at_call 7; (with_reducible refine (ndjqkeep_Mod.calls _ _ _ _ HM.out).mono ?_); rintro e w_ ⟨rfl, hd⟩; have HB2 := Aside0.mk (below_D HB.out hd); clear HB; have HB := HB2; clear HB2 hd) | (go_at_call 8; (with_reducible refine (HN.out _).mono ?_); rintro e w1 ⟨g, s, rfl, hQ, hb, hg, hs⟩; have HB2 := Aside0.mk (below_step HB.out hb); clear HB hQ hb hg hs; have HB := HB2; clear HB2) | (go_at_call 9; (with_reducible refine (awake _).mono ?_); rintro e w_ ⟨rfl, hb⟩; have HB2 := Aside0.mk (below_step HB.out hb); clear HB; have HB := HB2; clear HB2 hb))
    go_ret
    exact ⟨rfl, HB.out⟩
  have hb0 : decide ((l1.length : Int) > 40) = false := decide_eq_false (by omega)
  go_wp2_with (first | (go_at_call 7; (with_reducible refine (ndjqkeep_Mod.calls _ _ _ _ HM.out).mono ?_); rintro e w_ ⟨rfl, hd⟩; have HB2 := Aside0.mk (below_D HB.out hd); clear HB; have HB := HB2; clear HB2 hd) | (go_at_call 8; (with_reducible refine (HN.out _).mono ?_); rintro e w1 ⟨g, s, rfl, hQ, hb, hg, hs⟩; have HQ := Aside0.mk hQ; have HL := Aside0.mk (And.intro (Nat.le_trans HB.out.size hg) (Nat.le_trans HB.out.size hs)); have HB2 := Aside0.mk (below_step HB.out hb); clear HB HN hQ hb hg hs; have HB := HB2; clear HB2) | (go_at_call 10; refine (HNr.out _).mono ?_; rintro e w2 ⟨h, rfl, hR, hb, hh⟩; have HQ2 := Aside0.mk (HQ.out.below hb); have HR := Aside0.mk hR; have HLh := Aside0.mk (Nat.le_trans HB.out.size hh); have HB2 := Aside0.mk (below_step HB.out hb); clear HB HQ HNr hR hb hh; have HB := HB2; have HQ := HQ2; clear HB2 HQ2))
  go_loopg [8] l1.length (fun kq v8 w' => ∃ (i : Nat) (f : Nat → Option Res) (ns : List Int) (xs : List Res), kq + i = l1.length ∧ v8 = .int .i64 (i : Int) ∧ Aside0 (Eq2 f 1 (m + 1) ns xs) ∧ Aside0 (IsQ w' g s (m + 1) 1 (m + 1) f) ∧ Aside0 (IsR w' h (m + 1) 1 (m + 1) ns xs) ∧ Aside0 (Below w.heap.size w w'))
  case atStart => exact ⟨0, _, _, _, by omega, rfl, ⟨Eq2.start 1 (m + 1)⟩, HQ, HR, HB⟩
  case round =>
    clear HQ HB HR
    obtain ⟨i, f, ns, xs, hi, rfl, HE, HQ, HR, HB⟩ := hrel
    by_cases c : i < l1.length
    · have c0 : decide ((i : Int) < (l1.length : Int)) = true := decide_eq_true (by omega)
      obtain ⟨j1, rfl⟩ : ∃ j1, gk = j1 + 1 := ⟨gk - 1, by omega⟩
      obtain ⟨ad, e1, hx⟩ := Kd.at_int (Kd.C_below HR1.out HB.out) (i : Int) (by omega) (by omega)
      cases e1
      have p1 : (0 ≤ (i : Int)) = True := eq_true (by omega)
      have q1 : ((i : Int) < (l1.length : Int)) = True := eq_true (by omega)
      obtain ⟨x, hxx⟩ : ∃ x, rd l1 (i : Int) = x := ⟨_, rfl⟩
      have hxm : x ≤ 9223372036854775807 := HW.out x (by rw [← hxx]; unfold rd; simp; rw [List.getElem?_eq_getElem c, Option.getD_some]; exact List.getElem_mem _)
      rw [hxx] at hx
      have HX1 := Aside0.mk (fun W (hb : Below w.heap.size w W) => (by have h := (Kd.at_int (Kd.C_below HR1.out hb) (i : Int) (by omega) (by omega)); obtain ⟨ad2, e2, h2⟩ := h; cases e2; rw [hxx] at h2; simpa using h2 : W.cell? (ad.add i) = some (.int .i64 x)))
      replace hx : wr.cell? (ad.add i) = some (.int .i64 x) := by simpa using hx
      have HX := Aside0.mk (And.intro c hxm)
      clear c hxx hxm
      obtain ⟨code, f2, ns2, xs2, hp1, hp2, he⟩ := HE.out.put (Nat.succ_pos m) x ⟨[], 0, (i : Int)⟩
      have HP1 := Aside0.mk (And.intro hp1 (And.intro hp2 he))
      have HLE := Aside0.mk (And.intro HE.out.le (And.intro HE.out.len he.le))
      clear hp1 hp2 he HE
      go_upto_region 12 with fail
      have hA : Below wr.heap.size wr (wr.alloc (.cells #[.slice none 0 0, .int .i64 0, .int .i64 (i : Int)] 33)).drew := ((Below.refl wr.heap.size wr).alloc (Nat.le_refl _) _).drew
      have HX9 : Aside0 ((wr.alloc (.cells #[.slice none 0 0, .int .i64 0, .int .i64 (i : Int)] 33)).drew.heap[wr.heap.size]? = some (.cells #[.slice none 0 0, .int .i64 0, .int .i64 (i : Int)] 33 (0, 0))) := ⟨heap_alloc_new wr _⟩
      have HNE : Aside0 (wr.heap.size ≠ h) := ⟨by have := HR.out.lt; omega⟩
      have HQ2 := Aside0.mk (HQ.out.below hA)
      have HR2 := Aside0.mk (HR.out.below hA)
      have HB2 := Aside0.mk (below_step HB.out hA)
      clear HQ HR HB hA
      have HQ := HQ2
      have HR := HR2
      have HB := HB2
      clear HQ2 HR2 HB2
      refine start_ (n := 25) (S := fun w' => w'.cell? (ad.add i) = some (.int .i64 x) ∧ w'.cell? ⟨wr.heap.size, 0, none⟩ = some (.slice none 0 0) ∧ w'.cell? ⟨wr.heap.size, 1, none⟩ = some (.int .i64 0) ∧ w'.cell? ⟨wr.heap.size, 2, none⟩ = some (.int .i64 (i : Int))) (ds := []) #[false, false, false, false, false, false, false, false, false, false, false, false, false, false, false, false, false, false, false, false, false, false, false, false, false] (by kernel_rfl) rfl (by rfl) ⟨HX1.out _ HB.out, (cells3 HX9.out).1, (cells3 HX9.out).2.1, (cells3 HX9.out).2.2.1⟩ (fun hS => ?_)
      refine Go.Proofs.YtccgcljkgjboaaaW.PrintLast.take_ (i := 0) (N := some 38) (v := P g) #[true, false, false, false, false, false, false, false, false, false, false, false, false, false, false, false, false, false, false, false, false, false, false, false, false] rfl rfl (by kernel_rfl) (fun _ _ _ h => h) (Or.inl ⟨by rfl, by intro w hSw; (try dsimp only at hSw); go_simp⟩) hS rfl ?_
      try simp only [Act.put, List.setIfInBounds_toArray, List.set_cons_zero, List.set_cons_succ]
      refine Go.Proofs.YtccgcljkgjboaaaW.PrintLast.take_ (i := 1) (N := some 39) (v := (.slice (some ad) l1.length c1)) #[true, true, false, false, false, false, false, false, false, false, false, false, false, false, false, false, false, false, false, false, false, false, false, false, false] rfl rfl (by kernel_rfl) (fun _ _ _ h => h) (Or.inl ⟨by rfl, by intro w hSw; (try dsimp only at hSw); go_simp⟩) hS rfl ?_
      try simp only [Act.put, List.setIfInBounds_toArray, List.set_cons_zero, List.set_cons_succ]
      refine Go.Proofs.YtccgcljkgjboaaaW.PrintLast.take_ (i := 2) (N := some 40) (v := (.int .i64 (i : Int))) #[true, true, true, false, false, false, false, false, false, false, false, false, false, false, false, false, false, false, false, false, false, false, false, false, false] rfl rfl (by kernel_rfl) (fun _ _ _ h => h) (Or.inl ⟨by rfl, by intro w hSw; (try dsimp only at hSw); go_simp⟩) hS rfl ?_
      try simp only [Act.put, List.setIfInBounds_toArray, List.set_cons_zero, List.set_cons_succ]
      refine Go.Proofs.YtccgcljkgjboaaaW.PrintLast.take_ (i := 3) (N := some 41) (v := (.pointer (some (ad.add i)))) #[true, true, true, true, false, false, false, false, false, false, false, false, false, false, false, false, false, false, false, false, false, false, false, false, false] rfl rfl (by kernel_rfl) (fun _ _ _ h => h) (Or.inl ⟨by rfl, by intro w hSw; (try dsimp only at hSw); go_simp⟩) hS rfl ?_
      try simp only [Act.put, List.setIfInBounds_toArray, List.set_cons_zero, List.set_cons_succ]
      refine Go.Proofs.YtccgcljkgjboaaaW.PrintLast.take_ (i := 4) (N := some 42) (v := (.int .i64 x)) #[true, true, true, true, true, false, false, false, false, false, false, false, false, false, false, false, false, false, false, false, false, false, false, false, false] rfl rfl (by kernel_rfl) (fun _ _ _ h => h) (Or.inl ⟨by rfl, by intro w hSw; (try dsimp only at hSw); go_simp⟩) hS rfl ?_
      try simp only [Act.put, List.setIfInBounds_toArray, List.set_cons_zero, List.set_cons_succ]
      refine Go.Proofs.YtccgcljkgjboaaaW.PrintLast.take_ (i := 5) (N := some 43) (v := (.agg #[.slice none 0 0, .int .i64 0, .int .i64 (i : Int)])) #[true, true, true, true, true, true, false, false, false, false, false, false, false, false, false, false, false, false, false, false, false, false, false, false, false] rfl rfl (by kernel_rfl) (fun _ _ _ h => h) (Or.inl ⟨by rfl, by intro w hSw; (try dsimp only at hSw); go_simp⟩) hS rfl ?_
      try simp only [Act.put, List.setIfInBounds_toArray, List.set_cons_zero, List.set_cons_succ]
      refine Go.Proofs.YtccgcljkgjboaaaW.PrintLast.take_ (i := 7) (N := some 45) (v := P h) #[true, true, true, true, true, true, false, true, false, false, false, false, false, false, false, false, false, false, false, false, false, false, false, false, false] rfl rfl (by kernel_rfl) (fun _ _ _ h => h) (Or.inl ⟨by rfl, by intro w hSw; (try dsimp only at hSw); go_simp⟩) hS rfl ?_
      try simp only [Act.put, List.setIfInBounds_toArray, List.set_cons_zero, List.set_cons_succ]
      refine Go.Proofs.YtccgcljkgjboaaaW.PrintLast.take_ (i := 8) (N := some 46) (v := (.slice (some ad) l1.length c1)) #[true, true, true, true, true, true, false, true, true, false, false, false, false, false, false, false, false, false, false, false, false, false, false, false, false] rfl rfl (by kernel_rfl) (fun _ _ _ h => h) (Or.inl ⟨by rfl, by intro w hSw; (try dsimp only at hSw); go_simp⟩) hS rfl ?_
      try simp only [Act.put, List.setIfInBounds_toArray, List.set_cons_zero, List.set_cons_succ]
      refine Go.Proofs.YtccgcljkgjboaaaW.PrintLast.take_ (i := 9) (N := some 47) (v := (.int .i64 (i : Int))) #[true, true, true, true, true, true, false, true, true, true, false, false, false, false, false, false, false, false, false, false, false, false, false, false, false] rfl rfl (by kernel_rfl) (fun _ _ _ h => h) (Or.inl ⟨by rfl, by intro w hSw; (try dsimp only at hSw); go_simp⟩) hS rfl ?_
      try simp only [Act.put, List.setIfInBounds_toArray, List.set_cons_zero, List.set_cons_succ]
      refine Go.Proofs.YtccgcljkgjboaaaW.PrintLast.take_ (i := 10) (N := some 48) (v := (.pointer (some (ad.add i)))) #[true, true, true, true, true, true, false, true, true, true, true, false, false, false, false, false, false, false, false, false, false, false, false, false, false] rfl rfl (by kernel_rfl) (fun _ _ _ h => h) (Or.inl ⟨by rfl, by intro w hSw; (try dsimp only at hSw); go_simp⟩) hS rfl ?_
      try simp only [Act.put, List.setIfInBounds_toArray, List.set_cons_zero, List.set_cons_succ]
      refine Go.Proofs.YtccgcljkgjboaaaW.PrintLast.take_ (i := 11) (N := some 49) (v := (.int .i64 x)) #[true, true, true, true, true, true, false, true, true, true, true, true, false, false, false, false, false, false, false, false, false, false, false, false, false] rfl rfl (by kernel_rfl) (fun _ _ _ h => h) (Or.inl ⟨by rfl, by intro w hSw; (try dsimp only at hSw); go_simp⟩) hS rfl ?_
      try simp only [Act.put, List.setIfInBounds_toArray, List.set_cons_zero, List.set_cons_succ]
      refine Go.Proofs.YtccgcljkgjboaaaW.PrintLast.take_ (i := 12) (N := some 50) (v := (.agg #[.slice none 0 0, .int .i64 0, .int .i64 (i : Int)])) #[true, true, true, true, true, true, false, true, true, true, true, true, true, false, false, false, false, false, false, false, false, false, false, false, false] rfl rfl (by kernel_rfl) (fun _ _ _ h => h) (Or.inl ⟨by rfl, by intro w hSw; (try dsimp only at hSw); go_simp⟩) hS rfl ?_
      try simp only [Act.put, List.setIfInBounds_toArray, List.set_cons_zero, List.set_cons_succ]
      refine one_ (i := 6) (N := some 44) #[true, true, true, true, true, true, true, true, true, true, true, true, true, false, false, false, false, false, false, false, false, false, false, false, false] rfl rfl (by kernel_rfl) (by decide) ?_
      intro K hK
      go_simp
      go_at_call 11; refine (putAny _ g s _ _ _ _ HQ.out x HX.out.2 none 0 0 ⟨[], 0, (i : Int)⟩ (ReadsInt.nil _ _) (fun _ => ⟨rfl, rfl⟩) (by omega) code f2 HP1.out.1).mono ?_; rintro e w_ ⟨rfl, hQ, hF⟩; have HR2 := Aside0.mk (HR.out.fr HQ.out hF); have HX92 := Aside0.mk (box_fr HX9.out HQ.out hF); have HB2 := Aside0.mk (hF.below HB.out HL.out.1 HL.out.2 HB.out.size); clear HQ HR HB HX9; have HQ := Aside0.mk hQ; have HR := HR2; have HB := HB2; have HX9 := HX92; clear HR2 HB2 HX92 hQ hF
      try go_wp2_with fail
      refine hK.out _ _ ⟨HX1.out _ HB.out, (cells3 HX9.out).1, (cells3 HX9.out).2.1, (cells3 HX9.out).2.2.1⟩ (fun hS => ?_)
      clear hK K
      try simp only [Act.put, List.setIfInBounds_toArray, List.set_cons_zero, List.set_cons_succ]
      refine one_ (i := 13) (N := some 51) #[true, true, true, true, true, true, true, true, true, true, true, true, true, true, false, false, false, false, false, false, false, false, false, false, false] rfl rfl (by kernel_rfl) (by decide) ?_
      intro K hK
      go_simp
      go_at_call 12; refine (rPutAny _ h (m + 1) 1 (m + 1) ns xs HR.out (by omega) (by omega) x HX.out.2 (by have := HLE.out.1; omega) HLE.out.2.1 none 0 0 ⟨[], 0, (i : Int)⟩ (ReadsInt.nil _ _) (by omega) code ns2 xs2 HP1.out.2.1).mono ?_; rintro e w_ ⟨rfl, hR, hF⟩; have HQ2 := Aside0.mk (IsQ.frH HR.out HQ.out hF); have HX92 := Aside0.mk ((hF.block _ (hlt HX9.out) HNE.out HNE.out).trans HX9.out); have HB2 := Aside0.mk (hF.below HB.out HLh.out HLh.out HB.out.size); obtain ⟨A5, c5, k3, hc5, hr5⟩ := hR.down; have HRd := Aside0.mk (And.intro hc5 hr5); clear HQ HR HB HX9 hc5 hr5; have HR := Aside0.mk hR; have HQ := HQ2; have HB := HB2; have HX9 := HX92; clear HQ2 HB2 HX92 hR hF
      try go_wp2_with fail
      refine hK.out _ _ ⟨HX1.out _ HB.out, (cells3 HX9.out).1, (cells3 HX9.out).2.1, (cells3 HX9.out).2.2.1⟩ (fun hS => ?_)
      clear hK K
      try simp only [Act.put, List.setIfInBounds_toArray, List.set_cons_zero, List.set_cons_succ]
      refine Go.Proofs.YtccgcljkgjboaaaW.PrintLast.take_ (i := 14) (N := some 52) (v := (.bool false)) #[true, true, true, true, true, true, true, true, true, true, true, true, true, true, true, false, false, false, false, false, false, false, false, false, false] rfl rfl (by kernel_rfl) (fun _ _ _ h => h) (Or.inl ⟨by rfl, by intro w hSw; (try dsimp only at hSw); go_simp⟩) hS rfl ?_
      try simp only [Act.put, List.setIfInBounds_toArray, List.set_cons_zero, List.set_cons_succ]
      refine Go.Proofs.YtccgcljkgjboaaaW.PrintLast.take_ (i := 15) (N := some 53) (v := (.bool false)) #[true, true, true, true, true, true, true, true, true, true, true, true, true, true, true, true, false, false, false, false, false, false, false, false, false] rfl rfl (by kernel_rfl) (fun _ _ _ h => h) (Or.inl ⟨by rfl, by intro w hSw; (try dsimp only at hSw); go_simp⟩) hS rfl ?_
      try simp only [Act.put, List.setIfInBounds_toArray, List.set_cons_zero, List.set_cons_succ]
      refine Go.Proofs.YtccgcljkgjboaaaW.PrintLast.take_ (i := 16) (N := some 54) (v := P g) #[true, true, true, true, true, true, true, true, true, true, true, true, true, true, true, true, true, false, false, false, false, false, false, false, false] rfl rfl (by kernel_rfl) (fun _ _ _ h => h) (Or.inl ⟨by rfl, by intro w hSw; (try dsimp only at hSw); go_simp⟩) hS rfl ?_
      try simp only [Act.put, List.setIfInBounds_toArray, List.set_cons_zero, List.set_cons_succ]
      refine Go.Proofs.YtccgcljkgjboaaaW.PrintLast.take_ (i := 18) (N := some 56) (v := P h) #[true, true, true, true, true, true, true, true, true, true, true, true, true, true, true, true, true, false, true, false, false, false, false, false, false] rfl rfl (by kernel_rfl) (fun _ _ _ h => h) (Or.inl ⟨by rfl, by intro w hSw; (try dsimp only at hSw); go_simp⟩) hS rfl ?_
      try simp only [Act.put, List.setIfInBounds_toArray, List.set_cons_zero, List.set_cons_succ]
      refine Go.Proofs.YtccgcljkgjboaaaW.PrintLast.take_ (i := 19) (N := some 57) (v := P h) #[true, true, true, true, true, true, true, true, true, true, true, true, true, true, true, true, true, false, true, true, false, false, false, false, false] rfl rfl (by kernel_rfl) (fun _ _ _ h => h) (Or.inl ⟨by rfl, by intro w hSw; (try dsimp only at hSw); go_simp⟩) hS rfl ?_
      try simp only [Act.put, List.setIfInBounds_toArray, List.set_cons_zero, List.set_cons_succ]
      refine Go.Proofs.YtccgcljkgjboaaaW.PrintLast.take_ (i := 20) (N := some 58) (v := (.pointer (some ⟨h, 3, none⟩))) #[true, true, true, true, true, true, true, true, true, true, true, true, true, true, true, true, true, false, true, true, true, false, false, false, false] rfl rfl (by kernel_rfl) (fun _ _ _ h => h) (Or.inl ⟨by rfl, by intro w hSw; (try dsimp only at hSw); go_simp⟩) hS rfl ?_
      try simp only [Act.put, List.setIfInBounds_toArray, List.set_cons_zero, List.set_cons_succ]
      refine two_ (i := 17) (j := 21) (Ni := some 55) (Nj := some 59) #[true, true, true, true, true, true, true, true, true, true, true, true, true, true, true, true, true, true, true, true, true, false, false, false, false] #[true, true, true, true, true, true, true, true, true, true, true, true, true, true, true, true, true, false, true, true, true, true, false, false, false] rfl rfl rfl rfl (by kernel_rfl) (by decide) (by decide) ?_ ?_
      · intro K hK
        go_simp
        go_at_call 14; (with_reducible refine (held _ g s _ _ _ _ HQ.out).mono ?_); rintro e w_ ⟨v14, rfl, ho, hb⟩; rw [← HP1.out.2.2.eqn] at ho; obtain ⟨A14, c14, e14⟩ := Kd.R_slice ho; subst e14; have k4 := (World.cell?_of_block (a := ⟨h, 3, none⟩) (hb.block h HR.out.lt)).trans k3; have HRd2 := Aside0.mk (And.intro HRd.out.1 (HRd.out.2.below hb)); have HO14 := Aside0.mk (Kd.R_reads' ho).2; have HQ2 := Aside0.mk (HQ.out.below hb); have HR2 := Aside0.mk (HR.out.below hb); have HX92 := Aside0.mk ((hb.block _ (hlt HX9.out)).trans HX9.out); have HB2 := Aside0.mk (below_step HB.out hb); clear HQ HR HB HX9; have HQ := HQ2; have HR := HR2; have HB := HB2; have HX9 := HX92; clear HQ2 HR2 HB2 HX92; clear k3 HRd ho hb; have k3 := k4; have HRd := HRd2; clear k4 HRd2
        try go_wp2_with fail
        refine hK.out _ _ ⟨HX1.out _ HB.out, (cells3 HX9.out).1, (cells3 HX9.out).2.1, (cells3 HX9.out).2.2.1⟩ (fun hS => ?_)
        clear hK K
        try simp only [Act.put, List.setIfInBounds_toArray, List.set_cons_zero, List.set_cons_succ]
        refine one_ (i := 21) (N := some 59) #[true, true, true, true, true, true, true, true, true, true, true, true, true, true, true, true, true, true, true, true, true, true, false, false, false] rfl rfl (by kernel_rfl) (by decide) ?_
        intro K hK
        go_simp
        refine hK.out _ _ ⟨HX1.out _ HB.out, (cells3 HX9.out).1, (cells3 HX9.out).2.1, (cells3 HX9.out).2.2.1⟩ (fun hS => ?_)
        clear hK K
        try simp only [Act.put, List.setIfInBounds_toArray, List.set_cons_zero, List.set_cons_succ]
        refine one_ (i := 22) (N := some 60) #[true, true, true, true, true, true, true, true, true, true, true, true, true, true, true, true, true, true, true, true, true, true, true, false, false] rfl rfl (by kernel_rfl) (by decide) ?_
        intro K hK
        go_simp
        go_at_call 13; (with_reducible refine (intsN _ A14 ns2.length c14 A5 ns2.length c5 ns2 HO14.out.2 rfl HO14.out.1 HRd.out.2.C rfl HRd.out.1 (by have := HLE.out.2.2; omega)).mono ?_); rintro e w_ ⟨rfl, hd⟩; have HQ2 := Aside0.mk (HQ.out.below (below0 hd)); have HR2 := Aside0.mk (HR.out.below (below0 hd)); have HX92 := Aside0.mk (((below0 hd).block _ (hlt HX9.out)).trans HX9.out); have HB2 := Aside0.mk (below_step HB.out (below0 hd)); clear HQ HR HB HX9; have HQ := HQ2; have HR := HR2; have HB := HB2; have HX9 := HX92; clear HQ2 HR2 HB2 HX92; clear hd
        try go_wp2_with fail
        refine hK.out _ _ ⟨HX1.out _ HB.out, (cells3 HX9.out).1, (cells3 HX9.out).2.1, (cells3 HX9.out).2.2.1⟩ (fun hS => ?_)
        clear hK K
        try simp only [Act.put, List.setIfInBounds_toArray, List.set_cons_zero, List.set_cons_succ]
        refine Go.Proofs.YtccgcljkgjboaaaW.PrintLast.take_ (i := 23) (N := some 61) (v := (.bool false)) #[true, true, true, true, true, true, true, true, true, true, true, true, true, true, true, true, true, true, true, true, true, true, true, true, false] rfl rfl (by kernel_rfl) (fun _ _ _ h => h) (Or.inl ⟨by rfl, by intro w hSw; (try dsimp only at hSw); go_simp⟩) hS rfl ?_
        try simp only [Act.put, List.setIfInBounds_toArray, List.set_cons_zero, List.set_cons_succ]
        refine Go.Proofs.YtccgcljkgjboaaaW.PrintLast.take_ (i := 24) (N := some 62) (v := (.bool false)) #[true, true, true, true, true, true, true, true, true, true, true, true, true, true, true, true, true, true, true, true, true, true, true, true, true] rfl rfl (by kernel_rfl) (fun _ _ _ h => h) (Or.inl ⟨by rfl, by intro w hSw; (try dsimp only at hSw); go_simp⟩) hS rfl ?_
        try simp only [Act.put, List.setIfInBounds_toArray, List.set_cons_zero, List.set_cons_succ]
        refine done_ (by kernel_rfl) ?_
        go_wp2
        go_roundg j1
        case measure => omega
        case rel => exact ⟨i + 1, _, _, _, by omega, by first | rfl | (congr 1; unfold wrap64; omega), ⟨HP1.out.2.2⟩, HQ, HR, HB⟩
      · intro K hK
        go_simp
        refine hK.out _ _ ⟨HX1.out _ HB.out, (cells3 HX9.out).1, (cells3 HX9.out).2.1, (cells3 HX9.out).2.2.1⟩ (fun hS => ?_)
        clear hK K
        try simp only [Act.put, List.setIfInBounds_toArray, List.set_cons_zero, List.set_cons_succ]
        refine one_ (i := 17) (N := some 55) #[true, true, true, true, true, true, true, true, true, true, true, true, true, true, true, true, true, true, true, true, true, true, false, false, false] rfl rfl (by kernel_rfl) (by decide) ?_
        intro K hK
        go_simp
        go_at_call 14; (with_reducible refine (held _ g s _ _ _ _ HQ.out).mono ?_); rintro e w_ ⟨v14, rfl, ho, hb⟩; rw [← HP1.out.2.2.eqn] at ho; obtain ⟨A14, c14, e14⟩ := Kd.R_slice ho; subst e14; have k4 := (World.cell?_of_block (a := ⟨h, 3, none⟩) (hb.block h HR.out.lt)).trans k3; have HRd2 := Aside0.mk (And.intro HRd.out.1 (HRd.out.2.below hb)); have HO14 := Aside0.mk (Kd.R_reads' ho).2; have HQ2 := Aside0.mk (HQ.out.below hb); have HR2 := Aside0.mk (HR.out.below hb); have HX92 := Aside0.mk ((hb.block _ (hlt HX9.out)).trans HX9.out); have HB2 := Aside0.mk (below_step HB.out hb); clear HQ HR HB HX9; have HQ := HQ2; have HR := HR2; have HB := HB2; have HX9 := HX92; clear HQ2 HR2 HB2 HX92; clear k3 HRd ho hb; have k3 := k4; have HRd := HRd2; clear k4 HRd2
        try go_wp2_with fail
        refine hK.out _ _ ⟨HX1.out _ HB.out, (cells3 HX9.out).1, (cells3 HX9.out).2.1, (cells3 HX9.out).2.2.1⟩ (fun hS => ?_)
        clear hK K
        try simp only [Act.put, List.setIfInBounds_toArray, List.set_cons_zero, List.set_cons_succ]
        refine one_ (i := 22) (N := some 60) #[true, true, true, true, true, true, true, true, true, true, true, true, true, true, true, true, true, true, true, true, true, true, true, false, false] rfl rfl (by kernel_rfl) (by decide) ?_
        intro K hK
        go_simp
        go_at_call 13; (with_reducible refine (intsN _ A14 ns2.length c14 A5 ns2.length c5 ns2 HO14.out.2 rfl HO14.out.1 HRd.out.2.C rfl HRd.out.1 (by have := HLE.out.2.2; omega)).mono ?_); rintro e w_ ⟨rfl, hd⟩; have HQ2 := Aside0.mk (HQ.out.below (below0 hd)); have HR2 := Aside0.mk (HR.out.below (below0 hd)); have HX92 := Aside0.mk (((below0 hd).block _ (hlt HX9.out)).trans HX9.out); have HB2 := Aside0.mk (below_step HB.out (below0 hd)); clear HQ HR HB HX9; have HQ := HQ2; have HR := HR2; have HB := HB2; have HX9 := HX92; clear HQ2 HR2 HB2 HX92; clear hd
        try go_wp2_with fail
        refine hK.out _ _ ⟨HX1.out _ HB.out, (cells3 HX9.out).1, (cells3 HX9.out).2.1, (cells3 HX9.out).2.2.1⟩ (fun hS => ?_)
        clear hK K
        try simp only [Act.put, List.setIfInBounds_toArray, List.set_cons_zero, List.set_cons_succ]
        refine Go.Proofs.YtccgcljkgjboaaaW.PrintLast.take_ (i := 23) (N := some 61) (v := (.bool false)) #[true, true, true, true, true, true, true, true, true, true, true, true, true, true, true, true, true, true, true, true, true, true, true, true, false] rfl rfl (by kernel_rfl) (fun _ _ _ h => h) (Or.inl ⟨by rfl, by intro w hSw; (try dsimp only at hSw); go_simp⟩) hS rfl ?_
        try simp only [Act.put, List.setIfInBounds_toArray, List.set_cons_zero, List.set_cons_succ]
        refine Go.Proofs.YtccgcljkgjboaaaW.PrintLast.take_ (i := 24) (N := some 62) (v := (.bool false)) #[true, true, true, true, true, true, true, true, true, true, true, true, true, true, true, true, true, true, true, true, true, true, true, true, true] rfl rfl (by kernel_rfl) (fun _ _ _ h => h) (Or.inl ⟨by rfl, by intro w hSw; (try dsimp only at hSw); go_simp⟩) hS rfl ?_
        try simp only [Act.put, List.setIfInBounds_toArray, List.set_cons_zero, List.set_cons_succ]
        refine done_ (by kernel_rfl) ?_
        go_wp2
        go_roundg j1
        case measure => omega
        case rel => exact ⟨i + 1, _, _, _, by omega, by first | rfl | (congr 1; unfold wrap64; omega), ⟨HP1.out.2.2⟩, HQ, HR, HB⟩
    · have c0 : decide ((i : Int) < (l1.length : Int)) = false := decide_eq_false (by omega)
      go_wp2_with (first | (go_at_call 9; (with_reducible refine (awake _).mono ?_); rintro e w_ ⟨rfl, hb⟩; have HB2 := Aside0.mk (below_step HB.out hb); clear HB; have HB := HB2; clear HB2 hb))
      go_ret
      exact ⟨rfl, HB.out⟩
end Go.Proofs.Ytccgcljkgjboaaa.Rg
