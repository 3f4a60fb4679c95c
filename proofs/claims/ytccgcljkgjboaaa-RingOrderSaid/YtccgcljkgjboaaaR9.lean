import Derived.Test.YtccgcljkgjboaaaR8
import Derived.Test.YtccgcljkgjboaaaR5
import Derived.Deep.LoopGhost
import Derived.Deep.CutBlock
import Derived.Deep.DeepCutAuto
/- RingOrder, by hand. -/
namespace Go.Proofs.Ytccgcljkgjboaaa.Rg
open Go.RowKit Go.Proofs.YtccgcljkgjboaaaW.PrintWords Go.Proofs.YtccgcljkgjboaaaW.PrintLast Go.Proofs.YtccgcljkgjboaaaW.PrintMore Go.Proofs.Ytccgcljkgjboaaa.PRingSteps
set_option linter.unusedVariables false
set_option linter.unusedSimpArgs false
set_option maxRecDepth 100000
set_option maxHeartbeats 4000000
theorem rd_at (l : List Int) (k : Nat) (h : k < l.length) : rd l (k : Int) = l[k] := by
  unfold rd
  rw [Int.toNat_natCast, List.getD_eq_getElem?_getD, List.getElem?_eq_getElem h]
  rfl
theorem take_mem (l : List Int) (N : Int) (k : Nat) (h : k < l.length) : decide (N ∈ l.take (k + 1)) = (decide (N ∈ l.take k) || (rd l (k : Int) == N)) := by
  rw [rd_at l k h, List.take_add_one, List.getElem?_eq_getElem h]
  simp only [Option.toList_some, List.mem_append, List.mem_singleton, Bool.decide_or]
  rw [show (l[k] == N) = decide (N = l[k]) from by rw [Bool.eq_iff_iff]; simp only [beq_iff_eq, decide_eq_true_eq]; exact eq_comm]
theorem held_at (f : Nat → Option Res) (next cap : Nat) (k : Nat) (h : k < (heldOf f next cap cap).length) : (next : Int) ≤ rd (heldOf f next cap cap) k ∧ rd (heldOf f next cap cap) k < (next : Int) + (cap : Int) := by
  rw [rd_at _ k h]
  exact heldOf_bd f next cap cap _ (List.getElem_mem h)
theorem held_lt (f : Nat → Option Res) (next cap : Nat) (k : Nat) (h : k + 1 < (heldOf f next cap cap).length) : rd (heldOf f next cap cap) k < rd (heldOf f next cap cap) ((k + 1 : Nat) : Int) := by
  rw [rd_at _ k (by omega), rd_at _ (k + 1) h]
  exact List.pairwise_iff_getElem.1 (heldOf_sorted f next cap cap) k (k + 1) (by omega) h (by omega)
theorem RdB.moveAt {w w' : World} {A : Option Addr} {l : List Int} (h : RdB w A l) (hb : ∀ ad cur, A = some ad → w.heap[ad.block]? = some (.cells cur 5 (0, 0)) → w'.heap[ad.block]? = w.heap[ad.block]?) : RdB w' A l := by
  obtain ⟨h1, h2⟩ := h
  refine ⟨⟨h1.1, h1.2.1, fun hl => ?_⟩, fun hl => ?_⟩
  · obtain ⟨ad, e, hc⟩ := h1.2.2 hl
    obtain ⟨ad', cur, e', hcur⟩ := h2 hl
    obtain rfl : ad' = ad := Option.some.inj (e'.symm.trans e)
    refine ⟨ad', e, fun j hj => ?_⟩
    have e2 : (ad'.add j).block = ad'.block := by unfold Addr.add; split <;> rfl
    rw [World.cell?_of_block (w := w) (by rw [e2]; exact hb _ _ e hcur)]
    exact hc j hj
  · obtain ⟨ad, cur, e, hc⟩ := h2 hl
    exact ⟨ad, cur, e, (hb _ _ e hc).trans hc⟩
theorem ringOrder (cap0 : Int) (A1 : Option Addr) (c1 : Nat) (l1 : List Int) (w : World) (hr1 : Kd.C (Kd.int .i64) w A1 l1.length l1) (hc1 : l1.length ≤ c1) (hm1 : l1.length ≤ 17592186044416) :
    Calls Try.prog 4 #[.int .i64 cap0, .slice A1 l1.length c1] w fun e w' => e = .returned (.bool true) ∧ Below w.heap.size w w' := by
  have HB := Aside0.mk (Below.refl w.heap.size w)
  obtain ⟨m, hm, hmod⟩ := modN cap0 12 (by omega) (by omega)
  have HM := Aside0.mk (show ndjqkeep_Mod.f cap0 12 = some (m : Int) from hmod)
  have hw1 : IntKind.i64.wrap ((m : Int) + 1) = (m : Int) + 1 := by rw [i64_w]; unfold Go.RowKit.wrap64; omega
  have HN := Aside0.mk (fun w => new_ w ((m : Int) + 1) (m + 1) rfl (by omega) (by omega))
  have HR1 := Aside0.mk hr1
  clear hmod hr1
  go_enter Try.func4, Try.ntmps4
  by_cases hbig : 100 < l1.length
  · have hb0 : decide ((l1.length : Int) > 100) = true := decide_eq_true (by omega)
    go_wp2_with (first | (go_at_call 7; (with_reducible refine (ndjqkeep_Mod.calls _ _ _ _ HM.out).mono ?_); rintro e w_ ⟨rfl, hd⟩; have HB2 := Aside0.mk (below_D HB.out hd); clear HB; have HB := HB2; clear HB2 hd) | (go_at_call 8; (with_reducible refine (HN.out _).mono ?_); rintro e w1 ⟨g, s, rfl, hQ, hb, hg, hs⟩; have HB2 := Aside0.mk (below_step HB.out hb); clear HB hQ hb hg hs; have HB := HB2; clear HB2) | (go_at_call 9; (with_reducible refine (awake _).mono ?_); rintro e w_ ⟨rfl, hb⟩; have HB2 := Aside0.mk (below_step HB.out hb); clear HB; have HB := HB2; clear HB2 hb))
    go_ret
    exact ⟨rfl, HB.out⟩
  have hb0 : decide ((l1.length : Int) > 100) = false := decide_eq_false (by omega)
  go_wp2_with (first | (go_at_call 7; (with_reducible refine (ndjqkeep_Mod.calls _ _ _ _ HM.out).mono ?_); rintro e w_ ⟨rfl, hd⟩; have HB2 := Aside0.mk (below_D HB.out hd); clear HB; have HB := HB2; clear HB2 hd) | (go_at_call 8; (with_reducible refine (HN.out _).mono ?_); rintro e w1 ⟨g, s, rfl, hQ, hb, hg, hs⟩; have HQ := Aside0.mk hQ; have HL := Aside0.mk (And.intro (Nat.le_trans HB.out.size hg) (Nat.le_trans HB.out.size hs)); have HB2 := Aside0.mk (below_step HB.out hb); clear HB HN hQ hb hg hs; have HB := HB2; clear HB2))
  go_loopg [7, 8] l1.length (fun kq v7 v8 w' => ∃ (i next cr : Nat) (f : Nat → Option Res), kq + i = l1.length ∧ v7 = .int .i64 (next : Int) ∧ v8 = .int .i64 (i : Int) ∧ Aside0 (IsQ w' g s (m + 1) next cr f ∧ Good f next (m + 1) ∧ f (next % (m + 1)) = none ∧ cnt f (m + 1) + next ≤ i + 1) ∧ Aside0 (Below w.heap.size w w'))
  case atStart => exact ⟨0, 1, _, _, by omega, rfl, rfl, ⟨⟨HQ.out, (fun m x _ _ h => by cases h), rfl, by rw [cnt_zero]; omega⟩⟩, HB⟩
  case round =>
    clear HQ HB
    obtain ⟨i, next, cr, f, hi, rfl, rfl, ⟨hQ, hG, hf0, hcnt⟩, HB⟩ := hrel
    have HQ := Aside0.mk hQ
    have HI := Aside0.mk (And.intro hG (And.intro hf0 hcnt))
    clear hQ hG hf0 hcnt
    by_cases c : i < l1.length
    · have c0 : decide ((i : Int) < (l1.length : Int)) = true := decide_eq_true (by omega)
      obtain ⟨j1, rfl⟩ : ∃ j1, gk = j1 + 1 := ⟨gk - 1, by omega⟩
      obtain ⟨ad, e1, hx⟩ := Kd.at_int (Kd.C_below HR1.out HB.out) (i : Int) (by omega) (by omega)
      cases e1
      have p1 : (0 ≤ (i : Int)) = True := eq_true (by omega)
      have q1 : ((i : Int) < (l1.length : Int)) = True := eq_true (by omega)
      obtain ⟨x, hxx⟩ : ∃ x, rd l1 (i : Int) = x := ⟨_, rfl⟩
      rw [hxx] at hx
      replace hx : wr.cell? (ad.add i) = some (.int .i64 x) := by simpa using hx
      obtain ⟨r, hr, hmod⟩ := modN x (m + 1) (by omega) (by omega)
      have HM := Aside0.mk (show ndjqkeep_Mod.f x ((m : Int) + 1) = some (r : Int) from hmod)
      have HX := Aside0.mk c
      have hnx : next ≤ 101 := by have := HI.out.2.2; omega
      obtain ⟨N, hN⟩ : ∃ N : Int, (next : Int) + (r : Int) = N := ⟨_, rfl⟩
      have HNn := Aside0.mk (show N = ((next + r : Nat) : Int) by omega)
      clear c hxx hmod
      go_upto_region 13 with (first | (go_at_call 7; (with_reducible refine (ndjqkeep_Mod.calls _ _ _ _ HM.out).mono ?_); rintro e w_ ⟨rfl, hd⟩; have HB2 := Aside0.mk (below_D HB.out hd); have HQ2 := Aside0.mk (HQ.out.below (below0 hd)); clear HB HQ; have HB := HB2; have HQ := HQ2; clear HB2 HQ2 hd) | (go_at_call 14; (with_reducible refine (held _ g s _ _ _ _ HQ.out).mono ?_); rintro e w_ ⟨v10, rfl, ho, hb⟩; obtain ⟨A10, c10, e10⟩ := Kd.R_slice ho; subst e10; have HO := Aside0.mk ((Kd.R_reads' ho).2.2); have HB2 := Aside0.mk (below_step HB.out hb); have HQ2 := Aside0.mk (HQ.out.below hb); clear HB HQ; have HB := HB2; have HQ := HQ2; clear HB2 HQ2 ho hb))
      obtain ⟨L, hL⟩ : ∃ L, heldOf f next (m + 1) (m + 1) = L := ⟨_, rfl⟩
      have HA := Aside0.mk (fun k => held_at f next (m + 1) k)
      have HLt := Aside0.mk (fun k => held_lt f next (m + 1) k)
      have HMem := Aside0.mk (heldOf_mem f next (m + 1) r (m + 1) hr)
      have HLe := Aside0.mk (heldOf_le f next (m + 1) (m + 1))
      rw [hL] at HA HLt HMem HO HLe
      rw [hL]
      clear hL
      have hwn : IntKind.i64.wrap ((next : Int) + ((m : Int) + 1)) = (next : Int) + ((m : Int) + 1) := by rw [i64_w]; unfold Go.RowKit.wrap64; omega
      go_upto_block 2 with fail
      go_cut [11] (fun v11 wc => v11 = .bool (decide (N ∈ L)) ∧ Aside0 (Drawn0 w_ wc))
      case first =>
        go_wp2_with fail
        go_loopg [11, 12] L.length (fun kq v11 v12 w' => ∃ (k : Nat) (K : Int), Aside0 (kq + k = L.length ∧ K = (k : Int)) ∧ v12 = .int .i64 K ∧ v11 = .bool (decide (N ∈ L.take k)) ∧ Aside0 (Drawn0 w_ w'))
        case atStart => exact ⟨0, 0, ⟨by omega, rfl⟩, rfl, rfl, ⟨Drawn0.refl _⟩⟩
        case round =>
          obtain ⟨k, K, ⟨hk, hK⟩, rfl, rfl, HD⟩ := hrel
          by_cases c : k < L.length
          · have c0 : decide (K < (L.length : Int)) = true := decide_eq_true (by omega)
            obtain ⟨j2, rfl⟩ : ∃ j2, gk = j2 + 1 := ⟨gk - 1, by omega⟩
            obtain ⟨ad2, e2, hy⟩ := Kd.at_int (Kd.C_below HO.out (below0 HD.out)) K (by omega) (by omega)
            obtain ⟨y, hyy⟩ : ∃ y, rd L K = y := ⟨_, rfl⟩
            have hbd := HA.out k c
            have htm := take_mem L N k c
            rw [← hK, hyy] at hbd htm
            rw [hyy] at hy
            obtain ⟨tb, htb⟩ : ∃ b, decide (N ∈ L.take k) = b := ⟨_, rfl⟩
            obtain ⟨b2, hb2⟩ : ∃ b, (y == N) = b := ⟨_, rfl⟩
            rw [htb, hb2] at htm
            rw [htb]
            have HTM := Aside0.mk htm
            have hLe := HLe.out
            have HKK := Aside0.mk (And.intro hk (And.intro hK (And.intro c hLe)))
            have d1 : decide (y < (next : Int)) = false := decide_eq_false (by omega)
            have d2 : decide (y ≥ (next : Int) + ((m : Int) + 1)) = false := decide_eq_false (by omega)
            have p3 : (0 ≤ K) = True := eq_true (by omega)
            have q3 : (K < (L.length : Int)) = True := eq_true (by omega)
            have hwk : IntKind.i64.wrap (K - 1) = K - 1 := by rw [i64_w]; unfold Go.RowKit.wrap64; omega
            cases e2
            by_cases k0 : k = 0
            · have d3 : decide (K > 0) = false := decide_eq_false (by omega)
              clear htm hbd htb hyy k0 c hk hK hLe
              cases tb with
              | true =>
                go_wp2
                repeat (go_quiet (fail); try go_wp2)
                go_roundg j2
                case measure => have := HKK.out; omega
                case rel => exact ⟨k + 1, K + 1, ⟨by have := HKK.out; omega, by have := HKK.out; omega⟩, by first | rfl | (congr 1; have := HKK.out; unfold wrap64; omega), by rw [HTM.out]; rfl, ⟨by first | exact HD.out | exact drawn_trans HD.out ⟨_, rfl⟩⟩⟩
              | false =>
                go_wp2
                repeat (go_quiet (fail); try go_wp2)
                go_roundg j2
                case measure => have := HKK.out; omega
                case rel => exact ⟨k + 1, K + 1, ⟨by have := HKK.out; omega, by have := HKK.out; omega⟩, by first | rfl | (congr 1; have := HKK.out; unfold wrap64; omega), by rw [HTM.out]; rfl, ⟨by first | exact HD.out | exact drawn_trans HD.out ⟨_, rfl⟩⟩⟩
            · have d3 : decide (K > 0) = true := decide_eq_true (by omega)
              obtain ⟨ad3, e3, hz⟩ := Kd.at_int (Kd.C_below HO.out (below0 HD.out)) (K - 1) (by omega) (by omega)
              cases e3
              obtain ⟨z, hzz⟩ : ∃ z, rd L (K - 1) = z := ⟨_, rfl⟩
              have hlt2 := HLt.out (k - 1) (by omega)
              rw [show ((k - 1 : Nat) : Int) = K - 1 by omega, show k - 1 + 1 = k by omega, ← hK, hzz, hyy] at hlt2
              rw [hzz] at hz
              obtain ⟨K1, hK1⟩ : ∃ K1, K - 1 = K1 := ⟨_, rfl⟩
              have hwk1 : IntKind.i64.wrap (K - 1) = K1 := by rw [hwk, hK1]
              clear hwk
              rw [hK1] at hz
              have d4 : decide (z ≥ y) = false := decide_eq_false (by omega)
              have p4 : (0 ≤ K1) = True := eq_true (by omega)
              have q4 : (K1 < (L.length : Int)) = True := eq_true (by omega)
              clear htm hbd htb hyy k0 c hk hK hLe hlt2 hzz hK1
              cases tb with
              | true =>
                go_wp2
                repeat (go_quiet (fail); try go_wp2)
                go_roundg j2
                case measure => have := HKK.out; omega
                case rel => exact ⟨k + 1, K + 1, ⟨by have := HKK.out; omega, by have := HKK.out; omega⟩, by first | rfl | (congr 1; have := HKK.out; unfold wrap64; omega), by rw [HTM.out]; rfl, ⟨by first | exact HD.out | exact drawn_trans HD.out ⟨_, rfl⟩⟩⟩
              | false =>
                go_wp2
                repeat (go_quiet (fail); try go_wp2)
                go_roundg j2
                case measure => have := HKK.out; omega
                case rel => exact ⟨k + 1, K + 1, ⟨by have := HKK.out; omega, by have := HKK.out; omega⟩, by first | rfl | (congr 1; have := HKK.out; unfold wrap64; omega), by rw [HTM.out]; rfl, ⟨by first | exact HD.out | exact drawn_trans HD.out ⟨_, rfl⟩⟩⟩
          · have c0 : decide (K < (L.length : Int)) = false := decide_eq_false (by omega)
            obtain rfl : k = L.length := by omega
            rw [List.take_length]
            go_wp2
            go_meet
            exact ⟨rfl, HD⟩
      case rest =>
        obtain ⟨rfl, HD⟩ := hcut
        have HB2 := Aside0.mk (below_D HB.out HD.out)
        have HQ2 := Aside0.mk (HQ.out.below (below0 HD.out))
        clear HB HQ HD HO HA HLt HLe
        have HB := HB2
        have HQ := HQ2
        clear HB2 HQ2
        cases hfq : f ((next + r) % (m + 1)) with
        | none =>
          have hN0 : decide (N ∈ L) = false := decide_eq_false (by rw [HNn.out, HMem.out, hfq]; simp)
          rw [hN0]
          have HFq := Aside0.mk hfq
          clear hfq hN0
          have hA := (Below.refl wc.heap.size wc).alloc (Nat.le_refl _) (.cells #[.int .u8 N] 5)
          have HQa := Aside0.mk (HQ.out.below hA)
          have HBa := Aside0.mk (below_step HB.out hA)
          have HP := Aside0.mk (putRaw _ g s (m + 1) next cr f HQa.out N (next + r) HNn.out (by omega) (by omega) HFq.out ⟨wc.heap.size, 0, none⟩ 1 1 ⟨[N], 0, N⟩ (reads1 wc N (0, 0)) (by omega))
          clear hA
          go_upto_region 26 with (go_at_call 11; refine (HP.out).mono ?_; rintro e w5 ⟨vs, b, A', c', rfl, hv, hg, hs, hb, hbx, hc, hrd, hbd, hF⟩; have HV := Aside0.mk (And.intro hv (And.intro hg (And.intro hs (And.intro hb (And.intro hbx (And.intro hc (And.intro hrd (And.intro hbd hF)))))))); clear HP hv hg hs hb hbx hc hrd hbd hF)
          obtain ⟨hv, hg, hs, hb, hbx, hc, hrd, hbd, hF⟩ := HV.out
          have hsz : (wc.alloc (.cells #[.int .u8 N] 5)).heap.size = wc.heap.size + 1 := by simp
          have hb0 := heap_alloc_new wc (.cells #[.int .u8 N] 5)
          have hb5 : w5.heap[wc.heap.size]? = some (.cells #[.int .u8 N] 5 (0, 0)) := (hF.block _ (hlt hb0) (fun e => by rw [e] at hb0; exact absurd (type_ne hb0 HQa.out.ring) (by decide)) (fun e => by rw [e] at hb0; exact absurd (type_ne hb0 hv) (by decide))).trans hb0
          have HB5 := Aside0.mk hb5
          have y0 : w5.cell? ⟨wc.heap.size, 0, none⟩ = some (.int .u8 N) := by simp [World.cell?, hb5]
          have yf : w5.frozen? ⟨wc.heap.size, 0, none⟩ = false := by simp [World.frozen?, hb5]
          have HSZ := Aside0.mk hsz
          clear hv hg hs hb hbx hc hrd hbd hF hsz hb0 hb5
          go_upto_block 4 with fail
          obtain ⟨W6, hW6⟩ : ∃ W6, w5.setCell ⟨wc.heap.size, 0, none⟩ (.int .u8 120) = W6 := ⟨_, rfl⟩
          have h6 : IsQ W6 g s (m + 1) next cr (put f ((next + r) % (m + 1)) (some ⟨[N], 0, N⟩)) ∧ Below w.heap.size w W6 := by
            obtain ⟨hv, hg, hs, hb, hbx, hc, hrd, hbd, hF⟩ := HV.out
            have hsz := HSZ.out
            have g6 : w5.grownBy W6 (some wc.heap.size) := by rw [← hW6]; exact grownBy_cell _ _ _ _
            have m6 : ∀ (k : Nat) (cur : Array Value) (t : TypeId), k ≠ wc.heap.size → w5.heap[k]? = some (.cells cur t (0, 0)) → W6.heap[k]? = w5.heap[k]? := fun k cur t ht hc => g6.block k (hlt hc) (fun e => ht (Option.some.inj e))
            have hgl := HQ.out.ring
            have hg5 : w5.heap[g]? = wc.heap[g]? := hg.trans (Below.heap_alloc wc _ g (hlt hgl))
            have hv0 : wc.heap[s]? = some (.cells vs 50 (0, 0)) := by
              obtain ⟨vs0, h0, _⟩ := HQ.out.slots
              exact (Below.heap_alloc wc (.cells #[.int .u8 N] 5) s (hlt h0)).symm.trans hv
            have fr : Fr g s wc W6 := ⟨g6.os.trans hF.os, g6.tape.trans hF.tape, g6.output.trans hF.output, Nat.le_trans (Nat.le_trans (by omega) hF.size) g6.size, fun k hk h1 h2 => (g6.block k (Nat.lt_of_lt_of_le (by omega) hF.size) (fun e => by have := Option.some.inj e; omega)).trans ((hF.block k (by omega) h1 h2).trans (Below.heap_alloc wc _ k hk))⟩
            refine ⟨HQ.out.afterPut fr _ ((m6 g _ 49 (by have := hlt hgl; omega) (hg5.trans hgl)).trans hg5) vs hv0 b ⟨[N], 0, N⟩ ((m6 s _ 50 (by have := hlt hv0; omega) hs).trans hs) ⟨A', c', (m6 b _ 33 (by omega) hbx).trans hbx, hc, ?_⟩, fr.below HB.out HL.out.1 HL.out.2 HB.out.size⟩
            refine RdB.moveAt hrd (fun ad' cur e hcur => m6 _ _ 5 (by have := hbd ad' e; omega) hcur)
          have HQ6 := Aside0.mk h6.1
          have HB6 := Aside0.mk h6.2
          rw [hW6]
          clear hW6 h6 HV HB5 HQa HBa y0 yf HQ HB
          obtain ⟨F, hF⟩ : ∃ F, put f ((next + r) % (m + 1)) (some ⟨[N], 0, N⟩) = F := ⟨_, rfl⟩
          have HG6 : Aside0 (Good F next (m + 1) ∧ cnt F (m + 1) + next ≤ i + 2) := ⟨by
            have hN := HNn.out
            have h := Good.put HI.out.1 (show 0 < m + 1 by omega) (next + r) (by omega) (by omega) 0
            rw [Nat.mod_eq_of_lt (show next + r < 256 by omega), ← hN] at h
            rw [← hF]
            exact ⟨h, by rw [cnt_some f _ _ HFq.out (m + 1) (Nat.mod_lt _ (by omega))]; have := HI.out.2.2; omega⟩⟩
          rw [hF] at HQ6
          clear hF
          go_wp2_with fail
          go_loopg [7] (cnt F (m + 1)) (fun kq v7 w' => ∃ (nx c2 : Nat) (F2 : Nat → Option Res), Aside0 (cnt F2 (m + 1) = kq ∧ IsQ w' g s (m + 1) nx c2 F2 ∧ Good F2 nx (m + 1) ∧ cnt F2 (m + 1) + nx ≤ i + 2) ∧ v7 = .int .i64 (nx : Int) ∧ Aside0 (Below w.heap.size w w'))
          case atStart => exact ⟨next, cr, F, ⟨rfl, HQ6.out, HG6.out.1, HG6.out.2⟩, rfl, HB6⟩
          case round =>
            clear HQ6 HB6 HG6
            obtain ⟨nx, c2, F2, ⟨hk, hQ2, hG2, hb2⟩, rfl, HB⟩ := hrel
            have HQ := Aside0.mk hQ2
            have HG := Aside0.mk (And.intro hk (And.intro hG2 hb2))
            clear hk hQ2 hG2 hb2
            cases hfx : F2 (nx % (m + 1)) with
            | none =>
              have HFx := Aside0.mk hfx
              have HP := Aside0.mk (ready _ g s _ _ _ _ HQ.out false (by rw [hfx]; rfl))
              clear hfx
              go_wp2_with (go_at_call 15; (with_reducible refine (HP.out).mono ?_); rintro e w7 ⟨rfl, hd⟩; have HQ2 := Aside0.mk (HQ.out.below (below0 hd)); have HB2 := Aside0.mk (below_D HB.out hd); clear HP HQ HB hd; have HQ := HQ2; have HB := HB2; clear HQ2 HB2)
              have HP := Aside0.mk (next_ _ g s _ _ _ _ HQ.out)
              go_wp2_with (go_at_call 17; (with_reducible refine (HP.out).mono ?_); rintro e w8 ⟨rfl, hd⟩; have HQ2 := Aside0.mk (HQ.out.below (below0 hd)); have HB2 := Aside0.mk (below_D HB.out hd); clear HP HQ HB hd; have HQ := HQ2; have HB := HB2; clear HQ2 HB2)
              go_roundg j1
              case measure => omega
              case rel => exact ⟨i + 1, nx, c2, F2, by omega, rfl, by first | rfl | (congr 1; unfold wrap64; omega), ⟨⟨HQ.out, HG.out.2.1, HFx.out, by have := HG.out.2.2; omega⟩⟩, HB⟩
            | some y =>
              have hc2' := HQ.out.c2
              have hnx2 : nx ≤ 101 := by have := HG.out.2.2; have := HX.out; omega
              have hy := HG.out.2.1 nx y (Nat.le_refl _) (by omega) hfx
              rw [Nat.mod_eq_of_lt (show nx < 256 by omega)] at hy
              obtain ⟨yo, yst, yrc⟩ := y
              obtain ⟨hy1, hy2⟩ := hy
              simp only at hy1 hy2
              subst hy1 hy2
              have HP := Aside0.mk (ready _ g s _ _ _ _ HQ.out true (by rw [hfx]; rfl))
              go_upto_region 28 with (go_at_call 15; (with_reducible refine (HP.out).mono ?_); rintro e w7 ⟨rfl, hd⟩; have HQ2 := Aside0.mk (HQ.out.below (below0 hd)); have HB2 := Aside0.mk (below_D HB.out hd); clear HP HQ HB hd; have HQ := HQ2; have HB := HB2; clear HQ2 HB2)
              have HP := Aside0.mk (take_ _ g s _ _ _ _ HQ.out _ hfx (by omega))
              have HFx := Aside0.mk hfx
              clear hfx
              go_upto_region 29 with (go_at_call 16; refine (HP.out).mono ?_; rintro e w8 ⟨A8, c8, rfl, hc8, hr8, hQ, hF⟩; have HR8 := Aside0.mk hr8; have HB2 := Aside0.mk (hF.below HB.out HL.out.1 HL.out.2 HB.out.size); clear HP HQ HB hF hc8 hr8; have HQ := Aside0.mk hQ; have HB := HB2; clear HB2 hQ)
              obtain ⟨W9, hW9⟩ : ∃ W9, w8.alloc (.cells #[.slice A8 1 c8, .int .i64 yst, .int .i64 (nx : Int)] 33) = W9 := ⟨_, rfl⟩
              have ha : Below w8.heap.size w8 W9 := by rw [← hW9]; exact (Below.refl w8.heap.size w8).alloc (Nat.le_refl _) _
              have hx9 : W9.heap[w8.heap.size]? = some (.cells #[.slice A8 1 c8, .int .i64 yst, .int .i64 (nx : Int)] 33 (0, 0)) := by rw [← hW9]; exact heap_alloc_new w8 _
              have hr9 := HR8.out.below ha
              obtain ⟨ad9, e9, hc9⟩ := hr9.1.2.2 (by simp)
              have hbyte : W9.cell? ad9 = some (.int .u8 (nx : Int)) := by have := hc9 0 (by simp); simpa [Addr.add] using this
              cases e9
              obtain ⟨u0, u1, u2, uf⟩ := cells3 hx9
              have HQ9 := Aside0.mk (HQ.out.below ha)
              have HB9 := Aside0.mk (below_step HB.out ha)
              rw [hW9]
              clear hW9 ha hx9 hr9 hc9 HQ HB HR8
              have hX := HX.out
              have hbd := HG.out.2.2
              have hlim : decide ((nx : Int) > 2 * (l1.length : Int) + ((m : Int) + 1)) = false := decide_eq_false (by omega)
              go_wp2
              have hcn := cnt_none F2 _ _ HFx.out (m + 1) (Nat.mod_lt _ (by omega))
              go_roundg (cnt (put F2 (nx % (m + 1)) none) (m + 1))
              case measure => have := HG.out.1; omega
              case rel => exact ⟨nx + 1, _, _, ⟨rfl, HQ9.out, HG.out.2.1.take (by omega), by omega⟩, by first | rfl | (congr 1; unfold wrap64; omega), HB9⟩
        | some x0 =>
          have hN0 : decide (N ∈ L) = true := decide_eq_true (by rw [HNn.out, HMem.out, hfq]; rfl)
          rw [hN0]
          have HFq := Aside0.mk hfq
          clear hfq hN0
          go_upto_region 24 with fail
          have hA := (Below.refl wc.heap.size wc).alloc (Nat.le_refl _) (.cells #[.int .u8 N] 5)
          have HQa := Aside0.mk (HQ.out.below hA)
          have HP := Aside0.mk (putTaken _ g s (m + 1) next cr f HQa.out N (next + r) HNn.out (by omega) (by omega) (by rw [HFq.out]; rfl) (.slice (some ⟨wc.heap.size, 0, none⟩) 1 1) (.int .i64 0) (.int .i64 N))
          clear hA
          go_upto_region 26 with (go_at_call 11; refine (HP.out).mono ?_; rintro e w5 ⟨rfl, hb⟩; have HV := Aside0.mk hb; clear HP hb)
          have hb0 := heap_alloc_new wc (.cells #[.int .u8 N] 5)
          have hb5 : w5.heap[wc.heap.size]? = some (.cells #[.int .u8 N] 5 (0, 0)) := (HV.out.block _ (hlt hb0)).trans hb0
          have y0 : w5.cell? ⟨wc.heap.size, 0, none⟩ = some (.int .u8 N) := by simp [World.cell?, hb5]
          have yf : w5.frozen? ⟨wc.heap.size, 0, none⟩ = false := by simp [World.frozen?, hb5]
          clear hb0 hb5
          go_upto_block 4 with fail
          obtain ⟨W6, hW6⟩ : ∃ W6, w5.setCell ⟨wc.heap.size, 0, none⟩ (.int .u8 120) = W6 := ⟨_, rfl⟩
          have h6 : Below wc.heap.size wc W6 := by
            rw [← hW6]
            exact (((Below.refl wc.heap.size wc).alloc (Nat.le_refl _) (.cells #[.int .u8 N] 5)).trans (HV.out.mono (by simp))).setCell (p := ⟨wc.heap.size, 0, none⟩) (Nat.le_refl _) _
          have HQ6 := Aside0.mk (HQ.out.below h6)
          have HB6 := Aside0.mk (below_step HB.out h6)
          rw [hW6]
          clear hW6 h6 HV HQa y0 yf HQ HB
          obtain ⟨F, hF⟩ : ∃ F, f = F := ⟨_, rfl⟩
          have HG6 : Aside0 (Good F next (m + 1) ∧ cnt F (m + 1) + next ≤ i + 2) := ⟨by rw [← hF]; exact ⟨HI.out.1, by have := HI.out.2.2; omega⟩⟩
          rw [hF] at HQ6
          go_wp2_with fail
          go_loopg [7] (cnt F (m + 1)) (fun kq v7 w' => ∃ (nx c2 : Nat) (F2 : Nat → Option Res), Aside0 (cnt F2 (m + 1) = kq ∧ IsQ w' g s (m + 1) nx c2 F2 ∧ Good F2 nx (m + 1) ∧ cnt F2 (m + 1) + nx ≤ i + 2) ∧ v7 = .int .i64 (nx : Int) ∧ Aside0 (Below w.heap.size w w'))
          case atStart => exact ⟨next, cr, F, ⟨rfl, HQ6.out, HG6.out.1, HG6.out.2⟩, rfl, HB6⟩
          case round =>
            clear HQ6 HB6 HG6
            obtain ⟨nx, c2, F2, ⟨hk, hQ2, hG2, hb2⟩, rfl, HB⟩ := hrel
            have HQ := Aside0.mk hQ2
            have HG := Aside0.mk (And.intro hk (And.intro hG2 hb2))
            clear hk hQ2 hG2 hb2
            cases hfx : F2 (nx % (m + 1)) with
            | none =>
              have HFx := Aside0.mk hfx
              have HP := Aside0.mk (ready _ g s _ _ _ _ HQ.out false (by rw [hfx]; rfl))
              clear hfx
              go_wp2_with (go_at_call 15; (with_reducible refine (HP.out).mono ?_); rintro e w7 ⟨rfl, hd⟩; have HQ2 := Aside0.mk (HQ.out.below (below0 hd)); have HB2 := Aside0.mk (below_D HB.out hd); clear HP HQ HB hd; have HQ := HQ2; have HB := HB2; clear HQ2 HB2)
              have HP := Aside0.mk (next_ _ g s _ _ _ _ HQ.out)
              go_wp2_with (go_at_call 17; (with_reducible refine (HP.out).mono ?_); rintro e w8 ⟨rfl, hd⟩; have HQ2 := Aside0.mk (HQ.out.below (below0 hd)); have HB2 := Aside0.mk (below_D HB.out hd); clear HP HQ HB hd; have HQ := HQ2; have HB := HB2; clear HQ2 HB2)
              go_roundg j1
              case measure => omega
              case rel => exact ⟨i + 1, nx, c2, F2, by omega, rfl, by first | rfl | (congr 1; unfold wrap64; omega), ⟨⟨HQ.out, HG.out.2.1, HFx.out, by have := HG.out.2.2; omega⟩⟩, HB⟩
            | some y =>
              have hc2' := HQ.out.c2
              have hnx2 : nx ≤ 101 := by have := HG.out.2.2; have := HX.out; omega
              have hy := HG.out.2.1 nx y (Nat.le_refl _) (by omega) hfx
              rw [Nat.mod_eq_of_lt (show nx < 256 by omega)] at hy
              obtain ⟨yo, yst, yrc⟩ := y
              obtain ⟨hy1, hy2⟩ := hy
              simp only at hy1 hy2
              subst hy1 hy2
              have HP := Aside0.mk (ready _ g s _ _ _ _ HQ.out true (by rw [hfx]; rfl))
              go_upto_region 28 with (go_at_call 15; (with_reducible refine (HP.out).mono ?_); rintro e w7 ⟨rfl, hd⟩; have HQ2 := Aside0.mk (HQ.out.below (below0 hd)); have HB2 := Aside0.mk (below_D HB.out hd); clear HP HQ HB hd; have HQ := HQ2; have HB := HB2; clear HQ2 HB2)
              have HP := Aside0.mk (take_ _ g s _ _ _ _ HQ.out _ hfx (by omega))
              have HFx := Aside0.mk hfx
              clear hfx
              go_upto_region 29 with (go_at_call 16; refine (HP.out).mono ?_; rintro e w8 ⟨A8, c8, rfl, hc8, hr8, hQ, hF⟩; have HR8 := Aside0.mk hr8; have HB2 := Aside0.mk (hF.below HB.out HL.out.1 HL.out.2 HB.out.size); clear HP HQ HB hF hc8 hr8; have HQ := Aside0.mk hQ; have HB := HB2; clear HB2 hQ)
              obtain ⟨W9, hW9⟩ : ∃ W9, w8.alloc (.cells #[.slice A8 1 c8, .int .i64 yst, .int .i64 (nx : Int)] 33) = W9 := ⟨_, rfl⟩
              have ha : Below w8.heap.size w8 W9 := by rw [← hW9]; exact (Below.refl w8.heap.size w8).alloc (Nat.le_refl _) _
              have hx9 : W9.heap[w8.heap.size]? = some (.cells #[.slice A8 1 c8, .int .i64 yst, .int .i64 (nx : Int)] 33 (0, 0)) := by rw [← hW9]; exact heap_alloc_new w8 _
              have hr9 := HR8.out.below ha
              obtain ⟨ad9, e9, hc9⟩ := hr9.1.2.2 (by simp)
              have hbyte : W9.cell? ad9 = some (.int .u8 (nx : Int)) := by have := hc9 0 (by simp); simpa [Addr.add] using this
              cases e9
              obtain ⟨u0, u1, u2, uf⟩ := cells3 hx9
              have HQ9 := Aside0.mk (HQ.out.below ha)
              have HB9 := Aside0.mk (below_step HB.out ha)
              rw [hW9]
              clear hW9 ha hx9 hr9 hc9 HQ HB HR8
              have hX := HX.out
              have hbd := HG.out.2.2
              have hlim : decide ((nx : Int) > 2 * (l1.length : Int) + ((m : Int) + 1)) = false := decide_eq_false (by omega)
              go_wp2
              have hcn := cnt_none F2 _ _ HFx.out (m + 1) (Nat.mod_lt _ (by omega))
              go_roundg (cnt (put F2 (nx % (m + 1)) none) (m + 1))
              case measure => have := HG.out.1; omega
              case rel => exact ⟨nx + 1, _, _, ⟨rfl, HQ9.out, HG.out.2.1.take (by omega), by omega⟩, by first | rfl | (congr 1; unfold wrap64; omega), HB9⟩
    · have c0 : decide ((i : Int) < (l1.length : Int)) = false := decide_eq_false (by omega)
      go_wp2_with (first | (go_at_call 9; (with_reducible refine (awake _).mono ?_); rintro e w_ ⟨rfl, hb⟩; have HB2 := Aside0.mk (below_step HB.out hb); clear HB; have HB := HB2; clear HB2 hb))
      go_ret
      exact ⟨rfl, HB.out⟩
end Go.Proofs.Ytccgcljkgjboaaa.Rg
