import Derived.Test.YtccgcljkgjboaaaR16
import Derived.Test.YtccgcljkgjboaaaR15
/- RingSteps, by hand. -/
namespace Go.Proofs.Ytccgcljkgjboaaa.Rg
open Go.RowKit Go.Proofs.YtccgcljkgjboaaaW.PrintWords Go.Proofs.YtccgcljkgjboaaaW.PrintLast Go.Proofs.YtccgcljkgjboaaaW.PrintMore Go.Proofs.Ytccgcljkgjboaaa.PRingSteps
set_option linter.unusedVariables false
set_option linter.unusedSimpArgs false
set_option maxRecDepth 100000
set_option maxHeartbeats 4000000
theorem Eq2.none_ {f : Nat → Option Res} {next cap : Nat} {ns : List Int} {xs : List Res} (h : Eq2 f next cap ns xs) (hc : 0 < cap) (b : Bool) (hb : (f (next % cap)).isSome = b) : decide ((next : Int) ∈ ns) = b := by
  have h1 := heldOf_iff f next cap next (Nat.le_refl _) (by omega)
  rw [← h.eqn] at h1
  cases b with
  | true => exact decide_eq_true (h1.2 hb)
  | false => exact decide_eq_false (fun e => by rw [h1.1 e] at hb; cases hb)
theorem Eq2.take {f : Nat → Option Res} {next cap : Nat} {ns : List Int} {xs : List Res} (h : Eq2 f next cap ns xs) (hc : 0 < cap) (x : Res) (hf : f (next % cap) = some x) :
    ∃ ns' xs', ns = (next : Int) :: ns' ∧ xs = x :: xs' ∧ Eq2 (Rg.put f (next % cap) none) (next + 1) cap ns' xs' := by
  obtain ⟨h1, h2, h3⟩ := h
  have hs := heldOf_sorted f next cap cap
  have hi := heldOf_iff f next cap next (Nat.le_refl _) (by omega)
  rw [← h1] at hs hi
  have hmem : (next : Int) ∈ ns := hi.2 (by rw [hf]; rfl)
  have hbd : ∀ a ∈ ns, (next : Int) ≤ a ∧ a < (next : Int) + (cap : Int) := fun a ha => heldOf_bd f next cap cap a (by rw [← h1]; exact ha)
  cases ns with
  | nil => simp at hmem
  | cons n0 ns' =>
    obtain ⟨p1, p2⟩ := List.pairwise_cons.1 hs
    have e : n0 = (next : Int) := by
      rcases List.mem_cons.1 hmem with e | e
      · exact e.symm
      · have := p1 _ e; have := (hbd n0 List.mem_cons_self).1; omega
    subst e
    cases xs with
    | nil => simp at h2
    | cons x0 xs' =>
      have e2 := h3 0 (next : Int) x0 rfl rfl
      rw [Int.toNat_natCast, hf] at e2
      obtain rfl := Option.some.inj e2
      refine ⟨ns', xs', rfl, rfl, ?_, by simpa using h2, fun j M y q1 q2 => ?_⟩
      · refine sorted_ext _ _ p2 (heldOf_sorted _ _ _ _) (fun a => ?_)
        constructor
        · intro ha
          have hlt := p1 a ha
          have hb := hbd a (List.mem_cons_of_mem _ ha)
          obtain ⟨k, rfl⟩ : ∃ k : Nat, a = (k : Int) := ⟨a.toNat, by omega⟩
          rw [heldOf_iff _ _ _ k (by omega) (by omega), put_ne _ _ _ _ (fun e => by have := mod_same hc (a := k) (b := next) (n := next) (by omega) (by omega) (by omega) (by omega) e; omega)]
          have h4 := (heldOf_iff f next cap k (by omega) (by omega)).1 (by rw [← h1]; exact List.mem_cons_of_mem _ ha)
          exact h4
        · intro ha
          have hb := heldOf_bd _ _ _ _ a ha
          obtain ⟨k, rfl⟩ : ∃ k : Nat, a = (k : Int) := ⟨a.toNat, by omega⟩
          rw [heldOf_iff _ _ _ k (by omega) (by omega)] at ha
          by_cases hk : k < next + cap
          · rw [put_ne _ _ _ _ (fun e => by have := mod_same hc (a := k) (b := next) (n := next) (by omega) (by omega) (by omega) (by omega) e; omega)] at ha
            have h4 := (heldOf_iff f next cap k (by omega) hk).2 ha
            rw [← h1] at h4
            rcases List.mem_cons.1 h4 with e | e
            · omega
            · exact e
          · have e : k = next + cap := by omega
            subst e
            rw [Nat.add_mod_right] at ha
            simp [Rg.put] at ha
      · have hM := hbd M (List.mem_cons_of_mem _ (List.mem_of_getElem? q1))
        have hlt := p1 M (List.mem_of_getElem? q1)
        rw [put_ne _ _ _ _ (fun e => by have := mod_same hc (a := M.toNat) (b := next) (n := next) (by omega) (by omega) (by omega) (by omega) e; omega)]
        exact h3 (j + 1) M y (by simpa using q1) (by simpa using q2)
theorem IsR.up {w : World} {h cap next cr : Nat} {ns : List Int} {xs : List Res} (hR : IsR w h cap next cr ns xs) : w.cell? ⟨h, 1, none⟩ = some (.int .i64 (next : Int)) ∧ w.cell? ⟨h, 2, none⟩ = some (.int .i64 (cr : Int)) := by
  obtain ⟨A, c, B, d, hk, h1, h2, h3, h4⟩ := hR
  obtain ⟨_, q1, q2, _, _⟩ := cells5 hk
  exact ⟨q1, q2⟩
theorem blk_frH {w w' : World} {h cap next cr : Nat} {ns : List Int} {xs : List Res} (hR : IsR w h cap next cr ns xs) (hF : Fr h h w w') {k : Nat} {cur : Array Value} {t : TypeId} (ht : t ≠ 39) (hk : w.heap[k]? = some (.cells cur t (0, 0))) : w'.heap[k]? = some (.cells cur t (0, 0)) := by
  obtain ⟨A, c, B, d, hb, _⟩ := hR
  have hne : k ≠ h := fun e => by subst e; exact ht (type_ne hk hb)
  exact (hF.block k (hlt hk) hne hne).trans hk
theorem RdB.frH {w w' : World} {h cap next cr : Nat} {ns : List Int} {xs : List Res} (hR : IsR w h cap next cr ns xs) (hF : Fr h h w w') {A : Option Addr} {l : List Int} (hr : RdB w A l) : RdB w' A l :=
  hr.move (fun k cur hk => (blk_frH hR hF (by decide) hk).trans hk.symm)
theorem RdB.lit {w : World} {k : Nat} {M : Int} (hk : w.heap[k]? = some (.cells #[.int .u8 M] 5 (0, 0))) : RdB w (some ⟨k, 0, none⟩) [M] := by
  refine ⟨⟨rfl, by simp, fun _ => ⟨_, rfl, fun j hj => ?_⟩⟩, fun _ => ⟨_, _, rfl, hk⟩⟩
  obtain rfl : j = 0 := by simp at hj; omega
  simp [World.cell?, Addr.add, hk]
theorem modAny (w : World) (a : Int) (m : Nat) (M : Int) (hM : M = (m : Int)) (h0 : 0 < m) (h1 : m ≤ 1000) : Calls Try.prog 7 #[.int .i64 a, .int .i64 M] w fun e w' => ∃ r : Nat, r < m ∧ e = .returned (.int .i64 (r : Int)) ∧ Drawn0 w w' := by
  subst hM
  obtain ⟨r, hr, hm⟩ := modN a m h0 h1
  exact (ndjqkeep_Mod.calls _ _ _ _ hm).mono fun e w' ⟨h1, h2⟩ => ⟨r, hr, h1, h2⟩
/-- The ring and its reference, alike. -/
def St (w0 w : World) (g s h cap i : Nat) : Prop := ∃ (f : Nat → Option Res) (next cr : Nat) (ns : List Int) (xs : List Res), Eq2 f next cap ns xs ∧ IsQ w g s cap next cr f ∧ IsR w h cap next cr ns xs ∧ next ≤ i + 1 ∧ Below w0.heap.size w0 w
theorem ringSteps (cap0 : Int) (A1 : Option Addr) (c1 : Nat) (l1 : List Int) (w : World) (hr1 : Kd.C (Kd.int .i64) w A1 l1.length l1) (hc1 : l1.length ≤ c1) :
    Calls Try.prog 5 #[.int .i64 cap0, .slice A1 l1.length c1] w fun e w' => e = .returned (.bool true) ∧ Below w.heap.size w w' := by
  have HB := Aside0.mk (Below.refl w.heap.size w)
  have HR1 := Aside0.mk hr1
  clear hr1
  by_cases hbig : 60 < l1.length
  · have hb0 : decide ((l1.length : Int) > 60) = true := decide_eq_true (by omega)
    go_enter Try.func5, Try.ntmps5
    go_wp2_with (first | (go_at_call 9; (with_reducible refine (awake _).mono ?_); rintro e w_ ⟨rfl, hb⟩; have HB2 := Aside0.mk (below_step HB.out hb); clear HB; have HB := HB2; clear HB2 hb))
    go_ret
    exact ⟨rfl, HB.out⟩
  have hb0 : decide ((l1.length : Int) > 60) = false := decide_eq_false (by omega)
  by_cases hcp : 1 ≤ cap0 ∧ cap0 ≤ 64
  · obtain ⟨cap, rfl⟩ : ∃ cap : Nat, cap0 = (cap : Int) := ⟨cap0.toNat, by omega⟩
    have HN := Aside0.mk (fun w => new_ w (cap : Int) cap rfl (by omega) (by omega))
    have HNr := Aside0.mk (fun w => rNew w cap)
    have q0 : decide ((cap : Int) < 1) = false := decide_eq_false (by omega)
    have q1 : decide ((cap : Int) > 64) = false := decide_eq_false (by omega)
    have HC := Aside0.mk (show 1 ≤ cap ∧ cap ≤ 64 by omega)
    go_enter Try.func5, Try.ntmps5
    go_wp2_with (first | (go_at_call 8; (with_reducible refine (HN.out _).mono ?_); rintro e w1 ⟨g, s, rfl, hQ, hb, hg, hs⟩; have HQ := Aside0.mk hQ; have HL := Aside0.mk (And.intro (Nat.le_trans HB.out.size hg) (Nat.le_trans HB.out.size hs)); have HB2 := Aside0.mk (below_step HB.out hb); clear HB HN hQ hb hg hs; have HB := HB2; clear HB2) | (go_at_call 10; (with_reducible refine (HNr.out _).mono ?_); rintro e w2 ⟨h, rfl, hR, hb, hh⟩; have HQ2 := Aside0.mk (HQ.out.below hb); have HR := Aside0.mk hR; have HLh := Aside0.mk (Nat.le_trans HB.out.size hh); have HB2 := Aside0.mk (below_step HB.out hb); clear HB HQ HNr hR hb hh; have HB := HB2; have HQ := HQ2; clear HB2 HQ2))
    go_loopg [8] l1.length (fun kq v8 w' => ∃ i : Nat, kq + i = l1.length ∧ v8 = .int .i64 (i : Int) ∧ Aside0 (St w w' g s h cap i))
    case atStart => exact ⟨0, by omega, rfl, ⟨_, 1, cap, _, _, Eq2.start 1 cap, HQ.out, HR.out, by omega, HB.out⟩⟩
    case round =>
      clear HQ HB HR
      obtain ⟨i, hi, rfl, HSt⟩ := hrel
      by_cases c : i < l1.length
      · have c0 : decide ((i : Int) < (l1.length : Int)) = true := decide_eq_true (by omega)
        obtain ⟨j1, rfl⟩ : ∃ j1, gk = j1 + 1 := ⟨gk - 1, by omega⟩
        obtain ⟨f, next, cr, ns, xs, hE, hQ, hR, hnx, hB⟩ := HSt.out
        have HE := Aside0.mk hE
        have HQ := Aside0.mk hQ
        have HR := Aside0.mk hR
        have HB := Aside0.mk hB
        have HNX := Aside0.mk hnx
        clear hE hQ hR hnx hB HSt
        obtain ⟨ad, e1, hx⟩ := Kd.at_int (Kd.C_below HR1.out HB.out) (i : Int) (by omega) (by omega)
        cases e1
        have p1 : (0 ≤ (i : Int)) = True := eq_true (by omega)
        have q1 : ((i : Int) < (l1.length : Int)) = True := eq_true (by omega)
        obtain ⟨x, hxx⟩ : ∃ x, rd l1 (i : Int) = x := ⟨_, rfl⟩
        rw [hxx] at hx
        have HX1 := Aside0.mk (fun W (hb : Below w.heap.size w W) => (by have h := (Kd.at_int (Kd.C_below HR1.out hb) (i : Int) (by omega) (by omega)); obtain ⟨ad2, e2, h2⟩ := h; cases e2; rw [hxx] at h2; simpa using h2 : W.cell? (ad.add i) = some (.int .i64 x)))
        replace hx : wr.cell? (ad.add i) = some (.int .i64 x) := by simpa using hx
        obtain ⟨r, hr, hmod⟩ := modN x 10 (by omega) (by omega)
        have HM := Aside0.mk (show ndjqkeep_Mod.f x 10 = some (r : Int) from hmod)
        have hi60 : i < 60 := by omega
        have HX := Aside0.mk (And.intro c hi60)
        clear c hxx hmod
        go_upto_block 2 with (first | (go_at_call 7; (with_reducible refine (ndjqkeep_Mod.calls _ _ _ _ HM.out).mono ?_); rintro e w_ ⟨rfl, hd⟩; have HQ2 := Aside0.mk (HQ.out.below (below0 hd)); have HR2 := Aside0.mk (HR.out.below (below0 hd)); have HB2 := Aside0.mk (below_D HB.out hd); clear HQ HR HB; have HQ := HQ2; have HR := HR2; have HB := HB2; clear HQ2 HR2 HB2; clear hd))
        go_cut [] (fun wc => Aside0 (St w wc g s h cap (i + 1)))
        case first =>
          by_cases k5 : r < 5
          · have d5 : decide ((r : Int) < 5) = true := decide_eq_true (by omega)
            clear k5
            have HP0 := Aside0.mk (show (cap : Int) + 2 = ((cap + 2 : Nat) : Int) ∧ 0 < cap + 2 ∧ cap + 2 ≤ 1000 by have := HC.out.2; omega)
            have hwC : IntKind.i64.wrap ((cap : Int) + 2) = (cap : Int) + 2 := by have := HC.out.2; rw [i64_w]; unfold Go.RowKit.wrap64; omega
            go_upto_region 16 with fail
            have hd : Drawn0 w_ w_.drew := ⟨1, rfl⟩
            have HQ2 := Aside0.mk (HQ.out.below (below0 hd)); have HR2 := Aside0.mk (HR.out.below (below0 hd)); have HB2 := Aside0.mk (below_step HB.out (below0 hd)); clear HQ HR HB; have HQ := HQ2; have HR := HR2; have HB := HB2; clear HQ2 HR2 HB2
            clear hd
            go_region_held3 (fun w' => w'.cell? (ad.add i) = some (.int .i64 x) ∧ w'.cell? ⟨h, 1, none⟩ = some (.int .i64 (next : Int))) (first | exact ⟨HX1.out _ HB.out, HR.out.up.1⟩) (first | (go_at_call 7; (with_reducible refine (modAny _ _ (cap + 2) ((cap : Int) + 2) HP0.out.1 HP0.out.2.1 HP0.out.2.2).mono ?_); rintro e w_ ⟨r2, hr2, rfl, hd⟩; have hwA : IntKind.i64.wrap ((next : Int) + (r2 : Int)) = (next : Int) + (r2 : Int) := (by have := HNX.out; have := HX.out.2; have := HC.out.2; rw [i64_w]; unfold Go.RowKit.wrap64; omega); have hwB : IntKind.i64.wrap ((next : Int) + (r2 : Int) - 1) = (next : Int) + (r2 : Int) - 1 := (by have := HNX.out; have := HX.out.2; have := HC.out.2; rw [i64_w]; unfold Go.RowKit.wrap64; omega); have HQ2 := Aside0.mk (HQ.out.below (below0 hd)); have HR2 := Aside0.mk (HR.out.below (below0 hd)); have HB2 := Aside0.mk (below_D HB.out hd); clear HQ HR HB; have HQ := HQ2; have HR := HR2; have HB := HB2; clear HQ2 HR2 HB2; clear hd))
            obtain ⟨N, hN⟩ : ∃ N : Int, (next : Int) + (r2 : Int) - 1 = N := ⟨_, rfl⟩
            have HNm : Aside0 (N ≤ 9223372036854775807) := ⟨by have := HNX.out; have := HX.out.2; have := HC.out.2; omega⟩
            have hw8 : IntKind.u8.wrap (i : Int) = (i : Int) := by
              have := HX.out.2
              unfold IntKind.wrap
              simp [IntKind.bits, IntKind.signed]
              omega
            rw [hN]
            go_upto_region 18 with fail
            have ha := ((Below.refl w_.heap.size w_).alloc (Nat.le_refl _) (.cells #[.int .u8 (i : Int)] 5)).alloc (by simp) (.cells #[.slice (some ⟨w_.heap.size, 0, none⟩) 1 1, .int .i64 ((i : Int) % 5), .int .i64 (i : Int)] 33)
            have hd : Drawn0 ((w_.alloc (.cells #[.int .u8 (i : Int)] 5)).alloc (.cells #[.slice (some ⟨w_.heap.size, 0, none⟩) 1 1, .int .i64 ((i : Int) % 5), .int .i64 (i : Int)] 33)) ((w_.alloc (.cells #[.int .u8 (i : Int)] 5)).alloc (.cells #[.slice (some ⟨w_.heap.size, 0, none⟩) 1 1, .int .i64 ((i : Int) % 5), .int .i64 (i : Int)] 33)).drew := ⟨1, rfl⟩
            have hb := below_D ha hd
            have HX11 := Aside0.mk (drawn_of hd (alloc_two_new w_ (.cells #[.int .u8 (i : Int)] 5) (.cells #[.slice (some ⟨w_.heap.size, 0, none⟩) 1 1, .int .i64 ((i : Int) % 5), .int .i64 (i : Int)] 33)))
            have HBy := Aside0.mk (RdB.lit (drawn_of hd (alloc_old (heap_alloc_new w_ (.cells #[.int .u8 (i : Int)] 5)) (.cells #[.slice (some ⟨w_.heap.size, 0, none⟩) 1 1, .int .i64 ((i : Int) % 5), .int .i64 (i : Int)] 33))))
            have HQ2 := Aside0.mk (HQ.out.below hb); have HR2 := Aside0.mk (HR.out.below hb); have HB2 := Aside0.mk (below_step HB.out hb); clear HQ HR HB; have HQ := HQ2; have HR := HR2; have HB := HB2; clear HQ2 HR2 HB2
            obtain ⟨code, f2, ns2, xs2, hp1, hp2, he⟩ := HE.out.put (show 0 < cap by have := HC.out.1; omega) N ⟨[(i : Int)], (i : Int) % 5, (i : Int)⟩
            have HP1 := Aside0.mk (And.intro hp1 (And.intro hp2 he))
            clear hp1 hp2 he ha hd hb
            go_region_held3 (fun w' => w'.cell? ⟨w_.heap.size + 1, 0, none⟩ = some (.slice (some ⟨w_.heap.size, 0, none⟩) 1 1) ∧ w'.cell? ⟨w_.heap.size + 1, 1, none⟩ = some (.int .i64 ((i : Int) % 5)) ∧ w'.cell? ⟨w_.heap.size + 1, 2, none⟩ = some (.int .i64 (i : Int))) (first | exact ⟨(cells3 HX11.out).1, (cells3 HX11.out).2.1, (cells3 HX11.out).2.2.1⟩) (first | (go_at_call 11; refine (putAny _ g s _ _ _ _ HQ.out N HNm.out (some ⟨w_.heap.size, 0, none⟩) 1 1 ⟨[(i : Int)], (i : Int) % 5, (i : Int)⟩ HBy.out.1 (fun e => by cases e) (by omega) code f2 HP1.out.1).mono ?_; rintro e wq ⟨rfl, hQ, hF⟩; have HX112 := Aside0.mk (box_fr HX11.out HQ.out hF); have HBy2 := Aside0.mk (HBy.out.fr HQ.out hF); clear HX11 HBy; have HX11 := HX112; have HBy := HBy2; clear HX112 HBy2; have HR2 := Aside0.mk (HR.out.fr HQ.out hF); have HB2 := Aside0.mk (hF.below HB.out HL.out.1 HL.out.2 HB.out.size); clear HQ HR HB; have HQ := Aside0.mk hQ; have HR := HR2; have HB := HB2; clear HR2 HB2 hQ hF) | (go_at_call 12; refine (rPutAny _ h _ _ _ _ _ HR.out HC.out.2 (by have := HNX.out; have := HX.out.2; omega) N HNm.out (by have := HE.out.le; have := HC.out.2; omega) HE.out.len (some ⟨w_.heap.size, 0, none⟩) 1 1 ⟨[(i : Int)], (i : Int) % 5, (i : Int)⟩ HBy.out.1 (by omega) code ns2 xs2 HP1.out.2.1).mono ?_; rintro e wq ⟨rfl, hR, hF⟩; have HX112 := Aside0.mk (blk_frH HR.out hF (by decide) HX11.out); have HBy2 := Aside0.mk (RdB.frH HR.out hF HBy.out); clear HX11 HBy; have HX11 := HX112; have HBy := HBy2; clear HX112 HBy2; have HQ2 := Aside0.mk (IsQ.frH HR.out HQ.out hF); have HB2 := Aside0.mk (hF.below HB.out HLh.out HLh.out HB.out.size); clear HQ HR HB; have HR := Aside0.mk hR; have HQ := HQ2; have HB := HB2; clear HQ2 HB2 hR hF))
            go_wp2
            go_meet
            exact ⟨⟨_, _, _, _, _, HP1.out.2.2, HQ.out, HR.out, Nat.le_succ_of_le HNX.out, HB.out⟩⟩
          by_cases k8 : r < 8
          · have d5 : decide ((r : Int) < 5) = false := decide_eq_false (by omega)
            have d8 : decide ((r : Int) < 8) = true := decide_eq_true (by omega)
            clear k5 k8
            cases hf : f (next % cap) with
            | none =>
              have HFN := Aside0.mk hf
              clear hf
              go_upto_region 22 with (first | (go_at_call 16; (with_reducible refine (takeNone _ g s _ _ _ _ HQ.out HFN.out).mono ?_); rintro e w_ ⟨rfl, hb⟩; have HQ2 := Aside0.mk (HQ.out.below hb); have HR2 := Aside0.mk (HR.out.below hb); have HB2 := Aside0.mk (below_step HB.out hb); clear HQ HR HB; have HQ := HQ2; have HR := HR2; have HB := HB2; clear HQ2 HR2 HB2; clear hb))
              have ha := (Below.refl w_.heap.size w_).alloc (Nat.le_refl _) (.cells #[.slice none 0 0, .int .i64 0, .int .i64 0] 33)
              have HX12 := Aside0.mk (heap_alloc_new w_ (.cells #[.slice none 0 0, .int .i64 0, .int .i64 0] 33))
              have HQ2 := Aside0.mk (HQ.out.below ha); have HR2 := Aside0.mk (HR.out.below ha); have HB2 := Aside0.mk (below_step HB.out ha); clear HQ HR HB; have HQ := HQ2; have HR := HR2; have HB := HB2; clear HQ2 HR2 HB2
              clear ha
              go_upto_region 23 with (first | (go_at_call 18; (refine (rTakeNone _ h _ _ _ _ _ HR.out (by have := HE.out.le; have := HC.out.2; omega) (of_decide_eq_false (HE.out.none_ (by have := HC.out.1; omega) false (by rw [HFN.out]; rfl)))).mono ?_); rintro e w_ ⟨rfl, hb⟩; have HQ2 := Aside0.mk (HQ.out.below hb); have HR2 := Aside0.mk (HR.out.below hb); have HB2 := Aside0.mk (below_step HB.out hb); have HX122 := Aside0.mk ((hb.block _ (hlt HX12.out)).trans HX12.out); clear HX12; have HX12 := HX122; clear HX122; clear HQ HR HB; have HQ := HQ2; have HR := HR2; have HB := HB2; clear HQ2 HR2 HB2; clear hb))
              obtain ⟨WB, hWB⟩ : ∃ WB, w_.alloc (.cells #[.slice none 0 0, .int .i64 0, .int .i64 0] 33) = WB := ⟨_, rfl⟩
              have ha := (Below.refl w_.heap.size w_).alloc (Nat.le_refl _) (.cells #[.slice none 0 0, .int .i64 0, .int .i64 0] 33)
              have hx14 := heap_alloc_new w_ (.cells #[.slice none 0 0, .int .i64 0, .int .i64 0] 33)
              have hx12 := (ha.block _ (hlt HX12.out)).trans HX12.out
              have HQ2 := Aside0.mk (HQ.out.below ha); have HR2 := Aside0.mk (HR.out.below ha); have HB2 := Aside0.mk (below_step HB.out ha); clear HQ HR HB; have HQ := HQ2; have HR := HR2; have HB := HB2; clear HQ2 HR2 HB2
              obtain ⟨u0, u1, u2, uf⟩ := cells3 hx12
              obtain ⟨v0, v1, v2, vf⟩ := cells3 hx14
              have HPR := Aside0.mk (resultsB _ none none 0 0 ⟨[], 0, 0⟩ (RdB.nil (w_.alloc (.cells #[.slice none 0 0, .int .i64 0, .int .i64 0] 33))) (RdB.nil _) 0 0 rfl rfl)
              clear ha hx12 hx14 HX12 hWB
              go_wp2_with (first | (go_at_call 19; refine (HPR.out).mono ?_; rintro e w_ ⟨rfl, hb⟩; have HQ2 := Aside0.mk (HQ.out.below hb); have HR2 := Aside0.mk (HR.out.below hb); have HB2 := Aside0.mk (below_step HB.out hb); clear HQ HR HB; have HQ := HQ2; have HR := HR2; have HB := HB2; clear HQ2 HR2 HB2; clear hb HPR))
              go_meet
              exact ⟨⟨_, _, _, _, _, HE.out, HQ.out, HR.out, Nat.le_succ_of_le HNX.out, HB.out⟩⟩
            | some y =>
              have HFN := Aside0.mk hf
              clear hf
              have hcpos : 0 < cap := by have := HC.out.1; omega
              obtain ⟨ns2, xs2, rfl, rfl, he2⟩ := HE.out.take hcpos y HFN.out
              have HE2 := Aside0.mk he2
              have HQK := Aside0.mk HQ.out.k1
              clear he2 hcpos
              go_upto_region 22 with (first | (go_at_call 16; refine (take_ _ g s _ _ _ _ HQ.out y HFN.out (by have := HNX.out; have := HX.out.2; omega)).mono ?_; rintro e w_ ⟨A6, c6, rfl, hc6, hr6, hQ, hF⟩; have HR6 := Aside0.mk hr6; have HR2 := Aside0.mk (HR.out.fr HQ.out hF); have HB2 := Aside0.mk (hF.below HB.out HL.out.1 HL.out.2 HB.out.size); clear HQ HR HB; have HQ := Aside0.mk hQ; have HR := HR2; have HB := HB2; clear HR2 HB2 hQ hF; clear hc6 hr6))
              have ha := (Below.refl w_.heap.size w_).alloc (Nat.le_refl _) (.cells #[.slice A6 y.out.length c6, .int .i64 y.st, .int .i64 y.rc] 33)
              have HX12 := Aside0.mk (heap_alloc_new w_ (.cells #[.slice A6 y.out.length c6, .int .i64 y.st, .int .i64 y.rc] 33))
              have HR62 := Aside0.mk (HR6.out.below ha)
              clear HR6
              have HR6 := HR62
              clear HR62
              have HQ2 := Aside0.mk (HQ.out.below ha); have HR2 := Aside0.mk (HR.out.below ha); have HB2 := Aside0.mk (below_step HB.out ha); clear HQ HR HB; have HQ := HQ2; have HR := HR2; have HB := HB2; clear HQ2 HR2 HB2
              clear ha
              go_upto_region 23 with (first | (go_at_call 18; refine (rTake _ h _ _ _ _ _ _ _ HR.out rfl (by have h := HE.out.le; rw [List.length_cons] at h; have := HC.out.2; omega) (by have := HE.out.len; simpa using this) (by have := HC.out.2; omega) HQK.out (by have := HNX.out; have := HX.out.2; omega)).mono ?_; rintro e w_ ⟨A8, c8, rfl, hr8, hR, hF⟩; have HR8 := Aside0.mk hr8; have HR62 := Aside0.mk (RdB.frH HR.out hF HR6.out); have HX122 := Aside0.mk (blk_frH HR.out hF (by decide) HX12.out); clear HR6 HX12 hr8; have HR6 := HR62; have HX12 := HX122; clear HR62 HX122; have HQ2 := Aside0.mk (IsQ.frH HR.out HQ.out hF); have HB2 := Aside0.mk (hF.below HB.out HLh.out HLh.out HB.out.size); clear HQ HR HB; have HR := Aside0.mk hR; have HQ := HQ2; have HB := HB2; clear HQ2 HB2 hR hF))
              have ha := (Below.refl w_.heap.size w_).alloc (Nat.le_refl _) (.cells #[.slice A8 y.out.length c8, .int .i64 y.st, .int .i64 y.rc] 33)
              have hx14 := heap_alloc_new w_ (.cells #[.slice A8 y.out.length c8, .int .i64 y.st, .int .i64 y.rc] 33)
              have hx12 := (ha.block _ (hlt HX12.out)).trans HX12.out
              have HQ2 := Aside0.mk (HQ.out.below ha); have HR2 := Aside0.mk (HR.out.below ha); have HB2 := Aside0.mk (below_step HB.out ha); clear HQ HR HB; have HQ := HQ2; have HR := HR2; have HB := HB2; clear HQ2 HR2 HB2
              obtain ⟨u0, u1, u2, uf⟩ := cells3 hx12
              obtain ⟨v0, v1, v2, vf⟩ := cells3 hx14
              have HPR := Aside0.mk (resultsB _ A6 A8 c6 c8 y (HR6.out.below ha) (HR8.out.below ha) _ _ rfl rfl)
              clear ha hx12 hx14 HX12 HR6 HR8
              go_wp2_with (first | (go_at_call 19; refine (HPR.out).mono ?_; rintro e w_ ⟨rfl, hb⟩; have HQ2 := Aside0.mk (HQ.out.below hb); have HR2 := Aside0.mk (HR.out.below hb); have HB2 := Aside0.mk (below_step HB.out hb); clear HQ HR HB; have HQ := HQ2; have HR := HR2; have HB := HB2; clear HQ2 HR2 HB2; clear hb HPR))
              go_meet
              exact ⟨⟨_, _, _, _, _, HE2.out, HQ.out, HR.out, by have := HNX.out; omega, HB.out⟩⟩
          · have d5 : decide ((r : Int) < 5) = false := decide_eq_false (by omega)
            have d8 : decide ((r : Int) < 8) = false := decide_eq_false (by omega)
            clear k5 k8
            by_cases hcr : cr = 0
            · subst hcr
              go_wp2_with (first | (go_at_call 20; (with_reducible refine (acquireNone _ g s _ _ _ HQ.out).mono ?_); rintro e w_ ⟨rfl, hd⟩; have HQ2 := Aside0.mk (HQ.out.below (below0 hd)); have HR2 := Aside0.mk (HR.out.below (below0 hd)); have HB2 := Aside0.mk (below_D HB.out hd); clear HQ HR HB; have HQ := HQ2; have HR := HR2; have HB := HB2; clear HQ2 HR2 HB2; clear hd) | (go_at_call 21; (with_reducible refine (rAcquireNone _ h _ _ _ _ HR.out).mono ?_); rintro e w_ ⟨rfl, hd⟩; have HQ2 := Aside0.mk (HQ.out.below (below0 hd)); have HR2 := Aside0.mk (HR.out.below (below0 hd)); have HB2 := Aside0.mk (below_D HB.out hd); clear HQ HR HB; have HQ := HQ2; have HR := HR2; have HB := HB2; clear HQ2 HR2 HB2; clear hd))
              go_meet
              exact ⟨⟨_, _, _, _, _, HE.out, HQ.out, HR.out, Nat.le_succ_of_le HNX.out, HB.out⟩⟩
            · have HCR : Aside0 (0 < cr) := ⟨by omega⟩
              clear hcr
              go_wp2_with (first | (go_at_call 20; (with_reducible refine (acquire _ g s _ _ _ _ HQ.out HCR.out).mono ?_); rintro e w_ ⟨rfl, hQ, hF⟩; have HR2 := Aside0.mk (HR.out.fr HQ.out hF); have HB2 := Aside0.mk (hF.below HB.out HL.out.1 HL.out.2 HB.out.size); clear HQ HR HB; have HQ := Aside0.mk hQ; have HR := HR2; have HB := HB2; clear HR2 HB2 hQ hF) | (go_at_call 21; (with_reducible refine (rAcquire _ h _ _ _ _ _ HR.out HCR.out (by have := HQ.out.k1; have := HC.out.2; omega)).mono ?_); rintro e w_ ⟨rfl, hR, hF⟩; have HQ2 := Aside0.mk (IsQ.frH HR.out HQ.out hF); have HB2 := Aside0.mk (hF.below HB.out HLh.out HLh.out HB.out.size); clear HQ HR HB; have HR := Aside0.mk hR; have HQ := HQ2; have HB := HB2; clear HQ2 HB2 hR hF))
              go_meet
              exact ⟨⟨_, _, _, _, _, HE.out, HQ.out, HR.out, Nat.le_succ_of_le HNX.out, HB.out⟩⟩
        case rest =>
          clear HE HQ HR HB HNX
          obtain ⟨f2, nx2, cr2, ns2, xs2, hE, hQ, hR, hnx, hB⟩ := hcut.out
          have HE := Aside0.mk hE
          have HQ := Aside0.mk hQ
          have HR := Aside0.mk hR
          have HB := Aside0.mk hB
          have HNX := Aside0.mk hnx
          obtain ⟨b, hb⟩ : ∃ b, (f2 (nx2 % cap)).isSome = b := ⟨_, rfl⟩
          have HBb := Aside0.mk hb
          have HBc := Aside0.mk (HE.out.none_ (by have := HC.out.1; omega) b hb)
          obtain ⟨A5, c5, B5, d5, hk, hc5, hd5, hr5, hx5⟩ := hR
          have HK := Aside0.mk hk
          have HC5 := Aside0.mk hc5
          have HRd := Aside0.mk hr5
          clear hE hQ hnx hB hb hk hc5 hd5 hr5 hx5 hcut
          go_upto_region 25 with fail
          have hd : Drawn0 wc wc.drew := ⟨1, rfl⟩
          have HQ2 := Aside0.mk (HQ.out.below (below0 hd)); have HR2 := Aside0.mk (HR.out.below (below0 hd)); have HB2 := Aside0.mk (below_step HB.out (below0 hd)); have HK2 := Aside0.mk (((below0 hd).block h (hlt HK.out)).trans HK.out); clear HK; have HK := HK2; clear HK2; clear HQ HR HB; have HQ := HQ2; have HR := HR2; have HB := HB2; clear HQ2 HR2 HB2
          have HRd2 := Aside0.mk (HRd.out.below (below0 hd))
          clear HRd
          have HRd := HRd2
          clear HRd2 hd
          go_region_held3 (fun w' => w'.cell? ⟨h, 1, none⟩ = some (.int .i64 (nx2 : Int)) ∧ w'.cell? ⟨h, 2, none⟩ = some (.int .i64 (cr2 : Int)) ∧ w'.cell? ⟨h, 3, none⟩ = some (.slice A5 ns2.length c5)) (first | exact ⟨(cells5 HK.out).2.1, (cells5 HK.out).2.2.1, (cells5 HK.out).2.2.2.1⟩) (first | (go_at_call 17; (with_reducible refine (next_ _ g s _ _ _ _ HQ.out).mono ?_); rintro e w_ ⟨rfl, hd⟩; have HQ2 := Aside0.mk (HQ.out.below (below0 hd)); have HR2 := Aside0.mk (HR.out.below (below0 hd)); have HB2 := Aside0.mk (below_step HB.out (below0 hd)); have HK2 := Aside0.mk (((below0 hd).block h (hlt HK.out)).trans HK.out); clear HK; have HK := HK2; clear HK2; clear HQ HR HB; have HQ := HQ2; have HR := HR2; have HB := HB2; clear HQ2 HR2 HB2; have HRd2 := Aside0.mk (HRd.out.below (below0 hd)); clear HRd; have HRd := HRd2; clear HRd2; clear hd) | (go_at_call 22; (with_reducible refine (credits _ g s _ _ _ _ HQ.out).mono ?_); rintro e w_ ⟨rfl, hd⟩; have HQ2 := Aside0.mk (HQ.out.below (below0 hd)); have HR2 := Aside0.mk (HR.out.below (below0 hd)); have HB2 := Aside0.mk (below_step HB.out (below0 hd)); have HK2 := Aside0.mk (((below0 hd).block h (hlt HK.out)).trans HK.out); clear HK; have HK := HK2; clear HK2; clear HQ HR HB; have HQ := HQ2; have HR := HR2; have HB := HB2; clear HQ2 HR2 HB2; have HRd2 := Aside0.mk (HRd.out.below (below0 hd)); clear HRd; have HRd := HRd2; clear HRd2; clear hd) | (go_at_call 15; (with_reducible refine (ready _ g s _ _ _ _ HQ.out b HBb.out).mono ?_); rintro e w_ ⟨rfl, hd⟩; have HQ2 := Aside0.mk (HQ.out.below (below0 hd)); have HR2 := Aside0.mk (HR.out.below (below0 hd)); have HB2 := Aside0.mk (below_step HB.out (below0 hd)); have HK2 := Aside0.mk (((below0 hd).block h (hlt HK.out)).trans HK.out); clear HK; have HK := HK2; clear HK2; clear HQ HR HB; have HQ := HQ2; have HR := HR2; have HB := HB2; clear HQ2 HR2 HB2; have HRd2 := Aside0.mk (HRd.out.below (below0 hd)); clear HRd; have HRd := HRd2; clear HRd2; clear hd) | (go_at_call 23; (with_reducible refine (rReady _ h _ _ _ _ _ HR.out (by have := HE.out.le; have := HC.out.2; omega) b HBc.out).mono ?_); rintro e w_ ⟨rfl, hd⟩; have HQ2 := Aside0.mk (HQ.out.below (below0 hd)); have HR2 := Aside0.mk (HR.out.below (below0 hd)); have HB2 := Aside0.mk (below_step HB.out (below0 hd)); have HK2 := Aside0.mk (((below0 hd).block h (hlt HK.out)).trans HK.out); clear HK; have HK := HK2; clear HK2; clear HQ HR HB; have HQ := HQ2; have HR := HR2; have HB := HB2; clear HQ2 HR2 HB2; have HRd2 := Aside0.mk (HRd.out.below (below0 hd)); clear HRd; have HRd := HRd2; clear HRd2; clear hd) | (go_at_call 14; (with_reducible refine (held _ g s _ _ _ _ HQ.out).mono ?_); rintro e w_ ⟨v14, rfl, ho, hb⟩; rw [← HE.out.eqn] at ho; obtain ⟨A14, c14, e14⟩ := Kd.R_slice ho; subst e14; have HRd2 := Aside0.mk (HRd.out.below hb); have HO14 := Aside0.mk (Kd.R_reads' ho).2; clear HRd; have HRd := HRd2; clear HRd2; have HQ2 := Aside0.mk (HQ.out.below hb); have HR2 := Aside0.mk (HR.out.below hb); have HB2 := Aside0.mk (below_step HB.out hb); have HK2 := Aside0.mk ((hb.block h (hlt HK.out)).trans HK.out); clear HK; have HK := HK2; clear HK2; clear HQ HR HB; have HQ := HQ2; have HR := HR2; have HB := HB2; clear HQ2 HR2 HB2; clear ho hb) | (go_at_call 13; (with_reducible refine (intsN _ A14 ns2.length c14 A5 ns2.length c5 ns2 HO14.out.2 rfl HO14.out.1 HRd.out.C rfl HC5.out (by have := HE.out.le; have := HC.out.2; omega)).mono ?_); rintro e w_ ⟨rfl, hd⟩; have HQ2 := Aside0.mk (HQ.out.below (below0 hd)); have HR2 := Aside0.mk (HR.out.below (below0 hd)); have HB2 := Aside0.mk (below_step HB.out (below0 hd)); have HK2 := Aside0.mk (((below0 hd).block h (hlt HK.out)).trans HK.out); clear HK; have HK := HK2; clear HK2; clear HQ HR HB; have HQ := HQ2; have HR := HR2; have HB := HB2; clear HQ2 HR2 HB2; clear hd))
          go_wp2
          go_roundg j1
          case measure => omega
          case rel => exact ⟨i + 1, by omega, by first | rfl | (congr 1; unfold wrap64; omega), ⟨_, _, _, _, _, HE.out, HQ.out, HR.out, HNX.out, HB.out⟩⟩
      · have c0 : decide ((i : Int) < (l1.length : Int)) = false := decide_eq_false (by omega)
        obtain ⟨f, next, cr, ns, xs, hE, hQ, hR, hnx, hB⟩ := HSt.out
        have HB := Aside0.mk hB
        clear hE hQ hR hnx hB HSt
        go_wp2_with (first | (go_at_call 9; (with_reducible refine (awake _).mono ?_); rintro e w_ ⟨rfl, hb⟩; have HB2 := Aside0.mk (below_step HB.out hb); clear HB; have HB := HB2; clear HB2 hb))
        go_ret
        exact ⟨rfl, HB.out⟩
  · have HN := Aside0.mk (fun w => newBad w cap0 (by omega))
    by_cases h1 : cap0 < 1
    · have q0 : decide (cap0 < 1) = true := decide_eq_true h1
      go_enter Try.func5, Try.ntmps5
      go_wp2_with (first | (go_at_call 8; (with_reducible refine (HN.out _).mono ?_); rintro e w_ ⟨rfl, hd⟩; have HB2 := Aside0.mk (below_D HB.out hd); clear HB; have HB := HB2; clear HB2 hd) | (go_at_call 9; (with_reducible refine (awake _).mono ?_); rintro e w_ ⟨rfl, hb⟩; have HB2 := Aside0.mk (below_step HB.out hb); clear HB; have HB := HB2; clear HB2 hb))
      go_ret
      exact ⟨rfl, HB.out⟩
    · have q0 : decide (cap0 < 1) = false := decide_eq_false h1
      have q1 : decide (cap0 > 64) = true := decide_eq_true (by omega)
      go_enter Try.func5, Try.ntmps5
      go_wp2_with (first | (go_at_call 8; (with_reducible refine (HN.out _).mono ?_); rintro e w_ ⟨rfl, hd⟩; have HB2 := Aside0.mk (below_D HB.out hd); clear HB; have HB := HB2; clear HB2 hd) | (go_at_call 9; (with_reducible refine (awake _).mono ?_); rintro e w_ ⟨rfl, hb⟩; have HB2 := Aside0.mk (below_step HB.out hb); clear HB; have HB := HB2; clear HB2 hb))
      go_ret
      exact ⟨rfl, HB.out⟩
end Go.Proofs.Ytccgcljkgjboaaa.Rg
