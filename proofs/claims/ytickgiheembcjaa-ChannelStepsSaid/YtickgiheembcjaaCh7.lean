import Derived.Test.YtickgiheembcjaaCh6
import Derived.Test.YtickgiheembcjaaCh4
import Derived.Deep.DeepCutAuto
import Derived.Deep.CutBlock
import Derived.Deep.RegionHeld3
/- ChannelSteps, by hand. -/
namespace Go.Proofs.Ytickgiheembcjaa.Ch
open Go.RowKit Go.Proofs.YtickgiheembcjaaW.PrintWords Go.Proofs.YtickgiheembcjaaW.PrintLast Go.Proofs.YtickgiheembcjaaW.PrintMore Go.Proofs.Ytickgiheembcjaa.PChannelSteps
set_option linter.unusedVariables false
set_option linter.unusedSimpArgs false
set_option maxRecDepth 100000
set_option maxHeartbeats 4000000
/-- Both channels, alike. -/
structure Both (w0 w : World) (g h cap : Nat) : Prop where
  st : ∃ (ring : Nat → Int) (fr n : Nat) (cl : Bool), IsC w g ring fr n cap cl ∧ IsR w h cap (itemsOf ring fr n) cl
  bel : Below w0.heap.size w0 w
/-- The reference's block, written out. -/
def RA (w : World) (h cap : Nat) (A : Option Addr) (c n : Nat) (items : List Int) (cl : Bool) : Prop :=
  w.heap[h]? = some (.cells #[.int .i64 (cap : Int), .slice A n c, .bool cl] 37 (0, 0)) ∧ items.length = n ∧ n ≤ c ∧ Rd w A items
theorem RA.R {w : World} {h cap : Nat} {A : Option Addr} {c n : Nat} {items : List Int} {cl : Bool} (hA : RA w h cap A c n items cl) : IsR w h cap items cl := by
  obtain ⟨h1, rfl, h3, h4⟩ := hA
  exact ⟨A, c, h1, h3, h4⟩
theorem RA.below {w w' : World} {h cap : Nat} {A : Option Addr} {c n : Nat} {items : List Int} {cl : Bool} (hA : RA w h cap A c n items cl) (hb : Below w.heap.size w w') : RA w' h cap A c n items cl :=
  ⟨(hb.block h (Array.getElem?_eq_some_iff.1 hA.1).1).trans hA.1, hA.2.1, hA.2.2.1, hA.2.2.2.move (row := none) ⟨hb.os, hb.tape, hb.output, hb.size, fun k hk _ => hb.block k hk⟩ (fun b cur e => by cases e)⟩
theorem RA.move0 {w w' : World} {h cap : Nat} {A : Option Addr} {c n : Nat} {items : List Int} {cl : Bool} (hA : RA w h cap A c n items cl) (hd : Drawn0 w w') : RA w' h cap A c n items cl := hA.below (below_0 (Below.refl _ _) hd)
theorem intsN (w : World) (A0 : Option Addr) (c0 : Nat) (A1 : Option Addr) (c1 n : Nat) (l : List Int) (h0 : Kd.C (Kd.int .i64) w A0 n l) (hc0 : n ≤ c0) (h1 : Kd.C (Kd.int .i64) w A1 l.length l) (hc1 : n ≤ c1) (he : l.length = n) (hn : n ≤ 64) :
    Calls Try.prog 14 #[.slice A0 n c0, .slice A1 n c1] w fun e w' => e = .returned (.bool true) ∧ Drawn0 w w' := by
  subst he
  exact ndjqkeep_Ints.calls (l.length + 1) A0 c0 l A1 c1 l true w h0 hc0 h1 hc1 (ints_same l (by omega) _ (by omega))
theorem itemsOf_send (ring : Nat → Int) (fr n : Nat) (v : Int) (hn : n < 64) : itemsOf (put ring ((fr + n) % 64) v) fr (n + 1) = itemsOf ring fr n ++ [v] := by
  rw [itemsOf, itemsOf_put ring fr n v hn n (Nat.le_refl _), put, if_pos rfl]
theorem itemsOf_take (ring : Nat → Int) (fr n : Nat) (hf : fr < 64) (hn : 0 < n) : itemsOf ring fr n = ring fr :: itemsOf ring ((fr + 1) % 64) (n - 1) := by
  obtain ⟨n, rfl⟩ : ∃ j, n = j + 1 := ⟨n - 1, by omega⟩
  exact itemsOf_cons ring fr hf n
theorem channelSteps (cap0 : Int) (A1 : Option Addr) (c1 : Nat) (l1 : List Int) (w : World) (hr1 : Kd.C (Kd.int .i64) w A1 l1.length l1) (hc1 : l1.length ≤ c1) (hm1 : l1.length ≤ 17592186044416) :
    Calls Try.prog 4 #[.int .i64 cap0, .slice A1 l1.length c1] w fun e w' => e = .returned (.bool true) ∧ Below w.heap.size w w' := by
  have HB := Aside0.mk (Below.refl w.heap.size w)
  have HR1 := Aside0.mk hr1
  clear hr1
  by_cases hbig : 60 < l1.length
  · have hb0 : decide ((l1.length : Int) > 60) = true := decide_eq_true (by omega)
    go_enter Try.func4, Try.ntmps4
    go_wp2_with (first | (go_at_call 8; (with_reducible refine (awake _).mono ?_); rintro e w_ ⟨rfl, hb⟩; have HB2 := Aside0.mk (below_step HB.out hb); clear HB; have HB := HB2; clear HB2 hb))
    go_ret
    exact ⟨rfl, HB.out⟩
  have hb0 : decide ((l1.length : Int) > 60) = false := decide_eq_false (by omega)
  by_cases hcap : cap0 < 1 ∨ 64 < cap0
  · have HN := Aside0.mk (fun w => newBad w cap0 hcap)
    by_cases h1 : cap0 < 1
    · have h2 : decide (cap0 < 1) = true := decide_eq_true h1
      clear hcap h1
      go_enter Try.func4, Try.ntmps4
      go_wp2_with (first | (go_at_call 6; (with_reducible refine (HN.out _).mono ?_); rintro e w_ ⟨rfl, hd⟩; have HB2 := Aside0.mk (below_0 HB.out hd); clear HB; have HB := HB2; clear HB2 hd) | (go_at_call 8; (with_reducible refine (awake _).mono ?_); rintro e w_ ⟨rfl, hb⟩; have HB2 := Aside0.mk (below_step HB.out hb); clear HB; have HB := HB2; clear HB2 hb))
      go_ret
      exact ⟨rfl, HB.out⟩
    · have h2 : decide (cap0 < 1) = false := decide_eq_false h1
      have h3 : decide (cap0 > 64) = true := decide_eq_true (by omega)
      clear hcap h1
      go_enter Try.func4, Try.ntmps4
      go_wp2_with (first | (go_at_call 6; (with_reducible refine (HN.out _).mono ?_); rintro e w_ ⟨rfl, hd⟩; have HB2 := Aside0.mk (below_0 HB.out hd); clear HB; have HB := HB2; clear HB2 hd) | (go_at_call 8; (with_reducible refine (awake _).mono ?_); rintro e w_ ⟨rfl, hb⟩; have HB2 := Aside0.mk (below_step HB.out hb); clear HB; have HB := HB2; clear HB2 hb))
      go_ret
      exact ⟨rfl, HB.out⟩
  obtain ⟨cap, hcp⟩ : ∃ cap : Nat, cap0 = (cap : Int) := ⟨cap0.toNat, by omega⟩
  have hcap1 : 1 ≤ cap ∧ cap ≤ 64 := by omega
  have HCAP := Aside0.mk hcap1
  have HN := Aside0.mk (fun w => new' w cap0 cap hcp hcap1.1 hcap1.2)
  have h2 : decide (cap0 < 1) = false := decide_eq_false (by omega)
  have h3 : decide (cap0 > 64) = false := decide_eq_false (by omega)
  have HCP := Aside0.mk hcp
  clear hcap hcap1 hcp
  go_enter Try.func4, Try.ntmps4
  go_wp2_with (first | (go_at_call 6; (with_reducible refine (HN.out _).mono ?_); rintro e w1 ⟨g, rfl, hC, hg, hle⟩; have HC := Aside0.mk hC; have HL := Aside0.mk (Nat.le_trans (below_size HB.out) hle); have HB2 := Aside0.mk (below_n HB.out (below_size HB.out) hg); clear HB; have HB := HB2; clear HB2 hC hg hle HN))
  have HH : Aside0 (Both w (w1.alloc (.cells #[.int .i64 cap0, .slice none 0 0, .bool false] 37)) g w1.heap.size cap) :=
    ⟨⟨⟨_, 0, 0, false, HC.out.grown (World.grownBy_alloc _ _ none) (by simp), ⟨none, 0, by rw [HCP.out]; exact heap_alloc_new w1 _, Nat.le_refl _, Rd.nil _⟩⟩, HB.out.alloc (below_size HB.out) _⟩⟩
  have HLh := Aside0.mk (below_size HB.out)
  obtain ⟨h, hh⟩ : ∃ h, w1.heap.size = h := ⟨_, rfl⟩
  rw [hh] at HH HLh ⊢
  clear hh
  go_loopg [8] l1.length (fun kq v8 w' => ∃ i : Nat, kq + i = l1.length ∧ v8 = .int .i64 (i : Int) ∧ Aside0 (Both w w' g h cap))
  case atStart => exact ⟨0, by omega, rfl, HH⟩
  case round =>
    clear HC HB HH
    obtain ⟨i, hi, rfl, HH⟩ := hrel
    obtain ⟨ring, fr, n, cl, hC, hS⟩ := HH.out.st
    have HC := Aside0.mk hC
    have HS := Aside0.mk hS
    have HB := Aside0.mk HH.out.bel
    clear hC hS HH
    by_cases c : i < l1.length
    · have c0 : decide ((i : Int) < (l1.length : Int)) = true := decide_eq_true (by omega)
      obtain ⟨k1, rfl⟩ : ∃ k1, gk = k1 + 1 := ⟨gk - 1, by omega⟩
      obtain ⟨ad, e1, hx⟩ := Kd.at_int (Kd.C_below HR1.out HB.out) (i : Int) (by omega) (by omega)
      have HX1 : Aside0 (∀ w', Below w.heap.size w w' → w'.cell? (ad.add i) = some (.int .i64 (rd l1 (i : Int)))) := ⟨fun w' hb' => by
        obtain ⟨ad', e2, hx'⟩ := Kd.at_int (Kd.C_below HR1.out hb') (i : Int) (by omega) (by omega)
        obtain rfl : ad' = ad := Option.some.inj (e2.symm.trans e1)
        simpa using hx'⟩
      cases e1
      have p1 : (0 ≤ (i : Int)) = True := eq_true (by omega)
      have q1 : ((i : Int) < (l1.length : Int)) = True := eq_true (by omega)
      obtain ⟨x, hxx⟩ : ∃ x, rd l1 (i : Int) = x := ⟨_, rfl⟩
      rw [hxx] at hx HX1
      replace hx : wr.cell? (ad.add i) = some (.int .i64 x) := by simpa using hx
      obtain ⟨r, hr, hmod⟩ := modN x 12 (by omega) (by omega)
      have HM := Aside0.mk (show ndjqkeep_Mod.f x 12 = some (r : Int) from hmod)
      have HX := Aside0.mk c
      clear c hxx hmod
      go_upto_block 2 with (first | (go_at_call 7; (with_reducible refine (ndjqkeep_Mod.calls _ _ _ _ HM.out).mono ?_); rintro e w_ ⟨rfl, hd⟩; have HB2 := Aside0.mk (below_0 HB.out hd); have HC2 := Aside0.mk (HC.out.grown (grown0 hd none) (by simp)); have HS2 := Aside0.mk (HS.out.move0 hd); clear HC HB HS; have HC := HC2; have HB := HB2; have HS := HS2; clear HB2 HC2 HS2 hd))
      go_cut [] (fun wc => Aside0 (Both w wc g h cap))
      case first =>
        by_cases hr6 : r < 6
        · have hd6 : decide ((r : Int) < 6) = true := decide_eq_true (by omega)
          clear hr6
          by_cases hroom : cl = false ∧ n < cap
          · obtain ⟨rfl, hn⟩ := hroom
            have HN := Aside0.mk hn
            have HNr := Aside0.mk (show (itemsOf ring fr n).length < cap by rw [itemsOf_len]; exact hn)
            have HN64 := Aside0.mk HCAP.out.2
            have HP := Aside0.mk (itemsOf_send ring fr n x (by have := HCAP.out.2; omega))
            clear hn
            go_wp2_with fail
            have HB2 := Aside0.mk HB.out.drew
            have HC2 := Aside0.mk (HC.out.keep (w' := w_.drew) rfl)
            have HS2 := Aside0.mk (HS.out.move0 (w' := w_.drew) ⟨1, rfl⟩)
            clear HB HC HS
            have HB := HB2
            have HC := HC2
            have HS := HS2
            clear HB2 HC2 HS2
            go_region_held3 (fun w' => w'.cell? (ad.add i) = some (.int .i64 x)) (first | exact HX1.out _ HB.out) (first | (go_at_call 10; (with_reducible refine (send _ g _ _ _ _ HC.out HN.out _).mono ?_); rintro e w_ ⟨rfl, hC, hg⟩; have HB2 := Aside0.mk (below_g HB.out (below_size HB.out) hg HL.out); have HS2 := Aside0.mk (HS.out.moveG HC.out hg); clear HC HB HS; have HC := Aside0.mk hC; have HB := HB2; have HS := HS2; clear HB2 HS2 hC hg) | (go_at_call 15; (with_reducible refine (rSend _ h _ _ _ HS.out HNr.out HN64.out).mono ?_); rintro e w_ ⟨rfl, hR, hg⟩; have HB2 := Aside0.mk (below_g HB.out (below_size HB.out) hg HLh.out); have HC2 := Aside0.mk (IsC.moveH HS.out HC.out hg); clear HC HB HS; have HS := Aside0.mk hR; have HB := HB2; have HC := HC2; clear HB2 HC2 hR hg))
            all_goals (go_wp2; go_meet)
            all_goals exact ⟨⟨⟨_, _, _, _, HC.out, by rw [HP.out]; exact HS.out⟩, HB.out⟩⟩
          · have HF := Aside0.mk (show (!cl && decide ((n : Int) < (cap : Int))) = false by
              cases cl with
              | true => rfl
              | false => rw [decide_eq_false (by simp at hroom; omega)]; rfl)
            have HFr := Aside0.mk (show (!cl && decide (((itemsOf ring fr n).length : Int) < (cap : Int))) = false by rw [itemsOf_len]; exact HF.out)
            clear hroom
            go_wp2_with fail
            have HB2 := Aside0.mk HB.out.drew
            have HC2 := Aside0.mk (HC.out.keep (w' := w_.drew) rfl)
            have HS2 := Aside0.mk (HS.out.move0 (w' := w_.drew) ⟨1, rfl⟩)
            clear HB HC HS
            have HB := HB2
            have HC := HC2
            have HS := HS2
            clear HB2 HC2 HS2
            go_region_held3 (fun w' => w'.cell? (ad.add i) = some (.int .i64 x)) (first | exact HX1.out _ HB.out) (first | (go_at_call 10; (with_reducible refine (sendFull _ g _ _ _ _ _ HC.out HF.out _).mono ?_); rintro e w_ ⟨rfl, hd⟩; have HB2 := Aside0.mk (below_0 HB.out hd); have HC2 := Aside0.mk (HC.out.grown (grown0 hd none) (by simp)); have HS2 := Aside0.mk (HS.out.move0 hd); clear HC HB HS; have HC := HC2; have HB := HB2; have HS := HS2; clear HB2 HC2 HS2 hd) | (go_at_call 15; (with_reducible refine (rSendFull _ h _ _ _ _ HS.out HFr.out).mono ?_); rintro e w_ ⟨rfl, hd⟩; have HB2 := Aside0.mk (below_0 HB.out hd); have HC2 := Aside0.mk (HC.out.grown (grown0 hd none) (by simp)); have HS2 := Aside0.mk (HS.out.move0 hd); clear HC HB HS; have HC := HC2; have HB := HB2; have HS := HS2; clear HB2 HC2 HS2 hd))
            all_goals (go_wp2; go_meet)
            all_goals exact ⟨⟨⟨_, _, _, _, HC.out, HS.out⟩, HB.out⟩⟩
        · have hd6 : decide ((r : Int) < 6) = false := decide_eq_false (by omega)
          by_cases hr11 : r < 11
          · have hd11 : decide ((r : Int) < 11) = true := decide_eq_true (by omega)
            clear hr11
            by_cases hn : 0 < n
            · have HP := Aside0.mk hn
              have HP64 := Aside0.mk (show (itemsOf ring ((fr + 1) % 64) (n - 1)).length ≤ 64 by rw [itemsOf_len]; have := HC.out.ln; have := HC.out.lc; omega)
              have HS2 := Aside0.mk (show IsR w_ h cap (ring fr :: itemsOf ring ((fr + 1) % 64) (n - 1)) cl by rw [← itemsOf_take ring fr n HC.out.lt hn]; exact HS.out)
              clear HS hn
              have HS := HS2
              clear HS2
              go_wp2_with (first | (go_at_call 12; (with_reducible refine (receive _ g _ _ _ _ _ HC.out HP.out).mono ?_); rintro e w_ ⟨rfl, hC, hg⟩; have HB2 := Aside0.mk (below_g HB.out (below_size HB.out) hg HL.out); have HS2 := Aside0.mk (HS.out.moveG HC.out hg); clear HC HB HS; have HC := Aside0.mk hC; have HB := HB2; have HS := HS2; clear HB2 HS2 hC hg) | (go_at_call 16; (with_reducible refine (rReceive _ h _ _ _ _ HS.out HP64.out).mono ?_); rintro e w_ ⟨rfl, hR, hg⟩; have HB2 := Aside0.mk (below_g HB.out (below_size HB.out) hg HLh.out); have HC2 := Aside0.mk (IsC.moveH HS.out HC.out hg); clear HC HB HS; have HS := Aside0.mk hR; have HB := HB2; have HC := HC2; clear HB2 HC2 hR hg))
              go_meet
              exact ⟨⟨⟨_, _, _, _, HC.out, HS.out⟩, HB.out⟩⟩
            · obtain rfl : n = 0 := by omega
              clear hn
              have HS2 : Aside0 (IsR w_ h cap [] cl) := HS
              clear HS
              have HS := HS2
              clear HS2
              cases cl with
              | true =>
                go_wp2_with (first | (go_at_call 12; (with_reducible refine (receiveNone _ g _ _ _ HC.out).mono ?_); rintro e w_ ⟨rfl, hd⟩; have HB2 := Aside0.mk (below_0 HB.out hd); have HC2 := Aside0.mk (HC.out.grown (grown0 hd none) (by simp)); have HS2 := Aside0.mk (HS.out.move0 hd); clear HC HB HS; have HC := HC2; have HB := HB2; have HS := HS2; clear HB2 HC2 HS2 hd) | (go_at_call 16; (with_reducible refine (rReceiveNone _ h _ HS.out).mono ?_); rintro e w_ ⟨rfl, hd⟩; have HB2 := Aside0.mk (below_0 HB.out hd); have HC2 := Aside0.mk (HC.out.grown (grown0 hd none) (by simp)); have HS2 := Aside0.mk (HS.out.move0 hd); clear HC HB HS; have HC := HC2; have HB := HB2; have HS := HS2; clear HB2 HC2 HS2 hd))
                go_meet
                exact ⟨⟨⟨_, _, 0, _, HC.out, HS.out⟩, HB.out⟩⟩
              | false =>
                go_wp2_with (first | (go_at_call 12; (with_reducible refine (receiveLater _ g _ _ _ HC.out).mono ?_); rintro e w_ ⟨rfl, hd⟩; have HB2 := Aside0.mk (below_0 HB.out hd); have HC2 := Aside0.mk (HC.out.grown (grown0 hd none) (by simp)); have HS2 := Aside0.mk (HS.out.move0 hd); clear HC HB HS; have HC := HC2; have HB := HB2; have HS := HS2; clear HB2 HC2 HS2 hd) | (go_at_call 16; (with_reducible refine (rReceiveLater _ h _ HS.out).mono ?_); rintro e w_ ⟨rfl, hd⟩; have HB2 := Aside0.mk (below_0 HB.out hd); have HC2 := Aside0.mk (HC.out.grown (grown0 hd none) (by simp)); have HS2 := Aside0.mk (HS.out.move0 hd); clear HC HB HS; have HC := HC2; have HB := HB2; have HS := HS2; clear HB2 HC2 HS2 hd))
                go_meet
                exact ⟨⟨⟨_, _, 0, _, HC.out, HS.out⟩, HB.out⟩⟩
          · have hd11 : decide ((r : Int) < 11) = false := decide_eq_false (by omega)
            cases cl with
            | true =>
              go_wp2_with (first | (go_at_call 17; (with_reducible refine (close2 _ g _ _ _ _ HC.out).mono ?_); rintro e w_ ⟨rfl, hd⟩; have HB2 := Aside0.mk (below_0 HB.out hd); have HC2 := Aside0.mk (HC.out.grown (grown0 hd none) (by simp)); have HS2 := Aside0.mk (HS.out.move0 hd); clear HC HB HS; have HC := HC2; have HB := HB2; have HS := HS2; clear HB2 HC2 HS2 hd) | (go_at_call 18; (with_reducible refine (rClose2 _ h _ _ HS.out).mono ?_); rintro e w_ ⟨rfl, hd⟩; have HB2 := Aside0.mk (below_0 HB.out hd); have HC2 := Aside0.mk (HC.out.grown (grown0 hd none) (by simp)); have HS2 := Aside0.mk (HS.out.move0 hd); clear HC HB HS; have HC := HC2; have HB := HB2; have HS := HS2; clear HB2 HC2 HS2 hd))
              go_meet
              exact ⟨⟨⟨_, _, _, _, HC.out, HS.out⟩, HB.out⟩⟩
            | false =>
              go_wp2_with (first | (go_at_call 17; (with_reducible refine (close _ g _ _ _ _ HC.out).mono ?_); rintro e w_ ⟨rfl, hC, hg⟩; have HB2 := Aside0.mk (below_g HB.out (below_size HB.out) hg HL.out); have HS2 := Aside0.mk (HS.out.moveG HC.out hg); clear HC HB HS; have HC := Aside0.mk hC; have HB := HB2; have HS := HS2; clear HB2 HS2 hC hg) | (go_at_call 18; (with_reducible refine (rClose _ h _ _ HS.out).mono ?_); rintro e w_ ⟨rfl, hR, hg⟩; have HB2 := Aside0.mk (below_g HB.out (below_size HB.out) hg HLh.out); have HC2 := Aside0.mk (IsC.moveH HS.out HC.out hg); clear HC HB HS; have HS := Aside0.mk hR; have HB := HB2; have HC := HC2; clear HB2 HC2 hR hg))
              go_meet
              exact ⟨⟨⟨_, _, _, _, HC.out, HS.out⟩, HB.out⟩⟩
      case rest =>
        clear HC HS HB HM HX1 hx
        obtain ⟨ring, fr, n, cl, hC, hS⟩ := hcut.out.st
        obtain ⟨A, c, hb, hc, hr⟩ := hS.blk
        have HE := Aside0.mk (itemsOf_len ring fr n)
        have HA0 : Aside0 (RA wc.drew h cap A c n (itemsOf ring fr n) cl) := ⟨RA.move0 (w := wc) ⟨by rw [itemsOf_len] at hb; exact hb, itemsOf_len ring fr n, by rw [itemsOf_len] at hc; exact hc, hr⟩ ⟨1, rfl⟩⟩
        have HC := Aside0.mk (hC.keep (w' := wc.drew) rfl)
        have HB := Aside0.mk hcut.out.bel.drew
        have HA := HA0
        have HN100 := Aside0.mk (Nat.le_trans hC.ln hC.lc)
        obtain ⟨b1, hb1⟩ : ∃ b, (!cl && decide ((n : Int) < (cap : Int))) = b := ⟨_, rfl⟩
        obtain ⟨b2, hb2⟩ : ∃ b, (cl && (n : Int) == 0) = b := ⟨_, rfl⟩
        obtain ⟨b3, hb3⟩ : ∃ b, decide (0 < (n : Int)) = b := ⟨_, rfl⟩
        have H1 := Aside0.mk hb1
        have H1r := Aside0.mk (show (!cl && decide (((itemsOf ring fr n).length : Int) < (cap : Int))) = b1 by rw [itemsOf_len]; exact hb1)
        have H2 := Aside0.mk hb2
        have H2r := Aside0.mk (show (cl && ((itemsOf ring fr n).length : Int) == 0) = b2 by rw [itemsOf_len]; exact hb2)
        have H3 := Aside0.mk hb3
        have hb4 : decide ((n : Int) > 0) = b3 := hb3
        have hb5 : decide (0 < n) = b3 := by rw [← hb3]; simp
        have HQ := Aside0.mk True.intro
        clear hb hc hr hC hS HA0 hb1 hb2 hcut
        go_wp2_with fail
        go_region_held3 (fun w' => w'.cell? ⟨h, 1, none⟩ = some (.slice A n c) ∧ w'.cell? ⟨h, 2, none⟩ = some (.bool cl)) (first | exact ⟨(cells3 HA.out.1).2.1, (cells3 HA.out.1).2.2.1⟩) (first | (go_at_call 9; (with_reducible refine (canSendB _ g _ _ _ _ _ b1 HC.out H1.out).mono ?_); rintro e w_ ⟨rfl, hd⟩; have HB2 := Aside0.mk (below_0 HB.out hd); have HC2 := Aside0.mk (HC.out.grown (grown0 hd none) (by simp)); have HA2 := Aside0.mk (HA.out.move0 hd); clear HC HB HA; have HC := HC2; have HB := HB2; have HA := HA2; clear HB2 HC2 HA2 hd) | (go_at_call 19; (with_reducible refine (rCanSend _ h _ _ _ b1 HA.out.R H1r.out).mono ?_); rintro e w_ ⟨rfl, hd⟩; have HB2 := Aside0.mk (below_0 HB.out hd); have HC2 := Aside0.mk (HC.out.grown (grown0 hd none) (by simp)); have HA2 := Aside0.mk (HA.out.move0 hd); clear HC HB HA; have HC := HC2; have HB := HB2; have HA := HA2; clear HB2 HC2 HA2 hd) | (go_at_call 11; (with_reducible refine (canReceiveB _ g _ _ _ _ _ b3 HC.out H3.out).mono ?_); rintro e w_ ⟨rfl, hd⟩; have HB2 := Aside0.mk (below_0 HB.out hd); have HC2 := Aside0.mk (HC.out.grown (grown0 hd none) (by simp)); have HA2 := Aside0.mk (HA.out.move0 hd); clear HC HB HA; have HC := HC2; have HB := HB2; have HA := HA2; clear HB2 HC2 HA2 hd) | (go_at_call 20; (with_reducible refine (closed _ g _ _ _ _ _ HC.out).mono ?_); rintro e w_ ⟨rfl, hd⟩; have HB2 := Aside0.mk (below_0 HB.out hd); have HC2 := Aside0.mk (HC.out.grown (grown0 hd none) (by simp)); have HA2 := Aside0.mk (HA.out.move0 hd); clear HC HB HA; have HC := HC2; have HB := HB2; have HA := HA2; clear HB2 HC2 HA2 hd) | (go_at_call 21; (with_reducible refine (drainedB _ g _ _ _ _ _ b2 HC.out H2.out).mono ?_); rintro e w_ ⟨rfl, hd⟩; have HB2 := Aside0.mk (below_0 HB.out hd); have HC2 := Aside0.mk (HC.out.grown (grown0 hd none) (by simp)); have HA2 := Aside0.mk (HA.out.move0 hd); clear HC HB HA; have HC := HC2; have HB := HB2; have HA := HA2; clear HB2 HC2 HA2 hd) | (go_at_call 22; (with_reducible refine (rDrained _ h _ _ _ b2 HA.out.R H2r.out).mono ?_); rintro e w_ ⟨rfl, hd⟩; have HB2 := Aside0.mk (below_0 HB.out hd); have HC2 := Aside0.mk (HC.out.grown (grown0 hd none) (by simp)); have HA2 := Aside0.mk (HA.out.move0 hd); clear HC HB HA; have HC := HC2; have HB := HB2; have HA := HA2; clear HB2 HC2 HA2 hd) | (go_at_call 13; (with_reducible refine (items _ g _ _ _ _ _ HC.out).mono ?_); rintro e w_ ⟨v14, rfl, ho, hb⟩; obtain ⟨A14, c14, e14⟩ := Kd.R_slice ho; rw [itemsOf_len] at e14; subst e14; have HC2 := Aside0.mk (HC.out.keep (hb.block g HC.out.lt_size)); have HA2 := Aside0.mk (HA.out.below hb); have HO14 := Aside0.mk ho; have HB2 := Aside0.mk (below_step HB.out hb); clear HC HA HB; have HC := HC2; have HA := HA2; have HB := HB2; clear HC2 HA2 HB2 ho hb) | (go_at_call 14; have r1 := Kd.R_reads' HO14.out; have r2 := r1.2.2; have r3 := r1.2.1; have r4 := HA.out.2.2.2.C; rw [itemsOf_len] at r2; have r5 := HQ.out; have r6 := HA.out.2.2.1; (with_reducible refine (intsN _ A14 c14 A c n _ r2 r3 r4 r6 HE.out HN100.out).mono ?_); clear r1 r2 r3 r4 r5 r6; rintro e w_ ⟨rfl, hd⟩; have HB2 := Aside0.mk (below_0 HB.out hd); have HC2 := Aside0.mk (HC.out.grown (grown0 hd none) (by simp)); have HA2 := Aside0.mk (HA.out.move0 hd); clear HC HB HA; have HC := HC2; have HB := HB2; have HA := HA2; clear HB2 HC2 HA2 hd))
        go_wp2
        go_roundg k1
        case measure => omega
        case rel => exact ⟨i + 1, by omega, by first | rfl | (congr 1; have := HX.out; unfold wrap64; omega), ⟨⟨⟨_, _, _, _, HC.out, HA.out.R⟩, HB.out⟩⟩⟩
    · have c0 : decide ((i : Int) < (l1.length : Int)) = false := decide_eq_false (by omega)
      go_wp2_with (first | (go_at_call 8; (with_reducible refine (awake _).mono ?_); rintro e w_ ⟨rfl, hb⟩; have HB2 := Aside0.mk (below_step HB.out hb); clear HB; have HB := HB2; clear HB2 hb))
      go_ret
      exact ⟨rfl, HB.out⟩
end Go.Proofs.Ytickgiheembcjaa.Ch
