import Derived.Test.YtickgiheembcjaaCh5
/- The reference's channel, by hand. -/
namespace Go.Proofs.Ytickgiheembcjaa.Ch
open Go.RowKit Go.Proofs.YtickgiheembcjaaW.PrintWords Go.Proofs.YtickgiheembcjaaW.PrintLast Go.Proofs.YtickgiheembcjaaW.PrintMore Go.Proofs.Ytickgiheembcjaa.PChannelSteps
set_option linter.unusedVariables false
set_option linter.unusedSimpArgs false
set_option maxRecDepth 100000
set_option maxHeartbeats 4000000
/-- A row of numbers that is read, in a block of numbers. -/
def Rd (w : World) (A : Option Addr) (l : List Int) : Prop :=
  ReadsInt w .i64 A l.length l ∧ (0 < l.length → ∃ ad cur, A = some ad ∧ w.heap[ad.block]? = some (.cells cur 3 (0, 0)))
theorem Rd.move {w w' : World} {A : Option Addr} {l : List Int} (h : Rd w A l) {row : Option Nat} (hg : w.grownBy w' row) (hne : ∀ b cur, row = some b → w.heap[b]? ≠ some (.cells cur 3 (0, 0))) : Rd w' A l := by
  obtain ⟨h1, h2⟩ := h
  have hb : ∀ ad, A = some ad → 0 < l.length → w'.heap[ad.block]? = w.heap[ad.block]? := by
    intro ad e hl
    obtain ⟨ad', cur, e', hc⟩ := h2 hl
    obtain rfl : ad' = ad := Option.some.inj (e'.symm.trans e)
    exact hg.block _ (Array.getElem?_eq_some_iff.1 hc).1 (fun e => hne _ cur e.symm hc)
  refine ⟨⟨h1.1, h1.2.1, fun hl => ?_⟩, fun hl => ?_⟩
  · obtain ⟨ad, e, hc⟩ := h1.2.2 hl
    refine ⟨ad, e, fun j hj => ?_⟩
    have e2 : (ad.add j).block = ad.block := by unfold Addr.add; split <;> rfl
    rw [World.cell?_of_block (w := w) (by rw [e2]; exact hb ad e hl)]
    exact hc j hj
  · obtain ⟨ad, cur, e, hc⟩ := h2 hl
    exact ⟨ad, cur, e, (hb ad e hl).trans hc⟩
theorem Rd.tail {w : World} {A : Option Addr} {l : List Int} {c : Nat} (h : Rd w A l) (hl : 0 < l.length) (hc : l.length ≤ c) : Rd w (if c = 1 then A else A.map (·.add 1)) (l.drop 1) := by
  have h1 := ReadsInt.drop_ h.1 1 hl hc
  refine ⟨by rw [List.length_drop]; exact h1, fun hp => ?_⟩
  rw [List.length_drop] at hp
  obtain ⟨ad, cur, rfl, hcur⟩ := h.2 hl
  rw [if_neg (by omega)]
  exact ⟨ad.add 1, cur, rfl, hcur⟩
theorem Rd.C {w : World} {A : Option Addr} {l : List Int} (h : Rd w A l) : Kd.C (Kd.int .i64) w A l.length l := Kd.C_of_reads (d := (0 : Int)) (h1 := fun _ => rfl) h.1
theorem Rd.nil (w : World) : Rd w none [] := ⟨ReadsInt.nil _ _, fun h => absurd h (Nat.lt_irrefl 0)⟩
theorem Rd.of {w : World} {B : Nat} {ok : Nat → Prop} {A : Option Addr} {n c : Nat} {l : List Int} (h : Own B ok w (.slice A n c) l) : Rd w A l := by
  have h1 := Kd.R_reads' h
  refine ⟨Kd.reads_of_C (d := (0 : Int)) h1.2.2, fun hl => ?_⟩
  obtain ⟨ad, e, _⟩ := h1.2.2.2.2 hl
  subst e
  obtain ⟨inner, ho⟩ := Kd.R_own h
  rcases ho.2 with ⟨e, _⟩ | ⟨b, cap, cur, e, hb, hc, _⟩
  · cases e
  · injection e with e1
    cases e1
    exact ⟨_, cur, rfl, hc⟩
structure IsR (w : World) (h : Nat) (cap : Nat) (items : List Int) (cl : Bool) : Prop where
  blk : ∃ A c, w.heap[h]? = some (.cells #[.int .i64 (cap : Int), .slice A items.length c, .bool cl] 37 (0, 0)) ∧ items.length ≤ c ∧ Rd w A items
theorem IsR.lt_size {w : World} {h cap : Nat} {items : List Int} {cl : Bool} (hR : IsR w h cap items cl) : h < w.heap.size := by
  obtain ⟨A, c, hb, _⟩ := hR.blk
  exact (Array.getElem?_eq_some_iff.1 hb).1
theorem IsR.move {w w' : World} {h cap : Nat} {items : List Int} {cl : Bool} (hR : IsR w h cap items cl) {row : Option Nat} (hg : w.grownBy w' row) (hh : row ≠ some h) (hne : ∀ b cur, row = some b → w.heap[b]? ≠ some (.cells cur 3 (0, 0))) : IsR w' h cap items cl := by
  obtain ⟨A, c, hb, hc, hr⟩ := hR.blk
  exact ⟨A, c, (hg.block h (Array.getElem?_eq_some_iff.1 hb).1 (Ne.symm hh)).trans hb, hc, hr.move hg hne⟩
theorem IsR.moveG {w w' : World} {h cap : Nat} {items : List Int} {cl : Bool} (hR : IsR w h cap items cl) {g : Nat} {ring : Nat → Int} {fr n cap' : Nat} {cl' : Bool} (hC : IsC w g ring fr n cap' cl') (hg : w.grownBy w' (some g)) : IsR w' h cap items cl := by
  obtain ⟨A, c, hb, hc, hr⟩ := hR.blk
  obtain ⟨h1, h2, h3, vs, h4, h5⟩ := hC
  refine hR.move hg (fun e => ?_) (fun b cur e => ?_)
  · cases e
    rw [h4] at hb
    injection hb with hb
    injection hb with _ hb
    cases hb
  · cases e
    rw [h4]
    intro e
    injection e with e
    injection e with _ e
    cases e
theorem IsR.move0 {w w' : World} {h cap : Nat} {items : List Int} {cl : Bool} (hR : IsR w h cap items cl) (hd : Drawn0 w w') : IsR w' h cap items cl := hR.move (grown0 hd none) (by simp) (fun b cur e => by cases e)
theorem IsR.below {w w' : World} {h cap : Nat} {items : List Int} {cl : Bool} (hR : IsR w h cap items cl) (hb : Below w.heap.size w w') : IsR w' h cap items cl :=
  hR.move (row := none) ⟨hb.os, hb.tape, hb.output, hb.size, fun k hk _ => hb.block k hk⟩ (by simp) (fun b cur e => by cases e)
theorem IsC.moveH {w w' : World} {h cap : Nat} {items : List Int} {cl : Bool} (hR : IsR w h cap items cl) {g : Nat} {ring : Nat → Int} {fr n cap' : Nat} {cl' : Bool} (hC : IsC w g ring fr n cap' cl') (hg : w.grownBy w' (some h)) : IsC w' g ring fr n cap' cl' := by
  obtain ⟨A, c, hb, hc, hr⟩ := hR.blk
  refine hC.grown hg (fun e => ?_)
  obtain ⟨h1, h2, h3, vs, h4, h5⟩ := hC
  cases e
  rw [h4] at hb
  injection hb with hb
  injection hb with _ hb
  cases hb
theorem cells3 {w : World} {h : Nat} {a b c : Value} {t : TypeId} (hb : w.heap[h]? = some (.cells #[a, b, c] t (0, 0))) :
    w.cell? ⟨h, 0, none⟩ = some a ∧ w.cell? ⟨h, 1, none⟩ = some b ∧ w.cell? ⟨h, 2, none⟩ = some c ∧ ∀ j, w.frozen? ⟨h, j, none⟩ = false := by
  refine ⟨?_, ?_, ?_, fun j => ?_⟩ <;> simp [World.cell?, World.frozen?, hb]
theorem rCanSend (w : World) (h cap : Nat) (items : List Int) (cl b : Bool) (hR : IsR w h cap items cl) (hb : (!cl && decide ((items.length : Int) < (cap : Int))) = b) :
    Calls Try.prog 19 #[P h] w fun e w' => e = .returned (.bool b) ∧ Drawn0 w w' := by
  subst hb
  obtain ⟨A, c, hb, hc, hr⟩ := hR.blk
  obtain ⟨h0, h1, h2, hf⟩ := cells3 hb
  clear hb hr hR hc
  cases cl <;>
  · go_enter Try.func19, Try.ntmps19
    go_wp2
    repeat (go_quiet (fail); try go_wp2)
    go_ret
    exact ⟨by first | rfl | (simp; done) | (simp [*]; done), by repeat (first | exact Drawn0.refl _ | apply Drawn0.step)⟩
theorem rDrained (w : World) (h cap : Nat) (items : List Int) (cl b : Bool) (hR : IsR w h cap items cl) (hb : (cl && (items.length : Int) == 0) = b) :
    Calls Try.prog 22 #[P h] w fun e w' => e = .returned (.bool b) ∧ Drawn0 w w' := by
  subst hb
  obtain ⟨A, c, hb, hc, hr⟩ := hR.blk
  obtain ⟨h0, h1, h2, hf⟩ := cells3 hb
  clear hb hr hR hc
  cases cl <;>
  · go_enter Try.func22, Try.ntmps22
    go_wp2
    repeat (go_quiet (fail); try go_wp2)
    go_ret
    exact ⟨by first | rfl | (simp; done) | (simp [*]; done), by repeat (first | exact Drawn0.refl _ | apply Drawn0.step)⟩
theorem IsR.shut {w : World} {h cap : Nat} {items : List Int} {cl : Bool} (hR : IsR w h cap items cl) : IsR (w.setCell ⟨h, 2, none⟩ (.bool true)) h cap items true := by
  obtain ⟨A, c, hb, hc, hr⟩ := hR.blk
  exact ⟨A, c, by rw [heap_setCell_same w h 2 _ 37 _ hb]; rfl, hc, hr.move (grownBy_cell _ _ _ _) (fun b cur e => by cases e; rw [hb]; intro e; injection e with e; injection e with _ e; cases e)⟩
theorem IsR.put {w : World} {h cap : Nat} {items l : List Int} {cl : Bool} {A : Option Addr} {c : Nat} (hR : IsR w h cap items cl) (hr : Rd w A l) (hc : l.length ≤ c) : IsR (w.setCell ⟨h, 1, none⟩ (.slice A l.length c)) h cap l cl := by
  obtain ⟨A0, c0, hb, hc0, hr0⟩ := hR.blk
  exact ⟨A, c, by rw [heap_setCell_same w h 1 _ 37 _ hb]; rfl, hc, hr.move (grownBy_cell _ _ _ _) (fun b cur e => by cases e; rw [hb]; intro e; injection e with e; injection e with _ e; cases e)⟩
theorem rClose (w : World) (h cap : Nat) (items : List Int) (hR : IsR w h cap items false) :
    Calls Try.prog 18 #[P h] w fun e w' => e = .returned (.int .i64 0) ∧ IsR w' h cap items true ∧ w.grownBy w' (some h) := by
  have HR := Aside0.mk hR
  obtain ⟨A, c, hb, hc, hr⟩ := hR.blk
  obtain ⟨h0, h1, h2, hf⟩ := cells3 hb
  clear hb hr hR hc
  go_enter Try.func18, Try.ntmps18
  go_wp2
  go_ret
  exact ⟨rfl, HR.out.shut, grownBy_cell _ _ _ _⟩
theorem rClose2 (w : World) (h cap : Nat) (items : List Int) (hR : IsR w h cap items true) :
    Calls Try.prog 18 #[P h] w fun e w' => e = .returned (.int .i64 11) ∧ Drawn0 w w' := by
  obtain ⟨A, c, hb, hc, hr⟩ := hR.blk
  obtain ⟨h0, h1, h2, hf⟩ := cells3 hb
  clear hb hr hR hc
  go_enter Try.func18, Try.ntmps18
  go_wp2
  go_ret
  exact ⟨rfl, Drawn0.refl _⟩
theorem rSendFull (w : World) (h cap : Nat) (items : List Int) (cl : Bool) (v : Int) (hR : IsR w h cap items cl) (hb : (!cl && decide ((items.length : Int) < (cap : Int))) = false) :
    Calls Try.prog 15 #[P h, .int .i64 v] w fun e w' => e = .returned (.int .i64 11) ∧ Drawn0 w w' := by
  have HR := Aside0.mk hR
  have HF := Aside0.mk hb
  clear hR hb
  go_enter Try.func15, Try.ntmps15
  go_wp2_with (go_at_call 19; (with_reducible refine (rCanSend _ h _ _ _ _ HR.out HF.out).mono ?_); rintro e w_ ⟨rfl, hd⟩; have HD := Aside0.mk hd; clear hd)
  go_ret
  exact ⟨rfl, HD.out⟩
theorem own_empty (w : World) (B : Nat) (ok : Nat → Prop) (hB : B ≤ w.heap.size) (hok : ok w.heap.size) : Own B ok (w.alloc (.cells #[] 3)) (.slice (some ⟨w.heap.size, 0, none⟩) 0 0) [] := by
  refine Kd.R_of_own (h1 := fun _ => rfl) ?_ (fun k hk => ?_)
  · refine ⟨by simp [encs], .inr ⟨w.heap.size, 0, #[], rfl, hB, heap_alloc_new w _, by simp, by simp [maxLen], by simp, by simp [encs]⟩⟩
  · simp [Value.ownBlock] at hk
    subst hk
    exact hok
theorem rSend (w : World) (h cap : Nat) (items : List Int) (v : Int) (hR : IsR w h cap items false) (hlt : items.length < cap) (hcap : cap ≤ 64) :
    Calls Try.prog 15 #[P h, .int .i64 v] w fun e w' => e = .returned (.int .i64 0) ∧ IsR w' h cap (items ++ [v]) false ∧ w.grownBy w' (some h) := by
  have HR := Aside0.mk hR
  have HF := Aside0.mk (show (!false && decide ((items.length : Int) < (cap : Int))) = true by rw [decide_eq_true (by omega)]; rfl)
  have HB := Aside0.mk (Below.refl w.heap.size w)
  have HN := Aside0.mk (And.intro hlt hcap)
  clear hR hlt hcap
  go_enter Try.func15, Try.ntmps15
  go_wp2_with (first | (go_at_call 19; (with_reducible refine (rCanSend _ h _ _ _ _ HR.out HF.out).mono ?_); rintro e w_ ⟨rfl, hd⟩; have HR2 := Aside0.mk (HR.out.move0 hd); have HD := Aside0.mk hd; clear HR; have HR := HR2; clear HR2 hd; obtain ⟨A, c, hb, hc, hr⟩ := HR.out.blk; obtain ⟨h0, h1, h2, hf⟩ := cells3 hb; have HA := Aside0.mk hr; have k1 := (World.cell?_of_block (w := w_) (a := ⟨h, 1, none⟩) (Below.heap_alloc w_ (.cells #[] 3) h HR.out.lt_size)).trans h1; clear hb hc hr h0 h1 h2 hf) | (at_builtin; refine rowInts (w0 := w_) rfl w_.heap.size (.tmp 9) (.tmp 13) rfl (.slice (some ⟨w_.heap.size, 0, none⟩) 0 0) [] items A items.length c (fun _ => True) rfl rfl (fun _ _ => trivial) (own_empty _ _ _ (Nat.le_refl _) trivial) ((HA.out.move (World.grownBy_alloc _ _ none) (by intro b cur e; cases e)).C) ((Below.refl _ _).alloc (Nat.le_refl _) _) (by simp) (by have := HN.out; simp; omega) ?_; intro v1 w1 ho hb hg hat; rw [List.nil_append] at ho; have HO1 := Aside0.mk ho; have HW1 := Aside0.mk hb; clear ho hb hg hat HA k1) | (at_builtin; refine listInts (w0 := w_) rfl w_.heap.size (.tmp 14) (.tmp 16) rfl v1 items v (fun _ => True) rfl rfl rfl (fun _ _ => trivial) HO1.out HW1.out (below_size HW1.out) (by have := HN.out; omega) ?_; intro v2 w2 ho hb hg hat; obtain ⟨A2, c2, e2⟩ := Kd.R_slice ho; subst e2; have HO2 := Aside0.mk ho; have HW2 := Aside0.mk hb; obtain ⟨A, c, hbk, hc, hr⟩ := (HR.out.below hb).blk; obtain ⟨h0, h1, h2, hf⟩ := cells3 hbk; clear ho hb hg hat HO1 HW1 hbk hc hr))
  go_ret
  exact ⟨rfl, by have h := (HR.out.below HW2.out).put (Rd.of HO2.out) (Kd.R_reads' HO2.out).2.1; rw [List.length_append, List.length_singleton] at h; exact h, (grown0 HD.out _).trans (World.grownBy.trans ⟨HW2.out.os, HW2.out.tape, HW2.out.output, HW2.out.size, fun k hk _ => HW2.out.block k hk⟩ (grownBy_cell _ _ _ _))⟩
theorem rReceiveNone (w : World) (h cap : Nat) (hR : IsR w h cap [] true) :
    Calls Try.prog 16 #[P h] w fun e w' => e = .returned (.tuple #[.int .i64 0, .int .i64 15]) ∧ Drawn0 w w' := by
  obtain ⟨A, c, hb, hc, hr⟩ := hR.blk
  obtain ⟨h0, h1, h2, hf⟩ := cells3 hb
  replace h1 : w.cell? ⟨h, 1, none⟩ = some (.slice A 0 c) := h1
  clear hb hr hR hc
  go_enter Try.func16, Try.ntmps16
  go_wp2
  go_ret2
  exact ⟨rfl, Drawn0.refl _⟩
theorem rReceiveLater (w : World) (h cap : Nat) (hR : IsR w h cap [] false) :
    Calls Try.prog 16 #[P h] w fun e w' => e = .returned (.tuple #[.int .i64 0, .int .i64 11]) ∧ Drawn0 w w' := by
  obtain ⟨A, c, hb, hc, hr⟩ := hR.blk
  obtain ⟨h0, h1, h2, hf⟩ := cells3 hb
  replace h1 : w.cell? ⟨h, 1, none⟩ = some (.slice A 0 c) := h1
  clear hb hr hR hc
  go_enter Try.func16, Try.ntmps16
  go_wp2
  go_ret2
  exact ⟨rfl, Drawn0.refl _⟩
theorem rReceive (w : World) (h cap : Nat) (x : Int) (items : List Int) (cl : Bool) (hR : IsR w h cap (x :: items) cl) (hl : items.length ≤ 64) :
    Calls Try.prog 16 #[P h] w fun e w' => e = .returned (.tuple #[.int .i64 x, .int .i64 0]) ∧ IsR w' h cap items cl ∧ w.grownBy w' (some h) := by
  have HR := Aside0.mk hR
  obtain ⟨A, c, hb, hc, hr⟩ := hR.blk
  obtain ⟨h0, h1, h2, hf⟩ := cells3 hb
  obtain ⟨n, hn⟩ : ∃ n, (x :: items).length = n := ⟨_, rfl⟩
  obtain ⟨ad, rfl, hcell⟩ := hr.1.2.2 (by simp)
  have hx : w.cell? ad = some (.int .i64 x) := by have := hcell 0 (by simp); simpa [Addr.add] using this
  rw [hn] at h1 hc
  have hn0 : ((n : Int) == 0) = false := beq_eq_false_iff_ne.mpr (by have : n = items.length + 1 := hn.symm; omega)
  have HT := Aside0.mk (hr.tail (c := c) (by simp) (by rw [hn]; exact hc))
  have hn1 : (1 : Nat) ≤ n := by have : n = items.length + 1 := hn.symm; omega
  have HN := Aside0.mk hn
  have HNC := Aside0.mk hc
  have p1 : ((0 : Int) < (n : Int)) = True := eq_true (by omega)
  clear hb hr hR hn hcell
  by_cases hc1 : c = 1
  · subst hc1
    obtain rfl : n = 1 := by omega
    go_enter Try.func16, Try.ntmps16
    go_wp2
    go_ret2
    have hi : items = [] := by have := HN.out; simpa using this
    subst hi
    exact ⟨rfl, HR.out.put (l := []) (A := some ad) (c := 0) ⟨⟨rfl, by simp, fun h => absurd h (Nat.lt_irrefl 0)⟩, fun h => absurd h (Nat.lt_irrefl 0)⟩ (Nat.zero_le _), grownBy_cell _ _ _ _⟩
  · go_enter Try.func16, Try.ntmps16
    go_wp2
    go_ret2
    have hT : Rd w (some (ad.add 1)) items := by have h := HT.out; rw [if_neg hc1] at h; exact h
    obtain rfl : n = items.length + 1 := HN.out.symm
    exact ⟨rfl, HR.out.put (l := items) (A := some (ad.add 1)) (c := c - 1) hT (by have := HNC.out; omega), grownBy_cell _ _ _ _⟩
end Go.Proofs.Ytickgiheembcjaa.Ch
