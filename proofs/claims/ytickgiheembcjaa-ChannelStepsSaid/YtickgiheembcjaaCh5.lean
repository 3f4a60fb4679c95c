import Derived.Test.YtickgiheembcjaaCh3
/- ChannelOrder, by hand. -/
namespace Go.Proofs.Ytickgiheembcjaa.Ch
open Go.RowKit Go.Proofs.YtickgiheembcjaaW.PrintWords Go.Proofs.YtickgiheembcjaaW.PrintLast Go.Proofs.YtickgiheembcjaaW.PrintMore Go.Proofs.Ytickgiheembcjaa.PChannelSteps
set_option linter.unusedVariables false
set_option linter.unusedSimpArgs false
set_option maxRecDepth 100000
set_option maxHeartbeats 4000000
/-- Two rows of the call's own, apart from each other and from block g. -/
def Two (B g : Nat) (w : World) (u v : Value) (xs ys : List Int) : Prop :=
  Own B (fun k => k ≠ g ∧ some k ≠ v.ownBlock) w u xs ∧ Own B (fun k => k ≠ g ∧ some k ≠ u.ownBlock) w v ys
theorem Two.swap {B g : Nat} {w : World} {u v : Value} {xs ys : List Int} (h : Two B g w u v xs ys) : Two B g w v u ys xs := ⟨h.2, h.1⟩
theorem Two.moved {B g : Nat} {w w' : World} {u v : Value} {xs ys : List Int} (h : Two B g w u v xs ys) (hg : w.grownBy w' (some g)) : Two B g w' u v xs ys :=
  ⟨Kd.R_grown h.1 hg (fun k hk e => hk.1 (Option.some.inj e)), Kd.R_grown h.2 hg (fun k hk e => hk.1 (Option.some.inj e))⟩
theorem Two.grown {B g : Nat} {w w' : World} {u v : Value} {xs ys : List Int} (h : Two B g w u v xs ys) (hg : w.grownBy w' none) : Two B g w' u v xs ys :=
  ⟨Kd.R_grown h.1 hg (fun k hk e => by cases e), Kd.R_grown h.2 hg (fun k hk e => by cases e)⟩
theorem Two.fresh {B g : Nat} {w : World} {u v : Value} {xs ys : List Int} (h : Two B g w u v xs ys) (hg : g < w.heap.size) : ∀ k, w.heap.size ≤ k → k ≠ g ∧ some k ≠ v.ownBlock :=
  fun k hk => ⟨by omega, fun e => by have := Kd.R_lt h.2 k e.symm; omega⟩
theorem Two.app {B g : Nat} {w w1 : World} {u u1 v : Value} {xs ys zs : List Int} (h : Two B g w u v xs ys) (ho : Own B (fun k => k ≠ g ∧ some k ≠ v.ownBlock) w1 u1 zs) (hg : w.grownBy w1 u.ownBlock)
    (hat : u1.ownBlock = u.ownBlock ∨ ∃ b, u1.ownBlock = some b ∧ w.heap.size ≤ b) : Two B g w1 u1 v zs ys :=
  ⟨ho, Kd.R_after (ok := fun k => k ≠ g) h.2 hg hat⟩
theorem Two.ne {B g : Nat} {w : World} {u v : Value} {xs ys : List Int} (h : Two B g w u v xs ys) : some g ≠ u.ownBlock := fun e => (h.1.1 g e.symm).1 rfl
theorem Two.below {B g : Nat} {w w' : World} {u v : Value} {xs ys : List Int} (h : Two B g w u v xs ys) (hb : Below w.heap.size w w') : Two B g w' u v xs ys := ⟨Kd.R_below h.1 hb, Kd.R_below h.2 hb⟩
theorem Two.nil (B g : Nat) (w : World) : Two B g w (.slice none 0 0) (.slice none 0 0) [] [] := ⟨Kd.R_nil _ _ _ _ _, Kd.R_nil _ _ _ _ _⟩
theorem modN (a : Int) (m : Nat) (h0 : 0 < m) (h1 : m ≤ 1000) : ∃ r : Nat, r < m ∧ ndjqkeep_Mod.f a m = some (r : Int) := by
  unfold ndjqkeep_Mod.f
  rw [if_neg (by omega)]
  have hb := Int.emod_nonneg a (show (m : Int) ≠ 0 by omega)
  have hc := Int.emod_lt_of_pos a (show (0 : Int) < m by omega)
  have ht : Int.tmod a m = a % m ∨ Int.tmod a m = a % m - m ∧ a % m ≠ 0 := by
    rcases Int.le_total 0 a with h | h
    · exact .inl (Int.tmod_eq_emod_of_nonneg h)
    · rw [Int.tmod_eq_emod]
      split
      · exact .inl (by omega)
      · rename_i hn
        rw [show ((m : Int).natAbs : Int) = m by simp]
        refine .inr ⟨rfl, fun h0 => hn (.inr (Int.dvd_of_emod_eq_zero h0))⟩
  obtain ⟨r, hr⟩ : ∃ r : Nat, (r : Int) = a % m := ⟨(a % m).toNat, by omega⟩
  refine ⟨r, by omega, ?_⟩
  rcases ht with ht | ⟨ht, hne⟩
  · rw [if_neg (by omega), ht, hr]
  · rw [if_pos (by omega), ht]
    unfold wrap64
    congr 1
    omega
/-- What the law keeps true: the received numbers, followed by the items, are those that were sent. -/
structure Inv (ring : Nat → Int) (fr n i : Nat) (sent got : List Int) : Prop where
  eq : got ++ itemsOf ring fr n = sent
  pos : ∀ x ∈ sent, 0 ≤ x
  le : sent.length ≤ i
theorem itemsOf_put (ring : Nat → Int) (fr n : Nat) (v : Int) (hn : n < 64) : ∀ j, j ≤ n → itemsOf (put ring ((fr + n) % 64) v) fr j = itemsOf ring fr j
  | 0, _ => rfl
  | j + 1, hj => by
    rw [itemsOf, itemsOf, itemsOf_put ring fr n v hn j (by omega), put, if_neg (by omega)]
theorem itemsOf_cons (ring : Nat → Int) (fr : Nat) (hf : fr < 64) : ∀ n, itemsOf ring fr (n + 1) = ring fr :: itemsOf ring ((fr + 1) % 64) n
  | 0 => by
    show [] ++ [ring ((fr + 0) % 64)] = [ring fr]
    rw [show (fr + 0) % 64 = fr by omega]; rfl
  | n + 1 => by
    rw [itemsOf, itemsOf_cons ring fr hf n, itemsOf, List.cons_append, show (fr + (n + 1)) % 64 = ((fr + 1) % 64 + n) % 64 by omega]
theorem Inv.len {ring : Nat → Int} {fr n i : Nat} {sent got : List Int} (h : Inv ring fr n i sent got) : got.length + n = sent.length := by
  have := congrArg List.length h.eq
  rw [List.length_append, itemsOf_len] at this
  exact this
theorem Inv.stay {ring : Nat → Int} {fr n i : Nat} {sent got : List Int} (h : Inv ring fr n i sent got) : Inv ring fr n (i + 1) sent got := ⟨h.eq, h.pos, by have := h.le; omega⟩
theorem Inv.send {ring : Nat → Int} {fr n i : Nat} {sent got : List Int} (h : Inv ring fr n i sent got) (hn : n < 64) : Inv (put ring ((fr + n) % 64) (i : Int)) fr (n + 1) (i + 1) (sent ++ [(i : Int)]) got := by
  refine ⟨?_, fun x hx => ?_, by have := h.le; rw [List.length_append]; simp; omega⟩
  · rw [itemsOf, itemsOf_put ring fr n _ hn n (Nat.le_refl _), ← List.append_assoc, h.eq, put, if_pos rfl]
  · rcases List.mem_append.1 hx with hx | hx
    · exact h.pos x hx
    · rw [List.mem_singleton.1 hx]; omega
theorem Inv.take {ring : Nat → Int} {fr n i : Nat} {sent got : List Int} (h : Inv ring fr n i sent got) (hf : fr < 64) (hn : 0 < n) : Inv ring ((fr + 1) % 64) (n - 1) (i + 1) sent (got ++ [ring fr]) := by
  obtain ⟨n, rfl⟩ : ∃ j, n = j + 1 := ⟨n - 1, by omega⟩
  refine ⟨?_, h.pos, by have := h.le; omega⟩
  rw [Nat.add_sub_cancel, List.append_assoc]
  have := h.eq
  rw [itemsOf_cons ring fr hf n] at this
  exact this
theorem canReceiveB (w : World) (g : Nat) (ring : Nat → Int) (fr n cap : Nat) (cl b : Bool) (h : IsC w g ring fr n cap cl) (hb : decide (0 < (n : Int)) = b) :
    Calls Try.prog 11 #[P g] w fun e w' => e = .returned (.bool b) ∧ Drawn0 w w' := by
  subst hb
  exact canReceive w g ring fr n cap cl h
theorem rowInts {ops : Array Oper} {rest : List Oper} {o : Oper} {a : Act} {Q : Exit → Act → World → Prop} {w0 W : World} (hgd : o.guard = none) (base : Nat) (s x : Operand)
    (ho : o.op = .call { callee := .builtin .append, args := #[s, x], argTypes := #[22, 22] }) (v : Value) (xs ys : List Int) (A : Option Addr) (m c : Nat) (ok : Nat → Prop) (hs : a.eval s = v) (hx : a.eval x = .slice A m c)
    (hfresh : ∀ k, W.heap.size ≤ k → ok k) (HO : Own base ok W v xs) (HR : Kd.C (Kd.int .i64) W A m ys) (HB : Below base w0 W) (hbase : base ≤ W.heap.size) (hl : xs.length + m ≤ 17592186044416)
    (h : ∀ v1 w1, Own base ok w1 v1 (xs ++ ys) → Below base w0 w1 → W.grownBy w1 v.ownBlock → (v1.ownBlock = v.ownBlock ∨ ∃ b, v1.ownBlock = some b ∧ W.heap.size ≤ b) → wpList Try.prog ops Q rest (a.put o.dst v1) w1) :
    wpList Try.prog ops Q (o :: rest) a W :=
  Kd.R_append_row (P := Try.prog) (ops := ops) (o := o) (a := a) (Q := Q) (w0 := w0) (W := W) (h1 := fun _ => rfl) (Value.int .i64) (0 : Int) base hgd s x 22 3 (.int .i64 0) 8 ho Try.underlying22 inf3 rfl (by decide) v xs ys A m c ok hs hx hfresh HO HR HB hbase (by omega) h
theorem ints_loop (l : List Int) (hl : l.length ≤ 4611686018427387904) : ∀ (d : Nat) (i : Int) (k : Nat), 0 ≤ i → (l.length : Int) - i ≤ d → d < k → i ≤ l.length → ndjqkeep_Ints.l0 k l l i = some true
  | 0, i, k, h0, hd, hk, hi => by
    obtain ⟨k, rfl⟩ : ∃ j, k = j + 1 := ⟨k - 1, by omega⟩
    simp only [ndjqkeep_Ints.l0]
    rw [if_neg (by omega)]
  | d + 1, i, k, h0, hd, hk, hi => by
    obtain ⟨k, rfl⟩ : ∃ j, k = j + 1 := ⟨k - 1, by omega⟩
    simp only [ndjqkeep_Ints.l0]
    by_cases c : i < (l.length : Int)
    · rw [if_pos c, if_pos h0, if_pos c, if_pos trivial, show wrap64 (i + 1) = i + 1 by unfold wrap64; omega]
      exact ints_loop l hl d (i + 1) k (by omega) (by omega) (by omega) (by omega)
    · rw [if_neg c]
theorem ints_same (l : List Int) (hl : l.length ≤ 4611686018427387904) (k : Nat) (hk : l.length < k) : ndjqkeep_Ints.f k l l = some true := by
  unfold ndjqkeep_Ints.f
  rw [if_pos rfl]
  exact ints_loop l hl l.length 0 k (by omega) (by omega) hk (by omega)
def Blk14 (w : World) (g B : Nat) (A : Option Addr) (n : Nat) : Prop :=
  0 < n → ∃ b cur, A = some ⟨b, 0, none⟩ ∧ g < b ∧ B ≤ b ∧ w.heap[b]? = some (.cells cur 3 (0, 0)) ∧ n ≤ cur.size
theorem own_blk {w : World} {B B' g : Nat} {ok : Nat → Prop} {A : Option Addr} {n c : Nat} {l : List Int} (h : Own B ok w (.slice A n c) l) (hk : ∀ k, (Value.slice A n c).ownBlock = some k → g < k ∧ B' ≤ k) : Blk14 w g B' A n := by
  intro hn
  obtain ⟨inner, ho⟩ := Kd.R_own h
  have hl := (Kd.R_reads' h).1
  rcases ho.2 with ⟨e, _⟩ | ⟨b, cap, cur, e, hb, hc, h1, h2, h3, h4⟩
  · injection e with e1 e2
    omega
  · injection e with e1 e2
    subst e1
    refine ⟨b, cur, rfl, (hk b (by simp [Value.ownBlock])).1, (hk b (by simp [Value.ownBlock])).2, hc, ?_⟩
    have : (Kd.int .i64).sz = 1 := rfl
    rw [this] at h3
    omega
theorem items_pos {ring : Nat → Int} {fr n i : Nat} {sent got : List Int} (h : Inv ring fr n i sent got) : ∀ j : Nat, j < n → 0 ≤ rd (itemsOf ring fr n) j := by
  intro j hj
  have hl := itemsOf_len ring fr n
  have : rd (itemsOf ring fr n) j = (itemsOf ring fr n)[j]'(by omega) := by
    unfold rd
    rw [Int.toNat_natCast, List.getD_eq_getElem?_getD, List.getElem?_eq_getElem (by omega)]; rfl
  rw [this]
  exact h.pos _ (by rw [← h.eq]; exact List.mem_append_right _ (List.getElem_mem _))
theorem channelOrder (cap0 : Int) (A1 : Option Addr) (c1 : Nat) (l1 : List Int) (w : World) (hr1 : Kd.C (Kd.int .i64) w A1 l1.length l1) (hc1 : l1.length ≤ c1) (hm1 : l1.length ≤ 17592186044416) :
    Calls Try.prog 3 #[.int .i64 cap0, .slice A1 l1.length c1] w fun e w' => e = .returned (.bool true) ∧ Below w.heap.size w w' := by
  have HB := Aside0.mk (Below.refl w.heap.size w)
  obtain ⟨m, hm, hmod⟩ := modN cap0 64 (by omega) (by omega)
  have HM := Aside0.mk (show ndjqkeep_Mod.f cap0 64 = some (m : Int) from hmod)
  have hwr : IntKind.i64.wrap ((m : Int) + 1) = (m : Int) + 1 := by rw [i64_w]; unfold Go.RowKit.wrap64; omega
  have HN := Aside0.mk (fun w => new' w ((m : Int) + 1) (m + 1) rfl (by omega) (by omega))
  have HR1 := Aside0.mk hr1
  clear hmod hr1
  go_enter Try.func3, Try.ntmps3
  by_cases hbig : 100 < l1.length
  · have hb0 : decide ((l1.length : Int) > 100) = true := decide_eq_true (by omega)
    go_wp2_with (first | (go_at_call 7; (with_reducible refine (ndjqkeep_Mod.calls _ _ _ _ HM.out).mono ?_); rintro e w_ ⟨rfl, hd⟩; have HB2 := Aside0.mk (below_0 HB.out hd); clear HB; have HB := HB2; clear HB2 hd) | (go_at_call 6; (with_reducible refine (HN.out _).mono ?_); rintro e w1 ⟨g, rfl, hC, hg, hle⟩; have HC := Aside0.mk hC; have HL := Aside0.mk (Nat.le_trans (below_size HB.out) hle); have HB2 := Aside0.mk (below_n HB.out (below_size HB.out) hg); clear HB; have HB := HB2; clear HB2 hC hg hle HN) | (go_at_call 8; (with_reducible refine (awake _).mono ?_); rintro e w_ ⟨rfl, hb⟩; have HB2 := Aside0.mk (below_step HB.out hb); clear HB; have HB := HB2; clear HB2 hb))
    go_ret
    exact ⟨rfl, HB.out⟩
  have hb0 : decide ((l1.length : Int) > 100) = false := decide_eq_false (by omega)
  go_wp2_with (first | (go_at_call 7; (with_reducible refine (ndjqkeep_Mod.calls _ _ _ _ HM.out).mono ?_); rintro e w_ ⟨rfl, hd⟩; have HB2 := Aside0.mk (below_0 HB.out hd); clear HB; have HB := HB2; clear HB2 hd) | (go_at_call 6; (with_reducible refine (HN.out _).mono ?_); rintro e w1 ⟨g, rfl, hC, hg, hle⟩; have HC := Aside0.mk hC; have HL := Aside0.mk (Nat.le_trans (below_size HB.out) hle); have HB2 := Aside0.mk (below_n HB.out (below_size HB.out) hg); clear HB; have HB := HB2; clear HB2 hC hg hle HN))
  go_loopg [7, 8, 9] l1.length (fun kq v7 v8 v9 w' => ∃ (i fr n : Nat) (ring : Nat → Int) (sent got : List Int), kq + i = l1.length ∧ v9 = .int .i64 (i : Int) ∧ Aside0 (IsC w' g ring fr n (m + 1) false ∧ Inv ring fr n i sent got ∧ Two w.heap.size g w' v7 v8 sent got) ∧ Aside0 (Below w.heap.size w w'))
  case atStart => exact ⟨0, 0, 0, _, [], [], by omega, rfl, ⟨HC.out, ⟨rfl, fun x hx => by simp at hx, Nat.le_refl _⟩, Two.nil _ _ _⟩, HB⟩
  case round =>
    clear HC HB
    obtain ⟨i, fr, n, ring, sent, got, hi, rfl, ⟨hC, hI, hT⟩, HB⟩ := hrel
    have HC := Aside0.mk hC
    have HI := Aside0.mk hI
    have HT := Aside0.mk hT
    clear hC hI hT
    by_cases c : i < l1.length
    · have c0 : decide ((i : Int) < (l1.length : Int)) = true := decide_eq_true (by omega)
      obtain ⟨k1, rfl⟩ : ∃ k1, gk = k1 + 1 := ⟨gk - 1, by omega⟩
      obtain ⟨ad, e1, hx⟩ := Kd.at_int (Kd.C_below HR1.out HB.out) (i : Int) (by omega) (by omega)
      cases e1
      have p1 : (0 ≤ (i : Int)) = True := eq_true (by omega)
      have q1 : ((i : Int) < (l1.length : Int)) = True := eq_true (by omega)
      obtain ⟨x, hxx⟩ : ∃ x, rd l1 (i : Int) = x := ⟨_, rfl⟩
      rw [hxx] at hx
      replace hx : wr.cell? (ad.add i) = some (.int .i64 x) := by simpa using hx
      have HX := Aside0.mk c
      have HC0 := Aside0.mk HC.out.lt
      clear c hxx
      have hb1 := hbig
      by_cases hev : Int.tmod x 2 = 0
      · have he : (Int.tmod x 2 == 0) = true := by simpa using hev
        clear hev
        by_cases hn : n < m + 1
        · have HF := Aside0.mk (show (!false && decide ((n : Int) < ((m + 1 : Nat) : Int))) = true by rw [decide_eq_true (by omega)]; rfl)
          have HN := Aside0.mk hn
          clear hn
          go_wp2_with (first | (go_at_call 9; (with_reducible refine (canSendB _ g _ _ _ _ _ _ HC.out HF.out).mono ?_); rintro e w_ ⟨rfl, hd⟩; have HT2 := Aside0.mk (HT.out.grown (grown0 hd none)); clear HT; have HT := HT2; clear HT2; have HB2 := Aside0.mk (below_0 HB.out hd); have HC2 := Aside0.mk (HC.out.grown (grown0 hd none) (by simp)); clear HC HB; have HC := HC2; have HB := HB2; clear HB2 HC2 hd) | (go_at_call 10; (with_reducible refine (send _ g _ _ _ _ HC.out HN.out _).mono ?_); rintro e w_ ⟨rfl, hC, hg⟩; have HT2 := Aside0.mk (HT.out.moved hg); clear HT; have HT := HT2; clear HT2; have HB2 := Aside0.mk (below_g HB.out (below_size HB.out) hg HL.out); clear HC HB; have HC := Aside0.mk hC; have HB := HB2; clear HB2 hC hg) | (at_builtin; refine listInts (w0 := w) rfl w.heap.size (.tmp 56) (.tmp 58) rfl u7 sent (i : Int) (fun k => k ≠ g ∧ some k ≠ (u8).ownBlock) rfl rfl rfl (HT.out.fresh HC.out.lt_size) HT.out.1 HB.out (below_size HB.out) (by have h1 := HI.out.le; have h2 := HX.out; omega) ?_; intro v1 w1 ho hb hg hat; have HT2 := Aside0.mk (HT.out.app ho hg hat); have HC2 := Aside0.mk (HC.out.grown hg HT.out.ne); clear HT HC HB; have HT := HT2; have HC := HC2; have HB := Aside0.mk hb; clear HT2 HC2 ho hb hg hat))
          go_roundg k1
          case measure => omega
          case rel => exact ⟨i + 1, fr, n + 1, _, _, got, by omega, by first | rfl | (simp; done), ⟨HC.out, HI.out.send (by have := HN.out; omega), HT.out⟩, HB⟩
        · have HF := Aside0.mk (show (!false && decide ((n : Int) < ((m + 1 : Nat) : Int))) = false by rw [decide_eq_false (by omega)]; rfl)
          clear hn
          go_wp2_with (first | (go_at_call 9; (with_reducible refine (canSendB _ g _ _ _ _ _ _ HC.out HF.out).mono ?_); rintro e w_ ⟨rfl, hd⟩; have HT2 := Aside0.mk (HT.out.grown (grown0 hd none)); clear HT; have HT := HT2; clear HT2; have HB2 := Aside0.mk (below_0 HB.out hd); have HC2 := Aside0.mk (HC.out.grown (grown0 hd none) (by simp)); clear HC HB; have HC := HC2; have HB := HB2; clear HB2 HC2 hd) | (go_at_call 10; (with_reducible refine (sendFull _ g _ _ _ _ _ HC.out HF.out _).mono ?_); rintro e w_ ⟨rfl, hd⟩; have HT2 := Aside0.mk (HT.out.grown (grown0 hd none)); clear HT; have HT := HT2; clear HT2; have HB2 := Aside0.mk (below_0 HB.out hd); have HC2 := Aside0.mk (HC.out.grown (grown0 hd none) (by simp)); clear HC HB; have HC := HC2; have HB := HB2; clear HB2 HC2 hd))
          go_roundg k1
          case measure => omega
          case rel => exact ⟨i + 1, fr, n, _, _, got, by omega, by first | rfl | (simp; done), ⟨HC.out, HI.out.stay, HT.out⟩, HB⟩
      · have he : (Int.tmod x 2 == 0) = false := by simpa using hev
        clear hev
        by_cases hn : 0 < n
        · have HF := Aside0.mk (show decide (0 < (n : Int)) = true from decide_eq_true (by omega))
          have HP := Aside0.mk hn
          clear hn
          go_wp2_with (first | (go_at_call 11; (with_reducible refine (canReceiveB _ g _ _ _ _ _ _ HC.out HF.out).mono ?_); rintro e w_ ⟨rfl, hd⟩; have HT2 := Aside0.mk (HT.out.grown (grown0 hd none)); clear HT; have HT := HT2; clear HT2; have HB2 := Aside0.mk (below_0 HB.out hd); have HC2 := Aside0.mk (HC.out.grown (grown0 hd none) (by simp)); clear HC HB; have HC := HC2; have HB := HB2; clear HB2 HC2 hd) | (go_at_call 12; (with_reducible refine (receive _ g _ _ _ _ _ HC.out HP.out).mono ?_); rintro e w_ ⟨rfl, hC, hg⟩; have HT2 := Aside0.mk (HT.out.moved hg); clear HT; have HT := HT2; clear HT2; have HB2 := Aside0.mk (below_g HB.out (below_size HB.out) hg HL.out); clear HC HB; have HC := Aside0.mk hC; have HB := HB2; clear HB2 hC hg) | (at_builtin; refine listInts (w0 := w) rfl w.heap.size (.tmp 72) (.tmp 74) rfl u8 got (ring fr) (fun k => k ≠ g ∧ some k ≠ (u7).ownBlock) rfl rfl rfl (HT.out.swap.fresh HC.out.lt_size) HT.out.2 HB.out (below_size HB.out) (by have h1 := HI.out.le; have h2 := HX.out; have h3 := HI.out.len; omega) ?_; intro v1 w1 ho hb hg hat; have HT2 := Aside0.mk ((HT.out.swap.app ho hg hat).swap); have HC2 := Aside0.mk (HC.out.grown hg HT.out.swap.ne); clear HT HC HB; have HT := HT2; have HC := HC2; have HB := Aside0.mk hb; clear HT2 HC2 ho hb hg hat))
          go_roundg k1
          case measure => omega
          case rel => exact ⟨i + 1, _, _, _, _, _, by omega, by first | rfl | (simp; done), ⟨HC.out, HI.out.take HC0.out HP.out, HT.out⟩, HB⟩
        · obtain rfl : n = 0 := by omega
          have HF := Aside0.mk (show decide (0 < ((0 : Nat) : Int)) = false by rfl)
          clear hn
          go_wp2_with (first | (go_at_call 11; (with_reducible refine (canReceiveB _ g _ _ _ _ _ _ HC.out HF.out).mono ?_); rintro e w_ ⟨rfl, hd⟩; have HT2 := Aside0.mk (HT.out.grown (grown0 hd none)); clear HT; have HT := HT2; clear HT2; have HB2 := Aside0.mk (below_0 HB.out hd); have HC2 := Aside0.mk (HC.out.grown (grown0 hd none) (by simp)); clear HC HB; have HC := HC2; have HB := HB2; clear HB2 HC2 hd) | (go_at_call 12; (with_reducible refine (receiveLater _ g _ _ _ HC.out).mono ?_); rintro e w_ ⟨rfl, hd⟩; have HT2 := Aside0.mk (HT.out.grown (grown0 hd none)); clear HT; have HT := HT2; clear HT2; have HB2 := Aside0.mk (below_0 HB.out hd); have HC2 := Aside0.mk (HC.out.grown (grown0 hd none) (by simp)); clear HC HB; have HC := HC2; have HB := HB2; clear HB2 HC2 hd))
          go_roundg k1
          case measure => omega
          case rel => exact ⟨i + 1, fr, 0, _, _, got, by omega, by first | rfl | (simp; done), ⟨HC.out, HI.out.stay, HT.out⟩, HB⟩
    · have c0 : decide ((i : Int) < (l1.length : Int)) = false := decide_eq_false (by omega)
      have hgt : decide ((n : Int) > (m : Int) + 1) = false := decide_eq_false (by have := HC.out.ln; omega)
      have HQ := Aside0.mk (ints_same sent (by have := HI.out.le; omega) (sent.length + 1) (by omega))
      obtain ⟨A7, c7, e7⟩ := Kd.R_slice HT.out.1
      subst e7
      go_wp2_with (first | (go_at_call 13; (with_reducible refine (items _ g _ _ _ _ _ HC.out).mono ?_); rintro e w_ ⟨v14, rfl, ho, hb⟩; obtain ⟨A14, c14, e14⟩ := Kd.R_slice ho; rw [itemsOf_len] at e14; subst e14; have HC2 := Aside0.mk (HC.out.keep (hb.block g HC.out.lt_size)); have HT2 := Aside0.mk (HT.out.below hb); have HG14 := Aside0.mk (fun k hk => (⟨Nat.lt_of_lt_of_le HC.out.lt_size (Kd.R_base ho k hk), Nat.le_trans (below_size HB.out) (Kd.R_base ho k hk)⟩ : g < k ∧ w.heap.size ≤ k)); have HO14 := Aside0.mk (Kd.R_lower (Kd.R_new' ho (Kd.R_lt HT.out.2)) (below_size HB.out)); have HB2 := Aside0.mk (below_step HB.out hb); clear HC HT HB; have HC := HC2; have HT := HT2; have HB := HB2; clear HC2 HT2 HB2 ho hb) | (go_at_call 7; (with_reducible refine (ndjqkeep_Mod.calls _ _ _ _ HM.out).mono ?_); rintro e w_ ⟨rfl, hd⟩; have HO2 := Aside0.mk (Kd.R_grown HO14.out (grown0 hd none) (fun k hk e => by cases e)); clear HO14; have HO14 := HO2; clear HO2; have HT2 := Aside0.mk (HT.out.grown (grown0 hd none)); clear HT; have HT := HT2; clear HT2; have HB2 := Aside0.mk (below_0 HB.out hd); have HC2 := Aside0.mk (HC.out.grown (grown0 hd none) (by simp)); clear HC HB; have HC := HC2; have HB := HB2; clear HB2 HC2 hd) | ((refine gate_guard (by rfl) ?_; dsimp only); at_builtin; refine rowInts (w0 := w) rfl w.heap.size (.tmp 85) (.tmp 86) rfl u8 got (itemsOf ring fr n) A14 n c14 (fun k => k ≠ g ∧ some k ≠ (Value.slice A7 sent.length c7).ownBlock) rfl rfl (HT.out.swap.fresh HC.out.lt_size) HT.out.2 (by have h := (Kd.R_reads' HO14.out).2.2; rw [itemsOf_len] at h; exact h) HB.out (below_size HB.out) (by have h1 := HI.out.le; have h2 := HI.out.len; omega) ?_; intro v1 w1 ho hb hg hat; rw [HI.out.eq] at ho; have HT2 := Aside0.mk (HT.out.swap.app ho hg hat); have HC2 := Aside0.mk (HC.out.grown hg HT.out.swap.ne); have HO2 := Aside0.mk (Kd.R_grown HO14.out hg (fun k hk => hk.2)); obtain ⟨A9, c9, e9⟩ := Kd.R_slice ho; subst e9; clear HT HC HB HO14; have HT := HT2; have HC := HC2; have HO14 := HO2; have HB := Aside0.mk hb; clear HT2 HC2 HO2 ho hb hg hat) | (go_at_call 14; have r1 := Kd.R_reads' HT.out.1; have r2 := Kd.R_reads' HT.out.2; (with_reducible refine (ndjqkeep_Ints.calls (sent.length + 1) _ _ sent _ _ sent true _ r1.2.2 r1.2.1 r2.2.2 r2.2.1 HQ.out).mono ?_); clear r1 r2; rintro e w_ ⟨rfl, hd⟩; have HO2 := Aside0.mk (Kd.R_grown HO14.out (grown0 hd none) (fun k hk e => by cases e)); clear HO14; have HO14 := HO2; clear HO2; have HB2 := Aside0.mk (below_0 HB.out hd); have HC2 := Aside0.mk (HC.out.grown (grown0 hd none) (by simp)); clear HC HB; have HC := HC2; have HB := HB2; clear HB2 HC2 hd))
      have HK14 := Aside0.mk (own_blk (Kd.R_lower HO14.out (Nat.le_refl _)) HG14.out)
      have HW := Aside0.mk (items_pos HI.out)
      clear HT HO14 HG14 HI HQ HM
      go_loopg [15] n (fun kq v15 w' => ∃ j : Nat, kq + j = n ∧ v15 = .int .i64 (j : Int) ∧ Aside0 (IsC w' g ring fr n (m + 1) false) ∧ Aside0 (Blk14 w' g w.heap.size A14 n) ∧ Aside0 (Below w.heap.size w w'))
      case atStart => exact ⟨0, by omega, rfl, HC, HK14, HB⟩
      case round =>
        clear HC HB HK14
        obtain ⟨j, hj, rfl, HC, HK14, HB⟩ := hrel
        by_cases c : j < n
        · have c0 : decide ((j : Int) < (n : Int)) = true := decide_eq_true (by omega)
          obtain ⟨k1, rfl⟩ : ∃ k1, gk = k1 + 1 := ⟨gk - 1, by omega⟩
          obtain ⟨b, cur, eb, hgb, hwb, hcur, hsz⟩ := HK14.out (by omega)
          subst eb
          obtain ⟨u, hu⟩ : ∃ u, cur[j]? = some u := ⟨_, Array.getElem?_eq_getElem (by omega)⟩
          have hcell : wr.cell? ⟨b, j, none⟩ = some u := by simp [World.cell?, hcur, hu]
          have hfro : wr.frozen? ⟨b, j, none⟩ = false := by simp [World.frozen?, hcur]
          have p1 : (0 ≤ (j : Int)) = True := eq_true (by omega)
          have q1 : ((j : Int) < (n : Int)) = True := eq_true (by omega)
          have HJ := Aside0.mk (And.intro hgb (And.intro hwb (And.intro hcur hsz)))
          clear c hgb hwb hcur hsz hu
          go_wp2
          go_roundg k1
          case measure => omega
          case rel => exact ⟨j + 1, by omega, by have := HC.out.ln; first | rfl | (congr 1; unfold wrap64; omega), ⟨HC.out.grown (grownBy_cell _ _ _ _) (fun e => by have := HJ.out.1; have := Option.some.inj e; omega)⟩, ⟨fun _ => ⟨b, _, rfl, HJ.out.1, HJ.out.2.1, heap_setCell_same _ _ _ _ _ _ HJ.out.2.2.1, by simpa using HJ.out.2.2.2⟩⟩, ⟨below_g HB.out (below_size HB.out) (grownBy_cell _ _ _ _) HJ.out.2.1⟩⟩
        · obtain rfl : j = n := by omega
          have hjb : j ≤ 64 := by have := HC.out.ln; omega
          clear c HK14
          go_wp2_with (first | (go_at_call 13; (with_reducible refine (items _ g _ _ _ _ _ HC.out).mono ?_); rintro e w_ ⟨v16, rfl, ho, hb⟩; obtain ⟨A16, c16, e16⟩ := Kd.R_slice ho; rw [itemsOf_len] at e16; subst e16; have r1 := Kd.R_reads' ho; rw [itemsOf_len] at r1; have HC16 := Aside0.mk r1.2.2; have HB2 := Aside0.mk (below_step HB.out hb); clear HC HB r1; have HB := HB2; clear HB2 ho hb))
          go_loopg [17] j (fun kq v17 w' => ∃ q : Nat, kq + q = j ∧ v17 = .int .i64 (q : Int) ∧ Aside0 (Drawn0 w_ w'))
          case atStart => exact ⟨0, by omega, rfl, ⟨Drawn0.refl _⟩⟩
          case round =>
            obtain ⟨q, hq, rfl, HD⟩ := hrel
            have HBr := Aside0.mk (below_0 HB.out HD.out)
            clear HB
            have HB := HBr
            clear HBr
            by_cases c : q < j
            · have c0 : decide ((q : Int) < (j : Int)) = true := decide_eq_true (by omega)
              obtain ⟨k1, rfl⟩ : ∃ k1, gk = k1 + 1 := ⟨gk - 1, by omega⟩
              obtain ⟨ad, e1, hx⟩ := Kd.at_int (Kd.C_below HC16.out (below_0 (Below.refl _ _) HD.out)) (q : Int) (by omega) (by omega)
              cases e1
              obtain ⟨x, hxx⟩ : ∃ x, rd (itemsOf ring fr j) (q : Int) = x := ⟨_, rfl⟩
              have hx0 : decide (x < 0) = false := decide_eq_false (by have := HW.out q c; omega)
              rw [hxx] at hx
              replace hx : wr.cell? (ad.add q) = some (.int .i64 x) := by simpa using hx
              have p1 : (0 ≤ (q : Int)) = True := eq_true (by omega)
              have q1 : ((q : Int) < (j : Int)) = True := eq_true (by omega)
              clear c hxx
              go_wp2
              go_roundg k1
              case measure => omega
              case rel => exact ⟨q + 1, by omega, by first | rfl | (congr 1; unfold wrap64; omega), HD⟩
            · obtain rfl : q = j := by omega
              clear c
              go_wp2_with (first | (go_at_call 8; (with_reducible refine (awake _).mono ?_); rintro e w_ ⟨rfl, hb⟩; have HB2 := Aside0.mk (below_step HB.out hb); clear HB; have HB := HB2; clear HB2 hb))
              go_ret
              exact ⟨rfl, HB.out⟩
end Go.Proofs.Ytickgiheembcjaa.Ch
