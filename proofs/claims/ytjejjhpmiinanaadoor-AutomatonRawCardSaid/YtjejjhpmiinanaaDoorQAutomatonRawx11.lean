-- by a program of this session (print2.py): the machine's side of one law; Lean checks it.
import Derived.Test.YtjejjhpmiinanaaDoorQAutomatonRawx0
import Derived.Test.YtjejjhpmiinanaaDoorQAutomatonRawx4
import Derived.Test.YtjejjhpmiinanaaDoorQAutomatonRawx5
import Derived.Test.YtjejjhpmiinanaaDoorQAutomatonRawx8
import Derived.Test.YtjejjhpmiinanaaDoorQAutomatonRawx9
import Derived.Test.YtjejjhpmiinanaaDoorQAutomatonRawx10
namespace Go.Proofs.YtjejjhpmiinanaaDoor.QAutomatonRaw
open Go.RowKit Go.Proofs.YtjejjhpmiinanaaDoorW.PrintWords Go.Proofs.YtjejjhpmiinanaaDoorW.PrintLast Go.Proofs.YtjejjhpmiinanaaDoorW.PrintMore
attribute [local go_sem] max2_int min2_int max_two min_two max_three min_three max_four min_four   -- for this text's walks alone
set_option linter.unusedVariables false
set_option linter.unusedSimpArgs false

/-! ### ndjqlaw18_AutomatonRaw: function 8 -/
set_option maxRecDepth 100000
set_option maxHeartbeats 4000000
/-! ### The law AutomatonRaw, walked by hand -/
theorem cells7 {w : World} {b : Nat} {u0 u1 u2 u3 u4 u5 u6 : Value} (h : w.heap[b]? = some (.cells #[u0, u1, u2, u3, u4, u5, u6] 29 (0, 0))) :
    w.cell? ⟨b, 0, none⟩ = some u0 ∧ w.cell? ⟨b, 1, none⟩ = some u1 ∧ w.cell? ⟨b, 2, none⟩ = some u2 ∧ w.cell? ⟨b, 3, none⟩ = some u3 ∧ w.cell? ⟨b, 4, none⟩ = some u4 ∧ w.cell? ⟨b, 5, none⟩ = some u5 ∧ w.cell? ⟨b, 6, none⟩ = some u6 ∧ ∀ j, w.frozen? ⟨b, j, none⟩ = false := by
  refine ⟨?_, ?_, ?_, ?_, ?_, ?_, ?_, fun j => Oc.fz h j⟩ <;> simp [World.cell?, h]
def lensM (a : Smm) : Nat := a.l0.length + a.l1.length + a.l2.length
def vldM (k : Nat) (x : Smm) : Option Bool := automaton_Valid.f k x.n x.e0 x.e1 x.e2 x.l0 x.l1 x.l2
theorem vldC (k : Nat) (x : Smm) (r : Bool) (w : World) {A0 c0 A1 c1 A2 c2} (hx : RdS w A0 c0 A1 c1 A2 c2 x) (h : vldM k x = some r) : Calls Tryd.prog 21 #[.agg #[.int .i64 x.n, .int .i64 x.e0, .int .i64 x.e1, .int .i64 x.e2, .slice A0 x.l0.length c0, .slice A1 x.l1.length c1, .slice A2 x.l2.length c2]] w fun e w' => e = .returned (.bool r) ∧ Below w.heap.size w w' :=
  automaton_Valid.calls k _ _ _ _ A0 c0 _ A1 c1 _ A2 c2 _ r w hx.r0 hx.k0 hx.r1 hx.k1 hx.r2 hx.k2 h
def allM (k : Nat) (l : List S29) : Option (Smm × Int) := (automaton_All.f k l).map fun t => (⟨t.1, t.2.1, t.2.2.1, t.2.2.2.1, t.2.2.2.2.1, t.2.2.2.2.2.1, t.2.2.2.2.2.2.1⟩, t.2.2.2.2.2.2.2)
theorem allC (k : Nat) (l : List S29) (z : Smm) (c : Int) (w : World) {A0 : Option Addr} {c0 : Nat} (hl : Kd.C k29 w A0 l.length l) (hc : l.length ≤ c0) (h : allM k l = some (z, c)) :
    Calls Tryd.prog 23 #[.slice A0 l.length c0] w fun e w' => ∃ E0 f0 E1 f1 E2 f2, e = .returned (.tuple #[.agg #[.int .i64 z.n, .int .i64 z.e0, .int .i64 z.e1, .int .i64 z.e2, .slice E0 z.l0.length f0, .slice E1 z.l1.length f1, .slice E2 z.l2.length f2], .int .i64 c]) ∧ RdS w' E0 f0 E1 f1 E2 f2 z ∧ Ty w' E0 E1 E2 z ∧ Below w.heap.size w w' := by
  obtain ⟨⟨r1, r2, r3, r4, r5, r6, r7, r8⟩, ht, he⟩ := Option.map_eq_some_iff.1 h
  cases he
  refine (automaton_All.calls k A0 c0 l _ _ _ _ _ _ _ _ w hl hc ht).mono ?_
  rintro e w' ⟨v4, v5, v6, rfl, h4, h5, h6, hb⟩
  obtain ⟨E0, f0, rfl⟩ := Kd.R_slice h4
  obtain ⟨E1, f1, rfl⟩ := Kd.R_slice h5
  obtain ⟨E2, f2, rfl⟩ := Kd.R_slice h6
  exact ⟨E0, f0, E1, f1, E2, f2, rfl, ⟨(Kd.R_reads' h4).2.1, (Kd.R_reads' h5).2.1, (Kd.R_reads' h6).2.1, (Kd.R_reads' h4).2.2, (Kd.R_reads' h5).2.2, (Kd.R_reads' h6).2.2⟩, ⟨ty_of h4, ty_of h5, ty_of h6⟩, hb⟩
/-- The loop over the list: 'some none' where it goes on behind the loop. -/
def preL (k : Nat) : List S29 → Option (Option Bool)
  | [] => some none
  | y :: l => if lensM (sm y) ≤ 100000000000000 then (if 60 < lensM (sm y) then (ndjqlaw18_awake.f k).map some else (vldM k (sm y)).bind fun a => (refV k (sm y)).bind fun b => if a = b then preL k l else none) else none
def endL (k : Nat) (l : List S29) : Option Bool :=
  (allM k l).bind fun x => (allR k l).bind fun y => if x.2 = y.2 then (sumM k x.1 y.1).bind fun s => if s = true then
    (match l with
      | a :: b :: _ => (cmpM k (sm a) (sm b)).bind fun x => (cmR k (sm a) (sm b)).bind fun y => if x.2 = y.2 then (sumM k x.1 y.1).bind fun s => if s = true then ndjqlaw18_awake.f k else none else none
      | _ => ndjqlaw18_awake.f k) else none else none
def rawL (k : Nat) (l : List S29) : Option Bool :=
  if 5 < l.length then ndjqlaw18_awake.f k else (preL k l).bind fun o => match o with
    | some r => some r
    | none => endL k l
theorem rawC (k : Nat) (l : List S29) (r : Bool) (w : World) {A0 : Option Addr} {c0 : Nat} (hl : Kd.C k29 w A0 l.length l) (hc : l.length ≤ c0) (hG : GlbLaid w) (h : rawL k l = some r) :
    Calls Tryd.prog 8 #[.slice A0 l.length c0] w fun e w' => e = .returned (.bool r) ∧ Below w.heap.size w w' := by
  have HL := Aside0.mk hl
  have HC := Aside0.mk hc
  have HG := Aside0.mk hG
  have HX := Aside0.mk (Below.refl w.heap.size w)
  unfold rawL at h
  have HH := Aside0.mk h
  clear hl hc hG h
  obtain ⟨n, hn⟩ : ∃ n, l.length = n := ⟨_, rfl⟩
  rw [hn] at HL HC HH
  rw [hn]
  have HN := Aside0.mk hn
  clear hn
  go_enter Tryd.func8, Tryd.ntmps8
  by_cases h5 : 5 < n
  · have h := HH.out
    rw [if_pos h5] at h
    have HAW := Aside0.mk h
    clear h HH
    have g0 : decide ((n : Int) > 5) = true := decide_eq_true (by omega)
    clear h5
    go_wp2_with (first | (go_at_call 9; (with_reducible refine (ndjqlaw18_awake.calls k r _ (HG.out.below HX.out) HAW.out).mono ?_); rintro e we ⟨rfl, hb⟩; have HX2 := Aside0.mk (below_step HX.out hb); clear HX; have HX := HX2; clear HX2))
    go_ret
    exact ⟨rfl, HX.out⟩
  have h := HH.out
  rw [if_neg h5] at h
  have g0 : decide ((n : Int) > 5) = false := decide_eq_false (by omega)
  obtain ⟨o, hp, ho⟩ := Option.bind_eq_some_iff.1 h
  have HP := Aside0.mk hp
  have HO := Aside0.mk ho
  have H5 := Aside0.mk h5
  clear h HH hp ho h5
  go_upto_region 3 with fail
  clear g0
  go_wp2_with fail
  go_loopg [3] n (fun kq v3 w' => ∃ (i : Nat), kq + i = n ∧ v3 = .int .i64 (i : Int) ∧ Aside0 (preL k (l.drop i) = some o) ∧ Aside0 (Below w.heap.size w w'))
  case atStart => exact ⟨0, by omega, rfl, HP, HX⟩
  case round =>
    clear HX HP
    obtain ⟨i, hi, rfl, HP, HX⟩ := hrel
    by_cases ci : i < n
    · have cc0 : decide ((i : Int) < (n : Int)) = true := decide_eq_true (by omega)
      have cc1 : (0 ≤ (i : Int)) = True := eq_true (by omega)
      have cc2 : ((i : Int) < (n : Int)) = True := eq_true (by omega)
      obtain ⟨j1, rfl⟩ : ∃ j1, gk = j1 + 1 := ⟨gk - 1, by omega⟩
      have hil : i < l.length := by have := HN.out; omega
      obtain ⟨y, hy⟩ : ∃ y, l[i] = y := ⟨_, rfl⟩
      have hyi : l[i]? = some y := by rw [List.getElem?_eq_getElem hil, hy]
      obtain ⟨ad, Y0, y0, Y1, y1, Y2, y2, e1, he⟩ := el_at HL.out i ci hyi
      subst e1
      obtain ⟨yv, hyv⟩ : ∃ yv, sm y = yv := ⟨_, rfl⟩
      have h2 := HP.out
      rw [List.drop_eq_getElem_cons hil, hy, preL, hyv] at h2
      rw [hyv] at he
      have HE := Aside0.mk he
      have HI := Aside0.mk hi
      clear hy hyi he hil hyv HP hi
      by_cases hb : lensM yv ≤ 100000000000000
      rotate_left
      · rw [if_neg hb] at h2; cases h2
      rw [if_pos hb] at h2
      have hkp : ∀ W, Below w.heap.size w W → (fun w' => w'.cell? (ad.add (i * 7)) = some (.int .i64 yv.n) ∧ w'.cell? ⟨(ad.add (i * 7)).block, (ad.add (i * 7)).off + 1, none⟩ = some (.int .i64 yv.e0) ∧ w'.cell? ⟨(ad.add (i * 7)).block, (ad.add (i * 7)).off + 2, none⟩ = some (.int .i64 yv.e1) ∧ w'.cell? ⟨(ad.add (i * 7)).block, (ad.add (i * 7)).off + 3, none⟩ = some (.int .i64 yv.e2) ∧ w'.cell? ⟨(ad.add (i * 7)).block, (ad.add (i * 7)).off + 4, none⟩ = some (.slice Y0 yv.l0.length y0) ∧ w'.cell? ⟨(ad.add (i * 7)).block, (ad.add (i * 7)).off + 5, none⟩ = some (.slice Y1 yv.l1.length y1) ∧ w'.cell? ⟨(ad.add (i * 7)).block, (ad.add (i * 7)).off + 6, none⟩ = some (.slice Y2 yv.l2.length y2)) W := fun W hb => by
        have he := HE.out.below hb
        exact ⟨he.h0, he.h1, he.h2, he.h3, he.h4, he.h5, he.h6⟩
      obtain ⟨n0, hn0⟩ : ∃ n : Int, (yv.l0.length : Int) = n := ⟨_, rfl⟩
      obtain ⟨n1, hn1⟩ : ∃ n : Int, (yv.l1.length : Int) = n := ⟨_, rfl⟩
      obtain ⟨n2, hn2⟩ : ∃ n : Int, (yv.l2.length : Int) = n := ⟨_, rfl⟩
      have hx0 : (60 < lensM yv) ↔ (60 : Int) < n0 + n1 + n2 := by unfold lensM; omega
      unfold lensM at hb
      have hsz : 0 ≤ n0 ∧ 0 ≤ n1 ∧ 0 ≤ n2 ∧ n0 + n1 + n2 ≤ 100000000000000 := by omega
      obtain ⟨m2, hm2⟩ : ∃ m : Int, n0 + n1 = m := ⟨_, rfl⟩
      obtain ⟨m3, hm3⟩ : ∃ m : Int, m2 + n2 = m := ⟨_, rfl⟩
      have hw2 : IntKind.i64.wrap m2 = m2 := by rw [i64_w]; unfold Go.RowKit.wrap64; omega
      have hv2 : Go.RowKit.wrap64 m2 = m2 := by unfold Go.RowKit.wrap64; omega
      have hw3 : IntKind.i64.wrap m3 = m3 := by rw [i64_w]; unfold Go.RowKit.wrap64; omega
      have hv3 : Go.RowKit.wrap64 m3 = m3 := by unfold Go.RowKit.wrap64; omega
      have hx1 : n0 + n1 + n2 = m3 := by omega
      rw [hx1] at hx0
      clear hsz hx1 hb
      have HKP := Aside0.mk hkp
      clear hkp
      by_cases hbig : 60 < lensM yv
      · rw [if_pos hbig] at h2
        obtain ⟨ra, ha, hra⟩ := Option.map_eq_some_iff.1 h2
        subst hra
        have ho := HO.out
        cases ho
        have HAW := Aside0.mk ha
        have g0 : decide (m3 > 60) = true := decide_eq_true (hx0.1 hbig)
        clear h2 ha HO hbig hx0
        go_upto_region 6 with fail
        have HX0 := Aside0.mk HX.out.drew; clear HX; have HX := HX0; clear HX0
        refine start_ (n := 37) (S := fun w' => w'.cell? (ad.add (i * 7)) = some (.int .i64 yv.n) ∧ w'.cell? ⟨(ad.add (i * 7)).block, (ad.add (i * 7)).off + 1, none⟩ = some (.int .i64 yv.e0) ∧ w'.cell? ⟨(ad.add (i * 7)).block, (ad.add (i * 7)).off + 2, none⟩ = some (.int .i64 yv.e1) ∧ w'.cell? ⟨(ad.add (i * 7)).block, (ad.add (i * 7)).off + 3, none⟩ = some (.int .i64 yv.e2) ∧ w'.cell? ⟨(ad.add (i * 7)).block, (ad.add (i * 7)).off + 4, none⟩ = some (.slice Y0 yv.l0.length y0) ∧ w'.cell? ⟨(ad.add (i * 7)).block, (ad.add (i * 7)).off + 5, none⟩ = some (.slice Y1 yv.l1.length y1) ∧ w'.cell? ⟨(ad.add (i * 7)).block, (ad.add (i * 7)).off + 6, none⟩ = some (.slice Y2 yv.l2.length y2)) (ds := []) #[ff, ff, ff, ff, ff, ff, ff, ff, ff, ff, ff, ff, ff, ff, ff, ff, ff, ff, ff, ff, ff, ff, ff, ff, ff, ff, ff, ff, ff, ff, ff, ff, ff, ff, ff, ff, ff] (by kernel_rfl) rfl (by rfl) (HKP.out _ HX.out) (fun hS => ?_)
        refine take_ (i := 0) (N := some 18) (v := (.slice (some ad) n c0)) #[tt, ff, ff, ff, ff, ff, ff, ff, ff, ff, ff, ff, ff, ff, ff, ff, ff, ff, ff, ff, ff, ff, ff, ff, ff, ff, ff, ff, ff, ff, ff, ff, ff, ff, ff, ff, ff] rfl rfl (by kernel_rfl) (fun _ _ _ h => h) (Or.inl ⟨by rfl, by intro w hSw; (try dsimp only at hSw);go_simp⟩) hS rfl ?_
        try simp only [Act.put, List.setIfInBounds_toArray, List.set_cons_zero, List.set_cons_succ]
        refine take_ (i := 1) (N := some 19) (v := (.int .i64 (i : Int))) #[tt, tt, ff, ff, ff, ff, ff, ff, ff, ff, ff, ff, ff, ff, ff, ff, ff, ff, ff, ff, ff, ff, ff, ff, ff, ff, ff, ff, ff, ff, ff, ff, ff, ff, ff, ff, ff] rfl rfl (by kernel_rfl) (fun _ _ _ h => h) (Or.inl ⟨by rfl, by intro w hSw; (try dsimp only at hSw);go_simp⟩) hS rfl ?_
        try simp only [Act.put, List.setIfInBounds_toArray, List.set_cons_zero, List.set_cons_succ]
        refine take_ (i := 2) (N := some 20) (v := (.pointer (some (ad.add (i * 7))))) #[tt, tt, tt, ff, ff, ff, ff, ff, ff, ff, ff, ff, ff, ff, ff, ff, ff, ff, ff, ff, ff, ff, ff, ff, ff, ff, ff, ff, ff, ff, ff, ff, ff, ff, ff, ff, ff] rfl rfl (by kernel_rfl) (fun _ _ _ h => h) (Or.inl ⟨by rfl, by intro w hSw; (try dsimp only at hSw);go_simp⟩) hS rfl ?_
        try simp only [Act.put, List.setIfInBounds_toArray, List.set_cons_zero, List.set_cons_succ]
        refine take_ (i := 3) (N := some 21) (v := (.pointer (some ⟨(ad.add (i * 7)).block, (ad.add (i * 7)).off + 4, none⟩))) #[tt, tt, tt, tt, ff, ff, ff, ff, ff, ff, ff, ff, ff, ff, ff, ff, ff, ff, ff, ff, ff, ff, ff, ff, ff, ff, ff, ff, ff, ff, ff, ff, ff, ff, ff, ff, ff] rfl rfl (by kernel_rfl) (fun _ _ _ h => h) (Or.inl ⟨by rfl, by intro w hSw; (try dsimp only at hSw);go_simp⟩) hS rfl ?_
        try simp only [Act.put, List.setIfInBounds_toArray, List.set_cons_zero, List.set_cons_succ]
        refine take_ (i := 4) (N := some 22) (v := (.pointer (some ⟨(ad.add (i * 7)).block, (ad.add (i * 7)).off + 4, none⟩))) #[tt, tt, tt, tt, tt, ff, ff, ff, ff, ff, ff, ff, ff, ff, ff, ff, ff, ff, ff, ff, ff, ff, ff, ff, ff, ff, ff, ff, ff, ff, ff, ff, ff, ff, ff, ff, ff] rfl rfl (by kernel_rfl) (fun _ _ _ h => h) (Or.inl ⟨by rfl, by intro w hSw; (try dsimp only at hSw);go_simp⟩) hS rfl ?_
        try simp only [Act.put, List.setIfInBounds_toArray, List.set_cons_zero, List.set_cons_succ]
        refine take_ (i := 5) (N := some 23) (v := (.slice Y0 yv.l0.length y0)) #[tt, tt, tt, tt, tt, tt, ff, ff, ff, ff, ff, ff, ff, ff, ff, ff, ff, ff, ff, ff, ff, ff, ff, ff, ff, ff, ff, ff, ff, ff, ff, ff, ff, ff, ff, ff, ff] rfl rfl (by kernel_rfl) (fun _ _ _ h => h) (Or.inl ⟨by rfl, by intro w hSw; (try dsimp only at hSw);go_simp⟩) hS rfl ?_
        try simp only [Act.put, List.setIfInBounds_toArray, List.set_cons_zero, List.set_cons_succ]
        refine take_ (i := 6) (N := some 24) (v := (.int .i64 n0)) #[tt, tt, tt, tt, tt, tt, tt, ff, ff, ff, ff, ff, ff, ff, ff, ff, ff, ff, ff, ff, ff, ff, ff, ff, ff, ff, ff, ff, ff, ff, ff, ff, ff, ff, ff, ff, ff] rfl rfl (by kernel_rfl) (fun _ _ _ h => h) (Or.inl ⟨by rfl, by intro w hSw; (try dsimp only at hSw);go_simp⟩) hS rfl ?_
        try simp only [Act.put, List.setIfInBounds_toArray, List.set_cons_zero, List.set_cons_succ]
        refine take_ (i := 7) (N := some 25) (v := (.slice (some ad) n c0)) #[tt, tt, tt, tt, tt, tt, tt, tt, ff, ff, ff, ff, ff, ff, ff, ff, ff, ff, ff, ff, ff, ff, ff, ff, ff, ff, ff, ff, ff, ff, ff, ff, ff, ff, ff, ff, ff] rfl rfl (by kernel_rfl) (fun _ _ _ h => h) (Or.inl ⟨by rfl, by intro w hSw; (try dsimp only at hSw);go_simp⟩) hS rfl ?_
        try simp only [Act.put, List.setIfInBounds_toArray, List.set_cons_zero, List.set_cons_succ]
        refine take_ (i := 8) (N := some 26) (v := (.int .i64 (i : Int))) #[tt, tt, tt, tt, tt, tt, tt, tt, tt, ff, ff, ff, ff, ff, ff, ff, ff, ff, ff, ff, ff, ff, ff, ff, ff, ff, ff, ff, ff, ff, ff, ff, ff, ff, ff, ff, ff] rfl rfl (by kernel_rfl) (fun _ _ _ h => h) (Or.inl ⟨by rfl, by intro w hSw; (try dsimp only at hSw);go_simp⟩) hS rfl ?_
        try simp only [Act.put, List.setIfInBounds_toArray, List.set_cons_zero, List.set_cons_succ]
        refine take_ (i := 9) (N := some 27) (v := (.pointer (some (ad.add (i * 7))))) #[tt, tt, tt, tt, tt, tt, tt, tt, tt, tt, ff, ff, ff, ff, ff, ff, ff, ff, ff, ff, ff, ff, ff, ff, ff, ff, ff, ff, ff, ff, ff, ff, ff, ff, ff, ff, ff] rfl rfl (by kernel_rfl) (fun _ _ _ h => h) (Or.inl ⟨by rfl, by intro w hSw; (try dsimp only at hSw);go_simp⟩) hS rfl ?_
        try simp only [Act.put, List.setIfInBounds_toArray, List.set_cons_zero, List.set_cons_succ]
        refine take_ (i := 10) (N := some 28) (v := (.pointer (some ⟨(ad.add (i * 7)).block, (ad.add (i * 7)).off + 4, none⟩))) #[tt, tt, tt, tt, tt, tt, tt, tt, tt, tt, tt, ff, ff, ff, ff, ff, ff, ff, ff, ff, ff, ff, ff, ff, ff, ff, ff, ff, ff, ff, ff, ff, ff, ff, ff, ff, ff] rfl rfl (by kernel_rfl) (fun _ _ _ h => h) (Or.inl ⟨by rfl, by intro w hSw; (try dsimp only at hSw);go_simp⟩) hS rfl ?_
        try simp only [Act.put, List.setIfInBounds_toArray, List.set_cons_zero, List.set_cons_succ]
        refine take_ (i := 11) (N := some 29) (v := (.pointer (some ⟨(ad.add (i * 7)).block, (ad.add (i * 7)).off + 4 + 1, none⟩))) #[tt, tt, tt, tt, tt, tt, tt, tt, tt, tt, tt, tt, ff, ff, ff, ff, ff, ff, ff, ff, ff, ff, ff, ff, ff, ff, ff, ff, ff, ff, ff, ff, ff, ff, ff, ff, ff] rfl rfl (by kernel_rfl) (fun _ _ _ h => h) (Or.inl ⟨by rfl, by intro w hSw; (try dsimp only at hSw);go_simp⟩) hS rfl ?_
        try simp only [Act.put, List.setIfInBounds_toArray, List.set_cons_zero, List.set_cons_succ]
        refine take_ (i := 12) (N := some 30) (v := (.slice Y1 yv.l1.length y1)) #[tt, tt, tt, tt, tt, tt, tt, tt, tt, tt, tt, tt, tt, ff, ff, ff, ff, ff, ff, ff, ff, ff, ff, ff, ff, ff, ff, ff, ff, ff, ff, ff, ff, ff, ff, ff, ff] rfl rfl (by kernel_rfl) (fun _ _ _ h => h) (Or.inl ⟨by rfl, by intro w hSw; (try dsimp only at hSw);go_simp⟩) hS rfl ?_
        try simp only [Act.put, List.setIfInBounds_toArray, List.set_cons_zero, List.set_cons_succ]
        refine take_ (i := 13) (N := some 31) (v := (.int .i64 n1)) #[tt, tt, tt, tt, tt, tt, tt, tt, tt, tt, tt, tt, tt, tt, ff, ff, ff, ff, ff, ff, ff, ff, ff, ff, ff, ff, ff, ff, ff, ff, ff, ff, ff, ff, ff, ff, ff] rfl rfl (by kernel_rfl) (fun _ _ _ h => h) (Or.inl ⟨by rfl, by intro w hSw; (try dsimp only at hSw);go_simp⟩) hS rfl ?_
        try simp only [Act.put, List.setIfInBounds_toArray, List.set_cons_zero, List.set_cons_succ]
        refine take_ (i := 14) (N := some 32) (v := (.int .i64 m2)) #[tt, tt, tt, tt, tt, tt, tt, tt, tt, tt, tt, tt, tt, tt, tt, ff, ff, ff, ff, ff, ff, ff, ff, ff, ff, ff, ff, ff, ff, ff, ff, ff, ff, ff, ff, ff, ff] rfl rfl (by kernel_rfl) (fun _ _ _ h => h) (Or.inl ⟨by rfl, by intro w hSw; (try dsimp only at hSw);go_simp⟩) hS rfl ?_
        try simp only [Act.put, List.setIfInBounds_toArray, List.set_cons_zero, List.set_cons_succ]
        refine take_ (i := 15) (N := some 33) (v := (.slice (some ad) n c0)) #[tt, tt, tt, tt, tt, tt, tt, tt, tt, tt, tt, tt, tt, tt, tt, tt, ff, ff, ff, ff, ff, ff, ff, ff, ff, ff, ff, ff, ff, ff, ff, ff, ff, ff, ff, ff, ff] rfl rfl (by kernel_rfl) (fun _ _ _ h => h) (Or.inl ⟨by rfl, by intro w hSw; (try dsimp only at hSw);go_simp⟩) hS rfl ?_
        try simp only [Act.put, List.setIfInBounds_toArray, List.set_cons_zero, List.set_cons_succ]
        refine take_ (i := 16) (N := some 34) (v := (.int .i64 (i : Int))) #[tt, tt, tt, tt, tt, tt, tt, tt, tt, tt, tt, tt, tt, tt, tt, tt, tt, ff, ff, ff, ff, ff, ff, ff, ff, ff, ff, ff, ff, ff, ff, ff, ff, ff, ff, ff, ff] rfl rfl (by kernel_rfl) (fun _ _ _ h => h) (Or.inl ⟨by rfl, by intro w hSw; (try dsimp only at hSw);go_simp⟩) hS rfl ?_
        try simp only [Act.put, List.setIfInBounds_toArray, List.set_cons_zero, List.set_cons_succ]
        refine take_ (i := 17) (N := some 35) (v := (.pointer (some (ad.add (i * 7))))) #[tt, tt, tt, tt, tt, tt, tt, tt, tt, tt, tt, tt, tt, tt, tt, tt, tt, tt, ff, ff, ff, ff, ff, ff, ff, ff, ff, ff, ff, ff, ff, ff, ff, ff, ff, ff, ff] rfl rfl (by kernel_rfl) (fun _ _ _ h => h) (Or.inl ⟨by rfl, by intro w hSw; (try dsimp only at hSw);go_simp⟩) hS rfl ?_
        try simp only [Act.put, List.setIfInBounds_toArray, List.set_cons_zero, List.set_cons_succ]
        refine take_ (i := 18) (N := some 36) (v := (.pointer (some ⟨(ad.add (i * 7)).block, (ad.add (i * 7)).off + 4, none⟩))) #[tt, tt, tt, tt, tt, tt, tt, tt, tt, tt, tt, tt, tt, tt, tt, tt, tt, tt, tt, ff, ff, ff, ff, ff, ff, ff, ff, ff, ff, ff, ff, ff, ff, ff, ff, ff, ff] rfl rfl (by kernel_rfl) (fun _ _ _ h => h) (Or.inl ⟨by rfl, by intro w hSw; (try dsimp only at hSw);go_simp⟩) hS rfl ?_
        try simp only [Act.put, List.setIfInBounds_toArray, List.set_cons_zero, List.set_cons_succ]
        refine take_ (i := 19) (N := some 37) (v := (.pointer (some ⟨(ad.add (i * 7)).block, (ad.add (i * 7)).off + 4 + 2, none⟩))) #[tt, tt, tt, tt, tt, tt, tt, tt, tt, tt, tt, tt, tt, tt, tt, tt, tt, tt, tt, tt, ff, ff, ff, ff, ff, ff, ff, ff, ff, ff, ff, ff, ff, ff, ff, ff, ff] rfl rfl (by kernel_rfl) (fun _ _ _ h => h) (Or.inl ⟨by rfl, by intro w hSw; (try dsimp only at hSw);go_simp⟩) hS rfl ?_
        try simp only [Act.put, List.setIfInBounds_toArray, List.set_cons_zero, List.set_cons_succ]
        refine take_ (i := 20) (N := some 38) (v := (.slice Y2 yv.l2.length y2)) #[tt, tt, tt, tt, tt, tt, tt, tt, tt, tt, tt, tt, tt, tt, tt, tt, tt, tt, tt, tt, tt, ff, ff, ff, ff, ff, ff, ff, ff, ff, ff, ff, ff, ff, ff, ff, ff] rfl rfl (by kernel_rfl) (fun _ _ _ h => h) (Or.inl ⟨by rfl, by intro w hSw; (try dsimp only at hSw);go_simp⟩) hS rfl ?_
        try simp only [Act.put, List.setIfInBounds_toArray, List.set_cons_zero, List.set_cons_succ]
        refine take_ (i := 21) (N := some 39) (v := (.int .i64 n2)) #[tt, tt, tt, tt, tt, tt, tt, tt, tt, tt, tt, tt, tt, tt, tt, tt, tt, tt, tt, tt, tt, tt, ff, ff, ff, ff, ff, ff, ff, ff, ff, ff, ff, ff, ff, ff, ff] rfl rfl (by kernel_rfl) (fun _ _ _ h => h) (Or.inl ⟨by rfl, by intro w hSw; (try dsimp only at hSw);go_simp⟩) hS rfl ?_
        try simp only [Act.put, List.setIfInBounds_toArray, List.set_cons_zero, List.set_cons_succ]
        refine take_ (i := 22) (N := some 40) (v := (.int .i64 m3)) #[tt, tt, tt, tt, tt, tt, tt, tt, tt, tt, tt, tt, tt, tt, tt, tt, tt, tt, tt, tt, tt, tt, tt, ff, ff, ff, ff, ff, ff, ff, ff, ff, ff, ff, ff, ff, ff] rfl rfl (by kernel_rfl) (fun _ _ _ h => h) (Or.inl ⟨by rfl, by intro w hSw; (try dsimp only at hSw);go_simp⟩) hS rfl ?_
        try simp only [Act.put, List.setIfInBounds_toArray, List.set_cons_zero, List.set_cons_succ]
        refine take_ (i := 23) (N := some 41) (v := (.bool true)) #[tt, tt, tt, tt, tt, tt, tt, tt, tt, tt, tt, tt, tt, tt, tt, tt, tt, tt, tt, tt, tt, tt, tt, tt, ff, ff, ff, ff, ff, ff, ff, ff, ff, ff, ff, ff, ff] rfl rfl (by kernel_rfl) (fun _ _ _ h => h) (Or.inl ⟨by rfl, by intro w hSw; (try dsimp only at hSw);go_simp⟩) hS rfl ?_
        try simp only [Act.put, List.setIfInBounds_toArray, List.set_cons_zero, List.set_cons_succ]
        refine take_ (i := 24) (N := some 42) (v := (.bool true)) #[tt, tt, tt, tt, tt, tt, tt, tt, tt, tt, tt, tt, tt, tt, tt, tt, tt, tt, tt, tt, tt, tt, tt, tt, tt, ff, ff, ff, ff, ff, ff, ff, ff, ff, ff, ff, ff] rfl rfl (by kernel_rfl) (fun _ _ _ h => h) (Or.inl ⟨by rfl, by intro w hSw; (try dsimp only at hSw);go_simp⟩) hS rfl ?_
        try simp only [Act.put, List.setIfInBounds_toArray, List.set_cons_zero, List.set_cons_succ]
        refine take_ (i := 25) (N := some 43) (v := undef) #[tt, tt, tt, tt, tt, tt, tt, tt, tt, tt, tt, tt, tt, tt, tt, tt, tt, tt, tt, tt, tt, tt, tt, tt, tt, tt, ff, ff, ff, ff, ff, ff, ff, ff, ff, ff, ff] rfl rfl (by kernel_rfl) (fun _ _ _ h => h) (Or.inr ⟨by rfl, rfl⟩) hS rfl ?_
        try simp only [Act.put, List.setIfInBounds_toArray, List.set_cons_zero, List.set_cons_succ]
        refine take_ (i := 26) (N := some 44) (v := undef) #[tt, tt, tt, tt, tt, tt, tt, tt, tt, tt, tt, tt, tt, tt, tt, tt, tt, tt, tt, tt, tt, tt, tt, tt, tt, tt, tt, ff, ff, ff, ff, ff, ff, ff, ff, ff, ff] rfl rfl (by kernel_rfl) (fun _ _ _ h => h) (Or.inr ⟨by rfl, rfl⟩) hS rfl ?_
        try simp only [Act.put, List.setIfInBounds_toArray, List.set_cons_zero, List.set_cons_succ]
        refine take_ (i := 27) (N := some 45) (v := undef) #[tt, tt, tt, tt, tt, tt, tt, tt, tt, tt, tt, tt, tt, tt, tt, tt, tt, tt, tt, tt, tt, tt, tt, tt, tt, tt, tt, tt, ff, ff, ff, ff, ff, ff, ff, ff, ff] rfl rfl (by kernel_rfl) (fun _ _ _ h => h) (Or.inr ⟨by rfl, rfl⟩) hS rfl ?_
        try simp only [Act.put, List.setIfInBounds_toArray, List.set_cons_zero, List.set_cons_succ]
        refine take_ (i := 28) (N := some 46) (v := undef) #[tt, tt, tt, tt, tt, tt, tt, tt, tt, tt, tt, tt, tt, tt, tt, tt, tt, tt, tt, tt, tt, tt, tt, tt, tt, tt, tt, tt, tt, ff, ff, ff, ff, ff, ff, ff, ff] rfl rfl (by kernel_rfl) (fun _ _ _ h => h) (Or.inr ⟨by rfl, rfl⟩) hS rfl ?_
        try simp only [Act.put, List.setIfInBounds_toArray, List.set_cons_zero, List.set_cons_succ]
        refine take_ (i := 30) (N := some 48) (v := undef) #[tt, tt, tt, tt, tt, tt, tt, tt, tt, tt, tt, tt, tt, tt, tt, tt, tt, tt, tt, tt, tt, tt, tt, tt, tt, tt, tt, tt, tt, ff, tt, ff, ff, ff, ff, ff, ff] rfl rfl (by kernel_rfl) (fun _ _ _ h => h) (Or.inr ⟨by rfl, rfl⟩) hS rfl ?_
        try simp only [Act.put, List.setIfInBounds_toArray, List.set_cons_zero, List.set_cons_succ]
        refine take_ (i := 31) (N := some 49) (v := undef) #[tt, tt, tt, tt, tt, tt, tt, tt, tt, tt, tt, tt, tt, tt, tt, tt, tt, tt, tt, tt, tt, tt, tt, tt, tt, tt, tt, tt, tt, ff, tt, tt, ff, ff, ff, ff, ff] rfl rfl (by kernel_rfl) (fun _ _ _ h => h) (Or.inr ⟨by rfl, rfl⟩) hS rfl ?_
        try simp only [Act.put, List.setIfInBounds_toArray, List.set_cons_zero, List.set_cons_succ]
        refine take_ (i := 32) (N := some 50) (v := undef) #[tt, tt, tt, tt, tt, tt, tt, tt, tt, tt, tt, tt, tt, tt, tt, tt, tt, tt, tt, tt, tt, tt, tt, tt, tt, tt, tt, tt, tt, ff, tt, tt, tt, ff, ff, ff, ff] rfl rfl (by kernel_rfl) (fun _ _ _ h => h) (Or.inr ⟨by rfl, rfl⟩) hS rfl ?_
        try simp only [Act.put, List.setIfInBounds_toArray, List.set_cons_zero, List.set_cons_succ]
        refine take_ (i := 33) (N := some 51) (v := undef) #[tt, tt, tt, tt, tt, tt, tt, tt, tt, tt, tt, tt, tt, tt, tt, tt, tt, tt, tt, tt, tt, tt, tt, tt, tt, tt, tt, tt, tt, ff, tt, tt, tt, tt, ff, ff, ff] rfl rfl (by kernel_rfl) (fun _ _ _ h => h) (Or.inr ⟨by rfl, rfl⟩) hS rfl ?_
        try simp only [Act.put, List.setIfInBounds_toArray, List.set_cons_zero, List.set_cons_succ]
        refine take_ (i := 29) (N := some 47) (v := undef) #[tt, tt, tt, tt, tt, tt, tt, tt, tt, tt, tt, tt, tt, tt, tt, tt, tt, tt, tt, tt, tt, tt, tt, tt, tt, tt, tt, tt, tt, tt, tt, tt, tt, tt, ff, ff, ff] rfl rfl (by kernel_rfl) (fun _ _ _ h => h) (Or.inr ⟨by rfl, rfl⟩) hS rfl ?_
        try simp only [Act.put, List.setIfInBounds_toArray, List.set_cons_zero, List.set_cons_succ]
        refine take_ (i := 34) (N := some 52) (v := undef) #[tt, tt, tt, tt, tt, tt, tt, tt, tt, tt, tt, tt, tt, tt, tt, tt, tt, tt, tt, tt, tt, tt, tt, tt, tt, tt, tt, tt, tt, tt, tt, tt, tt, tt, tt, ff, ff] rfl rfl (by kernel_rfl) (fun _ _ _ h => h) (Or.inr ⟨by rfl, rfl⟩) hS rfl ?_
        try simp only [Act.put, List.setIfInBounds_toArray, List.set_cons_zero, List.set_cons_succ]
        refine take_ (i := 35) (N := some 53) (v := undef) #[tt, tt, tt, tt, tt, tt, tt, tt, tt, tt, tt, tt, tt, tt, tt, tt, tt, tt, tt, tt, tt, tt, tt, tt, tt, tt, tt, tt, tt, tt, tt, tt, tt, tt, tt, tt, ff] rfl rfl (by kernel_rfl) (fun _ _ _ h => h) (Or.inr ⟨by rfl, rfl⟩) hS rfl ?_
        try simp only [Act.put, List.setIfInBounds_toArray, List.set_cons_zero, List.set_cons_succ]
        refine take_ (i := 36) (N := some 54) (v := (.bool true)) #[tt, tt, tt, tt, tt, tt, tt, tt, tt, tt, tt, tt, tt, tt, tt, tt, tt, tt, tt, tt, tt, tt, tt, tt, tt, tt, tt, tt, tt, tt, tt, tt, tt, tt, tt, tt, tt] rfl rfl (by kernel_rfl) (fun _ _ _ h => h) (Or.inl ⟨by rfl, by intro w hSw; (try dsimp only at hSw);go_simp⟩) hS rfl ?_
        try simp only [Act.put, List.setIfInBounds_toArray, List.set_cons_zero, List.set_cons_succ]
        refine done_ (by kernel_rfl) ?_
        go_upto_region 7 with fail
        have HX0 := Aside0.mk HX.out.drew; clear HX; have HX := HX0; clear HX0
        refine start_ (n := 28) (S := fun w' => w'.cell? (ad.add (i * 7)) = some (.int .i64 yv.n) ∧ w'.cell? ⟨(ad.add (i * 7)).block, (ad.add (i * 7)).off + 1, none⟩ = some (.int .i64 yv.e0) ∧ w'.cell? ⟨(ad.add (i * 7)).block, (ad.add (i * 7)).off + 2, none⟩ = some (.int .i64 yv.e1) ∧ w'.cell? ⟨(ad.add (i * 7)).block, (ad.add (i * 7)).off + 3, none⟩ = some (.int .i64 yv.e2) ∧ w'.cell? ⟨(ad.add (i * 7)).block, (ad.add (i * 7)).off + 4, none⟩ = some (.slice Y0 yv.l0.length y0) ∧ w'.cell? ⟨(ad.add (i * 7)).block, (ad.add (i * 7)).off + 5, none⟩ = some (.slice Y1 yv.l1.length y1) ∧ w'.cell? ⟨(ad.add (i * 7)).block, (ad.add (i * 7)).off + 6, none⟩ = some (.slice Y2 yv.l2.length y2)) (ds := []) #[ff, ff, ff, ff, ff, ff, ff, ff, ff, ff, ff, ff, ff, ff, ff, ff, ff, ff, ff, ff, ff, ff, ff, ff, ff, ff, ff, ff] (by kernel_rfl) rfl (by rfl) (HKP.out _ HX.out) (fun hS => ?_)
        refine take_ (i := 0) (N := some 55) (v := (.slice (some ad) n c0)) #[tt, ff, ff, ff, ff, ff, ff, ff, ff, ff, ff, ff, ff, ff, ff, ff, ff, ff, ff, ff, ff, ff, ff, ff, ff, ff, ff, ff] rfl rfl (by kernel_rfl) (fun _ _ _ h => h) (Or.inl ⟨by rfl, by intro w hSw; (try dsimp only at hSw);go_simp⟩) hS rfl ?_
        try simp only [Act.put, List.setIfInBounds_toArray, List.set_cons_zero, List.set_cons_succ]
        refine take_ (i := 1) (N := some 56) (v := (.int .i64 (i : Int))) #[tt, tt, ff, ff, ff, ff, ff, ff, ff, ff, ff, ff, ff, ff, ff, ff, ff, ff, ff, ff, ff, ff, ff, ff, ff, ff, ff, ff] rfl rfl (by kernel_rfl) (fun _ _ _ h => h) (Or.inl ⟨by rfl, by intro w hSw; (try dsimp only at hSw);go_simp⟩) hS rfl ?_
        try simp only [Act.put, List.setIfInBounds_toArray, List.set_cons_zero, List.set_cons_succ]
        refine take_ (i := 2) (N := some 57) (v := (.pointer (some (ad.add (i * 7))))) #[tt, tt, tt, ff, ff, ff, ff, ff, ff, ff, ff, ff, ff, ff, ff, ff, ff, ff, ff, ff, ff, ff, ff, ff, ff, ff, ff, ff] rfl rfl (by kernel_rfl) (fun _ _ _ h => h) (Or.inl ⟨by rfl, by intro w hSw; (try dsimp only at hSw);go_simp⟩) hS rfl ?_
        try simp only [Act.put, List.setIfInBounds_toArray, List.set_cons_zero, List.set_cons_succ]
        refine take_ (i := 3) (N := some 58) (v := (.pointer (some ⟨(ad.add (i * 7)).block, (ad.add (i * 7)).off + 4, none⟩))) #[tt, tt, tt, tt, ff, ff, ff, ff, ff, ff, ff, ff, ff, ff, ff, ff, ff, ff, ff, ff, ff, ff, ff, ff, ff, ff, ff, ff] rfl rfl (by kernel_rfl) (fun _ _ _ h => h) (Or.inl ⟨by rfl, by intro w hSw; (try dsimp only at hSw);go_simp⟩) hS rfl ?_
        try simp only [Act.put, List.setIfInBounds_toArray, List.set_cons_zero, List.set_cons_succ]
        refine take_ (i := 4) (N := some 59) (v := (.pointer (some ⟨(ad.add (i * 7)).block, (ad.add (i * 7)).off + 4, none⟩))) #[tt, tt, tt, tt, tt, ff, ff, ff, ff, ff, ff, ff, ff, ff, ff, ff, ff, ff, ff, ff, ff, ff, ff, ff, ff, ff, ff, ff] rfl rfl (by kernel_rfl) (fun _ _ _ h => h) (Or.inl ⟨by rfl, by intro w hSw; (try dsimp only at hSw);go_simp⟩) hS rfl ?_
        try simp only [Act.put, List.setIfInBounds_toArray, List.set_cons_zero, List.set_cons_succ]
        refine take_ (i := 5) (N := some 60) (v := (.slice Y0 yv.l0.length y0)) #[tt, tt, tt, tt, tt, tt, ff, ff, ff, ff, ff, ff, ff, ff, ff, ff, ff, ff, ff, ff, ff, ff, ff, ff, ff, ff, ff, ff] rfl rfl (by kernel_rfl) (fun _ _ _ h => h) (Or.inl ⟨by rfl, by intro w hSw; (try dsimp only at hSw);go_simp⟩) hS rfl ?_
        try simp only [Act.put, List.setIfInBounds_toArray, List.set_cons_zero, List.set_cons_succ]
        refine take_ (i := 6) (N := some 61) (v := (.int .i64 n0)) #[tt, tt, tt, tt, tt, tt, tt, ff, ff, ff, ff, ff, ff, ff, ff, ff, ff, ff, ff, ff, ff, ff, ff, ff, ff, ff, ff, ff] rfl rfl (by kernel_rfl) (fun _ _ _ h => h) (Or.inl ⟨by rfl, by intro w hSw; (try dsimp only at hSw);go_simp⟩) hS rfl ?_
        try simp only [Act.put, List.setIfInBounds_toArray, List.set_cons_zero, List.set_cons_succ]
        refine take_ (i := 7) (N := some 62) (v := (.slice (some ad) n c0)) #[tt, tt, tt, tt, tt, tt, tt, tt, ff, ff, ff, ff, ff, ff, ff, ff, ff, ff, ff, ff, ff, ff, ff, ff, ff, ff, ff, ff] rfl rfl (by kernel_rfl) (fun _ _ _ h => h) (Or.inl ⟨by rfl, by intro w hSw; (try dsimp only at hSw);go_simp⟩) hS rfl ?_
        try simp only [Act.put, List.setIfInBounds_toArray, List.set_cons_zero, List.set_cons_succ]
        refine take_ (i := 8) (N := some 63) (v := (.int .i64 (i : Int))) #[tt, tt, tt, tt, tt, tt, tt, tt, tt, ff, ff, ff, ff, ff, ff, ff, ff, ff, ff, ff, ff, ff, ff, ff, ff, ff, ff, ff] rfl rfl (by kernel_rfl) (fun _ _ _ h => h) (Or.inl ⟨by rfl, by intro w hSw; (try dsimp only at hSw);go_simp⟩) hS rfl ?_
        try simp only [Act.put, List.setIfInBounds_toArray, List.set_cons_zero, List.set_cons_succ]
        refine take_ (i := 9) (N := some 64) (v := (.pointer (some (ad.add (i * 7))))) #[tt, tt, tt, tt, tt, tt, tt, tt, tt, tt, ff, ff, ff, ff, ff, ff, ff, ff, ff, ff, ff, ff, ff, ff, ff, ff, ff, ff] rfl rfl (by kernel_rfl) (fun _ _ _ h => h) (Or.inl ⟨by rfl, by intro w hSw; (try dsimp only at hSw);go_simp⟩) hS rfl ?_
        try simp only [Act.put, List.setIfInBounds_toArray, List.set_cons_zero, List.set_cons_succ]
        refine take_ (i := 10) (N := some 65) (v := (.pointer (some ⟨(ad.add (i * 7)).block, (ad.add (i * 7)).off + 4, none⟩))) #[tt, tt, tt, tt, tt, tt, tt, tt, tt, tt, tt, ff, ff, ff, ff, ff, ff, ff, ff, ff, ff, ff, ff, ff, ff, ff, ff, ff] rfl rfl (by kernel_rfl) (fun _ _ _ h => h) (Or.inl ⟨by rfl, by intro w hSw; (try dsimp only at hSw);go_simp⟩) hS rfl ?_
        try simp only [Act.put, List.setIfInBounds_toArray, List.set_cons_zero, List.set_cons_succ]
        refine take_ (i := 11) (N := some 66) (v := (.pointer (some ⟨(ad.add (i * 7)).block, (ad.add (i * 7)).off + 4 + 1, none⟩))) #[tt, tt, tt, tt, tt, tt, tt, tt, tt, tt, tt, tt, ff, ff, ff, ff, ff, ff, ff, ff, ff, ff, ff, ff, ff, ff, ff, ff] rfl rfl (by kernel_rfl) (fun _ _ _ h => h) (Or.inl ⟨by rfl, by intro w hSw; (try dsimp only at hSw);go_simp⟩) hS rfl ?_
        try simp only [Act.put, List.setIfInBounds_toArray, List.set_cons_zero, List.set_cons_succ]
        refine take_ (i := 12) (N := some 67) (v := (.slice Y1 yv.l1.length y1)) #[tt, tt, tt, tt, tt, tt, tt, tt, tt, tt, tt, tt, tt, ff, ff, ff, ff, ff, ff, ff, ff, ff, ff, ff, ff, ff, ff, ff] rfl rfl (by kernel_rfl) (fun _ _ _ h => h) (Or.inl ⟨by rfl, by intro w hSw; (try dsimp only at hSw);go_simp⟩) hS rfl ?_
        try simp only [Act.put, List.setIfInBounds_toArray, List.set_cons_zero, List.set_cons_succ]
        refine take_ (i := 13) (N := some 68) (v := (.int .i64 n1)) #[tt, tt, tt, tt, tt, tt, tt, tt, tt, tt, tt, tt, tt, tt, ff, ff, ff, ff, ff, ff, ff, ff, ff, ff, ff, ff, ff, ff] rfl rfl (by kernel_rfl) (fun _ _ _ h => h) (Or.inl ⟨by rfl, by intro w hSw; (try dsimp only at hSw);go_simp⟩) hS rfl ?_
        try simp only [Act.put, List.setIfInBounds_toArray, List.set_cons_zero, List.set_cons_succ]
        refine take_ (i := 14) (N := some 69) (v := (.int .i64 m2)) #[tt, tt, tt, tt, tt, tt, tt, tt, tt, tt, tt, tt, tt, tt, tt, ff, ff, ff, ff, ff, ff, ff, ff, ff, ff, ff, ff, ff] rfl rfl (by kernel_rfl) (fun _ _ _ h => h) (Or.inl ⟨by rfl, by intro w hSw; (try dsimp only at hSw);go_simp⟩) hS rfl ?_
        try simp only [Act.put, List.setIfInBounds_toArray, List.set_cons_zero, List.set_cons_succ]
        refine take_ (i := 15) (N := some 70) (v := (.slice (some ad) n c0)) #[tt, tt, tt, tt, tt, tt, tt, tt, tt, tt, tt, tt, tt, tt, tt, tt, ff, ff, ff, ff, ff, ff, ff, ff, ff, ff, ff, ff] rfl rfl (by kernel_rfl) (fun _ _ _ h => h) (Or.inl ⟨by rfl, by intro w hSw; (try dsimp only at hSw);go_simp⟩) hS rfl ?_
        try simp only [Act.put, List.setIfInBounds_toArray, List.set_cons_zero, List.set_cons_succ]
        refine take_ (i := 16) (N := some 71) (v := (.int .i64 (i : Int))) #[tt, tt, tt, tt, tt, tt, tt, tt, tt, tt, tt, tt, tt, tt, tt, tt, tt, ff, ff, ff, ff, ff, ff, ff, ff, ff, ff, ff] rfl rfl (by kernel_rfl) (fun _ _ _ h => h) (Or.inl ⟨by rfl, by intro w hSw; (try dsimp only at hSw);go_simp⟩) hS rfl ?_
        try simp only [Act.put, List.setIfInBounds_toArray, List.set_cons_zero, List.set_cons_succ]
        refine take_ (i := 17) (N := some 72) (v := (.pointer (some (ad.add (i * 7))))) #[tt, tt, tt, tt, tt, tt, tt, tt, tt, tt, tt, tt, tt, tt, tt, tt, tt, tt, ff, ff, ff, ff, ff, ff, ff, ff, ff, ff] rfl rfl (by kernel_rfl) (fun _ _ _ h => h) (Or.inl ⟨by rfl, by intro w hSw; (try dsimp only at hSw);go_simp⟩) hS rfl ?_
        try simp only [Act.put, List.setIfInBounds_toArray, List.set_cons_zero, List.set_cons_succ]
        refine take_ (i := 18) (N := some 73) (v := (.pointer (some ⟨(ad.add (i * 7)).block, (ad.add (i * 7)).off + 4, none⟩))) #[tt, tt, tt, tt, tt, tt, tt, tt, tt, tt, tt, tt, tt, tt, tt, tt, tt, tt, tt, ff, ff, ff, ff, ff, ff, ff, ff, ff] rfl rfl (by kernel_rfl) (fun _ _ _ h => h) (Or.inl ⟨by rfl, by intro w hSw; (try dsimp only at hSw);go_simp⟩) hS rfl ?_
        try simp only [Act.put, List.setIfInBounds_toArray, List.set_cons_zero, List.set_cons_succ]
        refine take_ (i := 19) (N := some 74) (v := (.pointer (some ⟨(ad.add (i * 7)).block, (ad.add (i * 7)).off + 4 + 2, none⟩))) #[tt, tt, tt, tt, tt, tt, tt, tt, tt, tt, tt, tt, tt, tt, tt, tt, tt, tt, tt, tt, ff, ff, ff, ff, ff, ff, ff, ff] rfl rfl (by kernel_rfl) (fun _ _ _ h => h) (Or.inl ⟨by rfl, by intro w hSw; (try dsimp only at hSw);go_simp⟩) hS rfl ?_
        try simp only [Act.put, List.setIfInBounds_toArray, List.set_cons_zero, List.set_cons_succ]
        refine take_ (i := 20) (N := some 75) (v := (.slice Y2 yv.l2.length y2)) #[tt, tt, tt, tt, tt, tt, tt, tt, tt, tt, tt, tt, tt, tt, tt, tt, tt, tt, tt, tt, tt, ff, ff, ff, ff, ff, ff, ff] rfl rfl (by kernel_rfl) (fun _ _ _ h => h) (Or.inl ⟨by rfl, by intro w hSw; (try dsimp only at hSw);go_simp⟩) hS rfl ?_
        try simp only [Act.put, List.setIfInBounds_toArray, List.set_cons_zero, List.set_cons_succ]
        refine take_ (i := 21) (N := some 76) (v := (.int .i64 n2)) #[tt, tt, tt, tt, tt, tt, tt, tt, tt, tt, tt, tt, tt, tt, tt, tt, tt, tt, tt, tt, tt, tt, ff, ff, ff, ff, ff, ff] rfl rfl (by kernel_rfl) (fun _ _ _ h => h) (Or.inl ⟨by rfl, by intro w hSw; (try dsimp only at hSw);go_simp⟩) hS rfl ?_
        try simp only [Act.put, List.setIfInBounds_toArray, List.set_cons_zero, List.set_cons_succ]
        refine take_ (i := 22) (N := some 77) (v := (.int .i64 m3)) #[tt, tt, tt, tt, tt, tt, tt, tt, tt, tt, tt, tt, tt, tt, tt, tt, tt, tt, tt, tt, tt, tt, tt, ff, ff, ff, ff, ff] rfl rfl (by kernel_rfl) (fun _ _ _ h => h) (Or.inl ⟨by rfl, by intro w hSw; (try dsimp only at hSw);go_simp⟩) hS rfl ?_
        try simp only [Act.put, List.setIfInBounds_toArray, List.set_cons_zero, List.set_cons_succ]
        refine take_ (i := 23) (N := some 78) (v := (.bool true)) #[tt, tt, tt, tt, tt, tt, tt, tt, tt, tt, tt, tt, tt, tt, tt, tt, tt, tt, tt, tt, tt, tt, tt, tt, ff, ff, ff, ff] rfl rfl (by kernel_rfl) (fun _ _ _ h => h) (Or.inl ⟨by rfl, by intro w hSw; (try dsimp only at hSw);go_simp⟩) hS rfl ?_
        try simp only [Act.put, List.setIfInBounds_toArray, List.set_cons_zero, List.set_cons_succ]
        refine take_ (i := 24) (N := some 79) (v := (.bool true)) #[tt, tt, tt, tt, tt, tt, tt, tt, tt, tt, tt, tt, tt, tt, tt, tt, tt, tt, tt, tt, tt, tt, tt, tt, tt, ff, ff, ff] rfl rfl (by kernel_rfl) (fun _ _ _ h => h) (Or.inl ⟨by rfl, by intro w hSw; (try dsimp only at hSw);go_simp⟩) hS rfl ?_
        try simp only [Act.put, List.setIfInBounds_toArray, List.set_cons_zero, List.set_cons_succ]
        refine one_ (i := 25) (N := some 80) #[tt, tt, tt, tt, tt, tt, tt, tt, tt, tt, tt, tt, tt, tt, tt, tt, tt, tt, tt, tt, tt, tt, tt, tt, tt, tt, ff, ff] rfl rfl (by kernel_rfl) (by decide) ?_
        intro K hK
        go_simp
        go_at_call 9; (with_reducible refine (ndjqlaw18_awake.calls k r _ (HG.out.below HX.out) HAW.out).mono ?_); rintro e we ⟨rfl, hb⟩; have HX2 := Aside0.mk (below_step HX.out hb); clear HX; have HX := HX2; clear HX2 hb
        refine hK.out _ _ (HKP.out _ HX.out) (fun hS => ?_)
        clear hK K
        try simp only [Act.put, List.setIfInBounds_toArray, List.set_cons_zero, List.set_cons_succ]
        refine take_ (i := 26) (N := some 81) (v := (.bool r)) #[tt, tt, tt, tt, tt, tt, tt, tt, tt, tt, tt, tt, tt, tt, tt, tt, tt, tt, tt, tt, tt, tt, tt, tt, tt, tt, tt, ff] rfl rfl (by kernel_rfl) (fun _ _ _ h => h) (Or.inl ⟨by rfl, by intro w hSw; (try dsimp only at hSw);go_simp⟩) hS rfl ?_
        try simp only [Act.put, List.setIfInBounds_toArray, List.set_cons_zero, List.set_cons_succ]
        refine take_ (i := 27) (N := some 2) (v := (.bool r)) #[tt, tt, tt, tt, tt, tt, tt, tt, tt, tt, tt, tt, tt, tt, tt, tt, tt, tt, tt, tt, tt, tt, tt, tt, tt, tt, tt, tt] rfl rfl (by kernel_rfl) (fun _ _ _ h => h) (Or.inl ⟨by rfl, by intro w hSw; (try dsimp only at hSw);go_simp⟩) hS rfl ?_
        try simp only [Act.put, List.setIfInBounds_toArray, List.set_cons_zero, List.set_cons_succ]
        refine done_ (by kernel_rfl) ?_
        go_wp2
        go_ret
        exact ⟨rfl, HX.out⟩
      · rw [if_neg hbig] at h2
        have g0 : decide (m3 > 60) = false := decide_eq_false (fun e => hbig (hx0.2 e))
        obtain ⟨va, hva, h3⟩ := Option.bind_eq_some_iff.1 h2
        obtain ⟨vb, hvb, h4⟩ := Option.bind_eq_some_iff.1 h3
        by_cases hab : va = vb
        rotate_left
        · rw [if_neg hab] at h4; cases h4
        rw [if_pos hab] at h4
        subst hab
        have HVa := Aside0.mk hva
        have HVb := Aside0.mk hvb
        have HP := Aside0.mk h4
        clear h2 h3 h4 hva hvb hbig hx0
        go_upto_region 6 with fail
        have HX0 := Aside0.mk HX.out.drew; clear HX; have HX := HX0; clear HX0
        refine start_ (n := 37) (S := fun w' => w'.cell? (ad.add (i * 7)) = some (.int .i64 yv.n) ∧ w'.cell? ⟨(ad.add (i * 7)).block, (ad.add (i * 7)).off + 1, none⟩ = some (.int .i64 yv.e0) ∧ w'.cell? ⟨(ad.add (i * 7)).block, (ad.add (i * 7)).off + 2, none⟩ = some (.int .i64 yv.e1) ∧ w'.cell? ⟨(ad.add (i * 7)).block, (ad.add (i * 7)).off + 3, none⟩ = some (.int .i64 yv.e2) ∧ w'.cell? ⟨(ad.add (i * 7)).block, (ad.add (i * 7)).off + 4, none⟩ = some (.slice Y0 yv.l0.length y0) ∧ w'.cell? ⟨(ad.add (i * 7)).block, (ad.add (i * 7)).off + 5, none⟩ = some (.slice Y1 yv.l1.length y1) ∧ w'.cell? ⟨(ad.add (i * 7)).block, (ad.add (i * 7)).off + 6, none⟩ = some (.slice Y2 yv.l2.length y2)) (ds := []) #[ff, ff, ff, ff, ff, ff, ff, ff, ff, ff, ff, ff, ff, ff, ff, ff, ff, ff, ff, ff, ff, ff, ff, ff, ff, ff, ff, ff, ff, ff, ff, ff, ff, ff, ff, ff, ff] (by kernel_rfl) rfl (by rfl) (HKP.out _ HX.out) (fun hS => ?_)
        refine take_ (i := 0) (N := some 18) (v := (.slice (some ad) n c0)) #[tt, ff, ff, ff, ff, ff, ff, ff, ff, ff, ff, ff, ff, ff, ff, ff, ff, ff, ff, ff, ff, ff, ff, ff, ff, ff, ff, ff, ff, ff, ff, ff, ff, ff, ff, ff, ff] rfl rfl (by kernel_rfl) (fun _ _ _ h => h) (Or.inl ⟨by rfl, by intro w hSw; (try dsimp only at hSw);go_simp⟩) hS rfl ?_
        try simp only [Act.put, List.setIfInBounds_toArray, List.set_cons_zero, List.set_cons_succ]
        refine take_ (i := 1) (N := some 19) (v := (.int .i64 (i : Int))) #[tt, tt, ff, ff, ff, ff, ff, ff, ff, ff, ff, ff, ff, ff, ff, ff, ff, ff, ff, ff, ff, ff, ff, ff, ff, ff, ff, ff, ff, ff, ff, ff, ff, ff, ff, ff, ff] rfl rfl (by kernel_rfl) (fun _ _ _ h => h) (Or.inl ⟨by rfl, by intro w hSw; (try dsimp only at hSw);go_simp⟩) hS rfl ?_
        try simp only [Act.put, List.setIfInBounds_toArray, List.set_cons_zero, List.set_cons_succ]
        refine take_ (i := 2) (N := some 20) (v := (.pointer (some (ad.add (i * 7))))) #[tt, tt, tt, ff, ff, ff, ff, ff, ff, ff, ff, ff, ff, ff, ff, ff, ff, ff, ff, ff, ff, ff, ff, ff, ff, ff, ff, ff, ff, ff, ff, ff, ff, ff, ff, ff, ff] rfl rfl (by kernel_rfl) (fun _ _ _ h => h) (Or.inl ⟨by rfl, by intro w hSw; (try dsimp only at hSw);go_simp⟩) hS rfl ?_
        try simp only [Act.put, List.setIfInBounds_toArray, List.set_cons_zero, List.set_cons_succ]
        refine take_ (i := 3) (N := some 21) (v := (.pointer (some ⟨(ad.add (i * 7)).block, (ad.add (i * 7)).off + 4, none⟩))) #[tt, tt, tt, tt, ff, ff, ff, ff, ff, ff, ff, ff, ff, ff, ff, ff, ff, ff, ff, ff, ff, ff, ff, ff, ff, ff, ff, ff, ff, ff, ff, ff, ff, ff, ff, ff, ff] rfl rfl (by kernel_rfl) (fun _ _ _ h => h) (Or.inl ⟨by rfl, by intro w hSw; (try dsimp only at hSw);go_simp⟩) hS rfl ?_
        try simp only [Act.put, List.setIfInBounds_toArray, List.set_cons_zero, List.set_cons_succ]
        refine take_ (i := 4) (N := some 22) (v := (.pointer (some ⟨(ad.add (i * 7)).block, (ad.add (i * 7)).off + 4, none⟩))) #[tt, tt, tt, tt, tt, ff, ff, ff, ff, ff, ff, ff, ff, ff, ff, ff, ff, ff, ff, ff, ff, ff, ff, ff, ff, ff, ff, ff, ff, ff, ff, ff, ff, ff, ff, ff, ff] rfl rfl (by kernel_rfl) (fun _ _ _ h => h) (Or.inl ⟨by rfl, by intro w hSw; (try dsimp only at hSw);go_simp⟩) hS rfl ?_
        try simp only [Act.put, List.setIfInBounds_toArray, List.set_cons_zero, List.set_cons_succ]
        refine take_ (i := 5) (N := some 23) (v := (.slice Y0 yv.l0.length y0)) #[tt, tt, tt, tt, tt, tt, ff, ff, ff, ff, ff, ff, ff, ff, ff, ff, ff, ff, ff, ff, ff, ff, ff, ff, ff, ff, ff, ff, ff, ff, ff, ff, ff, ff, ff, ff, ff] rfl rfl (by kernel_rfl) (fun _ _ _ h => h) (Or.inl ⟨by rfl, by intro w hSw; (try dsimp only at hSw);go_simp⟩) hS rfl ?_
        try simp only [Act.put, List.setIfInBounds_toArray, List.set_cons_zero, List.set_cons_succ]
        refine take_ (i := 6) (N := some 24) (v := (.int .i64 n0)) #[tt, tt, tt, tt, tt, tt, tt, ff, ff, ff, ff, ff, ff, ff, ff, ff, ff, ff, ff, ff, ff, ff, ff, ff, ff, ff, ff, ff, ff, ff, ff, ff, ff, ff, ff, ff, ff] rfl rfl (by kernel_rfl) (fun _ _ _ h => h) (Or.inl ⟨by rfl, by intro w hSw; (try dsimp only at hSw);go_simp⟩) hS rfl ?_
        try simp only [Act.put, List.setIfInBounds_toArray, List.set_cons_zero, List.set_cons_succ]
        refine take_ (i := 7) (N := some 25) (v := (.slice (some ad) n c0)) #[tt, tt, tt, tt, tt, tt, tt, tt, ff, ff, ff, ff, ff, ff, ff, ff, ff, ff, ff, ff, ff, ff, ff, ff, ff, ff, ff, ff, ff, ff, ff, ff, ff, ff, ff, ff, ff] rfl rfl (by kernel_rfl) (fun _ _ _ h => h) (Or.inl ⟨by rfl, by intro w hSw; (try dsimp only at hSw);go_simp⟩) hS rfl ?_
        try simp only [Act.put, List.setIfInBounds_toArray, List.set_cons_zero, List.set_cons_succ]
        refine take_ (i := 8) (N := some 26) (v := (.int .i64 (i : Int))) #[tt, tt, tt, tt, tt, tt, tt, tt, tt, ff, ff, ff, ff, ff, ff, ff, ff, ff, ff, ff, ff, ff, ff, ff, ff, ff, ff, ff, ff, ff, ff, ff, ff, ff, ff, ff, ff] rfl rfl (by kernel_rfl) (fun _ _ _ h => h) (Or.inl ⟨by rfl, by intro w hSw; (try dsimp only at hSw);go_simp⟩) hS rfl ?_
        try simp only [Act.put, List.setIfInBounds_toArray, List.set_cons_zero, List.set_cons_succ]
        refine take_ (i := 9) (N := some 27) (v := (.pointer (some (ad.add (i * 7))))) #[tt, tt, tt, tt, tt, tt, tt, tt, tt, tt, ff, ff, ff, ff, ff, ff, ff, ff, ff, ff, ff, ff, ff, ff, ff, ff, ff, ff, ff, ff, ff, ff, ff, ff, ff, ff, ff] rfl rfl (by kernel_rfl) (fun _ _ _ h => h) (Or.inl ⟨by rfl, by intro w hSw; (try dsimp only at hSw);go_simp⟩) hS rfl ?_
        try simp only [Act.put, List.setIfInBounds_toArray, List.set_cons_zero, List.set_cons_succ]
        refine take_ (i := 10) (N := some 28) (v := (.pointer (some ⟨(ad.add (i * 7)).block, (ad.add (i * 7)).off + 4, none⟩))) #[tt, tt, tt, tt, tt, tt, tt, tt, tt, tt, tt, ff, ff, ff, ff, ff, ff, ff, ff, ff, ff, ff, ff, ff, ff, ff, ff, ff, ff, ff, ff, ff, ff, ff, ff, ff, ff] rfl rfl (by kernel_rfl) (fun _ _ _ h => h) (Or.inl ⟨by rfl, by intro w hSw; (try dsimp only at hSw);go_simp⟩) hS rfl ?_
        try simp only [Act.put, List.setIfInBounds_toArray, List.set_cons_zero, List.set_cons_succ]
        refine take_ (i := 11) (N := some 29) (v := (.pointer (some ⟨(ad.add (i * 7)).block, (ad.add (i * 7)).off + 4 + 1, none⟩))) #[tt, tt, tt, tt, tt, tt, tt, tt, tt, tt, tt, tt, ff, ff, ff, ff, ff, ff, ff, ff, ff, ff, ff, ff, ff, ff, ff, ff, ff, ff, ff, ff, ff, ff, ff, ff, ff] rfl rfl (by kernel_rfl) (fun _ _ _ h => h) (Or.inl ⟨by rfl, by intro w hSw; (try dsimp only at hSw);go_simp⟩) hS rfl ?_
        try simp only [Act.put, List.setIfInBounds_toArray, List.set_cons_zero, List.set_cons_succ]
        refine take_ (i := 12) (N := some 30) (v := (.slice Y1 yv.l1.length y1)) #[tt, tt, tt, tt, tt, tt, tt, tt, tt, tt, tt, tt, tt, ff, ff, ff, ff, ff, ff, ff, ff, ff, ff, ff, ff, ff, ff, ff, ff, ff, ff, ff, ff, ff, ff, ff, ff] rfl rfl (by kernel_rfl) (fun _ _ _ h => h) (Or.inl ⟨by rfl, by intro w hSw; (try dsimp only at hSw);go_simp⟩) hS rfl ?_
        try simp only [Act.put, List.setIfInBounds_toArray, List.set_cons_zero, List.set_cons_succ]
        refine take_ (i := 13) (N := some 31) (v := (.int .i64 n1)) #[tt, tt, tt, tt, tt, tt, tt, tt, tt, tt, tt, tt, tt, tt, ff, ff, ff, ff, ff, ff, ff, ff, ff, ff, ff, ff, ff, ff, ff, ff, ff, ff, ff, ff, ff, ff, ff] rfl rfl (by kernel_rfl) (fun _ _ _ h => h) (Or.inl ⟨by rfl, by intro w hSw; (try dsimp only at hSw);go_simp⟩) hS rfl ?_
        try simp only [Act.put, List.setIfInBounds_toArray, List.set_cons_zero, List.set_cons_succ]
        refine take_ (i := 14) (N := some 32) (v := (.int .i64 m2)) #[tt, tt, tt, tt, tt, tt, tt, tt, tt, tt, tt, tt, tt, tt, tt, ff, ff, ff, ff, ff, ff, ff, ff, ff, ff, ff, ff, ff, ff, ff, ff, ff, ff, ff, ff, ff, ff] rfl rfl (by kernel_rfl) (fun _ _ _ h => h) (Or.inl ⟨by rfl, by intro w hSw; (try dsimp only at hSw);go_simp⟩) hS rfl ?_
        try simp only [Act.put, List.setIfInBounds_toArray, List.set_cons_zero, List.set_cons_succ]
        refine take_ (i := 15) (N := some 33) (v := (.slice (some ad) n c0)) #[tt, tt, tt, tt, tt, tt, tt, tt, tt, tt, tt, tt, tt, tt, tt, tt, ff, ff, ff, ff, ff, ff, ff, ff, ff, ff, ff, ff, ff, ff, ff, ff, ff, ff, ff, ff, ff] rfl rfl (by kernel_rfl) (fun _ _ _ h => h) (Or.inl ⟨by rfl, by intro w hSw; (try dsimp only at hSw);go_simp⟩) hS rfl ?_
        try simp only [Act.put, List.setIfInBounds_toArray, List.set_cons_zero, List.set_cons_succ]
        refine take_ (i := 16) (N := some 34) (v := (.int .i64 (i : Int))) #[tt, tt, tt, tt, tt, tt, tt, tt, tt, tt, tt, tt, tt, tt, tt, tt, tt, ff, ff, ff, ff, ff, ff, ff, ff, ff, ff, ff, ff, ff, ff, ff, ff, ff, ff, ff, ff] rfl rfl (by kernel_rfl) (fun _ _ _ h => h) (Or.inl ⟨by rfl, by intro w hSw; (try dsimp only at hSw);go_simp⟩) hS rfl ?_
        try simp only [Act.put, List.setIfInBounds_toArray, List.set_cons_zero, List.set_cons_succ]
        refine take_ (i := 17) (N := some 35) (v := (.pointer (some (ad.add (i * 7))))) #[tt, tt, tt, tt, tt, tt, tt, tt, tt, tt, tt, tt, tt, tt, tt, tt, tt, tt, ff, ff, ff, ff, ff, ff, ff, ff, ff, ff, ff, ff, ff, ff, ff, ff, ff, ff, ff] rfl rfl (by kernel_rfl) (fun _ _ _ h => h) (Or.inl ⟨by rfl, by intro w hSw; (try dsimp only at hSw);go_simp⟩) hS rfl ?_
        try simp only [Act.put, List.setIfInBounds_toArray, List.set_cons_zero, List.set_cons_succ]
        refine take_ (i := 18) (N := some 36) (v := (.pointer (some ⟨(ad.add (i * 7)).block, (ad.add (i * 7)).off + 4, none⟩))) #[tt, tt, tt, tt, tt, tt, tt, tt, tt, tt, tt, tt, tt, tt, tt, tt, tt, tt, tt, ff, ff, ff, ff, ff, ff, ff, ff, ff, ff, ff, ff, ff, ff, ff, ff, ff, ff] rfl rfl (by kernel_rfl) (fun _ _ _ h => h) (Or.inl ⟨by rfl, by intro w hSw; (try dsimp only at hSw);go_simp⟩) hS rfl ?_
        try simp only [Act.put, List.setIfInBounds_toArray, List.set_cons_zero, List.set_cons_succ]
        refine take_ (i := 19) (N := some 37) (v := (.pointer (some ⟨(ad.add (i * 7)).block, (ad.add (i * 7)).off + 4 + 2, none⟩))) #[tt, tt, tt, tt, tt, tt, tt, tt, tt, tt, tt, tt, tt, tt, tt, tt, tt, tt, tt, tt, ff, ff, ff, ff, ff, ff, ff, ff, ff, ff, ff, ff, ff, ff, ff, ff, ff] rfl rfl (by kernel_rfl) (fun _ _ _ h => h) (Or.inl ⟨by rfl, by intro w hSw; (try dsimp only at hSw);go_simp⟩) hS rfl ?_
        try simp only [Act.put, List.setIfInBounds_toArray, List.set_cons_zero, List.set_cons_succ]
        refine take_ (i := 20) (N := some 38) (v := (.slice Y2 yv.l2.length y2)) #[tt, tt, tt, tt, tt, tt, tt, tt, tt, tt, tt, tt, tt, tt, tt, tt, tt, tt, tt, tt, tt, ff, ff, ff, ff, ff, ff, ff, ff, ff, ff, ff, ff, ff, ff, ff, ff] rfl rfl (by kernel_rfl) (fun _ _ _ h => h) (Or.inl ⟨by rfl, by intro w hSw; (try dsimp only at hSw);go_simp⟩) hS rfl ?_
        try simp only [Act.put, List.setIfInBounds_toArray, List.set_cons_zero, List.set_cons_succ]
        refine take_ (i := 21) (N := some 39) (v := (.int .i64 n2)) #[tt, tt, tt, tt, tt, tt, tt, tt, tt, tt, tt, tt, tt, tt, tt, tt, tt, tt, tt, tt, tt, tt, ff, ff, ff, ff, ff, ff, ff, ff, ff, ff, ff, ff, ff, ff, ff] rfl rfl (by kernel_rfl) (fun _ _ _ h => h) (Or.inl ⟨by rfl, by intro w hSw; (try dsimp only at hSw);go_simp⟩) hS rfl ?_
        try simp only [Act.put, List.setIfInBounds_toArray, List.set_cons_zero, List.set_cons_succ]
        refine take_ (i := 22) (N := some 40) (v := (.int .i64 m3)) #[tt, tt, tt, tt, tt, tt, tt, tt, tt, tt, tt, tt, tt, tt, tt, tt, tt, tt, tt, tt, tt, tt, tt, ff, ff, ff, ff, ff, ff, ff, ff, ff, ff, ff, ff, ff, ff] rfl rfl (by kernel_rfl) (fun _ _ _ h => h) (Or.inl ⟨by rfl, by intro w hSw; (try dsimp only at hSw);go_simp⟩) hS rfl ?_
        try simp only [Act.put, List.setIfInBounds_toArray, List.set_cons_zero, List.set_cons_succ]
        refine take_ (i := 23) (N := some 41) (v := (.bool false)) #[tt, tt, tt, tt, tt, tt, tt, tt, tt, tt, tt, tt, tt, tt, tt, tt, tt, tt, tt, tt, tt, tt, tt, tt, ff, ff, ff, ff, ff, ff, ff, ff, ff, ff, ff, ff, ff] rfl rfl (by kernel_rfl) (fun _ _ _ h => h) (Or.inl ⟨by rfl, by intro w hSw; (try dsimp only at hSw);go_simp⟩) hS rfl ?_
        try simp only [Act.put, List.setIfInBounds_toArray, List.set_cons_zero, List.set_cons_succ]
        refine take_ (i := 24) (N := some 42) (v := (.bool false)) #[tt, tt, tt, tt, tt, tt, tt, tt, tt, tt, tt, tt, tt, tt, tt, tt, tt, tt, tt, tt, tt, tt, tt, tt, tt, ff, ff, ff, ff, ff, ff, ff, ff, ff, ff, ff, ff] rfl rfl (by kernel_rfl) (fun _ _ _ h => h) (Or.inl ⟨by rfl, by intro w hSw; (try dsimp only at hSw);go_simp⟩) hS rfl ?_
        try simp only [Act.put, List.setIfInBounds_toArray, List.set_cons_zero, List.set_cons_succ]
        refine take_ (i := 25) (N := some 43) (v := (.slice (some ad) n c0)) #[tt, tt, tt, tt, tt, tt, tt, tt, tt, tt, tt, tt, tt, tt, tt, tt, tt, tt, tt, tt, tt, tt, tt, tt, tt, tt, ff, ff, ff, ff, ff, ff, ff, ff, ff, ff, ff] rfl rfl (by kernel_rfl) (fun _ _ _ h => h) (Or.inl ⟨by rfl, by intro w hSw; (try dsimp only at hSw);go_simp⟩) hS rfl ?_
        try simp only [Act.put, List.setIfInBounds_toArray, List.set_cons_zero, List.set_cons_succ]
        refine take_ (i := 30) (N := some 48) (v := (.slice (some ad) n c0)) #[tt, tt, tt, tt, tt, tt, tt, tt, tt, tt, tt, tt, tt, tt, tt, tt, tt, tt, tt, tt, tt, tt, tt, tt, tt, tt, ff, ff, ff, ff, tt, ff, ff, ff, ff, ff, ff] rfl rfl (by kernel_rfl) (fun _ _ _ h => h) (Or.inl ⟨by rfl, by intro w hSw; (try dsimp only at hSw);go_simp⟩) hS rfl ?_
        try simp only [Act.put, List.setIfInBounds_toArray, List.set_cons_zero, List.set_cons_succ]
        refine take_ (i := 26) (N := some 44) (v := (.int .i64 (i : Int))) #[tt, tt, tt, tt, tt, tt, tt, tt, tt, tt, tt, tt, tt, tt, tt, tt, tt, tt, tt, tt, tt, tt, tt, tt, tt, tt, tt, ff, ff, ff, tt, ff, ff, ff, ff, ff, ff] rfl rfl (by kernel_rfl) (fun _ _ _ h => h) (Or.inl ⟨by rfl, by intro w hSw; (try dsimp only at hSw);go_simp⟩) hS rfl ?_
        try simp only [Act.put, List.setIfInBounds_toArray, List.set_cons_zero, List.set_cons_succ]
        refine take_ (i := 31) (N := some 49) (v := (.int .i64 (i : Int))) #[tt, tt, tt, tt, tt, tt, tt, tt, tt, tt, tt, tt, tt, tt, tt, tt, tt, tt, tt, tt, tt, tt, tt, tt, tt, tt, tt, ff, ff, ff, tt, tt, ff, ff, ff, ff, ff] rfl rfl (by kernel_rfl) (fun _ _ _ h => h) (Or.inl ⟨by rfl, by intro w hSw; (try dsimp only at hSw);go_simp⟩) hS rfl ?_
        try simp only [Act.put, List.setIfInBounds_toArray, List.set_cons_zero, List.set_cons_succ]
        refine take_ (i := 27) (N := some 45) (v := (.pointer (some (ad.add (i * 7))))) #[tt, tt, tt, tt, tt, tt, tt, tt, tt, tt, tt, tt, tt, tt, tt, tt, tt, tt, tt, tt, tt, tt, tt, tt, tt, tt, tt, tt, ff, ff, tt, tt, ff, ff, ff, ff, ff] rfl rfl (by kernel_rfl) (fun _ _ _ h => h) (Or.inl ⟨by rfl, by intro w hSw; (try dsimp only at hSw);go_simp⟩) hS rfl ?_
        try simp only [Act.put, List.setIfInBounds_toArray, List.set_cons_zero, List.set_cons_succ]
        refine take_ (i := 32) (N := some 50) (v := (.pointer (some (ad.add (i * 7))))) #[tt, tt, tt, tt, tt, tt, tt, tt, tt, tt, tt, tt, tt, tt, tt, tt, tt, tt, tt, tt, tt, tt, tt, tt, tt, tt, tt, tt, ff, ff, tt, tt, tt, ff, ff, ff, ff] rfl rfl (by kernel_rfl) (fun _ _ _ h => h) (Or.inl ⟨by rfl, by intro w hSw; (try dsimp only at hSw);go_simp⟩) hS rfl ?_
        try simp only [Act.put, List.setIfInBounds_toArray, List.set_cons_zero, List.set_cons_succ]
        refine take_ (i := 28) (N := some 46) (v := (.agg #[.int .i64 yv.n, .int .i64 yv.e0, .int .i64 yv.e1, .int .i64 yv.e2, .slice Y0 yv.l0.length y0, .slice Y1 yv.l1.length y1, .slice Y2 yv.l2.length y2])) #[tt, tt, tt, tt, tt, tt, tt, tt, tt, tt, tt, tt, tt, tt, tt, tt, tt, tt, tt, tt, tt, tt, tt, tt, tt, tt, tt, tt, tt, ff, tt, tt, tt, ff, ff, ff, ff] rfl rfl (by kernel_rfl) (fun _ _ _ h => h) (Or.inl ⟨by rfl, by intro w hSw; (try dsimp only at hSw);go_simp⟩) hS rfl ?_
        try simp only [Act.put, List.setIfInBounds_toArray, List.set_cons_zero, List.set_cons_succ]
        refine take_ (i := 33) (N := some 51) (v := (.agg #[.int .i64 yv.n, .int .i64 yv.e0, .int .i64 yv.e1, .int .i64 yv.e2, .slice Y0 yv.l0.length y0, .slice Y1 yv.l1.length y1, .slice Y2 yv.l2.length y2])) #[tt, tt, tt, tt, tt, tt, tt, tt, tt, tt, tt, tt, tt, tt, tt, tt, tt, tt, tt, tt, tt, tt, tt, tt, tt, tt, tt, tt, tt, ff, tt, tt, tt, tt, ff, ff, ff] rfl rfl (by kernel_rfl) (fun _ _ _ h => h) (Or.inl ⟨by rfl, by intro w hSw; (try dsimp only at hSw);go_simp⟩) hS rfl ?_
        try simp only [Act.put, List.setIfInBounds_toArray, List.set_cons_zero, List.set_cons_succ]
        refine one_ (i := 29) (N := some 47) #[tt, tt, tt, tt, tt, tt, tt, tt, tt, tt, tt, tt, tt, tt, tt, tt, tt, tt, tt, tt, tt, tt, tt, tt, tt, tt, tt, tt, tt, tt, tt, tt, tt, tt, ff, ff, ff] rfl rfl (by kernel_rfl) (by decide) ?_
        intro K hK
        go_simp
        go_at_call 21; (with_reducible refine (vldC k yv va _ (HE.out.below HX.out).rd HVa.out).mono ?_); rintro e we ⟨rfl, hb⟩; have HX2 := Aside0.mk (below_step HX.out hb); clear HX; have HX := HX2; clear HX2 hb
        refine hK.out _ _ (HKP.out _ HX.out) (fun hS => ?_)
        clear hK K
        try simp only [Act.put, List.setIfInBounds_toArray, List.set_cons_zero, List.set_cons_succ]
        refine one_ (i := 34) (N := some 52) #[tt, tt, tt, tt, tt, tt, tt, tt, tt, tt, tt, tt, tt, tt, tt, tt, tt, tt, tt, tt, tt, tt, tt, tt, tt, tt, tt, tt, tt, tt, tt, tt, tt, tt, tt, ff, ff] rfl rfl (by kernel_rfl) (by decide) ?_
        intro K hK
        go_simp
        go_at_call 22; (with_reducible refine (refVC k yv va _ (HE.out.below HX.out).rd HVb.out).mono ?_); rintro e we ⟨rfl, hb⟩; have HX2 := Aside0.mk (below_step HX.out hb); clear HX; have HX := HX2; clear HX2 hb
        refine hK.out _ _ (HKP.out _ HX.out) (fun hS => ?_)
        clear hK K
        try simp only [Act.put, List.setIfInBounds_toArray, List.set_cons_zero, List.set_cons_succ]
        refine take_ (i := 35) (N := some 53) (v := (.bool false)) #[tt, tt, tt, tt, tt, tt, tt, tt, tt, tt, tt, tt, tt, tt, tt, tt, tt, tt, tt, tt, tt, tt, tt, tt, tt, tt, tt, tt, tt, tt, tt, tt, tt, tt, tt, tt, ff] rfl rfl (by kernel_rfl) (fun _ _ _ h => h) (Or.inl ⟨by rfl, by intro w hSw; (try dsimp only at hSw);go_simp⟩) hS rfl ?_
        try simp only [Act.put, List.setIfInBounds_toArray, List.set_cons_zero, List.set_cons_succ]
        refine take_ (i := 36) (N := some 54) (v := (.bool false)) #[tt, tt, tt, tt, tt, tt, tt, tt, tt, tt, tt, tt, tt, tt, tt, tt, tt, tt, tt, tt, tt, tt, tt, tt, tt, tt, tt, tt, tt, tt, tt, tt, tt, tt, tt, tt, tt] rfl rfl (by kernel_rfl) (fun _ _ _ h => h) (Or.inl ⟨by rfl, by intro w hSw; (try dsimp only at hSw);go_simp⟩) hS rfl ?_
        try simp only [Act.put, List.setIfInBounds_toArray, List.set_cons_zero, List.set_cons_succ]
        refine done_ (by kernel_rfl) ?_
        go_wp2
        go_roundg j1
        case measure => omega
        case rel => exact ⟨i + 1, by have := HI.out; omega, by first | rfl | (congr 1; have := H5.out; unfold wrap64; omega), HP, HX⟩
    · have e1 : l.drop i = [] := List.drop_eq_nil_of_le (by have := HN.out; omega)
      have h3 := HP.out
      rw [e1, preL] at h3
      have ho := HO.out
      have h4 := Option.some.inj h3
      subst h4
      have HEnd : Aside0 (endL k l = some r) := ⟨ho⟩
      have cc0 : decide ((i : Int) < (n : Int)) = false := decide_eq_false (by omega)
      clear e1 h3 ho HO HP
      have h := HEnd.out
      unfold endL at h
      obtain ⟨⟨x, ex⟩, hx, h⟩ := Option.bind_eq_some_iff.1 h
      obtain ⟨⟨y, ey⟩, hy, h⟩ := Option.bind_eq_some_iff.1 h
      (try dsimp only at h)
      by_cases hxy : ex = ey
      rotate_left
      · rw [if_neg hxy] at h; cases h
      rw [if_pos hxy] at h
      subst hxy
      obtain ⟨s, hs, h⟩ := Option.bind_eq_some_iff.1 h
      by_cases hst : s = true
      rotate_left
      · rw [if_neg hst] at h; cases h
      rw [if_pos hst] at h
      subst hst
      have Hx := Aside0.mk hx
      have Hy := Aside0.mk hy
      have Hs : Aside0 (sumM k x y = some true) := ⟨hs⟩
      have HH := Aside0.mk h
      clear hx hy hs h HEnd
      have HLw : Aside0 (∀ W, Below w.heap.size w W → Kd.C k29 W A0 l.length l) := ⟨fun W hb => Kd.C_below (by rw [HN.out]; exact HL.out) hb⟩
      obtain rfl : n = l.length := HN.out.symm
      go_upto_region 9 with (first | (go_at_call 23; (with_reducible refine (allC k l x ex _ (HLw.out _ HX.out) HC.out Hx.out).mono ?_); rintro e we ⟨E0, f0, E1, f1, E2, f2, rfl, hr, ht, hb⟩; have HRx := Aside0.mk hr; have HTx := Aside0.mk ht; have HX2 := Aside0.mk (below_step HX.out hb); clear HX; have HX := HX2; clear HX2 hr ht; have HSz := Aside0.mk (Nat.le_trans (below_size HX.out) (Nat.le_refl _)); clear hb))
      have ha := (Below.refl we.heap.size we).alloc (Nat.le_refl _) (.cells #[.int .i64 x.n, .int .i64 x.e0, .int .i64 x.e1, .int .i64 x.e2, .slice E0 x.l0.length f0, .slice E1 x.l1.length f1, .slice E2 x.l2.length f2] 29)
      have HBx := Aside0.mk (Bo.new HRx.out)
      have HX2 := Aside0.mk (below_step HX.out ha); clear HX; have HX := HX2; clear HX2
      have HTx2 := Aside0.mk (HTx.out.below ha); clear HTx; have HTx := HTx2; clear HTx2 ha HRx
      obtain ⟨xb, hxb⟩ : ∃ xb, we.heap.size = xb := ⟨_, rfl⟩
      obtain ⟨W2, hW2⟩ : ∃ W2, we.alloc (.cells #[.int .i64 x.n, .int .i64 x.e0, .int .i64 x.e1, .int .i64 x.e2, .slice E0 x.l0.length f0, .slice E1 x.l1.length f1, .slice E2 x.l2.length f2] 29) = W2 := ⟨_, rfl⟩
      have HXb : Aside0 (w.heap.size ≤ xb ∧ xb < W2.heap.size) := ⟨by
        refine ⟨?_, ?_⟩
        · have := HX.out.size
          rw [← hxb]
          exact HSz.out
        · rw [← hW2, ← hxb]; simp⟩
      rw [hW2, hxb] at HBx
      rw [hW2] at HX HTx
      rw [hW2, hxb]
      clear hW2 hxb HSz
      go_upto_region 10 with (first | (go_at_call 24; (with_reducible refine (allRC k l y ex _ (HLw.out _ HX.out) HC.out (by have := H5.out; omega) Hy.out).mono ?_); rintro e wf ⟨F0, g0_, F1, g1_, F2, g2_, rfl, hr, ht, hb⟩; have HRy := Aside0.mk hr; have HTy := Aside0.mk ht; have HBx2 := Aside0.mk (HBx.out.below hb); clear HBx; have HBx := HBx2; clear HBx2; have HTx2 := Aside0.mk (HTx.out.below hb); clear HTx; have HTx := HTx2; clear HTx2; have HSz := Aside0.mk (Nat.lt_of_lt_of_le HXb.out.2 hb.size); have HX2 := Aside0.mk (below_step HX.out hb); clear HX; have HX := HX2; clear HX2 hr ht hb))
      have ha := (Below.refl wf.heap.size wf).alloc (Nat.le_refl _) (.cells #[.int .i64 y.n, .int .i64 y.e0, .int .i64 y.e1, .int .i64 y.e2, .slice F0 y.l0.length g0_, .slice F1 y.l1.length g1_, .slice F2 y.l2.length g2_] 29)
      have HBy := Aside0.mk (Bo.new HRy.out)
      have HX2 := Aside0.mk (below_step HX.out ha); clear HX; have HX := HX2; clear HX2
      have HBx2 := Aside0.mk (HBx.out.below ha); clear HBx; have HBx := HBx2; clear HBx2
      have HTx2 := Aside0.mk (HTx.out.below ha); clear HTx; have HTx := HTx2; clear HTx2
      have HTy2 := Aside0.mk (HTy.out.below ha); clear HTy; have HTy := HTy2; clear HTy2 ha HRy
      obtain ⟨yb, hyb⟩ : ∃ yb, wf.heap.size = yb := ⟨_, rfl⟩
      obtain ⟨W3, hW3⟩ : ∃ W3, wf.alloc (.cells #[.int .i64 y.n, .int .i64 y.e0, .int .i64 y.e1, .int .i64 y.e2, .slice F0 y.l0.length g0_, .slice F1 y.l1.length g1_, .slice F2 y.l2.length g2_] 29) = W3 := ⟨_, rfl⟩
      have HYb : Aside0 (w.heap.size ≤ xb ∧ xb < yb ∧ yb < W3.heap.size) := ⟨⟨HXb.out.1, by rw [← hyb]; exact HSz.out, by rw [← hW3, ← hyb]; simp⟩⟩
      rw [hW3, hyb] at HBy
      rw [hW3] at HX HTx HTy HBx
      rw [hW3, hyb]
      clear hW3 hyb HSz HXb
      have hq0 : (ex != ex) = false := by simp
      obtain ⟨p0, p1, p2, p3, p4, p5, p6⟩ := HBx.out.cells
      obtain ⟨q0, q1, q2, q3, q4, q5, q6⟩ := HBy.out.cells
      go_upto_region 12 with (first | (go_at_call 14; (with_reducible refine (sumC k x y true _ HBx.out.rd HBy.out.rd Hs.out).mono ?_); rintro e wg ⟨rfl, hb⟩; have HBx2 := Aside0.mk (HBx.out.below hb); clear HBx; have HBx := HBx2; clear HBx2; have HTx2 := Aside0.mk (HTx.out.below hb); clear HTx; have HTx := HTx2; clear HTx2; have HBy2 := Aside0.mk (HBy.out.below hb); clear HBy; have HBy := HBy2; clear HBy2; have HTy2 := Aside0.mk (HTy.out.below hb); clear HTy; have HTy := HTy2; clear HTy2; have HYb2 : Aside0 (w.heap.size ≤ xb ∧ xb < yb ∧ yb < wg.heap.size) := ⟨⟨HYb.out.1, HYb.out.2.1, Nat.lt_of_lt_of_le HYb.out.2.2 hb.size⟩⟩; clear HYb; have HYb := HYb2; clear HYb2; have HX2 := Aside0.mk (below_step HX.out hb); clear HX; have HX := HX2; clear HX2 hb))
      clear p0 p1 p2 p3 p4 p5 p6 q0 q1 q2 q3 q4 q5 q6
      clear hq0 Hx Hy Hs
      by_cases h2 : l.length < 2
      · have HAW : Aside0 (ndjqlaw18_awake.f k = some r) := ⟨by
          have h := HH.out
          match l, h2, h with
          | [], _, h => exact h
          | [_], _, h => exact h⟩
        have g2 : decide (l.length < 2) = true := decide_eq_true h2
        have g3 : decide ((l.length : Int) < 2) = true := decide_eq_true (by omega)
        clear HH h2
        go_wp2_with (first | (go_at_call 9; (with_reducible refine (ndjqlaw18_awake.calls k r _ (HG.out.below HX.out) HAW.out).mono ?_); rintro e we9 ⟨rfl, hb⟩; have HX2 := Aside0.mk (below_step HX.out hb); clear HX; have HX := HX2; clear HX2))
        go_ret
        exact ⟨rfl, HX.out⟩
      obtain ⟨a0, b0, ha0, hb0, h⟩ : ∃ a0 b0, l[0]? = some a0 ∧ l[1]? = some b0 ∧ ((cmpM k (sm a0) (sm b0)).bind fun x => (cmR k (sm a0) (sm b0)).bind fun y => if x.2 = y.2 then (sumM k x.1 y.1).bind fun s => if s = true then ndjqlaw18_awake.f k else none else none) = some r := by
        have h := HH.out
        match l, h2, h with
        | a0 :: b0 :: _, _, h => exact ⟨a0, b0, rfl, rfl, h⟩
        | [], h2, _ => exact absurd (by simp) h2
        | [_], h2, _ => exact absurd (by simp) h2
      obtain ⟨⟨z, qz⟩, hz, hh1⟩ := Option.bind_eq_some_iff.1 h
      obtain ⟨⟨z2, qz2⟩, hz2, hh2⟩ := Option.bind_eq_some_iff.1 hh1
      (try dsimp only at hh2)
      by_cases hqq : qz = qz2
      rotate_left
      · rw [if_neg hqq] at hh2; cases hh2
      rw [if_pos hqq] at hh2
      subst hqq
      obtain ⟨s, hs, hh3⟩ := Option.bind_eq_some_iff.1 hh2
      by_cases hst : s = true
      rotate_left
      · rw [if_neg hst] at hh3; cases hh3
      rw [if_pos hst] at hh3
      subst hst
      obtain ⟨av, hav⟩ : ∃ av, sm a0 = av := ⟨_, rfl⟩
      obtain ⟨bv, hbv⟩ : ∃ bv, sm b0 = bv := ⟨_, rfl⟩
      obtain ⟨ad, Y0, y0, Y1, y1, Y2, y2, e1, he⟩ := el_at (HLw.out _ (Below.refl _ _)) 0 (by omega) ha0
      obtain ⟨ad', Z0, z0_, Z1, z1_, Z2, z2_, e1', he'⟩ := el_at (HLw.out _ (Below.refl _ _)) 1 (by omega) hb0
      subst e1
      obtain rfl : ad = ad' := Option.some.inj e1'
      rw [hav] at he hz hz2
      rw [hbv] at he' hz hz2
      have HEa := Aside0.mk he
      have HEb := Aside0.mk he'
      have Hz := Aside0.mk hz
      have Hz2 := Aside0.mk hz2
      have Hs : Aside0 (sumM k z z2 = some true) := ⟨hs⟩
      have HAW := Aside0.mk hh3
      have hn2 : ¬ l.length < 2 := h2
      have g2 : decide (l.length < 2) = false := decide_eq_false h2
      have g3 : decide ((l.length : Int) < 2) = false := decide_eq_false (by omega)
      clear e1' hav hbv he he' hz hz2 hs h hh1 hh2 hh3 HH ha0 hb0
      go_upto_region 14 with fail
      clear g2 g3
      have HKP : Aside0 (∀ W, Below w.heap.size w W → (fun w' => w'.cell? ad = some (.int .i64 av.n) ∧ w'.cell? ⟨ad.block, ad.off + 1, none⟩ = some (.int .i64 av.e0) ∧ w'.cell? ⟨ad.block, ad.off + 2, none⟩ = some (.int .i64 av.e1) ∧ w'.cell? ⟨ad.block, ad.off + 3, none⟩ = some (.int .i64 av.e2) ∧ w'.cell? ⟨ad.block, ad.off + 4, none⟩ = some (.slice Y0 av.l0.length y0) ∧ w'.cell? ⟨ad.block, ad.off + 5, none⟩ = some (.slice Y1 av.l1.length y1) ∧ w'.cell? ⟨ad.block, ad.off + 6, none⟩ = some (.slice Y2 av.l2.length y2) ∧ w'.cell? ⟨ad.block, ad.off + 7, none⟩ = some (.int .i64 bv.n) ∧ w'.cell? ⟨ad.block, ad.off + 8, none⟩ = some (.int .i64 bv.e0) ∧ w'.cell? ⟨ad.block, ad.off + 9, none⟩ = some (.int .i64 bv.e1) ∧ w'.cell? ⟨ad.block, ad.off + 10, none⟩ = some (.int .i64 bv.e2) ∧ w'.cell? ⟨ad.block, ad.off + 11, none⟩ = some (.slice Z0 bv.l0.length z0_) ∧ w'.cell? ⟨ad.block, ad.off + 12, none⟩ = some (.slice Z1 bv.l1.length z1_) ∧ w'.cell? ⟨ad.block, ad.off + 13, none⟩ = some (.slice Z2 bv.l2.length z2_)) W) := ⟨fun W hb => by
        have he := HEa.out.below hb
        have he' := HEb.out.below hb
        exact ⟨he.h0, he.h1, he.h2, he.h3, he.h4, he.h5, he.h6, he'.h0, he'.h1, he'.h2, he'.h3, he'.h4, he'.h5, he'.h6⟩⟩
      have k1 : (0 : Int) < (l.length : Int) := by omega
      have k2 : (1 : Int) < (l.length : Int) := by omega
      have k3 : 0 < l.length := by omega
      have k4 : 1 < l.length := by omega
      have HXk := Aside0.mk HBx.out.blk
      have HYk := Aside0.mk HBy.out.blk
      clear HBx HBy HTx HTy
      have hdr := (Below.refl wg.heap.size wg).drew
      have HXk2 := Aside0.mk ((hdr.block _ (Array.getElem?_eq_some_iff.1 HXk.out).1).trans HXk.out); clear HXk; have HXk := HXk2; clear HXk2; have HYk2 := Aside0.mk ((hdr.block _ (Array.getElem?_eq_some_iff.1 HYk.out).1).trans HYk.out); clear HYk; have HYk := HYk2; clear HYk2
      clear hdr
      have HX0 := Aside0.mk HX.out.drew; clear HX; have HX := HX0; clear HX0
      refine start_ (n := 12) (S := fun w' => w'.cell? ad = some (.int .i64 av.n) ∧ w'.cell? ⟨ad.block, ad.off + 1, none⟩ = some (.int .i64 av.e0) ∧ w'.cell? ⟨ad.block, ad.off + 2, none⟩ = some (.int .i64 av.e1) ∧ w'.cell? ⟨ad.block, ad.off + 3, none⟩ = some (.int .i64 av.e2) ∧ w'.cell? ⟨ad.block, ad.off + 4, none⟩ = some (.slice Y0 av.l0.length y0) ∧ w'.cell? ⟨ad.block, ad.off + 5, none⟩ = some (.slice Y1 av.l1.length y1) ∧ w'.cell? ⟨ad.block, ad.off + 6, none⟩ = some (.slice Y2 av.l2.length y2) ∧ w'.cell? ⟨ad.block, ad.off + 7, none⟩ = some (.int .i64 bv.n) ∧ w'.cell? ⟨ad.block, ad.off + 8, none⟩ = some (.int .i64 bv.e0) ∧ w'.cell? ⟨ad.block, ad.off + 9, none⟩ = some (.int .i64 bv.e1) ∧ w'.cell? ⟨ad.block, ad.off + 10, none⟩ = some (.int .i64 bv.e2) ∧ w'.cell? ⟨ad.block, ad.off + 11, none⟩ = some (.slice Z0 bv.l0.length z0_) ∧ w'.cell? ⟨ad.block, ad.off + 12, none⟩ = some (.slice Z1 bv.l1.length z1_) ∧ w'.cell? ⟨ad.block, ad.off + 13, none⟩ = some (.slice Z2 bv.l2.length z2_)) (ds := []) #[ff, ff, ff, ff, ff, ff, ff, ff, ff, ff, ff, ff] (by kernel_rfl) rfl (by rfl) (HKP.out _ HX.out) (fun hS => ?_)
      refine take_ (i := 0) (N := some 106) (v := (.slice (some ad) l.length c0)) #[tt, ff, ff, ff, ff, ff, ff, ff, ff, ff, ff, ff] rfl rfl (by kernel_rfl) (fun _ _ _ h => h) (Or.inl ⟨by rfl, by intro w hSw; (try dsimp only at hSw);go_simp⟩) hS rfl ?_
      try simp only [Act.put, List.setIfInBounds_toArray, List.set_cons_zero, List.set_cons_succ]
      refine take_ (i := 1) (N := some 107) (v := (.pointer (some ad))) #[tt, tt, ff, ff, ff, ff, ff, ff, ff, ff, ff, ff] rfl rfl (by kernel_rfl) (fun _ _ _ h => h) (Or.inl ⟨by rfl, by intro w hSw; (try dsimp only at hSw);go_simp⟩) hS rfl ?_
      try simp only [Act.put, List.setIfInBounds_toArray, List.set_cons_zero, List.set_cons_succ]
      refine take_ (i := 2) (N := some 108) (v := (.agg #[.int .i64 av.n, .int .i64 av.e0, .int .i64 av.e1, .int .i64 av.e2, .slice Y0 av.l0.length y0, .slice Y1 av.l1.length y1, .slice Y2 av.l2.length y2])) #[tt, tt, tt, ff, ff, ff, ff, ff, ff, ff, ff, ff] rfl rfl (by kernel_rfl) (fun _ _ _ h => h) (Or.inl ⟨by rfl, by intro w hSw; (try dsimp only at hSw);go_simp⟩) hS rfl ?_
      try simp only [Act.put, List.setIfInBounds_toArray, List.set_cons_zero, List.set_cons_succ]
      refine take_ (i := 3) (N := some 109) (v := (.slice (some ad) l.length c0)) #[tt, tt, tt, tt, ff, ff, ff, ff, ff, ff, ff, ff] rfl rfl (by kernel_rfl) (fun _ _ _ h => h) (Or.inl ⟨by rfl, by intro w hSw; (try dsimp only at hSw);go_simp⟩) hS rfl ?_
      try simp only [Act.put, List.setIfInBounds_toArray, List.set_cons_zero, List.set_cons_succ]
      refine take_ (i := 4) (N := some 110) (v := (.pointer (some ⟨ad.block, ad.off + 7, none⟩))) #[tt, tt, tt, tt, tt, ff, ff, ff, ff, ff, ff, ff] rfl rfl (by kernel_rfl) (fun _ _ _ h => h) (Or.inl ⟨by rfl, by intro w hSw; (try dsimp only at hSw);go_simp⟩) hS rfl ?_
      try simp only [Act.put, List.setIfInBounds_toArray, List.set_cons_zero, List.set_cons_succ]
      refine take_ (i := 5) (N := some 111) (v := (.agg #[.int .i64 bv.n, .int .i64 bv.e0, .int .i64 bv.e1, .int .i64 bv.e2, .slice Z0 bv.l0.length z0_, .slice Z1 bv.l1.length z1_, .slice Z2 bv.l2.length z2_])) #[tt, tt, tt, tt, tt, tt, ff, ff, ff, ff, ff, ff] rfl rfl (by kernel_rfl) (fun _ _ _ h => h) (Or.inl ⟨by rfl, by intro w hSw; (try dsimp only at hSw);go_simp⟩) hS rfl ?_
      try simp only [Act.put, List.setIfInBounds_toArray, List.set_cons_zero, List.set_cons_succ]
      refine one_ (i := 6) (N := some 112) #[tt, tt, tt, tt, tt, tt, tt, ff, ff, ff, ff, ff] rfl rfl (by kernel_rfl) (by decide) ?_
      intro K hK
      go_simp
      go_at_call 20; (with_reducible refine (cmpC k av bv z qz _ (HEa.out.below HX.out).rd (HEb.out.below HX.out).rd Hz.out).mono ?_); rintro e wez ⟨M0, m0_, M1, m1_, M2, m2_, rfl, hr, ht, hb⟩; have HRz := Aside0.mk hr; have HTz := Aside0.mk ht; have HXk2 := Aside0.mk ((hb.block _ (Array.getElem?_eq_some_iff.1 HXk.out).1).trans HXk.out); clear HXk; have HXk := HXk2; clear HXk2; have HYk2 := Aside0.mk ((hb.block _ (Array.getElem?_eq_some_iff.1 HYk.out).1).trans HYk.out); clear HYk; have HYk := HYk2; clear HYk2; have HX2 := Aside0.mk (below_step HX.out hb); clear HX; have HX := HX2; clear HX2; clear hr ht hb
      refine hK.out _ _ (HKP.out _ HX.out) (fun hS => ?_)
      clear hK K
      try simp only [Act.put, List.setIfInBounds_toArray, List.set_cons_zero, List.set_cons_succ]
      refine take_ (i := 7) (N := some 105) (v := (.tuple #[.agg #[.int .i64 z.n, .int .i64 z.e0, .int .i64 z.e1, .int .i64 z.e2, .slice M0 z.l0.length m0_, .slice M1 z.l1.length m1_, .slice M2 z.l2.length m2_], .int .i64 qz])) #[tt, tt, tt, tt, tt, tt, tt, tt, ff, ff, ff, ff] rfl rfl (by kernel_rfl) (fun _ _ _ h => h) (Or.inl ⟨by rfl, by intro w hSw; (try dsimp only at hSw);go_simp⟩) hS rfl ?_
      try simp only [Act.put, List.setIfInBounds_toArray, List.set_cons_zero, List.set_cons_succ]
      refine take_ (i := 8) (N := some 113) (v := (.agg #[.int .i64 z.n, .int .i64 z.e0, .int .i64 z.e1, .int .i64 z.e2, .slice M0 z.l0.length m0_, .slice M1 z.l1.length m1_, .slice M2 z.l2.length m2_])) #[tt, tt, tt, tt, tt, tt, tt, tt, tt, ff, ff, ff] rfl rfl (by kernel_rfl) (fun _ _ _ h => h) (Or.inl ⟨by rfl, by intro w hSw; (try dsimp only at hSw);go_simp⟩) hS rfl ?_
      try simp only [Act.put, List.setIfInBounds_toArray, List.set_cons_zero, List.set_cons_succ]
      refine take_ (i := 9) (N := some 114) (v := (.int .i64 qz)) #[tt, tt, tt, tt, tt, tt, tt, tt, tt, tt, ff, ff] rfl rfl (by kernel_rfl) (fun _ _ _ h => h) (Or.inl ⟨by rfl, by intro w hSw; (try dsimp only at hSw);go_simp⟩) hS rfl ?_
      try simp only [Act.put, List.setIfInBounds_toArray, List.set_cons_zero, List.set_cons_succ]
      have pz := cells7 HXk.out
      obtain ⟨p0, p1, p2, p3, p4, p5, p6, pf⟩ := pz
      refine one_ (i := 10) (N := none) #[tt, tt, tt, tt, tt, tt, tt, tt, tt, tt, tt, ff] rfl rfl (by kernel_rfl) (by decide) ?_
      intro K hK
      go_simp
      obtain ⟨Wz, hW⟩ : ∃ W, (((((((wez.setCell ⟨xb, 0, none⟩ (.int .i64 z.n)).setCell ⟨xb, 1, none⟩ (.int .i64 z.e0)).setCell ⟨xb, 2, none⟩ (.int .i64 z.e1)).setCell ⟨xb, 3, none⟩ (.int .i64 z.e2)).setCell ⟨xb, 4, none⟩ (.slice M0 z.l0.length m0_)).setCell ⟨xb, 5, none⟩ (.slice M1 z.l1.length m1_)).setCell ⟨xb, 6, none⟩ (.slice M2 z.l2.length m2_)) = W := ⟨_, rfl⟩
      obtain ⟨b10, g10⟩ := setAny HXk.out M0 m0_ M1 m1_ M2 m2_ z hW
      have HBz := Aside0.mk (Bo.mk b10 (HRz.out.grown HTz.out HXk.out g10))
      have HTz2 := Aside0.mk (HTz.out.grown HXk.out g10); clear HTz; have HTz := HTz2; clear HTz2
      have HYk2 := Aside0.mk ((g10.block _ (Array.getElem?_eq_some_iff.1 HYk.out).1 (fun e => by have := Option.some.inj e; have := HYb.out.2.1; omega)).trans HYk.out); clear HYk; have HYk := HYk2; clear HYk2
      have HX2 := Aside0.mk (below_grown HX.out (by have := HYb.out; omega) g10); clear HX; have HX := HX2; clear HX2
      rw [hW]
      clear hW b10 g10 p0 p1 p2 p3 p4 p5 p6 pf HRz HXk
      refine hK.out _ _ (HKP.out _ HX.out) (fun hS => ?_)
      clear hK K
      try simp only [Act.put, List.setIfInBounds_toArray, List.set_cons_zero, List.set_cons_succ]
      refine take_ (i := 11) (N := some 5) (v := (.int .i64 qz)) #[tt, tt, tt, tt, tt, tt, tt, tt, tt, tt, tt, tt] rfl rfl (by kernel_rfl) (fun _ _ _ h => h) (Or.inl ⟨by rfl, by intro w hSw; (try dsimp only at hSw);go_simp⟩) hS rfl ?_
      try simp only [Act.put, List.setIfInBounds_toArray, List.set_cons_zero, List.set_cons_succ]
      refine done_ (by kernel_rfl) ?_
      go_upto_region 15 with fail
      have hdr := (Below.refl Wz.heap.size Wz).drew
      have HBz2 := Aside0.mk (HBz.out.below hdr); clear HBz; have HBz := HBz2; clear HBz2; have HTz2 := Aside0.mk (HTz.out.below hdr); clear HTz; have HTz := HTz2; clear HTz2; have HYk2 := Aside0.mk ((hdr.block _ (Array.getElem?_eq_some_iff.1 HYk.out).1).trans HYk.out); clear HYk; have HYk := HYk2; clear HYk2
      clear hdr
      have HX0 := Aside0.mk HX.out.drew; clear HX; have HX := HX0; clear HX0
      refine start_ (n := 12) (S := fun w' => w'.cell? ad = some (.int .i64 av.n) ∧ w'.cell? ⟨ad.block, ad.off + 1, none⟩ = some (.int .i64 av.e0) ∧ w'.cell? ⟨ad.block, ad.off + 2, none⟩ = some (.int .i64 av.e1) ∧ w'.cell? ⟨ad.block, ad.off + 3, none⟩ = some (.int .i64 av.e2) ∧ w'.cell? ⟨ad.block, ad.off + 4, none⟩ = some (.slice Y0 av.l0.length y0) ∧ w'.cell? ⟨ad.block, ad.off + 5, none⟩ = some (.slice Y1 av.l1.length y1) ∧ w'.cell? ⟨ad.block, ad.off + 6, none⟩ = some (.slice Y2 av.l2.length y2) ∧ w'.cell? ⟨ad.block, ad.off + 7, none⟩ = some (.int .i64 bv.n) ∧ w'.cell? ⟨ad.block, ad.off + 8, none⟩ = some (.int .i64 bv.e0) ∧ w'.cell? ⟨ad.block, ad.off + 9, none⟩ = some (.int .i64 bv.e1) ∧ w'.cell? ⟨ad.block, ad.off + 10, none⟩ = some (.int .i64 bv.e2) ∧ w'.cell? ⟨ad.block, ad.off + 11, none⟩ = some (.slice Z0 bv.l0.length z0_) ∧ w'.cell? ⟨ad.block, ad.off + 12, none⟩ = some (.slice Z1 bv.l1.length z1_) ∧ w'.cell? ⟨ad.block, ad.off + 13, none⟩ = some (.slice Z2 bv.l2.length z2_)) (ds := []) #[ff, ff, ff, ff, ff, ff, ff, ff, ff, ff, ff, ff] (by kernel_rfl) rfl (by rfl) (HKP.out _ HX.out) (fun hS => ?_)
      refine take_ (i := 0) (N := some 116) (v := (.slice (some ad) l.length c0)) #[tt, ff, ff, ff, ff, ff, ff, ff, ff, ff, ff, ff] rfl rfl (by kernel_rfl) (fun _ _ _ h => h) (Or.inl ⟨by rfl, by intro w hSw; (try dsimp only at hSw);go_simp⟩) hS rfl ?_
      try simp only [Act.put, List.setIfInBounds_toArray, List.set_cons_zero, List.set_cons_succ]
      refine take_ (i := 1) (N := some 117) (v := (.pointer (some ad))) #[tt, tt, ff, ff, ff, ff, ff, ff, ff, ff, ff, ff] rfl rfl (by kernel_rfl) (fun _ _ _ h => h) (Or.inl ⟨by rfl, by intro w hSw; (try dsimp only at hSw);go_simp⟩) hS rfl ?_
      try simp only [Act.put, List.setIfInBounds_toArray, List.set_cons_zero, List.set_cons_succ]
      refine take_ (i := 2) (N := some 118) (v := (.agg #[.int .i64 av.n, .int .i64 av.e0, .int .i64 av.e1, .int .i64 av.e2, .slice Y0 av.l0.length y0, .slice Y1 av.l1.length y1, .slice Y2 av.l2.length y2])) #[tt, tt, tt, ff, ff, ff, ff, ff, ff, ff, ff, ff] rfl rfl (by kernel_rfl) (fun _ _ _ h => h) (Or.inl ⟨by rfl, by intro w hSw; (try dsimp only at hSw);go_simp⟩) hS rfl ?_
      try simp only [Act.put, List.setIfInBounds_toArray, List.set_cons_zero, List.set_cons_succ]
      refine take_ (i := 3) (N := some 119) (v := (.slice (some ad) l.length c0)) #[tt, tt, tt, tt, ff, ff, ff, ff, ff, ff, ff, ff] rfl rfl (by kernel_rfl) (fun _ _ _ h => h) (Or.inl ⟨by rfl, by intro w hSw; (try dsimp only at hSw);go_simp⟩) hS rfl ?_
      try simp only [Act.put, List.setIfInBounds_toArray, List.set_cons_zero, List.set_cons_succ]
      refine take_ (i := 4) (N := some 120) (v := (.pointer (some ⟨ad.block, ad.off + 7, none⟩))) #[tt, tt, tt, tt, tt, ff, ff, ff, ff, ff, ff, ff] rfl rfl (by kernel_rfl) (fun _ _ _ h => h) (Or.inl ⟨by rfl, by intro w hSw; (try dsimp only at hSw);go_simp⟩) hS rfl ?_
      try simp only [Act.put, List.setIfInBounds_toArray, List.set_cons_zero, List.set_cons_succ]
      refine take_ (i := 5) (N := some 121) (v := (.agg #[.int .i64 bv.n, .int .i64 bv.e0, .int .i64 bv.e1, .int .i64 bv.e2, .slice Z0 bv.l0.length z0_, .slice Z1 bv.l1.length z1_, .slice Z2 bv.l2.length z2_])) #[tt, tt, tt, tt, tt, tt, ff, ff, ff, ff, ff, ff] rfl rfl (by kernel_rfl) (fun _ _ _ h => h) (Or.inl ⟨by rfl, by intro w hSw; (try dsimp only at hSw);go_simp⟩) hS rfl ?_
      try simp only [Act.put, List.setIfInBounds_toArray, List.set_cons_zero, List.set_cons_succ]
      refine one_ (i := 6) (N := some 122) #[tt, tt, tt, tt, tt, tt, tt, ff, ff, ff, ff, ff] rfl rfl (by kernel_rfl) (by decide) ?_
      intro K hK
      go_simp
      go_at_call 25; (with_reducible refine (compRC k av bv z2 qz _ (HEa.out.below HX.out).rd (HEb.out.below HX.out).rd Hz2.out).mono ?_); rintro e wez2 ⟨N0, n0_, N1, n1_, N2, n2_, rfl, hr, ht, hb⟩; have HRz2 := Aside0.mk hr; have HTz2 := Aside0.mk ht; have HBz2 := Aside0.mk (HBz.out.below hb); clear HBz; have HBz := HBz2; clear HBz2; have HTz2 := Aside0.mk (HTz.out.below hb); clear HTz; have HTz := HTz2; clear HTz2; have HYk2 := Aside0.mk ((hb.block _ (Array.getElem?_eq_some_iff.1 HYk.out).1).trans HYk.out); clear HYk; have HYk := HYk2; clear HYk2; have HX2 := Aside0.mk (below_step HX.out hb); clear HX; have HX := HX2; clear HX2; clear hr ht hb
      refine hK.out _ _ (HKP.out _ HX.out) (fun hS => ?_)
      clear hK K
      try simp only [Act.put, List.setIfInBounds_toArray, List.set_cons_zero, List.set_cons_succ]
      refine take_ (i := 7) (N := some 115) (v := (.tuple #[.agg #[.int .i64 z2.n, .int .i64 z2.e0, .int .i64 z2.e1, .int .i64 z2.e2, .slice N0 z2.l0.length n0_, .slice N1 z2.l1.length n1_, .slice N2 z2.l2.length n2_], .int .i64 qz])) #[tt, tt, tt, tt, tt, tt, tt, tt, ff, ff, ff, ff] rfl rfl (by kernel_rfl) (fun _ _ _ h => h) (Or.inl ⟨by rfl, by intro w hSw; (try dsimp only at hSw);go_simp⟩) hS rfl ?_
      try simp only [Act.put, List.setIfInBounds_toArray, List.set_cons_zero, List.set_cons_succ]
      refine take_ (i := 8) (N := some 123) (v := (.agg #[.int .i64 z2.n, .int .i64 z2.e0, .int .i64 z2.e1, .int .i64 z2.e2, .slice N0 z2.l0.length n0_, .slice N1 z2.l1.length n1_, .slice N2 z2.l2.length n2_])) #[tt, tt, tt, tt, tt, tt, tt, tt, tt, ff, ff, ff] rfl rfl (by kernel_rfl) (fun _ _ _ h => h) (Or.inl ⟨by rfl, by intro w hSw; (try dsimp only at hSw);go_simp⟩) hS rfl ?_
      try simp only [Act.put, List.setIfInBounds_toArray, List.set_cons_zero, List.set_cons_succ]
      refine take_ (i := 9) (N := some 124) (v := (.int .i64 qz)) #[tt, tt, tt, tt, tt, tt, tt, tt, tt, tt, ff, ff] rfl rfl (by kernel_rfl) (fun _ _ _ h => h) (Or.inl ⟨by rfl, by intro w hSw; (try dsimp only at hSw);go_simp⟩) hS rfl ?_
      try simp only [Act.put, List.setIfInBounds_toArray, List.set_cons_zero, List.set_cons_succ]
      have pz := cells7 HYk.out
      obtain ⟨p0, p1, p2, p3, p4, p5, p6, pf⟩ := pz
      refine one_ (i := 10) (N := none) #[tt, tt, tt, tt, tt, tt, tt, tt, tt, tt, tt, ff] rfl rfl (by kernel_rfl) (by decide) ?_
      intro K hK
      go_simp
      obtain ⟨Wz2, hW⟩ : ∃ W, (((((((wez2.setCell ⟨yb, 0, none⟩ (.int .i64 z2.n)).setCell ⟨yb, 1, none⟩ (.int .i64 z2.e0)).setCell ⟨yb, 2, none⟩ (.int .i64 z2.e1)).setCell ⟨yb, 3, none⟩ (.int .i64 z2.e2)).setCell ⟨yb, 4, none⟩ (.slice N0 z2.l0.length n0_)).setCell ⟨yb, 5, none⟩ (.slice N1 z2.l1.length n1_)).setCell ⟨yb, 6, none⟩ (.slice N2 z2.l2.length n2_)) = W := ⟨_, rfl⟩
      obtain ⟨b10, g10⟩ := setAny HYk.out N0 n0_ N1 n1_ N2 n2_ z2 hW
      have HBz2 := Aside0.mk (Bo.mk b10 (HRz2.out.grown HTz2.out HYk.out g10))
      have HTz22 := Aside0.mk (HTz2.out.grown HYk.out g10); clear HTz2; have HTz2 := HTz22; clear HTz22
      have HBz2 := Aside0.mk (Bo.mk ((g10.block _ (Array.getElem?_eq_some_iff.1 HBz.out.blk).1 (fun e => by have := Option.some.inj e; have := HYb.out.2.1; omega)).trans HBz.out.blk) (HBz.out.rd.grown HTz.out HYk.out g10)); clear HBz; have HBz := HBz2; clear HBz2
      have HTz2 := Aside0.mk (HTz.out.grown HYk.out g10); clear HTz; have HTz := HTz2; clear HTz2
      have HX2 := Aside0.mk (below_grown HX.out (by have := HYb.out; omega) g10); clear HX; have HX := HX2; clear HX2
      rw [hW]
      clear hW b10 g10 p0 p1 p2 p3 p4 p5 p6 pf HRz2 HYk
      refine hK.out _ _ (HKP.out _ HX.out) (fun hS => ?_)
      clear hK K
      try simp only [Act.put, List.setIfInBounds_toArray, List.set_cons_zero, List.set_cons_succ]
      refine take_ (i := 11) (N := some 7) (v := (.int .i64 qz)) #[tt, tt, tt, tt, tt, tt, tt, tt, tt, tt, tt, tt] rfl rfl (by kernel_rfl) (fun _ _ _ h => h) (Or.inl ⟨by rfl, by intro w hSw; (try dsimp only at hSw);go_simp⟩) hS rfl ?_
      try simp only [Act.put, List.setIfInBounds_toArray, List.set_cons_zero, List.set_cons_succ]
      refine done_ (by kernel_rfl) ?_
      have hq0 : (qz == qz) = true := by simp
      obtain ⟨p0, p1, p2, p3, p4, p5, p6⟩ := HBz.out.cells
      obtain ⟨q0, q1, q2, q3, q4, q5, q6⟩ := HBz2.out.cells
      go_wp2_with (first | (go_at_call 14; (with_reducible refine (sumC k z z2 true _ HBz.out.rd HBz2.out.rd Hs.out).mono ?_); rintro e w14 ⟨rfl, hb⟩; have HX2 := Aside0.mk (below_step HX.out hb); clear HX; have HX := HX2; clear HX2 hb) | (go_at_call 9; (with_reducible refine (ndjqlaw18_awake.calls k r _ (HG.out.below HX.out) HAW.out).mono ?_); rintro e w9 ⟨rfl, hb⟩; have HX2 := Aside0.mk (below_step HX.out hb); clear HX; have HX := HX2; clear HX2 hb))
      go_ret
      exact ⟨rfl, HX.out⟩
def ndjqlaw18_AutomatonRaw.f (k : Nat) (l0 : List S29) : Option Bool := rawL k l0
theorem ndjqlaw18_AutomatonRaw.calls (k : Nat) (A0 : Option Addr) (c0 : Nat) (l0 : List S29) (r : Bool) (w : World) (hr : Kd.C k29 w A0 l0.length l0) (hc : l0.length ≤ c0) (hG : GlbLaid w) (h : ndjqlaw18_AutomatonRaw.f k l0 = some r) :
    Calls Tryd.prog 8 #[.slice A0 l0.length c0] w fun e w' => e = .returned (.bool r) ∧ Below w.heap.size w w' := rawC k l0 r w hr hc hG h


-- what came in
/-- What is known of a value of struct type 25 that came in. -/
def Wf25 (x : S25) : Prop := (Lit.int .i64 x.f0).wf = true ∧ (Lit.int .i64 x.f1).wf = true ∧ (Lit.int .i64 x.f2).wf = true
/-- What is known of a value of struct type 27 that came in. -/
def Wf27 (x : S27) : Prop := (x.f0.length * 8 ≤ 140737488351232 ∧ ∀ q1 ∈ x.f0, (Lit.int .i64 q1).wf = true) ∧ (x.f1.length * 8 ≤ 140737488351232 ∧ ∀ q1 ∈ x.f1, (Lit.int .i64 q1).wf = true) ∧ (x.f2.length * 8 ≤ 140737488351232 ∧ ∀ q1 ∈ x.f2, (Lit.int .i64 q1).wf = true)
/-- What is known of a value of struct type 29 that came in. -/
def Wf29 (x : S29) : Prop := (Lit.int .i64 x.f0).wf = true ∧ Wf25 x.f1 ∧ Wf27 x.f2
/-- THE ONE PURE STATEMENT of ndjqlaw18_AutomatonRaw: yours. -/
def ndjqlaw18_AutomatonRaw.Pure : Prop := ∀ (l0 : List (S29)), (l0.length * 104 ≤ 140737488351232 ∧ ∀ q1 ∈ l0, Wf29 q1) → ∃ k, ndjqlaw18_AutomatonRaw.f k l0 = some true
theorem ndjqlaw18_AutomatonRaw.walk (P : ndjqlaw18_AutomatonRaw.Pure) (A0 : Option Addr) (c0 : Nat) (l0 : List (S29)) (w : World) (hr0 : Kd.C k29 w A0 l0.length l0) (hc0 : l0.length ≤ c0) (hw0 : (l0.length * 104 ≤ 140737488351232 ∧ ∀ q1 ∈ l0, Wf29 q1)) (hG : GlbLaid w) :
    Calls Tryd.prog 8 #[.slice A0 l0.length c0] w fun e w' => e = .returned (.bool true) ∧ Below w.heap.size w w' := by
  obtain ⟨k, h⟩ := P l0 hw0
  refine (ndjqlaw18_AutomatonRaw.calls k _ _ l0 true w hr0 hc0 hG h).mono ?_
  rintro e w' ⟨rfl, hd⟩
  exact ⟨rfl, hd⟩

end Go.Proofs.YtjejjhpmiinanaaDoor.QAutomatonRaw
