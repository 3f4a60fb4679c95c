/- scan.Bracket, by hand. -/
import Derived.Test.YtkhnifehcnlpjaaDoorS6
import Derived.Test.YtkhnifehcnlpjaaDoorUp
namespace Go.Proofs.YtkhnifehcnlpjaaDoor.QC
open Go Go.RowKit Go.Proofs.YtkhnifehcnlpjaaDoorW.PrintWords Go.Proofs.YtkhnifehcnlpjaaDoorW.PrintLast Go.Proofs.YtkhnifehcnlpjaaDoorW.PrintMore
set_option linter.unusedVariables false
set_option linter.unusedSimpArgs false
set_option maxRecDepth 100000
set_option maxHeartbeats 4000000
open Go.Proofs.YtkhnifehcnlpjaaDoor.Ps
def BrPost (v : S26) (r : Int) (w : World) (e : Ending) (w' : World) : Prop := ∃ E0 f0 E1 f1 E2 f2, e = .returned (.tuple #[.agg #[.int .i64 (sm v).n, .int .i64 (sm v).e0, .int .i64 (sm v).e1, .int .i64 (sm v).e2, .slice E0 (sm v).l0.length f0, .slice E1 (sm v).l1.length f1, .slice E2 (sm v).l2.length f2], .int .i64 r]) ∧ RdS w' E0 f0 E1 f1 E2 f2 (sm v) ∧ Below w.heap.size w w'
def brV (r : Int) (l : List S26) : S26 := if r = 0 then allC l else noS
theorem alloc7 (w : World) : (w.alloc (.cells Z7 26)).heap[w.heap.size]? = some (.cells Z7 26 (0, 0)) ∧ Below w.heap.size w (w.alloc (.cells Z7 26)) := ⟨heap_alloc_new w _, (Below.refl w.heap.size w).alloc (Nat.le_refl _) _⟩
theorem noS_rd (w : World) : RdS w none 0 none 0 none 0 (sm noS) := ⟨Nat.le_refl _, Nat.le_refl _, Nat.le_refl _, Kd.C_nil _ _, Kd.C_nil _ _, Kd.C_nil _ _⟩
/-- A result's block filled: what is read back. -/
theorem fill7 {w W : World} {b : Nat} {u0 u1 u2 u3 u4 u5 u6 : Value} (h : W.heap[b]? = some (.cells #[u0, u1, u2, u3, u4, u5, u6] 26 (0, 0))) (hz : Below w.heap.size w W) (hb : w.heap.size ≤ b) (v0 v1 v2 v3 v4 v5 v6 : Value) :
    ∃ W', ((((((W.setCell ⟨b, 0, none⟩ v0).setCell ⟨b, 1, none⟩ v1).setCell ⟨b, 2, none⟩ v2).setCell ⟨b, 3, none⟩ v3).setCell ⟨b, 4, none⟩ v4).setCell ⟨b, 5, none⟩ v5).setCell ⟨b, 6, none⟩ v6 = W' ∧
      (W'.cell? ⟨b, 0, none⟩ = some v0 ∧ W'.cell? ⟨b, 1, none⟩ = some v1 ∧ W'.cell? ⟨b, 2, none⟩ = some v2 ∧ W'.cell? ⟨b, 3, none⟩ = some v3 ∧ W'.cell? ⟨b, 4, none⟩ = some v4 ∧ W'.cell? ⟨b, 5, none⟩ = some v5 ∧ W'.cell? ⟨b, 6, none⟩ = some v6) ∧ W.grownBy W' (some b) ∧ Below w.heap.size w W' := by
  have hg := ((((((grownBy_cell W b 0 v0).trans (grownBy_cell _ b 1 v1)).trans (grownBy_cell _ b 2 v2)).trans (grownBy_cell _ b 3 v3)).trans (grownBy_cell _ b 4 v4)).trans (grownBy_cell _ b 5 v5)).trans (grownBy_cell _ b 6 v6)
  have e : (((((((W.setCell ⟨b, 0, none⟩ v0).setCell ⟨b, 1, none⟩ v1).setCell ⟨b, 2, none⟩ v2).setCell ⟨b, 3, none⟩ v3).setCell ⟨b, 4, none⟩ v4).setCell ⟨b, 5, none⟩ v5).setCell ⟨b, 6, none⟩ v6).heap[b]? = some (.cells #[v0, v1, v2, v3, v4, v5, v6] 26 (0, 0)) := by
    rw [heap_setCell_same _ _ _ _ _ _ (heap_setCell_same _ _ _ _ _ _ (heap_setCell_same _ _ _ _ _ _ (heap_setCell_same _ _ _ _ _ _ (heap_setCell_same _ _ _ _ _ _ (heap_setCell_same _ _ _ _ _ _ (heap_setCell_same _ _ _ _ _ _ h))))))]
    rfl
  refine ⟨_, rfl, ?_, hg, below_grown hz hb hg⟩
  refine ⟨?_, ?_, ?_, ?_, ?_, ?_, ?_⟩ <;> simp only [World.cell?, e] <;> rfl
theorem brack_bad (kf : Nat) (r : Int) (l : List S26) (w : World) {A : Option Addr} {c0 : Nat} {P : Option Addr} {pn pc : Nat} (hl : Kd.C k26 w A l.length l) (hc : l.length ≤ c0) (hex : scan_examine.f kf l = some r) (hr : r ≠ 0) :
    Calls Tryd.prog 25 #[.slice A l.length c0, .slice P pn pc] w (BrPost noS r w) := by
  have HN : Aside0 ((w.alloc (.cells #[.int .i64 0, .int .i64 0, .int .i64 0, .int .i64 0, .slice none 0 0, .slice none 0 0, .slice none 0 0] 26)).heap[w.heap.size]? = some (.cells Z7 26 (0, 0))) := ⟨heap_alloc_new w _⟩
  have HB : Aside0 (Below w.heap.size w (w.alloc (.cells #[.int .i64 0, .int .i64 0, .int .i64 0, .int .i64 0, .slice none 0 0, .slice none 0 0, .slice none 0 0] 26))) := ⟨(Below.refl w.heap.size w).alloc (Nat.le_refl _) _⟩
  have HE := Aside0.mk (fun W (hb : Below w.heap.size w W) => scan_examine.calls kf A c0 l r W (Kd.C_below hl hb) hc hex)
  have g1 : decide (r = 0) = false := decide_eq_false hr
  have g2 : (r == 0) = false := by rw [beq_eq_false_iff_ne]; exact hr
  have g3 : (r != 0) = true := by simp [hr]
  clear hl hc hex hr
  go_enter Tryd.func25, Tryd.ntmps25
  go_wp2_with (first | (go_at_call 33; (with_reducible refine (HE.out _ HB.out).mono ?_); rintro e we ⟨rfl, hb⟩; have HN2 := Aside0.mk ((hb.block _ (Array.getElem?_eq_some_iff.1 HN.out).1).trans HN.out); have HB2 := Aside0.mk (below_step HB.out hb); clear hb; obtain ⟨y0, y1, y2, y3, y4, y5, y6, yf⟩ := zero7 HN2.out))
  obtain ⟨W', hW', ⟨u0, u1, u2, u3, u4, u5, u6⟩, hg, hz⟩ := fill7 HN2.out HB2.out (Nat.le_refl _) (.int .i64 0) (.int .i64 0) (.int .i64 0) (.int .i64 0) (.slice none 0 0) (.slice none 0 0) (.slice none 0 0)
  rw [hW']
  exact bodyPost_ret (v := .tuple #[.agg #[.int .i64 0, .int .i64 0, .int .i64 0, .int .i64 0, .slice none 0 0, .slice none 0 0, .slice none 0 0], .int .i64 r]) (by simp [results, Tryd.results25, go_sem, u0, u1, u2, u3, u4, u5, u6]) rfl ⟨none, 0, none, 0, none, 0, rfl, noS_rd _, hz⟩
theorem brack_nil (kf : Nat) (w : World) {A : Option Addr} {c0 : Nat} {P : Option Addr} {pn pc : Nat} (hl : Kd.C k26 w A 0 []) (hex : scan_examine.f kf [] = some 0) :
    Calls Tryd.prog 25 #[.slice A 0 c0, .slice P pn pc] w (BrPost emptyS 0 w) := by
  have HN : Aside0 ((w.alloc (.cells #[.int .i64 0, .int .i64 0, .int .i64 0, .int .i64 0, .slice none 0 0, .slice none 0 0, .slice none 0 0] 26)).heap[w.heap.size]? = some (.cells Z7 26 (0, 0))) := ⟨heap_alloc_new w _⟩
  have HB : Aside0 (Below w.heap.size w (w.alloc (.cells #[.int .i64 0, .int .i64 0, .int .i64 0, .int .i64 0, .slice none 0 0, .slice none 0 0, .slice none 0 0] 26))) := ⟨(Below.refl w.heap.size w).alloc (Nat.le_refl _) _⟩
  have HE : Aside0 (∀ W, Below w.heap.size w W → Calls Tryd.prog 33 #[.slice A 0 c0] W fun e w' => e = .returned (.int .i64 0) ∧ Below W.heap.size W w') := ⟨fun W hb => scan_examine.calls kf A c0 [] 0 W (Kd.C_below hl hb) (Nat.zero_le _) hex⟩
  clear hl hex
  go_enter Tryd.func25, Tryd.ntmps25
  go_wp2_with (first | (go_at_call 33; (with_reducible refine (HE.out _ HB.out).mono ?_); rintro e we ⟨rfl, hb⟩; have HN2 := Aside0.mk ((hb.block _ (Array.getElem?_eq_some_iff.1 HN.out).1).trans HN.out); have HB2 := Aside0.mk (below_step HB.out hb); clear hb) | (go_at_call 35; (with_reducible refine (empS _).mono ?_); rintro e we3 ⟨E0, f0, E1, f1, E2, f2, rfl, hr, hb⟩; have HR := Aside0.mk hr; have HN3 := Aside0.mk ((hb.block _ (Array.getElem?_eq_some_iff.1 HN2.out).1).trans HN2.out); have HB3 := Aside0.mk (below_step HB2.out hb); have HBc := Aside0.mk hb; clear hr hb; obtain ⟨y0, y1, y2, y3, y4, y5, y6, yf⟩ := zero7 HN3.out))
  obtain ⟨W', hW', ⟨u0, u1, u2, u3, u4, u5, u6⟩, hg, hz⟩ := fill7 HN3.out HB3.out (Nat.le_refl _) (.int .i64 (sm emptyS).n) (.int .i64 (sm emptyS).e0) (.int .i64 (sm emptyS).e1) (.int .i64 (sm emptyS).e2) (.slice E0 (sm emptyS).l0.length f0) (.slice E1 (sm emptyS).l1.length f1) (.slice E2 (sm emptyS).l2.length f2)
  rw [hW']
  refine bodyPost_ret (v := .tuple #[.agg #[.int .i64 (sm emptyS).n, .int .i64 (sm emptyS).e0, .int .i64 (sm emptyS).e1, .int .i64 (sm emptyS).e2, .slice E0 (sm emptyS).l0.length f0, .slice E1 (sm emptyS).l1.length f1, .slice E2 (sm emptyS).l2.length f2], .int .i64 0]) (by simp [results, Tryd.results25, go_sem, u0, u1, u2, u3, u4, u5, u6]) rfl ⟨E0, f0, E1, f1, E2, f2, rfl, ⟨HR.out.k0, HR.out.k1, HR.out.k2, ?_, ?_, ?_⟩, hz⟩ <;> exact ⟨rfl, Nat.zero_le _, fun h => absurd h (Nat.lt_irrefl 0)⟩
abbrev AB (a b : World) : Prop := Below a.heap.size a b
theorem preB : Go.Up.Pre AB := ⟨fun _ => Below.refl _ _, fun h k => below_step h k⟩
theorem mix_ {P : Program} {ops : Array Oper} {Q : Exit → Act → World → Prop} {md : Region.Mode} {R : World → World → Prop} {ds : List Nat} {i j : Nat} {Ni Nj : Option Tmp} {oi oj : Oper} {n : Nat} {l : Array Bool} {a : Act} {w : World} (li lj : Array Bool) (hi : ops[i]? = some oi) (hj : ops[j]? = some oj) (hNi : oi.dst = Ni) (hNj : oj.dst = Nj)
    (hc : (Region.ready md ops l == [i, j] && l.setIfInBounds i true == li && l.setIfInBounds j true == lj) = true) (hdi : i ∉ ds) (hdj : j ∈ ds)
    (h1 : ∀ w1, R w w1 → ∀ K : Act → World → Prop, Shut (∀ a' w', R w1 w' → Go.Up.wpUp P md ops Q R ds n li a' w' → K a' w') → if Region.wanted oi (yielded ops a.tmps) = true then Oper.wp P oi a w1 K Q else K (a.put Ni undef) w1)
    (h2 : ∀ w1, R w w1 → ∀ K : Act → World → Prop, Shut (∀ a' w', Go.Up.wpUp P md ops Q R ds n lj a' w' → K a' w') → if Region.wanted oj (yielded ops a.tmps) = true then Oper.wp P oj a w1 K Q else K (a.put Nj undef) w1) :
    Go.Up.wpUp P md ops Q R ds (n + 1) l a w := by
  simp only [Bool.and_eq_true, beq_iff_eq] at hc
  obtain ⟨⟨h3, h4⟩, h5⟩ := hc
  subst h4
  subst h5
  intro w1 hw
  refine ⟨fun e => (by rw [h3] at e; cases e), fun k hk => ?_⟩
  rw [h3] at hk
  rcases List.mem_cons.1 hk with rfl | hk
  · exact Go.Up.step_ hi hNi fun K hK => h1 w1 hw K fun a' w' hr hu => hK a' w' (fun _ => hr) hu
  · obtain rfl : k = j := by simpa using hk
    exact Go.Up.step_ hj hNj fun K hK => h2 w1 hw K fun a' w' hu => hK a' w' (fun hn => absurd hdj hn) hu
theorem Fz.up {W w w' : World} {s : Fs} {z : Smm} (h : Fz W w s z) (hb : Below w.heap.size w w') : Fz W w' s z :=
  ⟨below_step h.1 hb, h.2.1, (hb.block _ (Array.getElem?_eq_some_iff.1 h.2.2.1).1).trans h.2.2.1, h.2.2.2.1.below hb, h.2.2.2.2.below hb⟩
theorem pick_at (a : Int) (n : Nat) (h0 : 0 < n) (hn : n ≤ 1000) : ∃ kk : Nat, (wrap64 (a.tmod (n : Int) + (n : Int))).tmod (n : Int) = (kk : Int) ∧ kk < n := by
  have h1 : -(n : Int) < a.tmod (n : Int) ∧ a.tmod (n : Int) < (n : Int) := by
    rcases Int.le_total 0 a with h | h
    · have := Int.tmod_nonneg (n : Int) h
      have := Int.tmod_lt_of_pos a (show (0 : Int) < (n : Int) by omega)
      omega
    · have e : a.tmod (n : Int) = -((-a).tmod (n : Int)) := by rw [Int.neg_tmod, Int.neg_neg]
      have := Int.tmod_nonneg (n : Int) (show 0 ≤ -a by omega)
      have := Int.tmod_lt_of_pos (-a) (show (0 : Int) < (n : Int) by omega)
      omega
  have h2 : wrap64 (a.tmod (n : Int) + (n : Int)) = a.tmod (n : Int) + (n : Int) := by unfold wrap64; omega
  rw [h2]
  have h3 := Int.tmod_nonneg (n : Int) (show 0 ≤ a.tmod (n : Int) + (n : Int) by omega)
  have h4 := Int.tmod_lt_of_pos (a.tmod (n : Int) + (n : Int)) (show (0 : Int) < (n : Int) by omega)
  exact ⟨((a.tmod (n : Int) + (n : Int)).tmod (n : Int)).toNat, by omega, by omega⟩
theorem add_zero0 (a : Addr) : a.add 0 = a := by simp [Addr.add]
/-- The loop's state. -/
structure Br (w : World) (l : List S26) (b n cap : Nat) (ls : List S26) (P : Option Addr) (pc : Nat) (ps : List Int) (W : World) : Prop where
  z : Below w.heap.size w W
  r : W.heap[w.heap.size]? = some (.cells Z7 26 (0, 0))
  rw : Rw W b n cap ls
  gd : Gd ls
  al : allC ls = allC l
  n0 : 0 < n
  nm : n ≤ 1000
  hb : w.heap.size < b
  p : Kd.C (Kd.int .i64) w P ps.length ps
  pc : ps.length ≤ pc ∧ ps.length ≤ 1000
theorem brack_ok (kf : Nat) (l : List S26) (ps : List Int) (w : World) {A : Option Addr} {c0 : Nat} {P : Option Addr} {pc : Nat} (hl : Kd.C k26 w A l.length l) (hc : l.length ≤ c0) (hp : Kd.C (Kd.int .i64) w P ps.length ps) (hpc : ps.length ≤ pc) (h8 : l.length ≤ 1000) (hps : ps.length ≤ 1000) (h0 : 0 < l.length) (hex : scan_examine.f kf l = some 0) (hok : Gd l) :
    Calls Tryd.prog 25 #[.slice A l.length c0, .slice P ps.length pc] w (BrPost (allC l) 0 w) := by
  have HN : Aside0 ((w.alloc (.cells #[.int .i64 0, .int .i64 0, .int .i64 0, .int .i64 0, .slice none 0 0, .slice none 0 0, .slice none 0 0] 26)).heap[w.heap.size]? = some (.cells Z7 26 (0, 0))) := ⟨heap_alloc_new w _⟩
  have HB : Aside0 (Below w.heap.size w (w.alloc (.cells #[.int .i64 0, .int .i64 0, .int .i64 0, .int .i64 0, .slice none 0 0, .slice none 0 0, .slice none 0 0] 26))) := ⟨(Below.refl w.heap.size w).alloc (Nat.le_refl _) _⟩
  have HE := Aside0.mk (fun W (hb : Below w.heap.size w W) => scan_examine.calls kf A c0 l 0 W (Kd.C_below hl hb) hc hex)
  have HCl := Aside0.mk (fun W (hb : Below w.heap.size w W) => cloneS l w W hb (c := c0) hl h0 h8)
  have HLs := Aside0.mk (And.intro h0 h8)
  have HGd := Aside0.mk hok
  have HPp := Aside0.mk (And.intro hp (And.intro hpc hps))
  have g1 : decide ((l.length : Int) = 0) = false := decide_eq_false (by omega)
  have g2 : decide (l.length = 0) = false := decide_eq_false (by omega)
  have g3 : ((l.length : Int) == 0) = false := by rw [beq_eq_false_iff_ne]; omega
  clear hl hc hp hpc h8 hps hex hok h0
  go_enter Tryd.func25, Tryd.ntmps25
  go_upto_region 7 with (first | (go_at_call 33; (with_reducible refine (HE.out _ HB.out).mono ?_); rintro e we ⟨rfl, hb⟩; have HN2 := Aside0.mk ((hb.block _ (Array.getElem?_eq_some_iff.1 HN.out).1).trans HN.out); have HB2 := Aside0.mk (below_step HB.out hb); clear hb) | (go_at_call 37; (with_reducible refine (HCl.out _ HB2.out).mono ?_); rintro e we3 ⟨b, cap, rfl, hbb, hR, hb⟩; have HR := Aside0.mk hR; have HN3 := Aside0.mk ((hb.block _ (Array.getElem?_eq_some_iff.1 HN2.out).1).trans HN2.out); have HB3 := Aside0.mk (below_step HB2.out hb); have HBb := Aside0.mk hbb; clear hR hb hbb))
  have H0 : Aside0 (Br w l b l.length cap l P pc ps we3) := ⟨⟨HB3.out, HN3.out, HR.out, HGd.out, rfl, HLs.out.1, HLs.out.2, Nat.lt_of_lt_of_le (Array.getElem?_eq_some_iff.1 HN2.out).1 HBb.out, HPp.out.1, HPp.out.2⟩⟩
  clear HN HB HE HCl HGd HPp HN2 HB2 HR HN3 HB3 HBb g1 g2 g3
  go_wp2_with fail
  go_loopg [0, 1] l.length (fun kq v0 v1 w' => ∃ (n : Nat) (ls : List S26) (P : Option Addr) (pc : Nat) (ps : List Int), kq = n ∧ v0 = .slice (some ⟨b, 0, none⟩) n cap ∧ v1 = .slice P ps.length pc ∧ Aside0 (Br w l b n cap ls P pc ps w'))
  case atStart => exact ⟨_, l, P, pc, ps, rfl, rfl, rfl, H0⟩
  case round =>
    clear H0 HLs
    obtain ⟨n, ls, P, pc, ps, rfl, rfl, rfl, HS⟩ := hrel
    by_cases c : 1 < gk
    · have cc0 : decide ((gk : Int) > 1) = true := decide_eq_true (by omega)
      have cc1 : decide (1 < gk) = true := decide_eq_true c
      obtain ⟨n1, hn1⟩ : ∃ n1 : Nat, gk = n1 + 1 := ⟨gk - 1, by omega⟩
      subst hn1
      have hgb : n1 + 1 ≤ 1000 := HS.out.nm
      go_upto_if 31 with fail
      go_cut [1, 7] (fun v1 v7 wc => ∃ (kk : Nat) (P2 : Option Addr) (pc2 : Nat) (ps2 : List Int), v7 = .int .i64 (kk : Int) ∧ v1 = .slice P2 ps2.length pc2 ∧ kk < n1 ∧ Aside0 (Kd.C (Kd.int .i64) w P2 ps2.length ps2 ∧ ps2.length ≤ pc2 ∧ ps2.length ≤ 1000) ∧ wc = wr)
      case first =>
        by_cases hp : 0 < ps.length
        · have c3 : decide ((0 : Int) < (ps.length : Int)) = true := decide_eq_true (by omega)
          have c4 : decide (0 < ps.length) = true := decide_eq_true hp
          obtain ⟨ad, e1, hx⟩ := Kd.at_int (Kd.C_below HS.out.p HS.out.z) 0 (by omega) (by omega)
          obtain ⟨a, ha⟩ : ∃ a, rd ps 0 = a := ⟨_, rfl⟩
          rw [ha] at hx
          simp only [Int.toNat_zero, add_zero0] at hx
          subst e1
          have p1 : ((0 : Int) < (ps.length : Int)) = True := eq_true (by omega)
          obtain ⟨kk, hkk, hlt⟩ := pick_at a n1 (by omega) (by omega)
          obtain ⟨i3, hi3, hs3⟩ : ∃ i, Tryd.prog.info? 3 = some i ∧ i.size = 1 := by
            have h := inf3
            cases hq : Tryd.prog.info? 3 with
            | none => rw [hq] at h; cases h
            | some i =>
              rw [hq] at h
              simp at h
              exact ⟨i, rfl, h.2.1⟩
          have hcut := cut_from (P := Tryd.prog) 23 3 .i64 Tryd.underlying23 hi3 1 hs3 (some ad) ps.length pc 1 (by omega) (by omega)
          have hD := Kd.C_drop (m := 1) (c := pc) HS.out.p (by omega) HS.out.pc.1
          have hDl : (ps.drop 1).length = ps.length - 1 := List.length_drop
          obtain ⟨AD, hAD⟩ : ∃ AD, (if pc = 1 then (some ad : Option Addr) else (some ad : Option Addr).map (·.add (1 * 1))) = AD := ⟨_, rfl⟩
          rw [show (1 : Int).toNat = 1 from rfl, hAD] at hcut
          rw [show (Kd.int .i64).sz = 1 from rfl, hAD] at hD
          have HD := Aside0.mk (And.intro hD hDl)
          have HKl := Aside0.mk hlt
          clear hAD hD hDl hlt
          go_upto_region 12 with fail
          clear hkk
          go_wp2_with fail
          go_meet
          exact ⟨kk, AD, pc - 1, ps.drop 1, rfl, by rw [HD.out.2], HKl.out, ⟨HD.out.1, by rw [HD.out.2]; have := HS.out.pc; omega, by rw [HD.out.2]; have := HS.out.pc; omega⟩, rfl⟩
        · have c3 : decide ((0 : Int) < (ps.length : Int)) = false := decide_eq_false (by omega)
          have c4 : decide (0 < ps.length) = false := decide_eq_false hp
          go_wp2_with fail
          go_meet
          exact ⟨0, P, pc, ps, rfl, rfl, by omega, ⟨HS.out.p, HS.out.pc⟩, rfl⟩
      case rest =>
        obtain ⟨kk, P2, pc2, ps2, rfl, rfl, hkk, HP2, rfl⟩ := hcut
        have hln := HS.out.rw.len.1
        obtain ⟨x, hx⟩ : ∃ x, ls[kk]? = some x := ⟨_, List.getElem?_eq_getElem (by omega)⟩
        obtain ⟨y, hy⟩ : ∃ y, ls[kk + 1]? = some y := ⟨_, List.getElem?_eq_getElem (by omega)⟩
        obtain ⟨hGd2, hAl2, hsum, vx, vy⟩ := HS.out.gd.step hx hy
        obtain ⟨A0, d0, A1, d1, A2, d2, hEx, hSx⟩ := HS.out.rw.get hx
        obtain ⟨B0, e0, B1, e1, B2, e2, hEy, hSy⟩ := HS.out.rw.get hy
        have HXY := Aside0.mk (And.intro hx hy)
        have HG2 := Aside0.mk (And.intro hGd2 hAl2)
        have HEx := Aside0.mk hEx
        have HEy := Aside0.mk hEy
        have HSx := Aside0.mk hSx
        have HKk := Aside0.mk hkk
        have HCm : Aside0 (∀ W, Below wc.heap.size wc W → Calls Tryd.prog 38 #[.agg #[.int .i64 (sm x).n, .int .i64 (sm x).e0, .int .i64 (sm x).e1, .int .i64 (sm x).e2, .slice A0 (sm x).l0.length d0, .slice A1 (sm x).l1.length d1, .slice A2 (sm x).l2.length d2], .agg #[.int .i64 (sm y).n, .int .i64 (sm y).e0, .int .i64 (sm y).e1, .int .i64 (sm y).e2, .slice B0 (sm y).l0.length e0, .slice B1 (sm y).l1.length e1, .slice B2 (sm y).l2.length e2]] W fun e w' => ∃ E0 f0 E1 f1 E2 f2, e = .returned (.tuple #[.agg #[.int .i64 (sm (comp x y)).n, .int .i64 (sm (comp x y)).e0, .int .i64 (sm (comp x y)).e1, .int .i64 (sm (comp x y)).e2, .slice E0 (sm (comp x y)).l0.length f0, .slice E1 (sm (comp x y)).l1.length f1, .slice E2 (sm (comp x y)).l2.length f2], .int .i64 0]) ∧ RdS w' E0 f0 E1 f1 E2 f2 (sm (comp x y)) ∧ Ty w' E0 E1 E2 (sm (comp x y)) ∧ Below W.heap.size W w') := ⟨fun W hb => cmpS x y vx vy hsum W (hEx.below hb).rd (hEy.below hb).rd⟩
        have q1 : (0 ≤ (kk : Int)) = True := eq_true (by omega)
        have q2 : ((kk : Int) < (n1 : Int) + 1) = True := eq_true (by omega)
        have q3 : ((kk : Int) + 1 < (n1 : Int) + 1) = True := eq_true (by omega)
        have q4 : (0 ≤ (kk : Int) + 1) = True := eq_true (by omega)
        have q5 : ((kk : Int) + 1).toNat = kk + 1 := by omega
        have q6 : ((kk : Int) < (n1 : Int)) = True := eq_true (by omega)
        have hbb : kk ≤ 1000 := by omega
        have q7 : IntKind.i64.wrap ((kk : Int) + 1) = (kk : Int) + 1 := by rw [i64_w]; unfold Go.RowKit.wrap64; omega
        clear hx hy hGd2 hAl2 hsum vx vy hEx hSx hEy hSy hln
        go_upto_region 13 with fail
        have HSt : Aside0 (∀ w', Below wc.heap.size wc w' → (w'.cell? ⟨b, kk * 7, none⟩ = some (.int .i64 (sm x).n) ∧ w'.cell? ⟨b, kk * 7 + 1, none⟩ = some (.int .i64 (sm x).e0) ∧ w'.cell? ⟨b, kk * 7 + 2, none⟩ = some (.int .i64 (sm x).e1) ∧ w'.cell? ⟨b, kk * 7 + 3, none⟩ = some (.int .i64 (sm x).e2) ∧ w'.cell? ⟨b, kk * 7 + 4, none⟩ = some (.slice A0 (sm x).l0.length d0) ∧ w'.cell? ⟨b, kk * 7 + 5, none⟩ = some (.slice A1 (sm x).l1.length d1) ∧ w'.cell? ⟨b, kk * 7 + 6, none⟩ = some (.slice A2 (sm x).l2.length d2)) ∧ (w'.cell? ⟨b, (kk + 1) * 7, none⟩ = some (.int .i64 (sm y).n) ∧ w'.cell? ⟨b, (kk + 1) * 7 + 1, none⟩ = some (.int .i64 (sm y).e0) ∧ w'.cell? ⟨b, (kk + 1) * 7 + 2, none⟩ = some (.int .i64 (sm y).e1) ∧ w'.cell? ⟨b, (kk + 1) * 7 + 3, none⟩ = some (.int .i64 (sm y).e2) ∧ w'.cell? ⟨b, (kk + 1) * 7 + 4, none⟩ = some (.slice B0 (sm y).l0.length e0) ∧ w'.cell? ⟨b, (kk + 1) * 7 + 5, none⟩ = some (.slice B1 (sm y).l1.length e1) ∧ w'.cell? ⟨b, (kk + 1) * 7 + 6, none⟩ = some (.slice B2 (sm y).l2.length e2))) := ⟨fun W hb => by
          have h1 := HEx.out.below hb
          have h2 := HEy.out.below hb
          exact ⟨⟨h1.h0, h1.h1, h1.h2, h1.h3, h1.h4, h1.h5, h1.h6⟩, h2.h0, h2.h1, h2.h2, h2.h3, h2.h4, h2.h5, h2.h6⟩⟩
        refine Go.Up.start_ preB (n := 17) (R := AB) (ds := [16]) #[false, false, false, false, false, false, false, false, false, false, false, false, false, false, false, false, false] (by kernel_rfl) rfl (by rfl) ?_
        obtain ⟨Wd, hWd⟩ : ∃ Wd, wc.drew = Wd := ⟨_, rfl⟩
        have HD : Aside0 (Below wc.heap.size wc Wd) := ⟨by rw [← hWd]; exact (Below.refl _ _).drew⟩
        rw [hWd]
        clear hWd
        refine Go.Up.take_ preB (i := 0) (N := some 44) (v := (.slice (some ⟨b, 0, none⟩) (n1 + 1) cap)) #[true, false, false, false, false, false, false, false, false, false, false, false, false, false, false, false, false] rfl rfl (by kernel_rfl) (fun _ _ _ h => h) (Go.Up.value_ preB rfl (fun w1 h1 => by (skip); go_simp)) rfl ?_
        try simp only [Act.put, List.setIfInBounds_toArray, List.set_cons_zero, List.set_cons_succ]
        refine Go.Up.take_ preB (i := 1) (N := some 45) (v := (.int .i64 (kk : Int))) #[true, true, false, false, false, false, false, false, false, false, false, false, false, false, false, false, false] rfl rfl (by kernel_rfl) (fun _ _ _ h => h) (Go.Up.value_ preB rfl (fun w1 h1 => by (skip); go_simp)) rfl ?_
        try simp only [Act.put, List.setIfInBounds_toArray, List.set_cons_zero, List.set_cons_succ]
        refine Go.Up.take_ preB (i := 2) (N := some 46) (v := (.slice (some ⟨b, 0, none⟩) (n1 + 1) cap)) #[true, true, true, false, false, false, false, false, false, false, false, false, false, false, false, false, false] rfl rfl (by kernel_rfl) (fun _ _ _ h => h) (Go.Up.value_ preB rfl (fun w1 h1 => by (skip); go_simp)) rfl ?_
        try simp only [Act.put, List.setIfInBounds_toArray, List.set_cons_zero, List.set_cons_succ]
        refine Go.Up.take_ preB (i := 3) (N := some 47) (v := (.int .i64 (kk : Int))) #[true, true, true, true, false, false, false, false, false, false, false, false, false, false, false, false, false] rfl rfl (by kernel_rfl) (fun _ _ _ h => h) (Go.Up.value_ preB rfl (fun w1 h1 => by (skip); go_simp)) rfl ?_
        try simp only [Act.put, List.setIfInBounds_toArray, List.set_cons_zero, List.set_cons_succ]
        refine Go.Up.take_ preB (i := 4) (N := some 48) (v := (.pointer (some ⟨b, kk * 7, none⟩))) #[true, true, true, true, true, false, false, false, false, false, false, false, false, false, false, false, false] rfl rfl (by kernel_rfl) (fun _ _ _ h => h) (Go.Up.value_ preB rfl (fun w1 h1 => by (skip); go_simp)) rfl ?_
        try simp only [Act.put, List.setIfInBounds_toArray, List.set_cons_zero, List.set_cons_succ]
        refine Go.Up.take_ preB (i := 5) (N := some 49) (v := (.agg #[.int .i64 (sm x).n, .int .i64 (sm x).e0, .int .i64 (sm x).e1, .int .i64 (sm x).e2, .slice A0 (sm x).l0.length d0, .slice A1 (sm x).l1.length d1, .slice A2 (sm x).l2.length d2])) #[true, true, true, true, true, true, false, false, false, false, false, false, false, false, false, false, false] rfl rfl (by kernel_rfl) (fun _ _ _ h => h) (Go.Up.value_ preB rfl (fun w1 h1 => by (obtain ⟨⟨p0, p1, p2, p3, p4, p5, p6⟩, _⟩ := HSt.out w1 (below_step HD.out h1)); go_simp)) rfl ?_
        try simp only [Act.put, List.setIfInBounds_toArray, List.set_cons_zero, List.set_cons_succ]
        refine Go.Up.take_ preB (i := 6) (N := some 50) (v := (.slice (some ⟨b, 0, none⟩) (n1 + 1) cap)) #[true, true, true, true, true, true, true, false, false, false, false, false, false, false, false, false, false] rfl rfl (by kernel_rfl) (fun _ _ _ h => h) (Go.Up.value_ preB rfl (fun w1 h1 => by (skip); go_simp)) rfl ?_
        try simp only [Act.put, List.setIfInBounds_toArray, List.set_cons_zero, List.set_cons_succ]
        refine Go.Up.take_ preB (i := 7) (N := some 51) (v := (.int .i64 (kk : Int))) #[true, true, true, true, true, true, true, true, false, false, false, false, false, false, false, false, false] rfl rfl (by kernel_rfl) (fun _ _ _ h => h) (Go.Up.value_ preB rfl (fun w1 h1 => by (skip); go_simp)) rfl ?_
        try simp only [Act.put, List.setIfInBounds_toArray, List.set_cons_zero, List.set_cons_succ]
        refine Go.Up.take_ preB (i := 8) (N := some 52) (v := (.int .i64 ((kk : Int) + 1))) #[true, true, true, true, true, true, true, true, true, false, false, false, false, false, false, false, false] rfl rfl (by kernel_rfl) (fun _ _ _ h => h) (Go.Up.value_ preB rfl (fun w1 h1 => by (skip); go_simp)) rfl ?_
        try simp only [Act.put, List.setIfInBounds_toArray, List.set_cons_zero, List.set_cons_succ]
        refine Go.Up.take_ preB (i := 9) (N := some 53) (v := (.pointer (some ⟨b, (kk + 1) * 7, none⟩))) #[true, true, true, true, true, true, true, true, true, true, false, false, false, false, false, false, false] rfl rfl (by kernel_rfl) (fun _ _ _ h => h) (Go.Up.value_ preB rfl (fun w1 h1 => by (skip); go_simp)) rfl ?_
        try simp only [Act.put, List.setIfInBounds_toArray, List.set_cons_zero, List.set_cons_succ]
        refine Go.Up.take_ preB (i := 10) (N := some 54) (v := (.agg #[.int .i64 (sm y).n, .int .i64 (sm y).e0, .int .i64 (sm y).e1, .int .i64 (sm y).e2, .slice B0 (sm y).l0.length e0, .slice B1 (sm y).l1.length e1, .slice B2 (sm y).l2.length e2])) #[true, true, true, true, true, true, true, true, true, true, true, false, false, false, false, false, false] rfl rfl (by kernel_rfl) (fun _ _ _ h => h) (Go.Up.value_ preB rfl (fun w1 h1 => by (obtain ⟨_, ⟨p0, p1, p2, p3, p4, p5, p6⟩⟩ := HSt.out w1 (below_step HD.out h1)); go_simp)) rfl ?_
        try simp only [Act.put, List.setIfInBounds_toArray, List.set_cons_zero, List.set_cons_succ]
        refine Go.Up.one_ (i := 11) (N := some 55) #[true, true, true, true, true, true, true, true, true, true, true, true, false, false, false, false, false] rfl rfl (by kernel_rfl) (by decide) ?_
        intro w1 h1 K hK
        go_simp
        go_at_call 38
        (with_reducible refine (HCm.out _ (below_step HD.out h1)).mono ?_)
        rintro e u1 ⟨E0, f0, E1, f1, E2, f2, rfl, hr, ht, hb⟩
        have HB1 := Aside0.mk (below_step (below_step HD.out h1) hb)
        have HRd := Aside0.mk (And.intro hr ht)
        refine hK.out _ _ hb ?_
        clear hr ht hb hK K h1 w1
        try simp only [Act.put, List.setIfInBounds_toArray, List.set_cons_zero, List.set_cons_succ]
        refine Go.Up.take_ preB (i := 12) (N := some 43) (v := (.tuple #[.agg #[.int .i64 (sm (comp x y)).n, .int .i64 (sm (comp x y)).e0, .int .i64 (sm (comp x y)).e1, .int .i64 (sm (comp x y)).e2, .slice E0 (sm (comp x y)).l0.length f0, .slice E1 (sm (comp x y)).l1.length f1, .slice E2 (sm (comp x y)).l2.length f2], .int .i64 0])) #[true, true, true, true, true, true, true, true, true, true, true, true, true, false, false, false, false] rfl rfl (by kernel_rfl) (fun _ _ _ h => h) (Go.Up.value_ preB rfl (fun w1 h1 => by (skip); go_simp)) rfl ?_
        try simp only [Act.put, List.setIfInBounds_toArray, List.set_cons_zero, List.set_cons_succ]
        refine Go.Up.take_ preB (i := 13) (N := some 56) (v := (.agg #[.int .i64 (sm (comp x y)).n, .int .i64 (sm (comp x y)).e0, .int .i64 (sm (comp x y)).e1, .int .i64 (sm (comp x y)).e2, .slice E0 (sm (comp x y)).l0.length f0, .slice E1 (sm (comp x y)).l1.length f1, .slice E2 (sm (comp x y)).l2.length f2])) #[true, true, true, true, true, true, true, true, true, true, true, true, true, true, false, false, false] rfl rfl (by kernel_rfl) (fun _ _ _ h => h) (Go.Up.value_ preB rfl (fun w1 h1 => by (skip); go_simp)) rfl ?_
        try simp only [Act.put, List.setIfInBounds_toArray, List.set_cons_zero, List.set_cons_succ]
        refine Go.Up.take_ preB (i := 15) (N := some 58) (v := (.pointer (some ⟨b, kk * 7, none⟩))) #[true, true, true, true, true, true, true, true, true, true, true, true, true, true, false, true, false] rfl rfl (by kernel_rfl) (fun _ _ _ h => h) (Go.Up.value_ preB rfl (fun w1 h1 => by (skip); go_simp)) rfl ?_
        try simp only [Act.put, List.setIfInBounds_toArray, List.set_cons_zero, List.set_cons_succ]
        have HFx : Aside0 (∀ w', Below u1.heap.size u1 w' → (∀ j, w'.frozen? ⟨b, j, none⟩ = false) ∧ w'.cell? ⟨b, kk * 7, none⟩ = some (.int .i64 (sm x).n) ∧ w'.cell? ⟨b, kk * 7 + 1, none⟩ = some (.int .i64 (sm x).e0) ∧ w'.cell? ⟨b, kk * 7 + 2, none⟩ = some (.int .i64 (sm x).e1) ∧ w'.cell? ⟨b, kk * 7 + 3, none⟩ = some (.int .i64 (sm x).e2) ∧ w'.cell? ⟨b, kk * 7 + 4, none⟩ = some (.slice A0 (sm x).l0.length d0) ∧ w'.cell? ⟨b, kk * 7 + 5, none⟩ = some (.slice A1 (sm x).l1.length d1) ∧ w'.cell? ⟨b, kk * 7 + 6, none⟩ = some (.slice A2 (sm x).l2.length d2)) := ⟨fun W hb => by
          have h2 := (HSt.out _ (below_step HB1.out hb)).1
          obtain ⟨arr1, ha1, _⟩ := (HS.out.rw.below (below_step HB1.out hb)).blk
          exact ⟨fun j => by simp [World.frozen?, ha1], h2⟩⟩
        have HFin : Aside0 (∀ W W2, Below u1.heap.size u1 W → ((((((W.setCell ⟨b, kk * 7, none⟩ (.int .i64 (sm (comp x y)).n)).setCell ⟨b, kk * 7 + 1, none⟩ (.int .i64 (sm (comp x y)).e0)).setCell ⟨b, kk * 7 + 2, none⟩ (.int .i64 (sm (comp x y)).e1)).setCell ⟨b, kk * 7 + 3, none⟩ (.int .i64 (sm (comp x y)).e2)).setCell ⟨b, kk * 7 + 4, none⟩ (.slice E0 (sm (comp x y)).l0.length f0)).setCell ⟨b, kk * 7 + 5, none⟩ (.slice E1 (sm (comp x y)).l1.length f1)).setCell ⟨b, kk * 7 + 6, none⟩ (.slice E2 (sm (comp x y)).l2.length f2) = W2 → (fun w' => Rw w' b (n1 + 1) cap (ls.set kk (comp x y)) ∧ Below w.heap.size w w' ∧ w'.heap[w.heap.size]? = some (.cells Z7 26 (0, 0))) W2) := ⟨fun W W2 hb hW2 => by
          have hR1 := HS.out.rw.below (below_step HB1.out hb)
          obtain ⟨arr1, ha1, _⟩ := hR1.blk
          obtain ⟨hR2, hg2⟩ := hR1.set (by omega) (comp x y) hW2 (Sf.of_ty (HRd.out.1.below hb) (HRd.out.2.below hb) ha1)
          have hz := below_step HS.out.z (below_step HB1.out hb)
          have hr := ((below_step HB1.out hb).block _ (Array.getElem?_eq_some_iff.1 HS.out.r).1).trans HS.out.r
          exact ⟨hR2, below_grown hz (by have := HS.out.hb; omega) hg2, (hg2.block _ (Array.getElem?_eq_some_iff.1 hr).1 (fun e => by have := Option.some.inj e; have := HS.out.hb; omega)).trans hr⟩⟩
        clear HEx HEy HSx HRd HCm HSt
        refine Go.Up.join_ (σ := Unit) 0 #[true, true, true, true, true, true, true, true, true, true, true, true, true, true, true, true, true] (fun _ => [(57, .int .i64 0)]) (fun _ w' => Rw w' b (n1 + 1) cap (ls.set kk (comp x y)) ∧ Below w.heap.size w w' ∧ w'.heap[w.heap.size]? = some (.cells Z7 26 (0, 0))) (fun s w' hF => ?_) (fun hj => ?_)
        rotate_left
        refine mix_ (i := 14) (j := 16) (Ni := some 57) (Nj := none) #[true, true, true, true, true, true, true, true, true, true, true, true, true, true, true, true, false] #[true, true, true, true, true, true, true, true, true, true, true, true, true, true, false, true, true] rfl rfl rfl rfl (by kernel_rfl) (by decide) (by decide) ?_ ?_
        · intro w1 h1 K hK
          go_simp
          refine hK.out _ _ (preB.refl _) ?_
          clear hK K
          try simp only [Act.put, List.setIfInBounds_toArray, List.set_cons_zero, List.set_cons_succ]
          refine Go.Up.last_ (i := 16) (N := none) #[true, true, true, true, true, true, true, true, true, true, true, true, true, true, true, true, true] rfl rfl (by kernel_rfl) (by decide) ?_
          intro w2 h2 K hK
          obtain ⟨t0, t1, t2, t3, t4, t5, t6, t7⟩ := HFx.out _ (below_step h1 h2)
          go_simp
          refine hK.out _ _ ?_
          clear hK K t0 t1 t2 t3 t4 t5 t6 t7
          have hj2 := hj () _ (HFin.out w2 _ (below_step h1 h2) rfl)
          simp only [Go.Up.putAll, Act.put, List.setIfInBounds_toArray, List.set_cons_zero, List.set_cons_succ] at hj2
          exact hj2
        · intro w1 h1 K hK
          obtain ⟨t0, t1, t2, t3, t4, t5, t6, t7⟩ := HFx.out _ h1
          go_simp
          refine hK.out _ _ ?_
          clear hK K t0 t1 t2 t3 t4 t5 t6 t7
          have HF2 := Aside0.mk (HFin.out w1 _ h1 rfl)
          refine Go.Up.one_ (i := 14) (N := some 57) #[true, true, true, true, true, true, true, true, true, true, true, true, true, true, true, true, true] rfl rfl (by kernel_rfl) (by decide) ?_
          intro w2 h2 K hK
          go_simp
          refine hK.out _ _ (preB.refl _) ?_
          clear hK K
          have hj2 := hj () _ (⟨HF2.out.1.below h2, below_step HF2.out.2.1 h2, (h2.block _ (Array.getElem?_eq_some_iff.1 HF2.out.2.2).1).trans HF2.out.2.2⟩ : (fun w' => Rw w' b (n1 + 1) cap (ls.set kk (comp x y)) ∧ Below w.heap.size w w' ∧ w'.heap[w.heap.size]? = some (.cells Z7 26 (0, 0))) w2)
          simp only [Go.Up.putAll, Act.put, List.setIfInBounds_toArray, List.set_cons_zero, List.set_cons_succ] at hj2
          exact hj2
        simp only [Go.Up.putAll, Act.put, List.setIfInBounds_toArray, List.set_cons_zero, List.set_cons_succ]
        refine Go.Up.done_ preB (by kernel_rfl) ?_
        intro W2 h2
        have HF := Aside0.mk (⟨hF.1.below h2, below_step hF.2.1 h2, (h2.block _ (Array.getElem?_eq_some_iff.1 hF.2.2).1).trans hF.2.2⟩ : (fun w' => Rw w' b (n1 + 1) cap (ls.set kk (comp x y)) ∧ Below w.heap.size w w' ∧ w'.heap[w.heap.size]? = some (.cells Z7 26 (0, 0))) W2)
        clear hF h2 HFin HFx
        have HDel := Aside0.mk (HF.out.1.del (k := kk) rfl rfl (by omega))
        rw [show n1 + 1 - 1 = n1 from rfl] at HDel
        have q8 : IntKind.i64.wrap ((kk : Int) + 2) = (kk : Int) + 2 := by rw [i64_w]; unfold Go.RowKit.wrap64; omega
        go_wp2_with (first | (go_at_call 39; (with_reducible refine HDel.out.mono ?_); rintro e W3 ⟨rfl, hRw3, hg3⟩; have HN3 : Aside0 (Br w l b n1 cap ((ls.set kk (comp x y)).eraseIdx (kk + 1)) P2 pc2 ps2 W3) := ⟨⟨below_grown HF.out.2.1 (by have := HS.out.hb; omega) hg3, (hg3.block _ (Array.getElem?_eq_some_iff.1 HF.out.2.2).1 (fun e => by have := Option.some.inj e; have := HS.out.hb; omega)).trans HF.out.2.2, hRw3, HG2.out.1, HG2.out.2.trans HS.out.al, by have := HKk.out; omega, by omega, HS.out.hb, HP2.out.1, HP2.out.2⟩⟩; clear hRw3 hg3 HDel))
        go_roundg n1
        case measure => omega
        case rel => exact ⟨n1, _, P2, pc2, ps2, rfl, rfl, rfl, HN3⟩
    · obtain rfl : gk = 1 := by have := HS.out.n0; omega
      have hln := HS.out.rw.len.1
      obtain ⟨x, hx⟩ : ∃ x, ls = [x] := List.length_eq_one_iff.1 hln
      subst hx
      obtain ⟨A0, d0, A1, d1, A2, d2, hEx, _⟩ := HS.out.rw.get (i := 0) rfl
      rw [show 0 * 7 = 0 from rfl] at hEx
      have hAl : allC l = comp emptyS x := HS.out.al.symm
      have vx : vldS x := HS.out.gd.1 x List.mem_cons_self
      have hsum : emptyS.f0 + x.f0 ≤ 1048576 := by have := vx.1; show 0 + x.f0 ≤ _; omega
      have HEx := Aside0.mk hEx
      have HCm : Aside0 (∀ W E0 f0 E1 f1 E2 f2, Below wr.heap.size wr W → RdS W E0 f0 E1 f1 E2 f2 (sm emptyS) → Calls Tryd.prog 38 #[.agg #[.int .i64 (sm emptyS).n, .int .i64 (sm emptyS).e0, .int .i64 (sm emptyS).e1, .int .i64 (sm emptyS).e2, .slice E0 (sm emptyS).l0.length f0, .slice E1 (sm emptyS).l1.length f1, .slice E2 (sm emptyS).l2.length f2], .agg #[.int .i64 (sm x).n, .int .i64 (sm x).e0, .int .i64 (sm x).e1, .int .i64 (sm x).e2, .slice A0 (sm x).l0.length d0, .slice A1 (sm x).l1.length d1, .slice A2 (sm x).l2.length d2]] W fun e w' => ∃ E0 f0 E1 f1 E2 f2, e = .returned (.tuple #[.agg #[.int .i64 (sm (allC l)).n, .int .i64 (sm (allC l)).e0, .int .i64 (sm (allC l)).e1, .int .i64 (sm (allC l)).e2, .slice E0 (sm (allC l)).l0.length f0, .slice E1 (sm (allC l)).l1.length f1, .slice E2 (sm (allC l)).l2.length f2], .int .i64 0]) ∧ RdS w' E0 f0 E1 f1 E2 f2 (sm (allC l)) ∧ Ty w' E0 E1 E2 (sm (allC l)) ∧ Below W.heap.size W w') := ⟨fun W E0 f0 E1 f1 E2 f2 hb hr => by rw [hAl]; exact cmpS emptyS x empty_vld vx hsum W hr (hEx.below hb).rd⟩
      have HZ := Aside0.mk (And.intro HS.out.z HS.out.r)
      have hcp : 1 ≤ cap := HS.out.rw.len.2.1
      clear hln hEx hAl vx hsum c HS
      go_upto_region 15 with fail
      refine Go.Up.start_ preB (n := 11) (R := AB) (ds := [9]) #[false, false, false, false, false, false, false, false, false, false, false] (by kernel_rfl) rfl (by rfl) ?_
      obtain ⟨Wd, hWd⟩ : ∃ Wd, wr.drew = Wd := ⟨_, rfl⟩
      have HD : Aside0 (Below wr.heap.size wr Wd) := ⟨by rw [← hWd]; exact (Below.refl _ _).drew⟩
      have HDz : Aside0 (wr.heap.size ≤ Wd.heap.size) := ⟨by rw [← hWd]; exact Nat.le_refl _⟩
      rw [hWd]
      clear hWd
      refine Go.Up.take_ preB (i := 1) (N := some 67) (v := (.slice (some ⟨b, 0, none⟩) 1 cap)) #[false, true, false, false, false, false, false, false, false, false, false] rfl rfl (by kernel_rfl) (fun _ _ _ h => h) (Go.Up.value_ preB rfl (fun w1 h1 => by (skip); go_simp)) rfl ?_
      try simp only [Act.put, List.setIfInBounds_toArray, List.set_cons_zero, List.set_cons_succ]
      refine Go.Up.take_ preB (i := 2) (N := some 68) (v := (.pointer (some ⟨b, 0, none⟩))) #[false, true, true, false, false, false, false, false, false, false, false] rfl rfl (by kernel_rfl) (fun _ _ _ h => h) (Go.Up.value_ preB rfl (fun w1 h1 => by (skip); go_simp)) rfl ?_
      try simp only [Act.put, List.setIfInBounds_toArray, List.set_cons_zero, List.set_cons_succ]
      refine Go.Up.take_ preB (i := 3) (N := some 69) (v := (.agg #[.int .i64 (sm x).n, .int .i64 (sm x).e0, .int .i64 (sm x).e1, .int .i64 (sm x).e2, .slice A0 (sm x).l0.length d0, .slice A1 (sm x).l1.length d1, .slice A2 (sm x).l2.length d2])) #[false, true, true, true, false, false, false, false, false, false, false] rfl rfl (by kernel_rfl) (fun _ _ _ h => h) (Go.Up.value_ preB rfl (fun w1 h1 => by (obtain ⟨p0, p1, p2, p3, p4, p5, p6, _⟩ := HEx.out.below (below_step HD.out h1)); go_simp)) rfl ?_
      try simp only [Act.put, List.setIfInBounds_toArray, List.set_cons_zero, List.set_cons_succ]
      refine Go.Up.join_ (σ := Fs) 0 #[true, true, true, true, true, true, true, true, true, true, true] (fun s => [(66, s.v), (70, .tuple #[.agg #[.int .i64 (sm (allC l)).n, .int .i64 (sm (allC l)).e0, .int .i64 (sm (allC l)).e1, .int .i64 (sm (allC l)).e2, .slice s.E0 (sm (allC l)).l0.length s.f0, .slice s.E1 (sm (allC l)).l1.length s.f1, .slice s.E2 (sm (allC l)).l2.length s.f2], .int .i64 0]), (65, .tuple #[.agg #[.int .i64 (sm (allC l)).n, .int .i64 (sm (allC l)).e0, .int .i64 (sm (allC l)).e1, .int .i64 (sm (allC l)).e2, .slice s.E0 (sm (allC l)).l0.length s.f0, .slice s.E1 (sm (allC l)).l1.length s.f1, .slice s.E2 (sm (allC l)).l2.length s.f2], .int .i64 0]), (71, .agg #[.int .i64 (sm (allC l)).n, .int .i64 (sm (allC l)).e0, .int .i64 (sm (allC l)).e1, .int .i64 (sm (allC l)).e2, .slice s.E0 (sm (allC l)).l0.length s.f0, .slice s.E1 (sm (allC l)).l1.length s.f1, .slice s.E2 (sm (allC l)).l2.length s.f2]), (72, .int .i64 0), (9, .pointer (some ⟨s.kz, 0, none⟩)), (10, .int .i64 0)]) (fun s w' => Bo w' s.kz s.E0 s.f0 s.E1 s.f1 s.E2 s.f2 (sm (allC l)) ∧ Ty w' s.E0 s.E1 s.E2 (sm (allC l)) ∧ Below Wd.heap.size Wd w') (fun s w2' hG => ?_) (fun hjF => ?_)
      rotate_left
      have HFs : Aside0 (∀ (s : Fs) W W2, Fz Wd W s (sm (allC l)) → ((((((W.setCell ⟨s.kz, 0, none⟩ (.int .i64 (sm (allC l)).n)).setCell ⟨s.kz, 1, none⟩ (.int .i64 (sm (allC l)).e0)).setCell ⟨s.kz, 2, none⟩ (.int .i64 (sm (allC l)).e1)).setCell ⟨s.kz, 3, none⟩ (.int .i64 (sm (allC l)).e2)).setCell ⟨s.kz, 4, none⟩ (.slice s.E0 (sm (allC l)).l0.length s.f0)).setCell ⟨s.kz, 5, none⟩ (.slice s.E1 (sm (allC l)).l1.length s.f1)).setCell ⟨s.kz, 6, none⟩ (.slice s.E2 (sm (allC l)).l2.length s.f2) = W2 → (fun w' => Bo w' s.kz s.E0 s.f0 s.E1 s.f1 s.E2 s.f2 (sm (allC l)) ∧ Ty w' s.E0 s.E1 s.E2 (sm (allC l)) ∧ Below Wd.heap.size Wd w') W2) := ⟨fun s W W2 hf hW2 => by
        obtain ⟨q1, q2, q3, q4, q5⟩ := hf
        obtain ⟨hblk, hg⟩ := set7 q3 s.E0 s.f0 s.E1 s.f1 s.E2 s.f2 (sm (allC l)) hW2
        exact ⟨⟨hblk, q4.grown q5 q3 hg⟩, q5.grown q3 hg, below_grown q1 q2 hg⟩⟩
      refine Go.Up.join_ (σ := Fs) 3 #[true, true, true, true, true, true, true, false, true, false, false] (fun s => [(66, s.v), (70, .tuple #[.agg #[.int .i64 (sm (allC l)).n, .int .i64 (sm (allC l)).e0, .int .i64 (sm (allC l)).e1, .int .i64 (sm (allC l)).e2, .slice s.E0 (sm (allC l)).l0.length s.f0, .slice s.E1 (sm (allC l)).l1.length s.f1, .slice s.E2 (sm (allC l)).l2.length s.f2], .int .i64 0]), (65, .tuple #[.agg #[.int .i64 (sm (allC l)).n, .int .i64 (sm (allC l)).e0, .int .i64 (sm (allC l)).e1, .int .i64 (sm (allC l)).e2, .slice s.E0 (sm (allC l)).l0.length s.f0, .slice s.E1 (sm (allC l)).l1.length s.f1, .slice s.E2 (sm (allC l)).l2.length s.f2], .int .i64 0]), (71, .agg #[.int .i64 (sm (allC l)).n, .int .i64 (sm (allC l)).e0, .int .i64 (sm (allC l)).e1, .int .i64 (sm (allC l)).e2, .slice s.E0 (sm (allC l)).l0.length s.f0, .slice s.E1 (sm (allC l)).l1.length s.f1, .slice s.E2 (sm (allC l)).l2.length s.f2]), (9, .pointer (some ⟨s.kz, 0, none⟩))]) (fun s w' => Fz Wd w' s (sm (allC l))) (fun s w' hF => ?_) (fun hj => ?_)
      rotate_left
      refine Go.Up.two_ (i := 0) (j := 8) (Ni := some 66) (Nj := some 9) #[true, true, true, true, false, false, false, false, false, false, false] #[false, true, true, true, false, false, false, false, true, false, false] rfl rfl rfl rfl (by kernel_rfl) (by decide) (by decide) ?_ ?_
      · intro w1 h1 K hK
        go_simp
        go_at_call 35
        (with_reducible refine (empS _).mono ?_)
        rintro e u1 ⟨G0, g0, G1, g1, G2, g2, rfl, hr, hb⟩
        have HB1 := Aside0.mk (below_step (h1) hb)
        have HRe := Aside0.mk hr
        refine hK.out _ _ hb ?_
        clear hK K
        try simp only [Act.put, List.setIfInBounds_toArray, List.set_cons_zero, List.set_cons_succ]
        clear hb hr
        refine Go.Up.two_ (i := 4) (j := 8) (Ni := some 70) (Nj := some 9) #[true, true, true, true, true, false, false, false, false, false, false] #[true, true, true, true, false, false, false, false, true, false, false] rfl rfl rfl rfl (by kernel_rfl) (by decide) (by decide) ?_ ?_
        · intro w2 h2 K hK
          go_simp
          go_at_call 38
          (with_reducible refine (HCm.out _ _ _ _ _ _ _ (below_step HD.out (below_step HB1.out h2)) (HRe.out.below h2)).mono ?_)
          rintro e u2 ⟨E0, f0, E1, f1, E2, f2, rfl, hr, ht, hb⟩
          have HB2 := Aside0.mk (below_step (below_step HB1.out h2) hb)
          have HRd := Aside0.mk (And.intro hr ht)
          refine hK.out _ _ hb ?_
          clear hK K
          try simp only [Act.put, List.setIfInBounds_toArray, List.set_cons_zero, List.set_cons_succ]
          clear hb hr ht
          refine Go.Up.take_ preB (i := 5) (N := some 65) (v := (.tuple #[.agg #[.int .i64 (sm (allC l)).n, .int .i64 (sm (allC l)).e0, .int .i64 (sm (allC l)).e1, .int .i64 (sm (allC l)).e2, .slice E0 (sm (allC l)).l0.length f0, .slice E1 (sm (allC l)).l1.length f1, .slice E2 (sm (allC l)).l2.length f2], .int .i64 0])) #[true, true, true, true, true, true, false, false, false, false, false] rfl rfl (by kernel_rfl) (fun _ _ _ h => h) (Go.Up.value_ preB rfl (fun w1 h1 => by (skip); go_simp)) rfl ?_
          try simp only [Act.put, List.setIfInBounds_toArray, List.set_cons_zero, List.set_cons_succ]
          refine Go.Up.take_ preB (i := 6) (N := some 71) (v := (.agg #[.int .i64 (sm (allC l)).n, .int .i64 (sm (allC l)).e0, .int .i64 (sm (allC l)).e1, .int .i64 (sm (allC l)).e2, .slice E0 (sm (allC l)).l0.length f0, .slice E1 (sm (allC l)).l1.length f1, .slice E2 (sm (allC l)).l2.length f2])) #[true, true, true, true, true, true, true, false, false, false, false] rfl rfl (by kernel_rfl) (fun _ _ _ h => h) (Go.Up.value_ preB rfl (fun w1 h1 => by (skip); go_simp)) rfl ?_
          try simp only [Act.put, List.setIfInBounds_toArray, List.set_cons_zero, List.set_cons_succ]
          refine Go.Up.two_ (i := 7) (j := 8) (Ni := some 72) (Nj := some 9) #[true, true, true, true, true, true, true, true, false, false, false] #[true, true, true, true, true, true, true, false, true, false, false] rfl rfl rfl rfl (by kernel_rfl) (by decide) (by decide) ?_ ?_
          · intro w3 h3 K hK
            go_simp
            refine hK.out _ _ (preB.refl _) ?_
            clear hK K
            try simp only [Act.put, List.setIfInBounds_toArray, List.set_cons_zero, List.set_cons_succ]
            refine Go.Up.one_ (i := 8) (N := some 9) #[true, true, true, true, true, true, true, true, true, false, false] rfl rfl (by kernel_rfl) (by decide) ?_
            intro w4 h4 K hK
            go_simp
            have HA := Aside0.mk (alloc7 w4)
            have HF4 : Aside0 (Fz Wd (w4.alloc (.cells #[.int .i64 0, .int .i64 0, .int .i64 0, .int .i64 0, .slice none 0 0, .slice none 0 0, .slice none 0 0] 26)) ⟨.agg #[.int .i64 (sm emptyS).n, .int .i64 (sm emptyS).e0, .int .i64 (sm emptyS).e1, .int .i64 (sm emptyS).e2, .slice G0 (sm emptyS).l0.length g0, .slice G1 (sm emptyS).l1.length g1, .slice G2 (sm emptyS).l2.length g2], w4.heap.size, E0, f0, E1, f1, E2, f2⟩ (sm (allC l))) := ⟨⟨below_step (below_step HB2.out (below_step h3 h4)) HA.out.2, Nat.le_trans (Below.size HB2.out) (Below.size (below_step h3 h4)), HA.out.1, (HRd.out.1.below (below_step h3 h4)).below HA.out.2, (HRd.out.2.below (below_step h3 h4)).below HA.out.2⟩⟩
            obtain ⟨W5, hW5⟩ : ∃ W5, w4.alloc (.cells #[.int .i64 0, .int .i64 0, .int .i64 0, .int .i64 0, .slice none 0 0, .slice none 0 0, .slice none 0 0] 26) = W5 := ⟨_, rfl⟩
            obtain ⟨kz, hkz⟩ : ∃ kz, w4.heap.size = kz := ⟨_, rfl⟩
            refine hK.out _ _ HA.out.2 ?_
            rw [hW5, hkz] at HF4
            rw [hW5, hkz]
            clear hK K hW5 hkz HA
            try simp only [Act.put, List.setIfInBounds_toArray, List.set_cons_zero, List.set_cons_succ]
            refine Go.Up.last_ (i := 9) (N := none) #[true, true, true, true, true, true, true, true, true, true, false] rfl rfl (by kernel_rfl) (by decide) ?_
            intro w6 h6 K hK
            obtain ⟨y0, y1, y2, y3, y4, y5, y6, yf⟩ := zero7 (HF4.out.up h6).2.2.1
            go_simp
            refine hK.out _ _ ?_
            clear hK K y0 y1 y2 y3 y4 y5 y6 yf
            have HF2 := Aside0.mk (HFs.out _ _ _ (HF4.out.up h6) rfl)
            refine Go.Up.one_ (i := 10) (N := some 10) #[true, true, true, true, true, true, true, true, true, true, true] rfl rfl (by kernel_rfl) (by decide) ?_
            intro w7 h7 K hK
            go_simp
            refine hK.out _ _ (preB.refl _) ?_
            clear hK K
            have hj2 := hjF _ _ ⟨HF2.out.1.below h7, HF2.out.2.1.below h7, below_step HF2.out.2.2 h7⟩
            simp only [Go.Up.putAll, Act.put, List.setIfInBounds_toArray, List.set_cons_zero, List.set_cons_succ] at hj2
            exact hj2
          · intro w3 h3 K hK
            go_simp
            have HA := Aside0.mk (alloc7 w3)
            refine hK.out _ _ HA.out.2 ?_
            clear hK K
            have hj2 := hj ⟨.agg #[.int .i64 (sm emptyS).n, .int .i64 (sm emptyS).e0, .int .i64 (sm emptyS).e1, .int .i64 (sm emptyS).e2, .slice G0 (sm emptyS).l0.length g0, .slice G1 (sm emptyS).l1.length g1, .slice G2 (sm emptyS).l2.length g2], w3.heap.size, E0, f0, E1, f1, E2, f2⟩ _ ⟨below_step (below_step HB2.out h3) HA.out.2, Nat.le_trans (Below.size HB2.out) (Below.size h3), HA.out.1, (HRd.out.1.below h3).below HA.out.2, (HRd.out.2.below h3).below HA.out.2⟩
            simp only [Go.Up.putAll, Act.put, List.setIfInBounds_toArray, List.set_cons_zero, List.set_cons_succ] at hj2
            exact hj2
        · intro w2 h2 K hK
          go_simp
          have HA := Aside0.mk (alloc7 w2)
          obtain ⟨W5, hW5⟩ : ∃ W5, w2.alloc (.cells #[.int .i64 0, .int .i64 0, .int .i64 0, .int .i64 0, .slice none 0 0, .slice none 0 0, .slice none 0 0] 26) = W5 := ⟨_, rfl⟩
          have HA2 : Aside0 (W5.heap[w2.heap.size]? = some (.cells Z7 26 (0, 0)) ∧ Below w2.heap.size w2 W5) := ⟨by rw [← hW5]; exact HA.out⟩
          refine hK.out _ _ HA.out.2 ?_
          rw [hW5]
          clear hK K hW5 HA
          try simp only [Act.put, List.setIfInBounds_toArray, List.set_cons_zero, List.set_cons_succ]
          refine Go.Up.one_ (i := 4) (N := some 70) #[true, true, true, true, true, false, false, false, true, false, false] rfl rfl (by kernel_rfl) (by decide) ?_
          intro w3 h3 K hK
          go_simp
          go_at_call 38
          (with_reducible refine (HCm.out _ _ _ _ _ _ _ (below_step HD.out (below_step (below_step (below_step HB1.out h2) HA2.out.2) h3)) (HRe.out.below (below_step (below_step h2 HA2.out.2) h3))).mono ?_)
          rintro e u2 ⟨E0, f0, E1, f1, E2, f2, rfl, hr, ht, hb⟩
          have HRd := Aside0.mk (And.intro hr ht)
          have HB2 := Aside0.mk hb
          refine hK.out _ _ hb ?_
          clear hK K hb hr ht
          try simp only [Act.put, List.setIfInBounds_toArray, List.set_cons_zero, List.set_cons_succ]
          refine Go.Up.take_ preB (i := 5) (N := some 65) (v := (.tuple #[.agg #[.int .i64 (sm (allC l)).n, .int .i64 (sm (allC l)).e0, .int .i64 (sm (allC l)).e1, .int .i64 (sm (allC l)).e2, .slice E0 (sm (allC l)).l0.length f0, .slice E1 (sm (allC l)).l1.length f1, .slice E2 (sm (allC l)).l2.length f2], .int .i64 0])) #[true, true, true, true, true, true, false, false, true, false, false] rfl rfl (by kernel_rfl) (fun _ _ _ h => h) (Go.Up.value_ preB rfl (fun w1 h1 => by (skip); go_simp)) rfl ?_
          try simp only [Act.put, List.setIfInBounds_toArray, List.set_cons_zero, List.set_cons_succ]
          refine Go.Up.take_ preB (i := 6) (N := some 71) (v := (.agg #[.int .i64 (sm (allC l)).n, .int .i64 (sm (allC l)).e0, .int .i64 (sm (allC l)).e1, .int .i64 (sm (allC l)).e2, .slice E0 (sm (allC l)).l0.length f0, .slice E1 (sm (allC l)).l1.length f1, .slice E2 (sm (allC l)).l2.length f2])) #[true, true, true, true, true, true, true, false, true, false, false] rfl rfl (by kernel_rfl) (fun _ _ _ h => h) (Go.Up.value_ preB rfl (fun w1 h1 => by (skip); go_simp)) rfl ?_
          try simp only [Act.put, List.setIfInBounds_toArray, List.set_cons_zero, List.set_cons_succ]
          have hj2 := hj ⟨.agg #[.int .i64 (sm emptyS).n, .int .i64 (sm emptyS).e0, .int .i64 (sm emptyS).e1, .int .i64 (sm emptyS).e2, .slice G0 (sm emptyS).l0.length g0, .slice G1 (sm emptyS).l1.length g1, .slice G2 (sm emptyS).l2.length g2], w2.heap.size, E0, f0, E1, f1, E2, f2⟩ _ ⟨below_step (below_step (below_step (below_step HB1.out h2) HA2.out.2) h3) HB2.out, Nat.le_trans (Below.size HB1.out) (Below.size h2), ((below_step h3 HB2.out).block _ (Array.getElem?_eq_some_iff.1 HA2.out.1).1).trans HA2.out.1, HRd.out.1, HRd.out.2⟩
          simp only [Go.Up.putAll, Act.put, List.setIfInBounds_toArray, List.set_cons_zero, List.set_cons_succ] at hj2
          exact hj2
      · intro w1 h1 K hK
        go_simp
        have HA := Aside0.mk (alloc7 w1)
        obtain ⟨W5, hW5⟩ : ∃ W5, w1.alloc (.cells #[.int .i64 0, .int .i64 0, .int .i64 0, .int .i64 0, .slice none 0 0, .slice none 0 0, .slice none 0 0] 26) = W5 := ⟨_, rfl⟩
        have HA2 : Aside0 (W5.heap[w1.heap.size]? = some (.cells Z7 26 (0, 0)) ∧ Below w1.heap.size w1 W5) := ⟨by rw [← hW5]; exact HA.out⟩
        refine hK.out _ _ HA.out.2 ?_
        rw [hW5]
        clear hK K hW5 HA
        try simp only [Act.put, List.setIfInBounds_toArray, List.set_cons_zero, List.set_cons_succ]
        refine Go.Up.one_ (i := 0) (N := some 66) #[true, true, true, true, false, false, false, false, true, false, false] rfl rfl (by kernel_rfl) (by decide) ?_
        intro w2 h2 K hK
        go_simp
        go_at_call 35
        (with_reducible refine (empS _).mono ?_)
        rintro e u1 ⟨G0, g0, G1, g1, G2, g2, rfl, hr, hb⟩
        have HB1 := Aside0.mk (below_step (below_step (below_step h1 HA2.out.2) h2) hb)
        have HRe := Aside0.mk hr
        have HB0 := Aside0.mk (below_step h2 hb)
        refine hK.out _ _ hb ?_
        clear hK K
        try simp only [Act.put, List.setIfInBounds_toArray, List.set_cons_zero, List.set_cons_succ]
        clear hb hr
        refine Go.Up.one_ (i := 4) (N := some 70) #[true, true, true, true, true, false, false, false, true, false, false] rfl rfl (by kernel_rfl) (by decide) ?_
        intro w3 h3 K hK
        go_simp
        go_at_call 38
        (with_reducible refine (HCm.out _ _ _ _ _ _ _ (below_step HD.out (below_step HB1.out h3)) (HRe.out.below h3)).mono ?_)
        rintro e u2 ⟨E0, f0, E1, f1, E2, f2, rfl, hr, ht, hb⟩
        have HRd := Aside0.mk (And.intro hr ht)
        have HB2 := Aside0.mk hb
        refine hK.out _ _ hb ?_
        clear hK K hb hr ht
        try simp only [Act.put, List.setIfInBounds_toArray, List.set_cons_zero, List.set_cons_succ]
        refine Go.Up.take_ preB (i := 5) (N := some 65) (v := (.tuple #[.agg #[.int .i64 (sm (allC l)).n, .int .i64 (sm (allC l)).e0, .int .i64 (sm (allC l)).e1, .int .i64 (sm (allC l)).e2, .slice E0 (sm (allC l)).l0.length f0, .slice E1 (sm (allC l)).l1.length f1, .slice E2 (sm (allC l)).l2.length f2], .int .i64 0])) #[true, true, true, true, true, true, false, false, true, false, false] rfl rfl (by kernel_rfl) (fun _ _ _ h => h) (Go.Up.value_ preB rfl (fun w1 h1 => by (skip); go_simp)) rfl ?_
        try simp only [Act.put, List.setIfInBounds_toArray, List.set_cons_zero, List.set_cons_succ]
        refine Go.Up.take_ preB (i := 6) (N := some 71) (v := (.agg #[.int .i64 (sm (allC l)).n, .int .i64 (sm (allC l)).e0, .int .i64 (sm (allC l)).e1, .int .i64 (sm (allC l)).e2, .slice E0 (sm (allC l)).l0.length f0, .slice E1 (sm (allC l)).l1.length f1, .slice E2 (sm (allC l)).l2.length f2])) #[true, true, true, true, true, true, true, false, true, false, false] rfl rfl (by kernel_rfl) (fun _ _ _ h => h) (Go.Up.value_ preB rfl (fun w1 h1 => by (skip); go_simp)) rfl ?_
        try simp only [Act.put, List.setIfInBounds_toArray, List.set_cons_zero, List.set_cons_succ]
        have hj2 := hj ⟨.agg #[.int .i64 (sm emptyS).n, .int .i64 (sm emptyS).e0, .int .i64 (sm emptyS).e1, .int .i64 (sm emptyS).e2, .slice G0 (sm emptyS).l0.length g0, .slice G1 (sm emptyS).l1.length g1, .slice G2 (sm emptyS).l2.length g2], w1.heap.size, E0, f0, E1, f1, E2, f2⟩ _ ⟨below_step (below_step HB1.out h3) HB2.out, Below.size h1, ((below_step (below_step HB0.out h3) HB2.out).block _ (Array.getElem?_eq_some_iff.1 HA2.out.1).1).trans HA2.out.1, HRd.out.1, HRd.out.2⟩
        simp only [Go.Up.putAll, Act.put, List.setIfInBounds_toArray, List.set_cons_zero, List.set_cons_succ] at hj2
        exact hj2
      rotate_left
      simp only [Go.Up.putAll, Act.put, List.setIfInBounds_toArray, List.set_cons_zero, List.set_cons_succ]
      have HF := Aside0.mk hF
      clear hF HCm HEx
      refine mix_ (i := 7) (j := 9) (Ni := some 72) (Nj := none) #[true, true, true, true, true, true, true, true, true, false, false] #[true, true, true, true, true, true, true, false, true, true, false] rfl rfl rfl rfl (by kernel_rfl) (by decide) (by decide) ?_ ?_
      · intro w1 h1 K hK
        go_simp
        refine hK.out _ _ (preB.refl _) ?_
        clear hK K
        try simp only [Act.put, List.setIfInBounds_toArray, List.set_cons_zero, List.set_cons_succ]
        refine Go.Up.last_ (i := 9) (N := none) #[true, true, true, true, true, true, true, true, true, true, false] rfl rfl (by kernel_rfl) (by decide) ?_
        intro w2 h2 K hK
        obtain ⟨y0, y1, y2, y3, y4, y5, y6, yf⟩ := zero7 (HF.out.up (below_step h1 h2)).2.2.1
        go_simp
        refine hK.out _ _ ?_
        clear hK K y0 y1 y2 y3 y4 y5 y6 yf
        have HF2 := Aside0.mk (HFs.out s w2 _ (HF.out.up (below_step h1 h2)) rfl)
        refine Go.Up.one_ (i := 10) (N := some 10) #[true, true, true, true, true, true, true, true, true, true, true] rfl rfl (by kernel_rfl) (by decide) ?_
        intro w3 h3 K hK
        go_simp
        refine hK.out _ _ (preB.refl _) ?_
        clear hK K
        have hj2 := hjF s _ ⟨HF2.out.1.below h3, HF2.out.2.1.below h3, below_step HF2.out.2.2 h3⟩
        simp only [Go.Up.putAll, Act.put, List.setIfInBounds_toArray, List.set_cons_zero, List.set_cons_succ] at hj2
        exact hj2
      · intro w1 h1 K hK
        obtain ⟨y0, y1, y2, y3, y4, y5, y6, yf⟩ := zero7 (HF.out.up h1).2.2.1
        go_simp
        refine hK.out _ _ ?_
        clear hK K y0 y1 y2 y3 y4 y5 y6 yf
        have HF2 := Aside0.mk (HFs.out s w1 _ (HF.out.up h1) rfl)
        refine Go.Up.one_ (i := 7) (N := some 72) #[true, true, true, true, true, true, true, true, true, true, false] rfl rfl (by kernel_rfl) (by decide) ?_
        intro w2 h2 K hK
        go_simp
        refine hK.out _ _ (preB.refl _) ?_
        clear hK K
        try simp only [Act.put, List.setIfInBounds_toArray, List.set_cons_zero, List.set_cons_succ]
        refine Go.Up.one_ (i := 10) (N := some 10) #[true, true, true, true, true, true, true, true, true, true, true] rfl rfl (by kernel_rfl) (by decide) ?_
        intro w3 h3 K hK
        go_simp
        refine hK.out _ _ (preB.refl _) ?_
        clear hK K
        have hj2 := hjF s _ ⟨HF2.out.1.below (below_step h2 h3), HF2.out.2.1.below (below_step h2 h3), below_step HF2.out.2.2 (below_step h2 h3)⟩
        simp only [Go.Up.putAll, Act.put, List.setIfInBounds_toArray, List.set_cons_zero, List.set_cons_succ] at hj2
        exact hj2
      simp only [Go.Up.putAll, Act.put, List.setIfInBounds_toArray, List.set_cons_zero, List.set_cons_succ]
      refine Go.Up.done_ preB (by kernel_rfl) ?_
      intro W2 h2
      have HGt := Aside0.mk (hG.2.1.below h2)
      have HG := Aside0.mk (And.intro (hG.1.below h2) (below_step HD.out (below_step hG.2.2 h2)))
      clear hG h2
      have HN5 := Aside0.mk ((HG.out.2.block _ (Array.getElem?_eq_some_iff.1 HZ.out.2).1).trans HZ.out.2)
      obtain ⟨c0', c1', c2', c3', c4', c5', c6'⟩ := HG.out.1.cells
      obtain ⟨y0, y1, y2, y3, y4, y5, y6, yf⟩ := zero7 HN5.out
      go_wp2_with fail
      obtain ⟨W', hW', ⟨u0, u1, u2, u3, u4, u5, u6⟩, hg, hz⟩ := fill7 HN5.out (below_step HZ.out.1 HG.out.2) (Nat.le_refl _) (.int .i64 (sm (allC l)).n) (.int .i64 (sm (allC l)).e0) (.int .i64 (sm (allC l)).e1) (.int .i64 (sm (allC l)).e2) (.slice s.E0 (sm (allC l)).l0.length s.f0) (.slice s.E1 (sm (allC l)).l1.length s.f1) (.slice s.E2 (sm (allC l)).l2.length s.f2)
      rw [hW']
      exact bodyPost_ret (v := .tuple #[.agg #[.int .i64 (sm (allC l)).n, .int .i64 (sm (allC l)).e0, .int .i64 (sm (allC l)).e1, .int .i64 (sm (allC l)).e2, .slice s.E0 (sm (allC l)).l0.length s.f0, .slice s.E1 (sm (allC l)).l1.length s.f1, .slice s.E2 (sm (allC l)).l2.length s.f2], .int .i64 0]) (by simp [results, Tryd.results25, go_sem, u0, u1, u2, u3, u4, u5, u6]) rfl ⟨s.E0, s.f0, s.E1, s.f1, s.E2, s.f2, rfl, HG.out.1.rd.grown HGt.out HN5.out hg, hz⟩
end Go.Proofs.YtkhnifehcnlpjaaDoor.QC
