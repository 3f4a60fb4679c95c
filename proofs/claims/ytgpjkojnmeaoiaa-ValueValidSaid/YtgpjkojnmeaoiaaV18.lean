/- vals.Obj, by hand: the walk. -/
import Derived.Test.YtgpjkojnmeaoiaaV17
namespace Go.Proofs.Ytgpjkojnmeaoiaa.QV
open Go Go.RowKit Go.Proofs.YtgpjkojnmeaoiaaW.PrintWords Go.Proofs.YtgpjkojnmeaoiaaW.PrintLast Go.Proofs.YtgpjkojnmeaoiaaW.PrintMore
set_option linter.unusedVariables false
set_option linter.unusedSimpArgs false
set_option maxRecDepth 100000
set_option maxHeartbeats 4000000
theorem stepO {R : S28 → List Value → Prop} {w0 : World} (hRok : Rok R w0) {ops : Array Oper} {o : Oper} {a : Act} {Q : Exit → Act → World → Prop} {K : Act → World → Prop} {E : Prop} {W : World} (hgd : o.guard = none) (base : Nat) (s x : Operand)
    (ho : o.op = .call { callee := .builtin .append, args := #[s, x], argTypes := #[23, 23] }) (v : Value) (xs : List S28) (y : S28) (cs : List Value) (hs : a.eval s = v)
    (hx : a.eval x = .slice (some ⟨W.heap.size, 0, none⟩) 1 1) (hp : R y cs) (HO : OwnRow R 28 5 W base v xs) (hbase : base ≤ W.heap.size) (hl : xs.length + 1 ≤ 100)
    (h : ∀ v1 w1, OwnRow R 28 5 w1 base v1 (xs ++ [y]) → Below base W w1 → W.grownBy w1 v.ownBlock → K (a.put o.dst v1) w1) :
    if Region.wanted o (yielded ops a.tmps) = true then Oper.wp Try.prog o a (W.alloc (.cells cs.toArray 28)) K Q else E := by
  have hw : Region.wanted o (yielded ops a.tmps) = true := by simp [Region.wanted, hgd]
  rw [if_pos hw]
  have H := OwnRow.append_step (P := Try.prog) (ops := ops) (o := o) (a := a) (Q := Q) (K := K) (R := R) (w0 := W) (W := W) base hw s x 23 28 (.agg #[.int .i64 0, .int .i64 0, .string ⟨#[]⟩, .slice none 0 0, .slice none 0 0]) 5 80 ho Try.underlying23 info28 rfl (by decide) (by decide) v xs y cs hs hx hp (k28.K_len (hRok _ _ hp)) (k28.K_one (hRok _ _ hp)) HO (Below.refl _ _) hbase (by omega) (fun v1 w1 h1 h2 h3 _ => h v1 w1 h1 h2 h3)
  rw [if_pos hw] at H
  exact H
/-- The object that Obj makes of sorted members. -/
def ov (es : List S28) (ms : List Mem) : S28 := ⟨6, 0, ⟨#[]⟩, (dd ms).map (·.1), (dd ms).map (ge es)⟩
def ObjPost (R : S28 → List Value → Prop) (ks : List ByteArray) (es : List S28) (w : World) (e : Ending) (w' : World) : Prop := ∃ (ms : List Mem) (X3 : Option Addr) (d3 : Nat) (X4 : Option Addr) (d4 : Nat), e = .returned (.agg #[.int .i64 ((ov es ms)).f0, .int .i64 ((ov es ms)).f1, .string ((ov es ms)).f2, .slice X3 ((ov es ms)).f3.length d3, .slice X4 ((ov es ms)).f4.length d4]) ∧ OwnRow kR 9 1 w' w.heap.size (.slice X3 (ov es ms).f3.length d3) (ov es ms).f3 ∧ OwnRow R 28 5 w' w.heap.size (.slice X4 (ov es ms).f4.length d4) (ov es ms).f4 ∧ ms.Perm (mems ks) ∧ ms.Pairwise lexM ∧ Below w.heap.size w w'
theorem mems_mem {l : List ByteArray} {k : ByteArray} {i : Int} (h : (k, i) ∈ mems l) : ∃ p : Nat, p < l.length ∧ i = (p : Int) ∧ l[p]? = some k := by
  unfold mems at h
  obtain ⟨p, hp, e⟩ := List.mem_mapIdx.1 h
  injection e with e1 e2
  exact ⟨p, hp, e2.symm, by rw [List.getElem?_eq_getElem hp, e1]⟩
theorem objC {R : S28 → List Value → Prop} (ks : List ByteArray) (es : List S28) (w : World) {A : Option Addr} {c : Nat} {B : Option Addr} {d : Nat} (hk : Kd.C Kd.string w A ks.length ks) (hRok : Rok R w) (he : ReadsRow R 5 w B es.length es) (hlen : ks.length = es.length) (hn : ks.length ≤ 20) :
    Calls Try.prog 54 #[.slice A ks.length c, .slice B es.length d] w (ObjPost R ks es w) := by
  have HK := Aside0.mk hk
  have HE := Aside0.mk he
  have HRo := Aside0.mk hRok
  have HLen := Aside0.mk hlen
  have H0 : Aside0 (Os w (w.alloc (.cells #[.int .i64 0, .int .i64 0, .string ⟨#[]⟩, .slice none 0 0, .slice none 0 0] 28)) (.slice none 0 0) (mems (ks.take 0))) := ⟨⟨new_below _ _, heap_alloc_new w _, OwnRow.none_ _ _ _ _ _, by simp⟩⟩
  clear hk he hlen hRok
  go_enter Try.func54, Try.ntmps54
  go_wp2_with fail
  go_loopg [5, 13] ks.length (fun kq v5 v13 w' => ∃ (i : Nat) (X : Option Addr) (n cp : Nat), kq + i = ks.length ∧ v13 = .int .i64 (i : Int) ∧ v5 = .slice X n cp ∧ Aside0 (Os w w' (.slice X n cp) (mems (ks.take i))))
  case atStart => exact ⟨0, none, 0, 0, by omega, rfl, rfl, H0⟩
  case round =>
    clear H0
    obtain ⟨i, X, n, cp, hi, rfl, rfl, HS⟩ := hrel
    by_cases ci : i < ks.length
    · have g0 : decide ((i : Int) < (ks.length : Int)) = true := decide_eq_true (by omega)
      have g2 : (0 ≤ (i : Int)) = True := eq_true (by omega)
      have g3 : ((i : Int) < (ks.length : Int)) = True := eq_true (by omega)
      obtain ⟨j1, rfl⟩ : ∃ j1, gk = j1 + 1 := ⟨gk - 1, by omega⟩
      have hil : ks[i]? = some ks[i] := List.getElem?_eq_getElem ci
      obtain ⟨y, hq'⟩ : ∃ y, ks[i] = y := ⟨_, rfl⟩
      rw [hq'] at hil
      obtain ⟨ad, e1, he0⟩ := str_at (Kd.C_below HK.out HS.out.z) i ci hil
      have HTk := Aside0.mk (mems_take hil)
      have HI := Aside0.mk hi
      have HLe : Aside0 ((mems (ks.take i)).length + 1 ≤ 21) := ⟨by rw [mems_len, List.length_take]; omega⟩
      clear hil hq' hi
      subst e1
      go_wp2_with ((at_builtin; refine OwnRow.append (P := Try.prog) (R := memR) (w0 := wr) (W := wr) (w.heap.size + 1) rfl (.tmp 18) (.tmp 22) 74 76 (.agg #[.string ⟨#[]⟩, .int .i64 0]) 2 24 rfl Try.underlying74 info76 rfl (by decide) (by decide) (.slice X n cp) (mems (ks.take i)) (y, (i : Int)) [.string y, .int .i64 (i : Int)] rfl rfl rfl rfl (by simp [Value.oneCell']) HS.out.row (Below.refl _ _) HS.out.lt (by have := HLe.out; omega) ?_; intro v1 w1 hr hb hg hat; obtain ⟨X5, d5, e5, _⟩ := hr.slice_; obtain ⟨n5, hn5⟩ : ∃ n5, (mems (ks.take i) ++ [(y, (i : Int))]).length = n5 := ⟨_, rfl⟩; rw [hn5] at e5; subst e5; have HS2 := Aside0.mk (HS.out.round hr hb); clear hr hb hg hat hn5))
      go_roundg j1
      case measure => omega
      case rel => exact ⟨i + 1, X5, n5, d5, by have := HI.out; omega, rfl, rfl, ⟨by rw [HTk.out]; exact HS2.out⟩⟩
    · have g0 : decide (i < ks.length) = false := decide_eq_false ci
      have HS1 : Aside0 (Os w wr (.slice X n cp) (mems ks)) := ⟨by have h := HS.out; rw [List.take_of_length_le (by omega)] at h; exact h⟩
      clear HS ci hi
      have HSrt := Aside0.mk (sortMl HS1.out hn)
      have HLt := Aside0.mk HS1.out.lt
      clear HS1
      go_upto_region 8 with (first | (go_at_call 73; (with_reducible refine HSrt.out.mono ?_); rintro e we ⟨⟨u, rfl⟩, ms, hms⟩; have HM := Aside0.mk hms; clear hms))
      have hnn := HM.out.n
      subst hnn
      have HQ := Aside0.mk (HM.out.start (R := R) (es := es) (grown_of_below (new_below we (.cells #[.int .i64 6, .int .i64 0, .string ⟨#[]⟩, .slice none 0 0, .slice none 0 0] 28))) (heap_alloc_new we _))
      obtain ⟨ob, hob⟩ : ∃ ob, we.heap.size = ob := ⟨_, rfl⟩
      obtain ⟨W', hW'⟩ : ∃ W', we.alloc (.cells #[.int .i64 6, .int .i64 0, .string ⟨#[]⟩, .slice none 0 0, .slice none 0 0] 28) = W' := ⟨_, rfl⟩
      have HW := Aside0.mk hW'
      rw [hob, hW'] at HQ
      clear hW' HLt HSrt
      go_upto_region 9 with fail
      rw [HW.out]
      clear HW HM hob
      go_wp2_with fail
      have hb20 : ms.length ≤ 20 := by rw [HQ.out.p.length_eq, mems_len]; exact hn
      go_loopg [30] ms.length (fun kq v30 w' => ∃ (j : Nat) (acc : List Mem) (X3 : Option Addr) (n3 d3 : Nat) (X4 : Option Addr) (n4 d4 : Nat), kq + j = ms.length ∧ v30 = .int .i64 (j : Int) ∧ Aside0 (Qs R w w' ks es X cp ms ob (.slice X3 n3 d3) (.slice X4 n4 d4) (acc.map (·.1)) (acc.map (ge es)) ∧ acc ++ dd (ms.drop j) = dd ms))
      case atStart => exact ⟨0, [], none, 0, 0, none, 0, 0, by omega, rfl, ⟨HQ.out, rfl⟩⟩
      case round =>
        clear HQ
        obtain ⟨j, acc, X3, n3, d3, X4, n4, d4, hj, rfl, HQ⟩ := hrel
        by_cases cj : j < ms.length
        · have g0 : decide ((j : Int) < (ms.length : Int)) = true := decide_eq_true (by omega)
          have g2 : (0 ≤ (j : Int)) = True := eq_true (by omega)
          have g3 : ((j : Int) < (ms.length : Int)) = True := eq_true (by omega)
          obtain ⟨j1, rfl⟩ : ∃ j1, gk = j1 + 1 := ⟨gk - 1, by omega⟩
          have hjl : ms[j]? = some ms[j] := List.getElem?_eq_getElem cj
          obtain ⟨⟨k, ix⟩, hm'⟩ : ∃ m, ms[j] = m := ⟨_, rfl⟩
          rw [hm'] at hjl
          obtain ⟨p, hp, rfl, hkp⟩ := mems_mem (HQ.out.1.p.mem_iff.1 (List.mem_of_getElem? hjl))
          have hpe : p < es.length := by have := HLen.out; omega
          obtain ⟨y, hy⟩ : ∃ y, es[p]? = some y := ⟨_, List.getElem?_eq_getElem hpe⟩
          obtain ⟨ad, Y3, y3, Y4, y4, eB, he0, hRy⟩ := el_atR HRo.out HE.out p hpe hy
          have HRy := Aside0.mk hRy
          clear hRy
          have HCe := Aside0.mk he0
          have HGe : Aside0 (ge es (k, (p : Int)) = y) := ⟨by unfold ge; simp [hy]⟩
          have HBd := Aside0.mk eB
          clear he0 hy hkp hp eB
          obtain ⟨g, rfl, hMr⟩ : ∃ g, X = some ⟨g, 0, none⟩ ∧ Mr wr g cp ms := by
            rcases HQ.out.1.row with ⟨e, _⟩ | ⟨g, e, _, _, h⟩
            · rw [e] at cj; simp at cj
            · exact ⟨g, e, h⟩
          obtain ⟨m0, m1⟩ := hMr.at j hjl
          have HJ := Aside0.mk hj
          have HMr := Aside0.mk hMr
          have HJl := Aside0.mk hjl
          clear hm' hMr hj hjl
          go_upto_region 12 with fail
          have hbn := new_below wr (.cells #[.string k, .int .i64 (p : Int)] 76)
          have HQ2 := Aside0.mk (HQ.out.1.below hbn)
          have HMr2 := Aside0.mk (HMr.out.below hbn)
          have HAc := Aside0.mk HQ.out.2
          have hnw := heap_alloc_new wr (.cells #[.string k, .int .i64 (p : Int)] 76)
          obtain ⟨eb, heb⟩ : ∃ eb, wr.heap.size = eb := ⟨_, rfl⟩
          rw [heb] at hnw
          obtain ⟨W2, hW2⟩ : ∃ W2, wr.alloc (.cells #[.string k, .int .i64 (p : Int)] 76) = W2 := ⟨_, rfl⟩
          rw [hW2] at HQ2 HMr2 hnw
          rw [hW2]
          try rw [heb]
          clear hbn heb hW2 HQ HMr m0 m1
          have n0 : W2.cell? ⟨eb, 0, none⟩ = some (.string k) := by simp [World.cell?, hnw]
          have n1 : W2.cell? ⟨eb, 1, none⟩ = some (.int .i64 (p : Int)) := by simp [World.cell?, hnw]
          have HNw := Aside0.mk hnw
          clear hnw
          by_cases cn : j + 1 < ms.length
          · have gA : decide ((j : Int) + 1 < (ms.length : Int)) = true := decide_eq_true (by omega)
            have gB : decide (j + 1 < ms.length) = true := decide_eq_true cn
            have gC : (0 ≤ (j : Int) + 1) = True := eq_true (by omega)
            have gD : ((j : Int) + 1 < (ms.length : Int)) = True := eq_true (by omega)
            have hjl : ms[j + 1]? = some ms[j + 1] := List.getElem?_eq_getElem cn
            obtain ⟨⟨k', ix'⟩, hm'⟩ : ∃ m, ms[j + 1] = m := ⟨_, rfl⟩
            rw [hm'] at hjl
            obtain ⟨p0, p1⟩ := HMr2.out.at (j + 1) hjl
            have HDd := Aside0.mk (dd_next HJl.out hjl)
            clear hm' hjl
            by_cases ck : k' = k
            · subst ck
              have q1 : (k'.toList == k'.toList) = true := by simp
              go_quiet (fail)
              go_wp2_with fail
              go_roundg j1
              case measure => omega
              case rel => exact ⟨j + 1, acc, X3, n3, d3, X4, n4, d4, by have := HJ.out; omega, rfl, ⟨HQ2.out.below (drawn_below ⟨_, rfl⟩), by rw [← HAc.out, HDd.out]; simp⟩⟩
            · have q1 : (k'.toList == k.toList) = false := by
                rw [beq_eq_false_iff_ne]
                exact fun e => ck (ByteArray.ext (Array.ext' (by rw [← ByteArray.toList_eq, ← ByteArray.toList_eq]; exact e)))
              go_quiet (fail)
              have HDn : Aside0 ((acc ++ [(k, (p : Int))]) ++ dd (ms.drop (j + 1)) = dd ms) := ⟨by rw [← HAc.out, HDd.out, if_neg ck, List.append_assoc]; rfl⟩
              clear HDd HAc
              go_upto_region 13 with fail
              obtain ⟨W3, hW3⟩ : ∃ W3, W2.drewN nq = W3 := ⟨_, rfl⟩
              have hdw : Below W2.heap.size W2 W3 := by rw [← hW3]; exact drawn_below ⟨nq, rfl⟩
              have HQ3 := Aside0.mk (HQ2.out.below hdw)
              have HNw3 := Aside0.mk ((hdw.block eb (Array.getElem?_eq_some_iff.1 HNw.out).1).trans HNw.out)
              rw [hW3]
              clear hW3 hdw HQ2 n0 n1 HNw
              have n0 : W3.cell? ⟨eb, 0, none⟩ = some (.string k) := by have h := HNw3.out; simp [World.cell?, h]
              obtain ⟨o0, o1, o2, o3, o4⟩ := cells5 HQ3.out.out
              have HAl : Aside0 (acc.length ≤ 20) := ⟨by
                have h1 := congrArg List.length HDn.out
                have h2 := dd_len ms
                rw [List.length_append, List.length_append] at h1
                omega⟩
              have HOb : Aside0 (ob + 1 ≤ W3.heap.size) := ⟨(Array.getElem?_eq_some_iff.1 HQ3.out.out).1⟩
              go_upto_region 14 with ((at_builtin; refine OwnRow.append (P := Try.prog) (R := kR) (w0 := W3) (W := W3) (ob + 1) rfl (.tmp 52) (.tmp 55) 22 9 (.string ⟨#[]⟩) 1 16 rfl Try.underlying22 clone_info9 rfl (by decide) (by decide) (.slice X3 n3 d3) (acc.map (·.1)) k [.string k] rfl rfl rfl rfl (by simp [Value.oneCell']) HQ3.out.r3 (Below.refl _ _) HOb.out (by rw [List.length_map]; have := HAl.out; omega) ?_; intro v1 w1 hr hb hg hat; obtain ⟨X5, d5, e5, _⟩ := hr.slice_; obtain ⟨n5, hn5⟩ : ∃ n5, (acc.map (·.1) ++ [k]).length = n5 := ⟨_, rfl⟩; rw [hn5] at e5; subst e5; have HQ4 := Aside0.mk (HQ3.out.put3 hr hb hg); have HO1 := Aside0.mk ((hb.block ob (by omega)).trans HQ3.out.out); have HNw4 := Aside0.mk ((hg.block eb (Array.getElem?_eq_some_iff.1 HNw3.out).1 (HQ3.out.r3.ne_block HNw3.out (by decide))).trans HNw3.out); have zf : ∀ j, w1.frozen? ⟨ob, j, none⟩ = false := (fun j => by have h := HO1.out; simp [World.frozen?, h]); obtain ⟨s0, s1, s2, s3, s4⟩ := cells5 HO1.out; clear hr hb hg hat hn5))
              have HneB : Aside0 (eb ≠ ob) := ⟨fun e => by have h1 := HO1.out; rw [← e, HNw4.out] at h1; simp at h1⟩
              obtain ⟨W5, hW5⟩ : ∃ W5, w1.setCell ⟨ob, 3, none⟩ (.slice X5 n5 d5) = W5 := ⟨_, rfl⟩
              have HNw5 : Aside0 (W5.heap[eb]? = some (.cells #[.string k, .int .i64 (p : Int)] 76 (0, 0))) := ⟨by rw [← hW5, Below.heap_setCell _ _ _ eb (fun e => HneB.out (by first | exact e | exact e.symm))]; exact HNw4.out⟩
              rw [hW5] at HQ4
              rw [hW5]
              clear hW5 zf s0 s1 s2 s3 s4 HNw4 HNw3 HO1 HQ3 o0 o1 o2 o3 o4 n0
              have eB := HBd.out
              subst eB
              have HSt : Aside0 (∀ W, Below W5.heap.size W5 W → (fun w' => w'.cell? ⟨ob, 4, none⟩ = some (.slice X4 n4 d4) ∧ w'.frozen? ⟨ob, 4, none⟩ = false ∧ w'.cell? ⟨eb, 1, none⟩ = some (.int .i64 (p : Int)) ∧ w'.cell? (ad.add (p * 5)) = some (.int .i64 y.f0) ∧ w'.cell? ⟨(ad.add (p * 5)).block, (ad.add (p * 5)).off + 1, none⟩ = some (.int .i64 y.f1) ∧ w'.cell? ⟨(ad.add (p * 5)).block, (ad.add (p * 5)).off + 2, none⟩ = some (.string y.f2) ∧ w'.cell? ⟨(ad.add (p * 5)).block, (ad.add (p * 5)).off + 3, none⟩ = some (.slice Y3 y.f3.length y3) ∧ w'.cell? ⟨(ad.add (p * 5)).block, (ad.add (p * 5)).off + 4, none⟩ = some (.slice Y4 y.f4.length y4)) W) := ⟨fun W hb => by
                have h1 := (HQ4.out.below hb).out
                have h2 := (hb.block eb (Array.getElem?_eq_some_iff.1 HNw5.out).1).trans HNw5.out
                obtain ⟨e0, e2, e3, e4, e5, _⟩ := HCe.out.below (HQ4.out.below hb).z
                refine ⟨by simp [World.cell?, h1], by simp [World.frozen?, h1], by simp [World.cell?, h2], e0, e2, e3, e4, e5⟩⟩
              have g4 : (0 ≤ (p : Int)) = True := eq_true (by omega)
              have g5 : ((p : Int) < (es.length : Int)) = True := eq_true (by omega)
              have HX : Aside0 (Below W5.heap.size W5 W5.drew) := ⟨(Below.refl _ _).drew⟩
              go_upto_region 14 with fail
              refine start_ (n := 11) (S := fun w' => w'.cell? ⟨ob, 4, none⟩ = some (.slice X4 n4 d4) ∧ w'.frozen? ⟨ob, 4, none⟩ = false ∧ w'.cell? ⟨eb, 1, none⟩ = some (.int .i64 (p : Int)) ∧ w'.cell? (ad.add (p * 5)) = some (.int .i64 y.f0) ∧ w'.cell? ⟨(ad.add (p * 5)).block, (ad.add (p * 5)).off + 1, none⟩ = some (.int .i64 y.f1) ∧ w'.cell? ⟨(ad.add (p * 5)).block, (ad.add (p * 5)).off + 2, none⟩ = some (.string y.f2) ∧ w'.cell? ⟨(ad.add (p * 5)).block, (ad.add (p * 5)).off + 3, none⟩ = some (.slice Y3 y.f3.length y3) ∧ w'.cell? ⟨(ad.add (p * 5)).block, (ad.add (p * 5)).off + 4, none⟩ = some (.slice Y4 y.f4.length y4)) (ds := [10]) #[false, false, false, false, false, false, false, false, false, false, false] (by kernel_rfl) rfl (by rfl) (HSt.out _ HX.out) (fun hS => ?_)
              refine take_ (i := 0) (N := some 58) (v := (.pointer (some ⟨ob, 4, none⟩))) #[true, false, false, false, false, false, false, false, false, false, false] rfl rfl (by kernel_rfl) (fun _ _ _ h => h) (Or.inl ⟨by rfl, by intro w hSw; (try dsimp only at hSw); go_simp⟩) hS rfl ?_
              try simp only [Act.put, List.setIfInBounds_toArray, List.set_cons_zero, List.set_cons_succ]
              refine take_ (i := 1) (N := some 59) (v := (.slice X4 n4 d4)) #[true, true, false, false, false, false, false, false, false, false, false] rfl rfl (by kernel_rfl) (fun _ _ _ h => h) (Or.inl ⟨by rfl, by intro w hSw; (try dsimp only at hSw); go_simp⟩) hS rfl ?_
              try simp only [Act.put, List.setIfInBounds_toArray, List.set_cons_zero, List.set_cons_succ]
              refine take_ (i := 2) (N := some 60) (v := (.slice (some ad) es.length d)) #[true, true, true, false, false, false, false, false, false, false, false] rfl rfl (by kernel_rfl) (fun _ _ _ h => h) (Or.inl ⟨by rfl, by intro w hSw; (try dsimp only at hSw); go_simp⟩) hS rfl ?_
              try simp only [Act.put, List.setIfInBounds_toArray, List.set_cons_zero, List.set_cons_succ]
              refine take_ (i := 3) (N := some 61) (v := (.pointer (some ⟨eb, 1, none⟩))) #[true, true, true, true, false, false, false, false, false, false, false] rfl rfl (by kernel_rfl) (fun _ _ _ h => h) (Or.inl ⟨by rfl, by intro w hSw; (try dsimp only at hSw); go_simp⟩) hS rfl ?_
              try simp only [Act.put, List.setIfInBounds_toArray, List.set_cons_zero, List.set_cons_succ]
              refine take_ (i := 4) (N := some 62) (v := (.int .i64 (p : Int))) #[true, true, true, true, true, false, false, false, false, false, false] rfl rfl (by kernel_rfl) (fun _ _ _ h => h) (Or.inl ⟨by rfl, by intro w hSw; (try dsimp only at hSw); go_simp⟩) hS rfl ?_
              try simp only [Act.put, List.setIfInBounds_toArray, List.set_cons_zero, List.set_cons_succ]
              refine take_ (i := 5) (N := some 63) (v := (.pointer (some (ad.add (p * 5))))) #[true, true, true, true, true, true, false, false, false, false, false] rfl rfl (by kernel_rfl) (fun _ _ _ h => h) (Or.inl ⟨by rfl, by intro w hSw; (try dsimp only at hSw); go_simp⟩) hS rfl ?_
              try simp only [Act.put, List.setIfInBounds_toArray, List.set_cons_zero, List.set_cons_succ]
              refine take_ (i := 6) (N := some 64) (v := (.agg #[.int .i64 y.f0, .int .i64 y.f1, .string y.f2, .slice Y3 y.f3.length y3, .slice Y4 y.f4.length y4])) #[true, true, true, true, true, true, true, false, false, false, false] rfl rfl (by kernel_rfl) (fun _ _ _ h => h) (Or.inl ⟨by rfl, by intro w hSw; (try dsimp only at hSw); go_simp⟩) hS rfl ?_
              try simp only [Act.put, List.setIfInBounds_toArray, List.set_cons_zero, List.set_cons_succ]
              have HSg : Aside0 (∀ W, W.heap[ob]? = W5.heap[ob]? → W.heap[eb]? = W5.heap[eb]? → Below w.heap.size w W → (fun w' => w'.cell? ⟨ob, 4, none⟩ = some (.slice X4 n4 d4) ∧ w'.frozen? ⟨ob, 4, none⟩ = false ∧ w'.cell? ⟨eb, 1, none⟩ = some (.int .i64 (p : Int)) ∧ w'.cell? (ad.add (p * 5)) = some (.int .i64 y.f0) ∧ w'.cell? ⟨(ad.add (p * 5)).block, (ad.add (p * 5)).off + 1, none⟩ = some (.int .i64 y.f1) ∧ w'.cell? ⟨(ad.add (p * 5)).block, (ad.add (p * 5)).off + 2, none⟩ = some (.string y.f2) ∧ w'.cell? ⟨(ad.add (p * 5)).block, (ad.add (p * 5)).off + 3, none⟩ = some (.slice Y3 y.f3.length y3) ∧ w'.cell? ⟨(ad.add (p * 5)).block, (ad.add (p * 5)).off + 4, none⟩ = some (.slice Y4 y.f4.length y4)) W) := ⟨fun W hb1 hb2 hz => by
                have h1 := hb1.trans HQ4.out.out
                have h2 := hb2.trans HNw5.out
                obtain ⟨e0, e2, e3, e4, e5, _⟩ := HCe.out.below hz
                refine ⟨by simp [World.cell?, h1], by simp [World.frozen?, h1], by simp [World.cell?, h2], e0, e2, e3, e4, e5⟩⟩
              have HK28 : Aside0 (R y [.int .i64 y.f0, .int .i64 y.f1, .string y.f2, .slice Y3 y.f3.length y3, .slice Y4 y.f4.length y4]) := HRy
              have HQ5 := Aside0.mk (HQ4.out.below HX.out)
              have HNw6 := Aside0.mk ((HX.out.block eb (Array.getElem?_eq_some_iff.1 HNw5.out).1).trans HNw5.out)
              refine one_ (i := 7) (N := some 65) #[true, true, true, true, true, true, true, true, false, false, false] rfl rfl (by kernel_rfl) (by decide) ?_
              intro K hK
              go_simp
              refine hK.out _ _ (HSt.out _ (below_step HX.out (new_below W5.drew _))) (fun hS => ?_)
              clear hK K
              try simp only [Act.put, List.setIfInBounds_toArray, List.set_cons_zero, List.set_cons_succ]
              refine one_ (i := 8) (N := some 66) #[true, true, true, true, true, true, true, true, true, false, false] rfl rfl (by kernel_rfl) (by decide) ?_
              intro K hK
              refine stepO (w0 := w) HRo.out (W := W5.drew) rfl (ob + 1) (.tmp 59) (.tmp 65) rfl (.slice X4 n4 d4) (acc.map (ge es)) y [.int .i64 y.f0, .int .i64 y.f1, .string y.f2, .slice Y3 y.f3.length y3, .slice Y4 y.f4.length y4] rfl rfl HK28.out HQ5.out.r4 ((Array.getElem?_eq_some_iff.1 HQ5.out.out).1) (by rw [List.length_map]; have := HAl.out; omega) ?_
              intro v1 w1' hr hb hg
              obtain ⟨X6, d6, e6, _⟩ := hr.slice_
              obtain ⟨n6, hn6⟩ : ∃ n6, (acc.map (ge es) ++ [y]).length = n6 := ⟨_, rfl⟩
              rw [hn6] at e6
              subst e6
              have HQ6 := Aside0.mk (HQ5.out.put4 hr hb hg)
              have hS5 := HSg.out w1' ((hb.block ob (by omega)).trans (HX.out.block ob (Array.getElem?_eq_some_iff.1 HQ4.out.out).1)) ((hg.block eb (Array.getElem?_eq_some_iff.1 HNw6.out).1 (HQ5.out.r4.ne_block HNw6.out (by decide))).trans (HNw6.out.trans HNw5.out.symm)) (HQ5.out.z.trans (hb.mono (by have := HQ5.out.o1; omega)))
              clear hr hb hg hn6
              refine hK.out _ _ hS5 (fun hS => ?_)
              clear hK K hS5
              try simp only [Act.put, List.setIfInBounds_toArray, List.set_cons_zero, List.set_cons_succ]
              refine take_ (i := 9) (N := some 67) (v := (.pointer (some ⟨ob, 4, none⟩))) #[true, true, true, true, true, true, true, true, true, true, false] rfl rfl (by kernel_rfl) (fun _ _ _ h => h) (Or.inl ⟨by rfl, by intro w hSw; (try dsimp only at hSw); go_simp⟩) hS rfl ?_
              try simp only [Act.put, List.setIfInBounds_toArray, List.set_cons_zero, List.set_cons_succ]
              have hfz := hS.2.1
              have hcl := hS.1
              refine last_ (i := 10) (N := none) #[true, true, true, true, true, true, true, true, true, true, true] rfl rfl (by kernel_rfl) (by decide) ?_
              intro K hK
              go_simp
              refine hK.out _ _ ?_
              clear hK K hfz hcl
              refine done_ (by kernel_rfl) ?_
              go_wp2_with fail
              go_roundg j1
              case measure => omega
              case rel => exact ⟨j + 1, acc ++ [(k, (p : Int))], X5, n5, d5, X6, n6, d6, by have := HJ.out; omega, rfl, ⟨by rw [List.map_append, List.map_append]; simp only [List.map_cons, List.map_nil, HGe.out]; exact HQ6.out, HDn.out⟩⟩
          · have gA : decide ((j : Int) + 1 < (ms.length : Int)) = false := decide_eq_false (by omega)
            have gB : decide (j + 1 < ms.length) = false := decide_eq_false cn
            go_quiet (fail)
            have HDn : Aside0 ((acc ++ [(k, (p : Int))]) ++ dd (ms.drop (j + 1)) = dd ms) := ⟨by rw [← HAc.out, (dd_last HJl.out cn).1, (dd_last HJl.out cn).2, List.append_nil]⟩
            clear HAc
            go_upto_region 13 with fail
            obtain ⟨W3, hW3⟩ : ∃ W3, W2.drewN nq = W3 := ⟨_, rfl⟩
            have hdw : Below W2.heap.size W2 W3 := by rw [← hW3]; exact drawn_below ⟨nq, rfl⟩
            have HQ3 := Aside0.mk (HQ2.out.below hdw)
            have HNw3 := Aside0.mk ((hdw.block eb (Array.getElem?_eq_some_iff.1 HNw.out).1).trans HNw.out)
            rw [hW3]
            clear hW3 hdw HQ2 n0 n1 HNw
            have n0 : W3.cell? ⟨eb, 0, none⟩ = some (.string k) := by have h := HNw3.out; simp [World.cell?, h]
            obtain ⟨o0, o1, o2, o3, o4⟩ := cells5 HQ3.out.out
            have HAl : Aside0 (acc.length ≤ 20) := ⟨by
              have h1 := congrArg List.length HDn.out
              have h2 := dd_len ms
              rw [List.length_append, List.length_append] at h1
              omega⟩
            have HOb : Aside0 (ob + 1 ≤ W3.heap.size) := ⟨(Array.getElem?_eq_some_iff.1 HQ3.out.out).1⟩
            go_upto_region 14 with ((at_builtin; refine OwnRow.append (P := Try.prog) (R := kR) (w0 := W3) (W := W3) (ob + 1) rfl (.tmp 52) (.tmp 55) 22 9 (.string ⟨#[]⟩) 1 16 rfl Try.underlying22 clone_info9 rfl (by decide) (by decide) (.slice X3 n3 d3) (acc.map (·.1)) k [.string k] rfl rfl rfl rfl (by simp [Value.oneCell']) HQ3.out.r3 (Below.refl _ _) HOb.out (by rw [List.length_map]; have := HAl.out; omega) ?_; intro v1 w1 hr hb hg hat; obtain ⟨X5, d5, e5, _⟩ := hr.slice_; obtain ⟨n5, hn5⟩ : ∃ n5, (acc.map (·.1) ++ [k]).length = n5 := ⟨_, rfl⟩; rw [hn5] at e5; subst e5; have HQ4 := Aside0.mk (HQ3.out.put3 hr hb hg); have HO1 := Aside0.mk ((hb.block ob (by omega)).trans HQ3.out.out); have HNw4 := Aside0.mk ((hg.block eb (Array.getElem?_eq_some_iff.1 HNw3.out).1 (HQ3.out.r3.ne_block HNw3.out (by decide))).trans HNw3.out); have zf : ∀ j, w1.frozen? ⟨ob, j, none⟩ = false := (fun j => by have h := HO1.out; simp [World.frozen?, h]); obtain ⟨s0, s1, s2, s3, s4⟩ := cells5 HO1.out; clear hr hb hg hat hn5))
            have HneB : Aside0 (eb ≠ ob) := ⟨fun e => by have h1 := HO1.out; rw [← e, HNw4.out] at h1; simp at h1⟩
            obtain ⟨W5, hW5⟩ : ∃ W5, w1.setCell ⟨ob, 3, none⟩ (.slice X5 n5 d5) = W5 := ⟨_, rfl⟩
            have HNw5 : Aside0 (W5.heap[eb]? = some (.cells #[.string k, .int .i64 (p : Int)] 76 (0, 0))) := ⟨by rw [← hW5, Below.heap_setCell _ _ _ eb (fun e => HneB.out (by first | exact e | exact e.symm))]; exact HNw4.out⟩
            rw [hW5] at HQ4
            rw [hW5]
            clear hW5 zf s0 s1 s2 s3 s4 HNw4 HNw3 HO1 HQ3 o0 o1 o2 o3 o4 n0
            have eB := HBd.out
            subst eB
            have HSt : Aside0 (∀ W, Below W5.heap.size W5 W → (fun w' => w'.cell? ⟨ob, 4, none⟩ = some (.slice X4 n4 d4) ∧ w'.frozen? ⟨ob, 4, none⟩ = false ∧ w'.cell? ⟨eb, 1, none⟩ = some (.int .i64 (p : Int)) ∧ w'.cell? (ad.add (p * 5)) = some (.int .i64 y.f0) ∧ w'.cell? ⟨(ad.add (p * 5)).block, (ad.add (p * 5)).off + 1, none⟩ = some (.int .i64 y.f1) ∧ w'.cell? ⟨(ad.add (p * 5)).block, (ad.add (p * 5)).off + 2, none⟩ = some (.string y.f2) ∧ w'.cell? ⟨(ad.add (p * 5)).block, (ad.add (p * 5)).off + 3, none⟩ = some (.slice Y3 y.f3.length y3) ∧ w'.cell? ⟨(ad.add (p * 5)).block, (ad.add (p * 5)).off + 4, none⟩ = some (.slice Y4 y.f4.length y4)) W) := ⟨fun W hb => by
              have h1 := (HQ4.out.below hb).out
              have h2 := (hb.block eb (Array.getElem?_eq_some_iff.1 HNw5.out).1).trans HNw5.out
              obtain ⟨e0, e2, e3, e4, e5, _⟩ := HCe.out.below (HQ4.out.below hb).z
              refine ⟨by simp [World.cell?, h1], by simp [World.frozen?, h1], by simp [World.cell?, h2], e0, e2, e3, e4, e5⟩⟩
            have g4 : (0 ≤ (p : Int)) = True := eq_true (by omega)
            have g5 : ((p : Int) < (es.length : Int)) = True := eq_true (by omega)
            have HX : Aside0 (Below W5.heap.size W5 W5.drew) := ⟨(Below.refl _ _).drew⟩
            go_upto_region 14 with fail
            refine start_ (n := 11) (S := fun w' => w'.cell? ⟨ob, 4, none⟩ = some (.slice X4 n4 d4) ∧ w'.frozen? ⟨ob, 4, none⟩ = false ∧ w'.cell? ⟨eb, 1, none⟩ = some (.int .i64 (p : Int)) ∧ w'.cell? (ad.add (p * 5)) = some (.int .i64 y.f0) ∧ w'.cell? ⟨(ad.add (p * 5)).block, (ad.add (p * 5)).off + 1, none⟩ = some (.int .i64 y.f1) ∧ w'.cell? ⟨(ad.add (p * 5)).block, (ad.add (p * 5)).off + 2, none⟩ = some (.string y.f2) ∧ w'.cell? ⟨(ad.add (p * 5)).block, (ad.add (p * 5)).off + 3, none⟩ = some (.slice Y3 y.f3.length y3) ∧ w'.cell? ⟨(ad.add (p * 5)).block, (ad.add (p * 5)).off + 4, none⟩ = some (.slice Y4 y.f4.length y4)) (ds := [10]) #[false, false, false, false, false, false, false, false, false, false, false] (by kernel_rfl) rfl (by rfl) (HSt.out _ HX.out) (fun hS => ?_)
            refine take_ (i := 0) (N := some 58) (v := (.pointer (some ⟨ob, 4, none⟩))) #[true, false, false, false, false, false, false, false, false, false, false] rfl rfl (by kernel_rfl) (fun _ _ _ h => h) (Or.inl ⟨by rfl, by intro w hSw; (try dsimp only at hSw); go_simp⟩) hS rfl ?_
            try simp only [Act.put, List.setIfInBounds_toArray, List.set_cons_zero, List.set_cons_succ]
            refine take_ (i := 1) (N := some 59) (v := (.slice X4 n4 d4)) #[true, true, false, false, false, false, false, false, false, false, false] rfl rfl (by kernel_rfl) (fun _ _ _ h => h) (Or.inl ⟨by rfl, by intro w hSw; (try dsimp only at hSw); go_simp⟩) hS rfl ?_
            try simp only [Act.put, List.setIfInBounds_toArray, List.set_cons_zero, List.set_cons_succ]
            refine take_ (i := 2) (N := some 60) (v := (.slice (some ad) es.length d)) #[true, true, true, false, false, false, false, false, false, false, false] rfl rfl (by kernel_rfl) (fun _ _ _ h => h) (Or.inl ⟨by rfl, by intro w hSw; (try dsimp only at hSw); go_simp⟩) hS rfl ?_
            try simp only [Act.put, List.setIfInBounds_toArray, List.set_cons_zero, List.set_cons_succ]
            refine take_ (i := 3) (N := some 61) (v := (.pointer (some ⟨eb, 1, none⟩))) #[true, true, true, true, false, false, false, false, false, false, false] rfl rfl (by kernel_rfl) (fun _ _ _ h => h) (Or.inl ⟨by rfl, by intro w hSw; (try dsimp only at hSw); go_simp⟩) hS rfl ?_
            try simp only [Act.put, List.setIfInBounds_toArray, List.set_cons_zero, List.set_cons_succ]
            refine take_ (i := 4) (N := some 62) (v := (.int .i64 (p : Int))) #[true, true, true, true, true, false, false, false, false, false, false] rfl rfl (by kernel_rfl) (fun _ _ _ h => h) (Or.inl ⟨by rfl, by intro w hSw; (try dsimp only at hSw); go_simp⟩) hS rfl ?_
            try simp only [Act.put, List.setIfInBounds_toArray, List.set_cons_zero, List.set_cons_succ]
            refine take_ (i := 5) (N := some 63) (v := (.pointer (some (ad.add (p * 5))))) #[true, true, true, true, true, true, false, false, false, false, false] rfl rfl (by kernel_rfl) (fun _ _ _ h => h) (Or.inl ⟨by rfl, by intro w hSw; (try dsimp only at hSw); go_simp⟩) hS rfl ?_
            try simp only [Act.put, List.setIfInBounds_toArray, List.set_cons_zero, List.set_cons_succ]
            refine take_ (i := 6) (N := some 64) (v := (.agg #[.int .i64 y.f0, .int .i64 y.f1, .string y.f2, .slice Y3 y.f3.length y3, .slice Y4 y.f4.length y4])) #[true, true, true, true, true, true, true, false, false, false, false] rfl rfl (by kernel_rfl) (fun _ _ _ h => h) (Or.inl ⟨by rfl, by intro w hSw; (try dsimp only at hSw); go_simp⟩) hS rfl ?_
            try simp only [Act.put, List.setIfInBounds_toArray, List.set_cons_zero, List.set_cons_succ]
            have HSg : Aside0 (∀ W, W.heap[ob]? = W5.heap[ob]? → W.heap[eb]? = W5.heap[eb]? → Below w.heap.size w W → (fun w' => w'.cell? ⟨ob, 4, none⟩ = some (.slice X4 n4 d4) ∧ w'.frozen? ⟨ob, 4, none⟩ = false ∧ w'.cell? ⟨eb, 1, none⟩ = some (.int .i64 (p : Int)) ∧ w'.cell? (ad.add (p * 5)) = some (.int .i64 y.f0) ∧ w'.cell? ⟨(ad.add (p * 5)).block, (ad.add (p * 5)).off + 1, none⟩ = some (.int .i64 y.f1) ∧ w'.cell? ⟨(ad.add (p * 5)).block, (ad.add (p * 5)).off + 2, none⟩ = some (.string y.f2) ∧ w'.cell? ⟨(ad.add (p * 5)).block, (ad.add (p * 5)).off + 3, none⟩ = some (.slice Y3 y.f3.length y3) ∧ w'.cell? ⟨(ad.add (p * 5)).block, (ad.add (p * 5)).off + 4, none⟩ = some (.slice Y4 y.f4.length y4)) W) := ⟨fun W hb1 hb2 hz => by
              have h1 := hb1.trans HQ4.out.out
              have h2 := hb2.trans HNw5.out
              obtain ⟨e0, e2, e3, e4, e5, _⟩ := HCe.out.below hz
              refine ⟨by simp [World.cell?, h1], by simp [World.frozen?, h1], by simp [World.cell?, h2], e0, e2, e3, e4, e5⟩⟩
            have HK28 : Aside0 (R y [.int .i64 y.f0, .int .i64 y.f1, .string y.f2, .slice Y3 y.f3.length y3, .slice Y4 y.f4.length y4]) := HRy
            have HQ5 := Aside0.mk (HQ4.out.below HX.out)
            have HNw6 := Aside0.mk ((HX.out.block eb (Array.getElem?_eq_some_iff.1 HNw5.out).1).trans HNw5.out)
            refine one_ (i := 7) (N := some 65) #[true, true, true, true, true, true, true, true, false, false, false] rfl rfl (by kernel_rfl) (by decide) ?_
            intro K hK
            go_simp
            refine hK.out _ _ (HSt.out _ (below_step HX.out (new_below W5.drew _))) (fun hS => ?_)
            clear hK K
            try simp only [Act.put, List.setIfInBounds_toArray, List.set_cons_zero, List.set_cons_succ]
            refine one_ (i := 8) (N := some 66) #[true, true, true, true, true, true, true, true, true, false, false] rfl rfl (by kernel_rfl) (by decide) ?_
            intro K hK
            refine stepO (w0 := w) HRo.out (W := W5.drew) rfl (ob + 1) (.tmp 59) (.tmp 65) rfl (.slice X4 n4 d4) (acc.map (ge es)) y [.int .i64 y.f0, .int .i64 y.f1, .string y.f2, .slice Y3 y.f3.length y3, .slice Y4 y.f4.length y4] rfl rfl HK28.out HQ5.out.r4 ((Array.getElem?_eq_some_iff.1 HQ5.out.out).1) (by rw [List.length_map]; have := HAl.out; omega) ?_
            intro v1 w1' hr hb hg
            obtain ⟨X6, d6, e6, _⟩ := hr.slice_
            obtain ⟨n6, hn6⟩ : ∃ n6, (acc.map (ge es) ++ [y]).length = n6 := ⟨_, rfl⟩
            rw [hn6] at e6
            subst e6
            have HQ6 := Aside0.mk (HQ5.out.put4 hr hb hg)
            have hS5 := HSg.out w1' ((hb.block ob (by omega)).trans (HX.out.block ob (Array.getElem?_eq_some_iff.1 HQ4.out.out).1)) ((hg.block eb (Array.getElem?_eq_some_iff.1 HNw6.out).1 (HQ5.out.r4.ne_block HNw6.out (by decide))).trans (HNw6.out.trans HNw5.out.symm)) (HQ5.out.z.trans (hb.mono (by have := HQ5.out.o1; omega)))
            clear hr hb hg hn6
            refine hK.out _ _ hS5 (fun hS => ?_)
            clear hK K hS5
            try simp only [Act.put, List.setIfInBounds_toArray, List.set_cons_zero, List.set_cons_succ]
            refine take_ (i := 9) (N := some 67) (v := (.pointer (some ⟨ob, 4, none⟩))) #[true, true, true, true, true, true, true, true, true, true, false] rfl rfl (by kernel_rfl) (fun _ _ _ h => h) (Or.inl ⟨by rfl, by intro w hSw; (try dsimp only at hSw); go_simp⟩) hS rfl ?_
            try simp only [Act.put, List.setIfInBounds_toArray, List.set_cons_zero, List.set_cons_succ]
            have hfz := hS.2.1
            have hcl := hS.1
            refine last_ (i := 10) (N := none) #[true, true, true, true, true, true, true, true, true, true, true] rfl rfl (by kernel_rfl) (by decide) ?_
            intro K hK
            go_simp
            refine hK.out _ _ ?_
            clear hK K hfz hcl
            refine done_ (by kernel_rfl) ?_
            go_wp2_with fail
            go_roundg j1
            case measure => omega
            case rel => exact ⟨j + 1, acc ++ [(k, (p : Int))], X5, n5, d5, X6, n6, d6, by have := HJ.out; omega, rfl, ⟨by rw [List.map_append, List.map_append]; simp only [List.map_cons, List.map_nil, HGe.out]; exact HQ6.out, HDn.out⟩⟩
        · have g0 : decide (j < ms.length) = false := decide_eq_false cj
          have hacc : acc = dd ms := by
            have h := HQ.out.2
            rw [List.drop_eq_nil_of_le (by omega)] at h
            simpa [dd] using h
          have HQf : Aside0 (Qs R w wr ks es X cp ms ob (.slice X3 n3 d3) (.slice X4 n4 d4) ((dd ms).map (·.1)) ((dd ms).map (ge es))) := ⟨by rw [← hacc]; exact HQ.out.1⟩
          clear HQ hacc cj hj
          obtain ⟨o0, o1, o2, o3, o4⟩ := cells5 HQf.out.out
          obtain ⟨t0, t1, t2, t3, t4, t5⟩ := zero5 HQf.out.res
          obtain ⟨W', hW', hh, hgr⟩ := fill5h HQf.out.res (.int .i64 6) (.int .i64 0) (.string ⟨#[]⟩) (.slice X3 n3 d3) (.slice X4 n4 d4)
          have HWf := Aside0.mk hW'
          obtain ⟨u0, u1, u2, u3, u4⟩ := cells5 hh
          have HFin : Aside0 (ObjPost R ks es w (.returned (.agg #[.int .i64 6, .int .i64 0, .string ⟨#[]⟩, .slice X3 n3 d3, .slice X4 n4 d4])) W') := ⟨by
            have hq := HQf.out
            have ho1 := hq.o1
            have hz : Below w.heap.size w W' := hq.z.trans ⟨hgr.os, hgr.tape, hgr.output, hgr.size, fun k hk => hgr.block k (by have := Below.size hq.z; omega) (fun e => by have := Option.some.inj e; omega)⟩
            have r3 := hq.r3.other hgr (Or.inr (fun e => by have := own_base hq.r3 e; omega))
            have r4 := hq.r4.other hgr (Or.inr (fun e => by have := own_base hq.r4 e; omega))
            obtain ⟨A3, c3, e3, l3, g3⟩ := r3.reads
            obtain ⟨A4, c4, e4, l4, g4⟩ := r4.reads
            injection e3 with a1 a2 a3
            injection e4 with b1 b2 b3
            subst a1 a2 a3 b1 b2 b3
            exact ⟨ms, X3, d3, X4, d4, rfl, r3.lower (by omega), r4.lower (by omega), hq.p, hq.s, hz⟩⟩
          clear hW' hh hgr
          go_wp2_with fail
          rw [HWf.out]
          exact bodyPost_ret (v := .agg #[.int .i64 6, .int .i64 0, .string ⟨#[]⟩, .slice X3 n3 d3, .slice X4 n4 d4]) (by simp [results, Try.results54, go_sem, u0, u1, u2, u3, u4]) rfl HFin.out
end Go.Proofs.Ytgpjkojnmeaoiaa.QV
