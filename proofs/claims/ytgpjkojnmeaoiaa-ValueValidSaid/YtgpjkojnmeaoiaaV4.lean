/- The meter's walk. -/
import Derived.Test.YtgpjkojnmeaoiaaV3
namespace Go.Proofs.Ytgpjkojnmeaoiaa.QV
open Go Go.RowKit Go.Proofs.YtgpjkojnmeaoiaaW.PrintWords Go.Proofs.YtgpjkojnmeaoiaaW.PrintLast Go.Proofs.YtgpjkojnmeaoiaaW.PrintMore
set_option linter.unusedVariables false
set_option linter.unusedSimpArgs false
set_option maxRecDepth 100000
set_option maxHeartbeats 4000000
def FitPost (form : Bool) (ar : Nat) (x : S28) (n b : Int) (m : Nat) (w : World) (e : Ending) (w' : World) : Prop :=
  ∃ n' b' : Int, e = .returned (.bool (fitR form ar x n b)) ∧ w.grownBy w' (some m) ∧ w'.heap[m]? = some (.cells #[.int .i64 n', .int .i64 b'] 72 (0, 0)) ∧ (fitR form ar x n b = true → n' = n + nds x ∧ b' = b + bts x)
theorem fitC (form : Bool) (s : Nat) : ∀ (x : S28) (ar : Nat) (n b : Int) (m : Nat) (w0 w : World) {A3 : Option Addr} {c3 : Nat} {A4 : Option Addr} {c4 : Nat}, SizeOf.sizeOf x < s → Wv x → cnt x ≤ 1000000000000000 → ar ≤ 40 → 0 ≤ n → n ≤ 4096 → 0 ≤ b → b ≤ 65536 →
    Rd w0 A3 c3 A4 c4 x → w0.heap.size ≤ m → Below w0.heap.size w0 w → w.heap[m]? = some (.cells #[.int .i64 n, .int .i64 b] 72 (0, 0)) →
    Calls Try.prog 72 #[.pointer (some ⟨m, 0, none⟩), .agg #[.int .i64 x.f0, .int .i64 x.f1, .string x.f2, .slice A3 x.f3.length c3, .slice A4 x.f4.length c4], .int .i64 (ar : Int), .bool form] w (FitPost form ar x n b m w) := by
  induction s with
  | zero => intro x ar n b m w0 w A3 c3 A4 c4 h; omega
  | succ s ih =>
  intro x ar n b m w0 w A3 c3 A4 c4 hs hx hc har hn0 hn1 hb0 hb1 hr hm hB hM
  have HS := Aside0.mk hs
  have HX := Aside0.mk hx
  have HC := Aside0.mk hc
  have HR := Aside0.mk hr
  obtain ⟨r, hfr⟩ : ∃ r, fitR form ar x n b = r := ⟨_, rfl⟩
  have HP : Aside0 (∀ (e : Ending) (w' : World) (n' b' : Int), e = .returned (.bool r) → w.grownBy w' (some m) → w'.heap[m]? = some (.cells #[.int .i64 n', .int .i64 b'] 72 (0, 0)) → (r = true → n' = n + nds x ∧ b' = b + bts x) → FitPost form ar x n b m w e w') :=
    ⟨fun e w' n' b' h1 h2 h3 h4 => ⟨n', b', by rw [hfr]; exact h1, h2, h3, by rw [hfr]; exact h4⟩⟩
  have HF := Aside0.mk hfr
  have hlt : m < w.heap.size := (Array.getElem?_eq_some_iff.1 hM).1
  have hR := hr
  have HT : Aside0 (Ft w0 w (w.alloc (.cells #[.int .i64 x.f0, .int .i64 x.f1, .string x.f2, .slice A3 x.f3.length c3, .slice A4 x.f4.length c4] 28)) m w.heap.size n b A3 c3 A4 c4 x) := ⟨by
    have ha := new_below w (.cells #[.int .i64 x.f0, .int .i64 x.f1, .string x.f2, .slice A3 x.f3.length c3, .slice A4 x.f4.length c4] 28)
    exact ⟨below_of_grown hB hm (by omega) (grown_of_below ha), (ha.block m hlt).trans hM, heap_alloc_new w _, grown_of_below ha, by omega, hm⟩⟩
  have s1 := hx.s
  have s2 := hx.kl
  have s3 := hx.el
  have hkz := ksum_ksz x.f3
  have hce := cnt_eq x
  have s4 : x.f2.size ≤ 1000000000000000 ∧ ksum x.f3 ≤ 1000000000000000 := by omega
  clear hkz hce hfr hs hx hc hr hR hB hM hm hlt
  go_enter Try.func72, Try.ntmps72
  go_upto_region 1 with fail
  obtain ⟨v, hv⟩ : ∃ v, w.heap.size = v := ⟨_, rfl⟩
  obtain ⟨W, hW⟩ : ∃ W, w.alloc (.cells #[.int .i64 x.f0, .int .i64 x.f1, .string x.f2, .slice A3 x.f3.length c3, .slice A4 x.f4.length c4] 28) = W := ⟨_, rfl⟩
  rw [hW, hv] at HT
  rw [hW, hv]
  clear hW hv
  obtain ⟨q0, q1, q2, p0, p1, p2, p3, p4⟩ := HT.out.cells
  go_upto_region 2 with fail
  have HT2 := Aside0.mk (HT.out.set0 (n' := n + 1)); clear HT; have HT := HT2; clear HT2
  obtain ⟨W1, hW⟩ : ∃ W', W.setCell ⟨m, 0, none⟩ (.int .i64 (n + 1)) = W' := ⟨_, rfl⟩
  rw [hW] at HT
  rw [hW]
  clear hW q0 q1 q2 p0 p1 p2 p3 p4
  obtain ⟨q0, q1, q2, p0, p1, p2, p3, p4⟩ := HT.out.cells
  by_cases t1 : 4096 < n + 1
  · have g1 : decide (n + 1 > 4096) = true := decide_eq_true (by omega)
    have hff : r = false := by rw [← HF.out]; exact fitR_n t1
    subst hff
    clear HF
    go_wp2_with fail
    go_ret
    exact HP.out _ _ _ _ rfl HT.out.g HT.out.mm (fun e => by cases e)
  have g1 : decide (n + 1 > 4096) = false := decide_eq_false (by omega)
  by_cases t2 : x.f0 < 0
  · have g2 : decide (x.f0 < 0) = true := decide_eq_true (by omega)
    have hff : r = false := by rw [← HF.out]; exact fitR_k0 t2
    subst hff
    clear HF
    go_wp2_with fail
    go_ret
    exact HP.out _ _ _ _ rfl HT.out.g HT.out.mm (fun e => by cases e)
  have g2 : decide (x.f0 < 0) = false := decide_eq_false (by omega)
  by_cases t3 : 6 < x.f0
  · have g3 : decide (x.f0 > 6) = true := decide_eq_true (by omega)
    have hff : r = false := by rw [← HF.out]; exact fitR_k6 t3
    subst hff
    clear HF
    go_wp2_with fail
    go_ret
    exact HP.out _ _ _ _ rfl HT.out.g HT.out.mm (fun e => by cases e)
  have g3 : decide (x.f0 > 6) = false := decide_eq_false (by omega)
  go_upto_region 4 with fail
  clear g1 g2 g3
  have H4 : ((x.f0 == 4) = true ∧ 4096 < x.f2.size) ∨ ((x.f0 == 4) = true ∧ x.f2.size ≤ 4096) ∨ (x.f0 == 4) = false := by
    by_cases c : x.f0 = 4
    · by_cases c2 : 4096 < x.f2.size
      · exact .inl ⟨by rw [c]; rfl, c2⟩
      · exact .inr (.inl ⟨by rw [c]; rfl, by omega⟩)
    · exact .inr (.inr (by simpa using c))
  rcases H4 with ⟨g4, t4⟩ | H4
  · have g5 : decide (4096 < x.f2.size) = true := decide_eq_true t4
    have g5' : decide ((x.f2.size : Int) > 4096) = true := decide_eq_true (by omega)
    have hff : r = false := by rw [← HF.out]; exact fitR_s (by simpa using g4) t4
    subst hff
    clear HF
    go_wp2_with fail
    go_ret
    exact HP.out _ _ _ _ rfl HT.out.g HT.out.mm (fun e => by cases e)
  have t5 : ¬ (x.f0 = 4 ∧ 4096 < x.f2.size) := by
    rintro ⟨c1, c2⟩
    rcases H4 with ⟨_, h⟩ | h
    · omega
    · rw [c1] at h; cases h
  have H5 : ((x.f0 == 4) = true ∧ decide (4096 < x.f2.size) = false ∧ decide ((x.f2.size : Int) > 4096) = false) ∨ (x.f0 == 4) = false := H4.imp (fun h => ⟨h.1, decide_eq_false (by omega), decide_eq_false (by omega)⟩) id
  clear H4
  have HQ : Aside0 (Pass form x n ∨ (form = true ∧ fm x = false)) := ⟨by
    cases form with
    | false => exact .inl ⟨by omega, by omega, by omega, t5, .inl rfl⟩
    | true => cases hf : fm x with
      | true => exact .inl ⟨by omega, by omega, by omega, t5, .inr hf⟩
      | false => exact .inr ⟨rfl, rfl⟩⟩
  clear t5
  have HU : Aside0 (∀ W, Below w0.heap.size w0 W → Calls Try.prog 85 #[.agg #[.int .i64 x.f0, .int .i64 x.f1, .string x.f2, .slice A3 x.f3.length c3, .slice A4 x.f4.length c4]] W fun e w' => e = .returned (.bool (fm x)) ∧ Below W.heap.size W w') := ⟨fun W hb => fmC x HX.out W (HR.out.below hb)⟩
  obtain ⟨fb, hfb⟩ : ∃ fb, fm x = fb := ⟨_, rfl⟩
  rw [hfb] at HQ HU
  have HFb := Aside0.mk hfb
  clear hfb
  -- the ways to the region that counts the bytes
  have ways : (form = true ∧ fb = false) ∨ (form = true ∧ fb = true) ∨ form = false := by cases form <;> cases fb <;> simp
  rcases ways with ⟨rfl, rfl⟩ | ways
  · rcases H5 with ⟨g4, g5, g5'⟩ | g4
    all_goals
      have hff : r = false := by rw [← HF.out]; exact fitR_f HFb.out
      subst hff
      clear HF
      go_wp2_with (first | (go_at_call 85; (with_reducible refine (HU.out _ HT.out.z).mono ?_); rintro e we ⟨rfl, hb⟩; have HT2 := Aside0.mk (HT.out.below hb); clear HT; have HT := HT2; clear HT2 hb))
      go_ret
      exact HP.out _ _ _ _ rfl HT.out.g HT.out.mm (fun e => by cases e)
  have HQ2 : Aside0 (Pass form x n) := ⟨by
    rcases HQ.out with h | ⟨h1, h2⟩
    · exact h
    · rcases ways with ⟨_, h3⟩ | h3
      · rw [h2] at h3; cases h3
      · rw [h1] at h3; cases h3⟩
  clear HQ HFb
  rcases ways with ⟨rfl, rfl⟩ | rfl
  · rcases H5 with ⟨g4, g5, g5'⟩ | g4
    all_goals
      go_upto_region 6 with (first | (go_at_call 85; (with_reducible refine (HU.out _ HT.out.z).mono ?_); rintro e we ⟨rfl, hb⟩; have HT2 := Aside0.mk (HT.out.below hb); clear HT; have HT := HT2; clear HT2 hb))
      (try clear g4); (try clear g5); (try clear g5'); clear q0 q1 q2 p0 p1 p2 p3 p4 HU
      obtain ⟨q0, q1, q2, p0, p1, p2, p3, p4⟩ := HT.out.cells
      go_region
      clear q0 q1 q2 p0 p1 p2 p3 p4
      obtain ⟨W3, hW3, hT3⟩ := HT.out.count (x.f2.size : Int)
      rw [hW3]
      clear hW3 HT
      have HT := Aside0.mk hT3
      clear hT3
      obtain ⟨q0, q1, q2, p0, p1, p2, p3, p4⟩ := HT.out.cells
      go_wp2_with fail
      clear q0 q1 q2 p0 p1 p2 p3 p4
      go_loopg [65] x.f3.length (fun kq v65 w' => ∃ (i : Nat) (c : Int), kq + i = x.f3.length ∧ v65 = .int .i64 (i : Int) ∧ Aside0 (c = b + (x.f2.size + ksum (x.f3.take i) : Nat)) ∧ (0 ≤ c ∧ c ≤ 3000000000000000) ∧ Aside0 (Ft w0 w w' m v (n + 1) c A3 c3 A4 c4 x))
      case atStart => exact ⟨0, _, by omega, rfl, ⟨by simp [ksum]⟩, by omega, HT⟩
      case round =>
        clear HT
        obtain ⟨i, c, hi, rfl, HN, hn, HT⟩ := hrel
        obtain ⟨q0, q1, q2, p0, p1, p2, p3, p4⟩ := HT.out.cells
        by_cases ci : i < x.f3.length
        · have g0 : decide ((i : Int) < (x.f3.length : Int)) = true := decide_eq_true (by omega)
          have g2 : (0 ≤ (i : Int)) = True := eq_true (by omega)
          have g3 : ((i : Int) < (x.f3.length : Int)) = True := eq_true (by omega)
          obtain ⟨j1, rfl⟩ : ∃ j1, gk = j1 + 1 := ⟨gk - 1, by omega⟩
          have hil : x.f3[i]? = some x.f3[i] := List.getElem?_eq_getElem ci
          have hqs := HX.out.ks _ (List.getElem_mem ci)
          obtain ⟨q, hq'⟩ : ∃ q, x.f3[i] = q := ⟨_, rfl⟩
          rw [hq'] at hil hqs
          obtain ⟨ad, e1, he⟩ := str_at (HR.out.below HT.out.z).r3 i ci hil
          have HK := Aside0.mk (ksum_take hil)
          have hle := ksum_le x.f3 (i + 1)
          have hcb : c + (q.size : Int) ≤ 3000000000000000 := by
            have h1 := HK.out
            have h2 := HN.out
            omega
          have HI := Aside0.mk hi
          clear hil hq' hi hle
          subst e1
          go_wp2
          obtain ⟨W4, hW4, hT4⟩ := HT.out.add (q.size : Int)
          rw [hW4]
          go_roundg j1
          case measure => omega
          case rel => exact ⟨i + 1, c + (q.size : Int), by have := HI.out; omega, rfl, ⟨by have h1 := HK.out; have h2 := HN.out; omega⟩, by omega, ⟨hT4⟩⟩
        · have g0 : decide (i < x.f3.length) = false := decide_eq_false ci
          have hcc : c = b + (x.f2.size + ksum x.f3 : Nat) := by
            have h1 := HN.out
            rw [List.take_of_length_le (by omega)] at h1
            exact h1
          have HCc := Aside0.mk hcc
          clear hcc HN ci hi
          by_cases t6 : 65536 < c
          · have g6 : decide (c > 65536) = true := decide_eq_true t6
            have hff : r = false := by rw [← HF.out]; exact fitR_b (by have := HCc.out; omega)
            subst hff
            clear HF
            go_wp2_with fail
            go_ret
            exact HP.out _ _ _ _ rfl HT.out.g HT.out.mm (fun e => by cases e)
          have g6 : decide (c > 65536) = false := decide_eq_false (by omega)
          by_cases t7 : x.f0 < 5
          · have g7 : decide (x.f0 < 5) = true := decide_eq_true t7
            have hl := fitR_leaf (ar := ar) HQ2.out (show b + (x.f2.size + ksum x.f3 : Nat) ≤ 65536 by have := HCc.out; omega) t7
            have hff : r = true := by rw [← HF.out]; exact hl.1
            have HL := Aside0.mk hl
            subst hff
            clear HF hl
            go_wp2_with fail
            go_ret
            exact HP.out _ _ _ _ rfl HT.out.g HT.out.mm (fun _ => ⟨by have := HL.out.2.1; omega, by have := HL.out.2.2; have := HCc.out; omega⟩)
          have g7 : decide (x.f0 < 5) = false := decide_eq_false t7
          by_cases t8 : 32 ≤ ar
          · have g8 : decide ((ar : Int) ≥ 32) = true := decide_eq_true (by omega)
            have g8' : decide (32 ≤ ar) = true := decide_eq_true (by omega)
            have hff : r = false := by rw [← HF.out]; exact fitR_ar (by omega) t8
            subst hff
            clear HF
            go_wp2_with fail
            go_ret
            exact HP.out _ _ _ _ rfl HT.out.g HT.out.mm (fun e => by cases e)
          have g8 : decide ((ar : Int) ≥ 32) = false := decide_eq_false (by omega)
          have g8' : decide (32 ≤ ar) = false := decide_eq_false (by omega)
          by_cases t9 : 1024 < x.f4.length
          · have g9 : decide ((x.f4.length : Int) > 1024) = true := decide_eq_true (by omega)
            have g9' : decide (1024 < x.f4.length) = true := decide_eq_true (by omega)
            have hff : r = false := by rw [← HF.out]; exact fitR_el (by omega) t9
            subst hff
            clear HF
            go_wp2_with fail
            go_ret
            exact HP.out _ _ _ _ rfl HT.out.g HT.out.mm (fun e => by cases e)
          have g9 : decide ((x.f4.length : Int) > 1024) = false := decide_eq_false (by omega)
          have g9' : decide (1024 < x.f4.length) = false := decide_eq_false (by omega)
          have hgo := fitR_go (b := b) HQ2.out (by omega : 5 ≤ x.f0) (show ar < 32 by omega) (show x.f4.length ≤ 1024 by omega)
          have HG := Aside0.mk hgo
          have hc2 := HCc.out
          have HI0 : Aside0 ((n + 1 : Int) = n + 1 + ndsL (x.f4.take 0) ∧ c = b + (x.f2.size + ksum x.f3 : Nat) + btsL (x.f4.take 0) ∧ okL true (ar + 1) (x.f4.take 0) = true) := ⟨⟨by simp [ndsL], by simp [btsL]; omega, by simp [okL]⟩⟩
          have hn16 : n + 1 ≤ 4096 := by omega
          clear hgo hc2
          go_wp2_with fail
          clear g0 g6 g7 g8 g8' g9 g9' q0 q1 q2 p0 p1 p2 p3 p4
          go_loopg [98] x.f4.length (fun kq v98 w' => ∃ (i : Nat) (ni bi : Int), kq + i = x.f4.length ∧ v98 = .int .i64 (i : Int) ∧ Aside0 (ni = n + 1 + ndsL (x.f4.take i) ∧ bi = b + (x.f2.size + ksum x.f3 : Nat) + btsL (x.f4.take i) ∧ okL true (ar + 1) (x.f4.take i) = true) ∧ (0 ≤ ni ∧ ni ≤ 4096 ∧ 0 ≤ bi ∧ bi ≤ 65536) ∧ Aside0 (Ft w0 w w' m v ni bi A3 c3 A4 c4 x))
          case atStart => exact ⟨0, n + 1, c, by omega, rfl, HI0, by omega, HT⟩
          case round =>
            clear HT HI0
            obtain ⟨i, ni, bi, hi, rfl, HN, hnb, HT⟩ := hrel
            obtain ⟨q0, q1, q2, p0, p1, p2, p3, p4⟩ := HT.out.cells
            by_cases ci : i < x.f4.length
            · have g0 : decide ((i : Int) < (x.f4.length : Int)) = true := decide_eq_true (by omega)
              have g2 : (0 ≤ (i : Int)) = True := eq_true (by omega)
              have g3 : ((i : Int) < (x.f4.length : Int)) = True := eq_true (by omega)
              obtain ⟨j1, rfl⟩ : ∃ j1, gk = j1 + 1 := ⟨gk - 1, by omega⟩
              have hil : x.f4[i]? = some x.f4[i] := List.getElem?_eq_getElem ci
              have hm := List.getElem_mem ci
              have hq := HX.out.es _ hm
              have hz := sz_mem hm
              obtain ⟨y, hq'⟩ : ∃ y, x.f4[i] = y := ⟨_, rfl⟩
              rw [hq'] at hil hq hz
              obtain ⟨ad, Y3, y3, Y4, y4, e1, he0⟩ := el_at HR.out.r4 i ci hil
              have he := he0.below HT.out.z
              have HKt := Aside0.mk (And.intro (ndsL_take hil) (And.intro (btsL_take hil) (okL_take (form := true) (ar := ar + 1) hil)))
              have HPl := Aside0.mk (part_le (form := true) (ar := ar + 1) x.f4 (i + 1))
              have HI := Aside0.mk hi
              have hcy : cnt y ≤ 1000000000000000 := by
                have h1 := HC.out
                have h2 := cnt_eq x
                have h3 := cntL_take hil
                have h4 := cntL_le x.f4 (i + 1)
                omega
              have HY0 := fun W1 hz2 hz3 => ih y (ar + 1) ni bi m w0 W1 (by have := HS.out; omega) hq hcy (by omega) hnb.1 hnb.2.1 hnb.2.2.1 hnb.2.2.2 he0.rd HT.out.lt hz2 hz3
              obtain ⟨ry, hry⟩ : ∃ ry, fitR true (ar + 1) y ni bi = ry := ⟨_, rfl⟩
              have HRy := Aside0.mk hry
              have HY : Aside0 (∀ W1, Below w0.heap.size w0 W1 → W1.heap[m]? = some (.cells #[.int .i64 ni, .int .i64 bi] 72 (0, 0)) → Calls Try.prog 72 #[.pointer (some ⟨m, 0, none⟩), .agg #[.int .i64 y.f0, .int .i64 y.f1, .string y.f2, .slice Y3 y.f3.length y3, .slice Y4 y.f4.length y4], .int .i64 ((ar : Int) + 1), .bool true] W1 fun e we => ∃ n2 b2 : Int, e = .returned (.bool ry) ∧ W1.grownBy we (some m) ∧ we.heap[m]? = some (.cells #[.int .i64 n2, .int .i64 b2] 72 (0, 0)) ∧ (ry = true → n2 = ni + nds y ∧ b2 = bi + bts y)) := ⟨fun W1 h1 h2 => by
                have h := HY0 W1 h1 h2
                rw [show ((ar + 1 : Nat) : Int) = (ar : Int) + 1 by omega] at h
                refine h.mono ?_
                rintro e we ⟨n2, b2, k1, k2, k3, k4⟩
                exact ⟨n2, b2, by rw [← hry]; exact k1, k2, k3, by rw [← hry]; exact k4⟩⟩
              have HTa := Aside0.mk (HT.out.below (new_below wr (.cells #[.int .i64 y.f0, .int .i64 y.f1, .string y.f2, .slice Y3 y.f3.length y3, .slice Y4 y.f4.length y4] 28)))
              obtain ⟨e0, e2, e3, e4, e5, _⟩ := he
              clear hil hq' hi hm hq hz hry he0 hcy HY0
              subst e1
              cases ry with
              | false =>
                have hff : r = false := by
                  rw [← HF.out, HG.out.1]
                  have h1 := HRy.out
                  obtain ⟨k1, k2, k3⟩ := HKt.out
                  obtain ⟨l1, l2, l3⟩ := HPl.out
                  obtain ⟨n1, n2, n3⟩ := HN.out
                  unfold fitR at h1
                  by_cases z1 : okL true (ar + 1) x.f4 = true
                  · have z2 := l3 z1
                    rw [k3, n3, Bool.true_and] at z2
                    rw [z2, Bool.true_and] at h1
                    by_cases z3 : n + 1 + (ndsL x.f4 : Int) ≤ 4096
                    · rw [decide_eq_true (show ni + (nds y : Int) ≤ 4096 by omega), Bool.true_and, decide_eq_false_iff_not] at h1
                      rw [decide_eq_false (show ¬ b + ((x.f2.size + ksum x.f3 : Nat) : Int) + (btsL x.f4 : Int) ≤ 65536 by omega)]
                      simp
                    · rw [decide_eq_false z3]
                      simp
                  · rw [Bool.eq_false_iff.2 z1]
                    rfl
                subst hff
                clear HF
                go_wp2_with (first | (go_at_call 72; (with_reducible refine (HY.out _ HTa.out.z HTa.out.mm).mono ?_); rintro e we ⟨n2, b2, rfl, hg, hmm, him⟩; have HT2 := Aside0.mk (HTa.out.put hg hmm); clear HT HTa; have HT := HT2; clear HT2 hg hmm))
                go_ret
                exact HP.out _ _ _ _ rfl HT.out.g HT.out.mm (fun e => by cases e)
              | true =>
                have hfit : ni + nds y ≤ 4096 ∧ bi + bts y ≤ 65536 ∧ okv true (ar + 1) y = true := by
                  have h1 := HRy.out
                  unfold fitR at h1
                  simp only [Bool.and_eq_true, decide_eq_true_eq] at h1
                  exact ⟨h1.1.2, h1.2, h1.1.1⟩
                have HN2 : Aside0 (ni + nds y = n + 1 + ndsL (x.f4.take (i + 1)) ∧ bi + bts y = b + (x.f2.size + ksum x.f3 : Nat) + btsL (x.f4.take (i + 1)) ∧ okL true (ar + 1) (x.f4.take (i + 1)) = true) := ⟨by
                  obtain ⟨k1, k2, k3⟩ := HKt.out
                  obtain ⟨n1, n2, n3⟩ := HN.out
                  exact ⟨by omega, by omega, by rw [k3, n3, hfit.2.2]; rfl⟩⟩
                have hf1 := hfit.1
                have hf2 := hfit.2.1
                clear hfit HN HKt HPl
                go_wp2_with (first | (go_at_call 72; (with_reducible refine (HY.out _ HTa.out.z HTa.out.mm).mono ?_); rintro e we ⟨n2, b2, rfl, hg, hmm, him⟩; have HT2 := Aside0.mk (HTa.out.put hg hmm); clear HT HTa; have HT := HT2; clear HT2 hg hmm))
                obtain ⟨rfl, rfl⟩ := him (by first | trivial | rfl)
                go_roundg j1
                case measure => omega
                case rel => exact ⟨i + 1, ni + nds y, bi + bts y, by have := HI.out; omega, rfl, HN2, by omega, HT⟩
            · have g0 : decide (i < x.f4.length) = false := decide_eq_false ci
              have hff : r = true := by
                rw [← HF.out, HG.out.1]
                obtain ⟨n1, n2, n3⟩ := HN.out
                rw [List.take_of_length_le (by omega)] at n1 n2 n3
                rw [n3, decide_eq_true (by omega), decide_eq_true (by omega)]
                rfl
              have HE : Aside0 (ni = n + nds x ∧ bi = b + bts x) := ⟨by
                obtain ⟨n1, n2, n3⟩ := HN.out
                rw [List.take_of_length_le (by omega)] at n1 n2 n3
                have h1 := HG.out.2.1
                have h2 := HG.out.2.2
                omega⟩
              subst hff
              clear HF ci hi
              go_wp2
              go_ret
              exact HP.out _ _ _ _ rfl HT.out.g HT.out.mm (fun _ => HE.out)
  · rcases H5 with ⟨g4, g5, g5'⟩ | g4
    all_goals
      go_upto_region 6 with (first | (go_at_call 85; (with_reducible refine (HU.out _ HT.out.z).mono ?_); rintro e we ⟨rfl, hb⟩; have HT2 := Aside0.mk (HT.out.below hb); clear HT; have HT := HT2; clear HT2 hb))
      (try clear g4); (try clear g5); (try clear g5'); clear q0 q1 q2 p0 p1 p2 p3 p4 HU
      obtain ⟨q0, q1, q2, p0, p1, p2, p3, p4⟩ := HT.out.cells
      go_region
      clear q0 q1 q2 p0 p1 p2 p3 p4
      obtain ⟨W3, hW3, hT3⟩ := HT.out.count (x.f2.size : Int)
      rw [hW3]
      clear hW3 HT
      have HT := Aside0.mk hT3
      clear hT3
      obtain ⟨q0, q1, q2, p0, p1, p2, p3, p4⟩ := HT.out.cells
      go_wp2_with fail
      clear q0 q1 q2 p0 p1 p2 p3 p4
      go_loopg [65] x.f3.length (fun kq v65 w' => ∃ (i : Nat) (c : Int), kq + i = x.f3.length ∧ v65 = .int .i64 (i : Int) ∧ Aside0 (c = b + (x.f2.size + ksum (x.f3.take i) : Nat)) ∧ (0 ≤ c ∧ c ≤ 3000000000000000) ∧ Aside0 (Ft w0 w w' m v (n + 1) c A3 c3 A4 c4 x))
      case atStart => exact ⟨0, _, by omega, rfl, ⟨by simp [ksum]⟩, by omega, HT⟩
      case round =>
        clear HT
        obtain ⟨i, c, hi, rfl, HN, hn, HT⟩ := hrel
        obtain ⟨q0, q1, q2, p0, p1, p2, p3, p4⟩ := HT.out.cells
        by_cases ci : i < x.f3.length
        · have g0 : decide ((i : Int) < (x.f3.length : Int)) = true := decide_eq_true (by omega)
          have g2 : (0 ≤ (i : Int)) = True := eq_true (by omega)
          have g3 : ((i : Int) < (x.f3.length : Int)) = True := eq_true (by omega)
          obtain ⟨j1, rfl⟩ : ∃ j1, gk = j1 + 1 := ⟨gk - 1, by omega⟩
          have hil : x.f3[i]? = some x.f3[i] := List.getElem?_eq_getElem ci
          have hqs := HX.out.ks _ (List.getElem_mem ci)
          obtain ⟨q, hq'⟩ : ∃ q, x.f3[i] = q := ⟨_, rfl⟩
          rw [hq'] at hil hqs
          obtain ⟨ad, e1, he⟩ := str_at (HR.out.below HT.out.z).r3 i ci hil
          have HK := Aside0.mk (ksum_take hil)
          have hle := ksum_le x.f3 (i + 1)
          have hcb : c + (q.size : Int) ≤ 3000000000000000 := by
            have h1 := HK.out
            have h2 := HN.out
            omega
          have HI := Aside0.mk hi
          clear hil hq' hi hle
          subst e1
          go_wp2
          obtain ⟨W4, hW4, hT4⟩ := HT.out.add (q.size : Int)
          rw [hW4]
          go_roundg j1
          case measure => omega
          case rel => exact ⟨i + 1, c + (q.size : Int), by have := HI.out; omega, rfl, ⟨by have h1 := HK.out; have h2 := HN.out; omega⟩, by omega, ⟨hT4⟩⟩
        · have g0 : decide (i < x.f3.length) = false := decide_eq_false ci
          have hcc : c = b + (x.f2.size + ksum x.f3 : Nat) := by
            have h1 := HN.out
            rw [List.take_of_length_le (by omega)] at h1
            exact h1
          have HCc := Aside0.mk hcc
          clear hcc HN ci hi
          by_cases t6 : 65536 < c
          · have g6 : decide (c > 65536) = true := decide_eq_true t6
            have hff : r = false := by rw [← HF.out]; exact fitR_b (by have := HCc.out; omega)
            subst hff
            clear HF
            go_wp2_with fail
            go_ret
            exact HP.out _ _ _ _ rfl HT.out.g HT.out.mm (fun e => by cases e)
          have g6 : decide (c > 65536) = false := decide_eq_false (by omega)
          by_cases t7 : x.f0 < 5
          · have g7 : decide (x.f0 < 5) = true := decide_eq_true t7
            have hl := fitR_leaf (ar := ar) HQ2.out (show b + (x.f2.size + ksum x.f3 : Nat) ≤ 65536 by have := HCc.out; omega) t7
            have hff : r = true := by rw [← HF.out]; exact hl.1
            have HL := Aside0.mk hl
            subst hff
            clear HF hl
            go_wp2_with fail
            go_ret
            exact HP.out _ _ _ _ rfl HT.out.g HT.out.mm (fun _ => ⟨by have := HL.out.2.1; omega, by have := HL.out.2.2; have := HCc.out; omega⟩)
          have g7 : decide (x.f0 < 5) = false := decide_eq_false t7
          by_cases t8 : 32 ≤ ar
          · have g8 : decide ((ar : Int) ≥ 32) = true := decide_eq_true (by omega)
            have g8' : decide (32 ≤ ar) = true := decide_eq_true (by omega)
            have hff : r = false := by rw [← HF.out]; exact fitR_ar (by omega) t8
            subst hff
            clear HF
            go_wp2_with fail
            go_ret
            exact HP.out _ _ _ _ rfl HT.out.g HT.out.mm (fun e => by cases e)
          have g8 : decide ((ar : Int) ≥ 32) = false := decide_eq_false (by omega)
          have g8' : decide (32 ≤ ar) = false := decide_eq_false (by omega)
          by_cases t9 : 1024 < x.f4.length
          · have g9 : decide ((x.f4.length : Int) > 1024) = true := decide_eq_true (by omega)
            have g9' : decide (1024 < x.f4.length) = true := decide_eq_true (by omega)
            have hff : r = false := by rw [← HF.out]; exact fitR_el (by omega) t9
            subst hff
            clear HF
            go_wp2_with fail
            go_ret
            exact HP.out _ _ _ _ rfl HT.out.g HT.out.mm (fun e => by cases e)
          have g9 : decide ((x.f4.length : Int) > 1024) = false := decide_eq_false (by omega)
          have g9' : decide (1024 < x.f4.length) = false := decide_eq_false (by omega)
          have hgo := fitR_go (b := b) HQ2.out (by omega : 5 ≤ x.f0) (show ar < 32 by omega) (show x.f4.length ≤ 1024 by omega)
          have HG := Aside0.mk hgo
          have hc2 := HCc.out
          have HI0 : Aside0 ((n + 1 : Int) = n + 1 + ndsL (x.f4.take 0) ∧ c = b + (x.f2.size + ksum x.f3 : Nat) + btsL (x.f4.take 0) ∧ okL false (ar + 1) (x.f4.take 0) = true) := ⟨⟨by simp [ndsL], by simp [btsL]; omega, by simp [okL]⟩⟩
          have hn16 : n + 1 ≤ 4096 := by omega
          clear hgo hc2
          go_wp2_with fail
          clear g0 g6 g7 g8 g8' g9 g9' q0 q1 q2 p0 p1 p2 p3 p4
          go_loopg [98] x.f4.length (fun kq v98 w' => ∃ (i : Nat) (ni bi : Int), kq + i = x.f4.length ∧ v98 = .int .i64 (i : Int) ∧ Aside0 (ni = n + 1 + ndsL (x.f4.take i) ∧ bi = b + (x.f2.size + ksum x.f3 : Nat) + btsL (x.f4.take i) ∧ okL false (ar + 1) (x.f4.take i) = true) ∧ (0 ≤ ni ∧ ni ≤ 4096 ∧ 0 ≤ bi ∧ bi ≤ 65536) ∧ Aside0 (Ft w0 w w' m v ni bi A3 c3 A4 c4 x))
          case atStart => exact ⟨0, n + 1, c, by omega, rfl, HI0, by omega, HT⟩
          case round =>
            clear HT HI0
            obtain ⟨i, ni, bi, hi, rfl, HN, hnb, HT⟩ := hrel
            obtain ⟨q0, q1, q2, p0, p1, p2, p3, p4⟩ := HT.out.cells
            by_cases ci : i < x.f4.length
            · have g0 : decide ((i : Int) < (x.f4.length : Int)) = true := decide_eq_true (by omega)
              have g2 : (0 ≤ (i : Int)) = True := eq_true (by omega)
              have g3 : ((i : Int) < (x.f4.length : Int)) = True := eq_true (by omega)
              obtain ⟨j1, rfl⟩ : ∃ j1, gk = j1 + 1 := ⟨gk - 1, by omega⟩
              have hil : x.f4[i]? = some x.f4[i] := List.getElem?_eq_getElem ci
              have hm := List.getElem_mem ci
              have hq := HX.out.es _ hm
              have hz := sz_mem hm
              obtain ⟨y, hq'⟩ : ∃ y, x.f4[i] = y := ⟨_, rfl⟩
              rw [hq'] at hil hq hz
              obtain ⟨ad, Y3, y3, Y4, y4, e1, he0⟩ := el_at HR.out.r4 i ci hil
              have he := he0.below HT.out.z
              have HKt := Aside0.mk (And.intro (ndsL_take hil) (And.intro (btsL_take hil) (okL_take (form := false) (ar := ar + 1) hil)))
              have HPl := Aside0.mk (part_le (form := false) (ar := ar + 1) x.f4 (i + 1))
              have HI := Aside0.mk hi
              have hcy : cnt y ≤ 1000000000000000 := by
                have h1 := HC.out
                have h2 := cnt_eq x
                have h3 := cntL_take hil
                have h4 := cntL_le x.f4 (i + 1)
                omega
              have HY0 := fun W1 hz2 hz3 => ih y (ar + 1) ni bi m w0 W1 (by have := HS.out; omega) hq hcy (by omega) hnb.1 hnb.2.1 hnb.2.2.1 hnb.2.2.2 he0.rd HT.out.lt hz2 hz3
              obtain ⟨ry, hry⟩ : ∃ ry, fitR false (ar + 1) y ni bi = ry := ⟨_, rfl⟩
              have HRy := Aside0.mk hry
              have HY : Aside0 (∀ W1, Below w0.heap.size w0 W1 → W1.heap[m]? = some (.cells #[.int .i64 ni, .int .i64 bi] 72 (0, 0)) → Calls Try.prog 72 #[.pointer (some ⟨m, 0, none⟩), .agg #[.int .i64 y.f0, .int .i64 y.f1, .string y.f2, .slice Y3 y.f3.length y3, .slice Y4 y.f4.length y4], .int .i64 ((ar : Int) + 1), .bool false] W1 fun e we => ∃ n2 b2 : Int, e = .returned (.bool ry) ∧ W1.grownBy we (some m) ∧ we.heap[m]? = some (.cells #[.int .i64 n2, .int .i64 b2] 72 (0, 0)) ∧ (ry = true → n2 = ni + nds y ∧ b2 = bi + bts y)) := ⟨fun W1 h1 h2 => by
                have h := HY0 W1 h1 h2
                rw [show ((ar + 1 : Nat) : Int) = (ar : Int) + 1 by omega] at h
                refine h.mono ?_
                rintro e we ⟨n2, b2, k1, k2, k3, k4⟩
                exact ⟨n2, b2, by rw [← hry]; exact k1, k2, k3, by rw [← hry]; exact k4⟩⟩
              have HTa := Aside0.mk (HT.out.below (new_below wr (.cells #[.int .i64 y.f0, .int .i64 y.f1, .string y.f2, .slice Y3 y.f3.length y3, .slice Y4 y.f4.length y4] 28)))
              obtain ⟨e0, e2, e3, e4, e5, _⟩ := he
              clear hil hq' hi hm hq hz hry he0 hcy HY0
              subst e1
              cases ry with
              | false =>
                have hff : r = false := by
                  rw [← HF.out, HG.out.1]
                  have h1 := HRy.out
                  obtain ⟨k1, k2, k3⟩ := HKt.out
                  obtain ⟨l1, l2, l3⟩ := HPl.out
                  obtain ⟨n1, n2, n3⟩ := HN.out
                  unfold fitR at h1
                  by_cases z1 : okL false (ar + 1) x.f4 = true
                  · have z2 := l3 z1
                    rw [k3, n3, Bool.true_and] at z2
                    rw [z2, Bool.true_and] at h1
                    by_cases z3 : n + 1 + (ndsL x.f4 : Int) ≤ 4096
                    · rw [decide_eq_true (show ni + (nds y : Int) ≤ 4096 by omega), Bool.true_and, decide_eq_false_iff_not] at h1
                      rw [decide_eq_false (show ¬ b + ((x.f2.size + ksum x.f3 : Nat) : Int) + (btsL x.f4 : Int) ≤ 65536 by omega)]
                      simp
                    · rw [decide_eq_false z3]
                      simp
                  · rw [Bool.eq_false_iff.2 z1]
                    rfl
                subst hff
                clear HF
                go_wp2_with (first | (go_at_call 72; (with_reducible refine (HY.out _ HTa.out.z HTa.out.mm).mono ?_); rintro e we ⟨n2, b2, rfl, hg, hmm, him⟩; have HT2 := Aside0.mk (HTa.out.put hg hmm); clear HT HTa; have HT := HT2; clear HT2 hg hmm))
                go_ret
                exact HP.out _ _ _ _ rfl HT.out.g HT.out.mm (fun e => by cases e)
              | true =>
                have hfit : ni + nds y ≤ 4096 ∧ bi + bts y ≤ 65536 ∧ okv false (ar + 1) y = true := by
                  have h1 := HRy.out
                  unfold fitR at h1
                  simp only [Bool.and_eq_true, decide_eq_true_eq] at h1
                  exact ⟨h1.1.2, h1.2, h1.1.1⟩
                have HN2 : Aside0 (ni + nds y = n + 1 + ndsL (x.f4.take (i + 1)) ∧ bi + bts y = b + (x.f2.size + ksum x.f3 : Nat) + btsL (x.f4.take (i + 1)) ∧ okL false (ar + 1) (x.f4.take (i + 1)) = true) := ⟨by
                  obtain ⟨k1, k2, k3⟩ := HKt.out
                  obtain ⟨n1, n2, n3⟩ := HN.out
                  exact ⟨by omega, by omega, by rw [k3, n3, hfit.2.2]; rfl⟩⟩
                have hf1 := hfit.1
                have hf2 := hfit.2.1
                clear hfit HN HKt HPl
                go_wp2_with (first | (go_at_call 72; (with_reducible refine (HY.out _ HTa.out.z HTa.out.mm).mono ?_); rintro e we ⟨n2, b2, rfl, hg, hmm, him⟩; have HT2 := Aside0.mk (HTa.out.put hg hmm); clear HT HTa; have HT := HT2; clear HT2 hg hmm))
                obtain ⟨rfl, rfl⟩ := him (by first | trivial | rfl)
                go_roundg j1
                case measure => omega
                case rel => exact ⟨i + 1, ni + nds y, bi + bts y, by have := HI.out; omega, rfl, HN2, by omega, HT⟩
            · have g0 : decide (i < x.f4.length) = false := decide_eq_false ci
              have hff : r = true := by
                rw [← HF.out, HG.out.1]
                obtain ⟨n1, n2, n3⟩ := HN.out
                rw [List.take_of_length_le (by omega)] at n1 n2 n3
                rw [n3, decide_eq_true (by omega), decide_eq_true (by omega)]
                rfl
              have HE : Aside0 (ni = n + nds x ∧ bi = b + bts x) := ⟨by
                obtain ⟨n1, n2, n3⟩ := HN.out
                rw [List.take_of_length_le (by omega)] at n1 n2 n3
                have h1 := HG.out.2.1
                have h2 := HG.out.2.2
                omega⟩
              subst hff
              clear HF ci hi
              go_wp2
              go_ret
              exact HP.out _ _ _ _ rfl HT.out.g HT.out.mm (fun _ => HE.out)
end Go.Proofs.Ytgpjkojnmeaoiaa.QV
