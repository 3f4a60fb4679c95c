/- value.Obj, by hand: the loop over the keys. -/
import Derived.Test.YtgpjkojnmeaoiaaV19
namespace Go.Proofs.Ytgpjkojnmeaoiaa.QV
open Go Go.RowKit Go.Proofs.YtgpjkojnmeaoiaaW.PrintWords Go.Proofs.YtgpjkojnmeaoiaaW.PrintLast Go.Proofs.YtgpjkojnmeaoiaaW.PrintMore
set_option linter.unusedVariables false
set_option linter.unusedSimpArgs false
set_option maxRecDepth 100000
set_option maxHeartbeats 4000000
def lg (l : List ByteArray) : Bool := l.any (fun k => decide (k.size > 4096))
theorem lg_take {l : List ByteArray} {i : Nat} {k : ByteArray} (h : l[i]? = some k) : lg (l.take (i + 1)) = (lg (l.take i) || decide (k.size > 4096)) := by
  unfold lg
  rw [List.take_add_one, h, List.any_append]
  simp
theorem valueObj_bad (ks : List ByteArray) (es : List S28) (w : World) {A : Option Addr} {c : Nat} {B : Option Addr} {d : Nat} (hlen : ks.length = es.length) (hk : Kd.C Kd.string w A ks.length ks) (hks : ∀ q ∈ ks, q.size ≤ 140737488351232) (he : Kd.C k28 w B es.length es) (hw : ∀ y ∈ es, Wv y ∧ cnt y ≤ 1000000000000000) (hm : es.length ≤ 140737488351232) (hall : es.all vd = true) (hu : ks.all QV.u8 = false) :
    Calls Try.prog 17 #[.slice A ks.length c, .slice B es.length d] w (BadObj w 6) := by
  have HN : Aside0 ((w.alloc (.cells #[.int .i64 0, .int .i64 0, .string ⟨#[]⟩, .slice none 0 0, .slice none 0 0] 28)).heap[w.heap.size]? = some (.cells #[.int .i64 0, .int .i64 0, .string ⟨#[]⟩, .slice none 0 0, .slice none 0 0] 28 (0, 0))) := ⟨heap_alloc_new w _⟩
  have HB := Aside0.mk (new_below w (.cells #[.int .i64 0, .int .i64 0, .string ⟨#[]⟩, .slice none 0 0, .slice none 0 0] 28))
  have HL : Aside0 (w.heap.size < (w.alloc (.cells #[.int .i64 0, .int .i64 0, .string ⟨#[]⟩, .slice none 0 0, .slice none 0 0] 28)).heap.size) := ⟨by simp⟩
  have HQ := Aside0.mk (allC (c := d) es (w.alloc (.cells #[.int .i64 0, .int .i64 0, .string ⟨#[]⟩, .slice none 0 0, .slice none 0 0] 28)) (Kd.C_below he HB.out) hw hm)
  rw [hall, ← hlen] at HQ
  have hkm : ks.length ≤ 140737488351232 := by omega
  have HK := Aside0.mk hk
  have HKs := Aside0.mk hks
  have HU : Aside0 ((ks.drop 0).all QV.u8 = false) := ⟨hu⟩
  rw [← hlen]
  clear he hw hall hlen hk hks hu hm
  go_enter Try.func17, Try.ntmps17
  go_upto_region 6 with (first | (go_at_call 48; (with_reducible refine HQ.out.mono ?_); rintro e we ⟨rfl, hb⟩; have HC := Aside0.mk hb; clear hb; have HN2 := Aside0.mk ((HC.out.block _ HL.out).trans HN.out); have HB2 := Aside0.mk (below_step HB.out HC.out)))
  have H0 : Aside0 (Below w.heap.size w we ∧ we.heap[w.heap.size]? = some (.cells #[.int .i64 0, .int .i64 0, .string ⟨#[]⟩, .slice none 0 0, .slice none 0 0] 28 (0, 0))) := ⟨HB2.out, HN2.out⟩
  clear HN HB HL HQ HC HN2 HB2
  go_wp2_with fail
  go_loopg [6, 23] ks.length (fun kq v6 v23 w' => ∃ (i : Nat), kq + i = ks.length ∧ v23 = .int .i64 (i : Int) ∧ v6 = .bool (lg (ks.take i)) ∧ Aside0 ((ks.drop i).all QV.u8 = false) ∧ Aside0 (Below w.heap.size w w' ∧ w'.heap[w.heap.size]? = some (.cells #[.int .i64 0, .int .i64 0, .string ⟨#[]⟩, .slice none 0 0, .slice none 0 0] 28 (0, 0))))
  case atStart => exact ⟨0, by omega, rfl, rfl, HU, H0⟩
  case round =>
    clear HU H0
    obtain ⟨i, hi, rfl, rfl, HU, HW⟩ := hrel
    have ci : i < ks.length := by
      rcases Nat.lt_or_ge i ks.length with h | h
      · exact h
      · have h2 := HU.out
        rw [List.drop_eq_nil_of_le h] at h2
        cases h2
    have g0 : decide ((i : Int) < (ks.length : Int)) = true := decide_eq_true (by omega)
    have g2 : (0 ≤ (i : Int)) = True := eq_true (by omega)
    have g3 : ((i : Int) < (ks.length : Int)) = True := eq_true (by omega)
    obtain ⟨j1, rfl⟩ : ∃ j1, gk = j1 + 1 := ⟨gk - 1, by omega⟩
    have hil : ks[i]? = some ks[i] := List.getElem?_eq_getElem ci
    have hq := HKs.out _ (List.getElem_mem ci)
    have hd := List.drop_eq_getElem_cons ci
    obtain ⟨y, hq'⟩ : ∃ y, ks[i] = y := ⟨_, rfl⟩
    rw [hq'] at hil hq hd
    obtain ⟨ad, e1, he0⟩ := str_at (Kd.C_below HK.out HW.out.1) i ci hil
    have HT := Aside0.mk (lg_take hil)
    have HU2 : Aside0 ((QV.u8 y && (ks.drop (i + 1)).all QV.u8) = false) := ⟨by have h := HU.out; rw [hd, List.all_cons] at h; exact h⟩
    have HI := Aside0.mk hi
    have HUC := Aside0.mk (fun W => u8C y hq W)
    obtain ⟨b, hb⟩ : ∃ b, QV.u8 y = b := ⟨_, rfl⟩
    obtain ⟨L, hL⟩ : ∃ L, lg (ks.take i) = L := ⟨_, rfl⟩
    rw [hb] at HU2 HUC
    rw [hL] at HT ⊢
    clear hil hq' hi hd hb hL HU
    subst e1
    cases b with
    | false =>
      go_wp2_with (first | (go_at_call 43; (with_reducible refine (HUC.out _).mono ?_); rintro e we2 ⟨rfl, hd⟩; have HN2 := Aside0.mk (((drawn_below hd).block _ (Array.getElem?_eq_some_iff.1 HW.out.2).1).trans HW.out.2); have HB2 := Aside0.mk (step_drawn HW.out.1 hd); clear hd; obtain ⟨t0, t1, t2, t3, t4, t5⟩ := zero5 HN2.out))
      obtain ⟨W', hW', ⟨u0, u1, u2, u3, u4⟩, hg, hz⟩ := fill5 HN2.out HB2.out (Nat.le_refl _) (.int .i64 0) (.int .i64 0) (.string ⟨#[]⟩) (.slice none 0 0) (.slice none 0 0)
      rw [hW']
      exact bodyPost_ret (v := .tuple #[.agg #[.int .i64 0, .int .i64 0, .string ⟨#[]⟩, .slice none 0 0, .slice none 0 0], .int .i64 6]) (by simp [results, Try.results17, go_sem, u0, u1, u2, u3, u4]) rfl ⟨rfl, hz⟩
    | true =>
      cases L with
      | false =>
        go_wp2_with (first | (go_at_call 43; (with_reducible refine (HUC.out _).mono ?_); rintro e we2 ⟨rfl, hd⟩; have HN2 := Aside0.mk (((drawn_below hd).block _ (Array.getElem?_eq_some_iff.1 HW.out.2).1).trans HW.out.2); have HB2 := Aside0.mk (step_drawn HW.out.1 hd); clear hd))
        go_roundg j1
        case measure => omega
        case rel => exact ⟨i + 1, by have := HI.out; omega, rfl, by rw [HT.out, Bool.false_or]; exact congrArg Value.bool (decide_eq_decide.2 (by omega)), ⟨by simpa using HU2.out⟩, ⟨HB2.out, HN2.out⟩⟩
      | true =>
        go_wp2_with (first | (go_at_call 43; (with_reducible refine (HUC.out _).mono ?_); rintro e we2 ⟨rfl, hd⟩; have HN2 := Aside0.mk (((drawn_below hd).block _ (Array.getElem?_eq_some_iff.1 HW.out.2).1).trans HW.out.2); have HB2 := Aside0.mk (step_drawn HW.out.1 hd); clear hd))
        go_roundg j1
        case measure => omega
        case rel => exact ⟨i + 1, by have := HI.out; omega, rfl, by rw [HT.out]; rfl, ⟨by simpa using HU2.out⟩, ⟨HB2.out, HN2.out⟩⟩
end Go.Proofs.Ytgpjkojnmeaoiaa.QV
