/- vals.Fit, by hand. -/
import Derived.Test.YtgpjkojnmeaoiaaV14
namespace Go.Proofs.Ytgpjkojnmeaoiaa.QV
open Go Go.RowKit Go.Proofs.YtgpjkojnmeaoiaaW.PrintWords Go.Proofs.YtgpjkojnmeaoiaaW.PrintLast Go.Proofs.YtgpjkojnmeaoiaaW.PrintMore
set_option linter.unusedVariables false
set_option linter.unusedSimpArgs false
set_option maxRecDepth 100000
set_option maxHeartbeats 4000000
theorem cells5 {W : World} {b : Nat} {v0 v1 v2 v3 v4 : Value} (h : W.heap[b]? = some (.cells #[v0, v1, v2, v3, v4] 28 (0, 0))) : W.cell? ⟨b, 0, none⟩ = some v0 ∧ W.cell? ⟨b, 1, none⟩ = some v1 ∧ W.cell? ⟨b, 2, none⟩ = some v2 ∧ W.cell? ⟨b, 3, none⟩ = some v3 ∧ W.cell? ⟨b, 4, none⟩ = some v4 := by
  simp [World.cell?, h]
/-- Within the limits of nodes, sizes and depth. -/
def ft (x : S28) : Bool := fitR false 0 x 0 0
theorem fitTopC (x : S28) (w : World) {A3 : Option Addr} {c3 : Nat} {A4 : Option Addr} {c4 : Nat} (hx : Wv x) (hc : cnt x ≤ 1000000000000000) (hr : Rd w A3 c3 A4 c4 x) :
    Calls Try.prog 49 #[.agg #[.int .i64 x.f0, .int .i64 x.f1, .string x.f2, .slice A3 x.f3.length c3, .slice A4 x.f4.length c4]] w fun e w' => e = .returned (if ft x = true then .tuple #[.agg #[.int .i64 x.f0, .int .i64 x.f1, .string x.f2, .slice A3 x.f3.length c3, .slice A4 x.f4.length c4], .int .i64 0] else .tuple #[.agg #[.int .i64 0, .int .i64 0, .string ⟨#[]⟩, .slice none 0 0, .slice none 0 0], .int .i64 2]) ∧ Below w.heap.size w w' := by
  obtain ⟨b, hb⟩ : ∃ b, w.heap.size = b := ⟨_, rfl⟩
  have s1 : (w.alloc (.cells #[.int .i64 x.f0, .int .i64 x.f1, .string x.f2, .slice A3 x.f3.length c3, .slice A4 x.f4.length c4] 28)).heap.size = b + 1 := by simp [hb]
  have s2 : ((w.alloc (.cells #[.int .i64 x.f0, .int .i64 x.f1, .string x.f2, .slice A3 x.f3.length c3, .slice A4 x.f4.length c4] 28)).alloc (.cells #[.int .i64 0, .int .i64 0, .string ⟨#[]⟩, .slice none 0 0, .slice none 0 0] 28)).heap.size = b + 2 := by simp [hb]
  have hB1 := Bv.new hr
  rw [hb] at hB1
  have ha1 := new_below w (.cells #[.int .i64 x.f0, .int .i64 x.f1, .string x.f2, .slice A3 x.f3.length c3, .slice A4 x.f4.length c4] 28)
  have ha2 := new_below (w.alloc (.cells #[.int .i64 x.f0, .int .i64 x.f1, .string x.f2, .slice A3 x.f3.length c3, .slice A4 x.f4.length c4] 28)) (.cells #[.int .i64 0, .int .i64 0, .string ⟨#[]⟩, .slice none 0 0, .slice none 0 0] 28)
  have hn2 := heap_alloc_new (w.alloc (.cells #[.int .i64 x.f0, .int .i64 x.f1, .string x.f2, .slice A3 x.f3.length c3, .slice A4 x.f4.length c4] 28)) (.cells #[.int .i64 0, .int .i64 0, .string ⟨#[]⟩, .slice none 0 0, .slice none 0 0] 28)
  rw [s1] at hn2
  have hB2 := hB1.below ha2
  have hbb2 := below_step ha1 ha2
  have ha3 := new_below ((w.alloc (.cells #[.int .i64 x.f0, .int .i64 x.f1, .string x.f2, .slice A3 x.f3.length c3, .slice A4 x.f4.length c4] 28)).alloc (.cells #[.int .i64 0, .int .i64 0, .string ⟨#[]⟩, .slice none 0 0, .slice none 0 0] 28)) (.cells #[.int .i64 0, .int .i64 0] 72)
  have hM3 := meter_new ((w.alloc (.cells #[.int .i64 x.f0, .int .i64 x.f1, .string x.f2, .slice A3 x.f3.length c3, .slice A4 x.f4.length c4] 28)).alloc (.cells #[.int .i64 0, .int .i64 0, .string ⟨#[]⟩, .slice none 0 0, .slice none 0 0] 28))
  rw [s2] at hM3
  have hB3 := hB2.below ha3
  have hn3 := (ha3.block (b + 1) (by omega)).trans hn2
  have hbb3 := below_step hbb2 ha3
  have HQ := Aside0.mk (fit0 false x w (((w.alloc (.cells #[.int .i64 x.f0, .int .i64 x.f1, .string x.f2, .slice A3 x.f3.length c3, .slice A4 x.f4.length c4] 28)).alloc (.cells #[.int .i64 0, .int .i64 0, .string ⟨#[]⟩, .slice none 0 0, .slice none 0 0] 28)).alloc (.cells #[.int .i64 0, .int .i64 0] 72)) hx hc hr (b + 2) (by omega) hbb3 hM3)
  have HB := Aside0.mk hB3
  have HZ := Aside0.mk hn3
  have HW := Aside0.mk hbb3
  have hq0 := hB2.cells
  have HV := Aside0.mk hb
  have HS := Aside0.mk (show (((w.alloc (.cells #[.int .i64 x.f0, .int .i64 x.f1, .string x.f2, .slice A3 x.f3.length c3, .slice A4 x.f4.length c4] 28)).alloc (.cells #[.int .i64 0, .int .i64 0, .string ⟨#[]⟩, .slice none 0 0, .slice none 0 0] 28)).alloc (.cells #[.int .i64 0, .int .i64 0] 72)).heap.size = b + 3 by simp [hb])
  obtain ⟨r, hvr⟩ : ∃ r, ft x = r := ⟨_, rfl⟩
  rw [hvr]
  unfold ft at hvr
  rw [hvr] at HQ
  clear hB1 ha1 ha2 hn2 hB2 hbb2 ha3 hM3 hB3 hn3 hbb3 hx hc hr s1 s2 hvr hq0 HV
  subst hb
  go_enter Try.func49, Try.ntmps49
  have hrow := HB.out.cells
  obtain ⟨q0, q1, q2, q3, q4⟩ := hrow
  cases r with
  | false =>
    go_wp2_with (first | (go_at_call 72; (with_reducible refine HQ.out.mono ?_); rintro e we ⟨rfl, hg⟩; have HG := Aside0.mk hg; clear hg; have hlt := HS.out; have HZ2 := Aside0.mk ((HG.out.block (w.heap.size + 1) (by omega) (fun e => by have := Option.some.inj e; omega)).trans HZ.out); have HB2 := Aside0.mk (below_of_grown HW.out (by omega) (by omega) HG.out); clear hlt; obtain ⟨t0, t1, t2, t3, t4, t5⟩ := zero5 HZ2.out))
    obtain ⟨W', hW', ⟨u0, u1, u2, u3, u4⟩, hg, hz⟩ := fill5 HZ2.out HB2.out (by omega) (.int .i64 0) (.int .i64 0) (.string ⟨#[]⟩) (.slice none 0 0) (.slice none 0 0)
    rw [hW']
    exact bodyPost_ret (v := .tuple #[.agg #[.int .i64 0, .int .i64 0, .string ⟨#[]⟩, .slice none 0 0, .slice none 0 0], .int .i64 2]) (by simp [results, Try.results49, go_sem, u0, u1, u2, u3, u4]) rfl ⟨rfl, hz⟩
  | true =>
    go_wp2_with (first | (go_at_call 72; (with_reducible refine HQ.out.mono ?_); rintro e we ⟨rfl, hg⟩; have HG := Aside0.mk hg; clear hg; have hlt := HS.out; have HZ2 := Aside0.mk ((HG.out.block (w.heap.size + 1) (by omega) (fun e => by have := Option.some.inj e; omega)).trans HZ.out); have HV2 := Aside0.mk ((HG.out.block w.heap.size (by omega) (fun e => by have := Option.some.inj e; omega)).trans HB.out.blk); have HB2 := Aside0.mk (below_of_grown HW.out (by omega) (by omega) HG.out); clear hlt; obtain ⟨t0, t1, t2, t3, t4, t5⟩ := zero5 HZ2.out; obtain ⟨p0, p1, p2, p3, p4⟩ := cells5 HV2.out))
    obtain ⟨W', hW', ⟨u0, u1, u2, u3, u4⟩, hg, hz⟩ := fill5 HZ2.out HB2.out (by omega) (.int .i64 x.f0) (.int .i64 x.f1) (.string x.f2) (.slice A3 x.f3.length c3) (.slice A4 x.f4.length c4)
    rw [hW']
    exact bodyPost_ret (v := .tuple #[.agg #[.int .i64 x.f0, .int .i64 x.f1, .string x.f2, .slice A3 x.f3.length c3, .slice A4 x.f4.length c4], .int .i64 0]) (by simp [results, Try.results49, go_sem, u0, u1, u2, u3, u4]) rfl ⟨rfl, hz⟩
end Go.Proofs.Ytgpjkojnmeaoiaa.QV
