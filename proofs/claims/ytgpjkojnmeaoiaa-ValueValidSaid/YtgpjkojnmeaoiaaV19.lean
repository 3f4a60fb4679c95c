/- value.Obj, by hand. -/
import Derived.Test.YtgpjkojnmeaoiaaV11
import Derived.Test.YtgpjkojnmeaoiaaV18
namespace Go.Proofs.Ytgpjkojnmeaoiaa.QV
open Go Go.RowKit Go.Proofs.YtgpjkojnmeaoiaaW.PrintWords Go.Proofs.YtgpjkojnmeaoiaaW.PrintLast Go.Proofs.YtgpjkojnmeaoiaaW.PrintMore
set_option linter.unusedVariables false
set_option linter.unusedSimpArgs false
set_option maxRecDepth 100000
set_option maxHeartbeats 4000000
def BadObj (w : World) (n : Int) (e : Ending) (w' : World) : Prop := e = .returned (.tuple #[.agg #[.int .i64 0, .int .i64 0, .string ⟨#[]⟩, .slice none 0 0, .slice none 0 0], .int .i64 n]) ∧ Below w.heap.size w w'
theorem valueObj_len (ks : List ByteArray) (es : List S28) (w : World) {A : Option Addr} {c : Nat} {B : Option Addr} {d : Nat} (hne : ks.length ≠ es.length) (hk : ks.length ≤ 140737488351232) (he : es.length ≤ 140737488351232) :
    Calls Try.prog 17 #[.slice A ks.length c, .slice B es.length d] w (BadObj w 3) := by
  have HN : Aside0 ((w.alloc (.cells #[.int .i64 0, .int .i64 0, .string ⟨#[]⟩, .slice none 0 0, .slice none 0 0] 28)).heap[w.heap.size]? = some (.cells #[.int .i64 0, .int .i64 0, .string ⟨#[]⟩, .slice none 0 0, .slice none 0 0] 28 (0, 0))) := ⟨heap_alloc_new w _⟩
  have HB := Aside0.mk (new_below w (.cells #[.int .i64 0, .int .i64 0, .string ⟨#[]⟩, .slice none 0 0, .slice none 0 0] 28))
  have g1 : decide ((ks.length : Int) = (es.length : Int)) = false := decide_eq_false (by omega)
  have g2 : decide (ks.length = es.length) = false := decide_eq_false hne
  have g3 : ((ks.length : Int) == (es.length : Int)) = false := by rw [beq_eq_false_iff_ne]; omega
  have g4 : (ks.length == es.length) = false := by rw [beq_eq_false_iff_ne]; exact hne
  clear hk he
  go_enter Try.func17, Try.ntmps17
  obtain ⟨t0, t1, t2, t3, t4, t5⟩ := zero5 HN.out
  go_wp2_with fail
  exact bodyPost_ret (v := .tuple #[.agg #[.int .i64 0, .int .i64 0, .string ⟨#[]⟩, .slice none 0 0, .slice none 0 0], .int .i64 3]) (by simp [results, Try.results17, go_sem, t1, t2, t3, t4, t5]) rfl ⟨rfl, HB.out⟩
theorem valueObj_inv (ks : List ByteArray) (es : List S28) (w : World) {A : Option Addr} {c : Nat} {B : Option Addr} {d : Nat} (hlen : ks.length = es.length) (he : Kd.C k28 w B es.length es) (hw : ∀ y ∈ es, Wv y ∧ cnt y ≤ 1000000000000000) (hm : es.length ≤ 140737488351232) (hall : es.all vd = false) :
    Calls Try.prog 17 #[.slice A ks.length c, .slice B es.length d] w (BadObj w 1) := by
  have HN : Aside0 ((w.alloc (.cells #[.int .i64 0, .int .i64 0, .string ⟨#[]⟩, .slice none 0 0, .slice none 0 0] 28)).heap[w.heap.size]? = some (.cells #[.int .i64 0, .int .i64 0, .string ⟨#[]⟩, .slice none 0 0, .slice none 0 0] 28 (0, 0))) := ⟨heap_alloc_new w _⟩
  have HB := Aside0.mk (new_below w (.cells #[.int .i64 0, .int .i64 0, .string ⟨#[]⟩, .slice none 0 0, .slice none 0 0] 28))
  have HL : Aside0 (w.heap.size < (w.alloc (.cells #[.int .i64 0, .int .i64 0, .string ⟨#[]⟩, .slice none 0 0, .slice none 0 0] 28)).heap.size) := ⟨by simp⟩
  have HQ := Aside0.mk (allC (c := d) es (w.alloc (.cells #[.int .i64 0, .int .i64 0, .string ⟨#[]⟩, .slice none 0 0, .slice none 0 0] 28)) (Kd.C_below he HB.out) hw hm)
  rw [hall] at HQ
  rw [hlen]
  clear he hw hall hlen
  go_enter Try.func17, Try.ntmps17
  go_wp2_with (first | (go_at_call 48; (with_reducible refine HQ.out.mono ?_); rintro e we ⟨rfl, hb⟩; have HC := Aside0.mk hb; clear hb; have HN2 := Aside0.mk ((HC.out.block _ HL.out).trans HN.out); have HB2 := Aside0.mk (below_step HB.out HC.out); obtain ⟨t0, t1, t2, t3, t4, t5⟩ := zero5 HN2.out))
  obtain ⟨W', hW', ⟨u0, u1, u2, u3, u4⟩, hg, hz⟩ := fill5 HN2.out HB2.out (Nat.le_refl _) (.int .i64 0) (.int .i64 0) (.string ⟨#[]⟩) (.slice none 0 0) (.slice none 0 0)
  rw [hW']
  exact bodyPost_ret (v := .tuple #[.agg #[.int .i64 0, .int .i64 0, .string ⟨#[]⟩, .slice none 0 0, .slice none 0 0], .int .i64 1]) (by simp [results, Try.results17, go_sem, u0, u1, u2, u3, u4]) rfl ⟨rfl, hz⟩
end Go.Proofs.Ytgpjkojnmeaoiaa.QV
