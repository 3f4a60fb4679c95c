/- value.copies, by hand. -/
import Derived.Test.YtgpjkojnmeaoiaaV10
namespace Go.Proofs.Ytgpjkojnmeaoiaa.QV
open Go Go.RowKit Go.Proofs.YtgpjkojnmeaoiaaW.PrintWords Go.Proofs.YtgpjkojnmeaoiaaW.PrintLast Go.Proofs.YtgpjkojnmeaoiaaW.PrintMore
set_option linter.unusedVariables false
set_option linter.unusedSimpArgs false
set_option maxRecDepth 100000
set_option maxHeartbeats 4000000
theorem copiesC (l : List S28) (w : World) {A : Option Addr} {c : Nat} (hl : Kd.C k28 w A l.length l) (hw : ∀ y ∈ l, cnt y ≤ 1000000000000) (hm : l.length ≤ 1000000000000) :
    Calls Try.prog 51 #[.slice A l.length c] w fun e w' => ∃ X d, e = .returned (.slice X l.length d) ∧ k28.R 28 w' w.heap.size (fun _ => True) (.slice X l.length d) l ∧ Below w.heap.size w w' := by
  have HL := Aside0.mk hl
  have HWv := Aside0.mk hw
  have H0 : Aside0 (Below w.heap.size w w ∧ k28.R 28 w w.heap.size (fun _ => True) (.slice none 0 0) (l.take 0)) := ⟨Below.refl _ _, Kd.R_nil _ _ _ _ _⟩
  clear hl hw
  go_enter Try.func51, Try.ntmps51
  go_wp2_with fail
  go_loopg [3, 8] l.length (fun kq v3 v8 w' => ∃ (i : Nat) (X : Option Addr) (n d : Nat), kq + i = l.length ∧ v8 = .int .i64 (i : Int) ∧ v3 = .slice X n d ∧ Aside0 (Below w.heap.size w w' ∧ k28.R 28 w' w.heap.size (fun _ => True) (.slice X n d) (l.take i)))
  case atStart => exact ⟨0, none, 0, 0, by omega, rfl, rfl, H0⟩
  case round =>
    clear H0
    obtain ⟨i, X, n, d, hi, rfl, rfl, HS⟩ := hrel
    by_cases ci : i < l.length
    · have g0 : decide ((i : Int) < (l.length : Int)) = true := decide_eq_true (by omega)
      have g2 : (0 ≤ (i : Int)) = True := eq_true (by omega)
      have g3 : ((i : Int) < (l.length : Int)) = True := eq_true (by omega)
      obtain ⟨j1, rfl⟩ : ∃ j1, gk = j1 + 1 := ⟨gk - 1, by omega⟩
      have hil : l[i]? = some l[i] := List.getElem?_eq_getElem ci
      have hq := HWv.out _ (List.getElem_mem ci)
      obtain ⟨y, hq'⟩ : ∃ y, l[i] = y := ⟨_, rfl⟩
      rw [hq'] at hil hq
      obtain ⟨ad, Y3, y3, Y4, y4, e1, he0⟩ := el_at (Kd.C_below HL.out HS.out.1) i ci hil
      have HTk : Aside0 (l.take (i + 1) = l.take i ++ [y]) := ⟨by rw [List.take_add_one, hil]; rfl⟩
      have HI := Aside0.mk hi
      have HLn := Aside0.mk hm
      have HP := Aside0.mk (new_below wr (.cells #[.int .i64 y.f0, .int .i64 y.f1, .string y.f2, .slice Y3 y.f3.length y3, .slice Y4 y.f4.length y4] 28))
      have HY := Aside0.mk (copyC _ y (wr.alloc (.cells #[.int .i64 y.f0, .int .i64 y.f1, .string y.f2, .slice Y3 y.f3.length y3, .slice Y4 y.f4.length y4] 28)) (Nat.lt_succ_self _) hq (he0.rd.below HP.out))
      have hok : Aside0 (∀ k, (wr.alloc (.cells #[.int .i64 y.f0, .int .i64 y.f1, .string y.f2, .slice Y3 y.f3.length y3, .slice Y4 y.f4.length y4] 28)).heap.size ≤ k → True ∧ some k ≠ (Value.slice X n d).ownBlock) := ⟨fun k hk => ⟨trivial, fun e => by
        have h1 := ((Kd.R_bound HS.out.2).1 k e.symm).2.2.1
        simp at hk
        omega⟩⟩
      obtain ⟨e0, e2, e3, e4, e5, _⟩ := he0
      clear hil hq' hi hq
      subst e1
      go_wp2_with (first | (go_at_call 66; (with_reducible refine HY.out.mono ?_); rintro e we ⟨u3, u4, rfl, hM, hb⟩; have HM := Aside0.mk hM; have Hb := Aside0.mk hb; have HSw : Aside0 (Below w.heap.size w we ∧ k28.R 28 we w.heap.size (fun _ => True) (.slice X n d) (l.take i)) := ⟨below_step (below_step HS.out.1 HP.out) hb, Kd.R_mono (Kd.R_move (Kd.R_bound (Kd.R_mono (Kd.R_move (Kd.R_bound HS.out.2) (fun k hk => HP.out.block k hk.2.2.1)) (fun k hk => hk.1))) (fun k hk => hb.block k hk.2.2.1)) (fun k hk => trivial)⟩; clear hM hb) | (at_builtin; refine Kd.R_append (P := Try.prog) k28 (w0 := w) (W := we) w.heap.size rfl (.tmp 12) (.tmp 15) 23 28 (.agg #[.int .i64 0, .int .i64 0, .string ⟨#[]⟩, .slice none 0 0, .slice none 0 0]) 80 rfl Try.underlying23 info28 rfl (by decide) (by omega) (.slice X n d) (l.take i) y [.int .i64 y.f0, .int .i64 y.f1, .string y.f2, u3, u4] (fun _ => True) (fun k => (wr.alloc (.cells #[.int .i64 y.f0, .int .i64 y.f1, .string y.f2, .slice Y3 y.f3.length y3, .slice Y4 y.f4.length y4] 28)).heap.size ≤ k) rfl rfl (k28.M_lower (Nat.le_trans (Below.size HS.out.1) (Below.size HP.out)) (k28.M_mono (fun k hk => hk.2.1) (k28.M_bound HM.out))) hok.out (fun _ _ => trivial) HSw.out.2 HSw.out.1 (Below.size HSw.out.1) (by rw [List.length_take]; have := HLn.out; omega) ?_; intro v1 w1 ho hb hg hx; obtain ⟨X5, d5, e5⟩ := Kd.R_slice ho; obtain ⟨n5, hn5⟩ : ∃ n5, (l.take i ++ [y]).length = n5 := ⟨_, rfl⟩; rw [hn5] at e5; clear hn5; subst e5; have HS2 := Aside0.mk (And.intro hb ho); clear ho hb hg hx))
      go_roundg j1
      case measure => omega
      case rel => exact ⟨i + 1, X5, n5, d5, by have := HI.out; omega, rfl, rfl, ⟨by rw [HTk.out]; exact HS2.out⟩⟩
    · have g0 : decide (i < l.length) = false := decide_eq_false ci
      have HS1 : Aside0 (Below w.heap.size w wr ∧ k28.R 28 wr w.heap.size (fun _ => True) (.slice X n d) l) := ⟨by have h := HS.out; rw [List.take_of_length_le (by omega)] at h; exact h⟩
      obtain ⟨X', d', e'⟩ := Kd.R_slice HS1.out.2
      injection e' with a1 a2 a3
      subst a1 a3
      have HA2 := Aside0.mk a2
      clear HS ci hi a2
      go_wp2
      go_ret
      exact ⟨X, d, by rw [← HA2.out]; rfl, by rw [← HA2.out]; exact HS1.out.2, HS1.out.1⟩
end Go.Proofs.Ytgpjkojnmeaoiaa.QV
