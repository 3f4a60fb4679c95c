/- awake, by hand: the plain half. -/
import Derived.Test.YtgpjkojnmeaoiaaV21
import Derived.Test.YtgpjkojnmeaoiaaV22
namespace Go.Proofs.Ytgpjkojnmeaoiaa.QV
open Go Go.RowKit Go.Proofs.YtgpjkojnmeaoiaaW.PrintWords Go.Proofs.YtgpjkojnmeaoiaaW.PrintLast Go.Proofs.YtgpjkojnmeaoiaaW.PrintMore
set_option linter.unusedVariables false
set_option linter.unusedSimpArgs false
set_option maxRecDepth 100000
set_option maxHeartbeats 4000000
theorem perm_unique {α : Type} {r : α → α → Prop} (ha : ∀ a b, r a b → r b a → False) : ∀ (l m : List α), l.Perm m → l.Pairwise r → m.Pairwise r → l = m
  | [], m, h, _, _ => (List.Perm.nil_eq h)
  | a :: l, [], h, _, _ => absurd h.length_eq (by simp)
  | a :: l, b :: m, h, h1, h2 => by
    have hab : a = b := by
      have m1 := h.mem_iff.1 (List.mem_cons_self (a := a) (l := l))
      have m2 := h.mem_iff.2 (List.mem_cons_self (a := b) (l := m))
      rcases List.mem_cons.1 m1 with e | m1
      · exact e
      rcases List.mem_cons.1 m2 with e | m2
      · exact e.symm
      exact (ha a b ((List.pairwise_cons.1 h1).1 b m2) ((List.pairwise_cons.1 h2).1 a m1)).elim
    subst hab
    rw [perm_unique ha l m (List.Perm.cons_inv h) (List.pairwise_cons.1 h1).2 (List.pairwise_cons.1 h2).2]
def sA : ByteArray := ⟨#[97]⟩
def sB : ByteArray := ⟨#[98]⟩
def nm1 (n : Int) : S28 := ⟨3, n, ⟨#[]⟩, [], []⟩
def awX : S28 := ⟨6, 0, ⟨#[]⟩, [sA, sB], [nm1 2, nm1 3]⟩
theorem u8A : QV.u8 sA = true := by kernel_rfl
theorem u8B : QV.u8 sB = true := by kernel_rfl
theorem u8E : QV.u8 (⟨#[]⟩ : ByteArray) = true := by kernel_rfl
theorem vd_nm (n : Int) : vd (nm1 n) = true := by
  unfold vd fitR nm1
  rw [okv_eq, nds_eq, bts_eq]
  simp [fm, kz, u8E, ksum]
  show (0 : Int) ≤ 65536
  decide
theorem bltAB : blt sA sB = true := by kernel_rfl
theorem okv_nm (form : Bool) (ar : Nat) (n : Int) : okv form ar (nm1 n) = true := by
  rw [okv_eq]
  simp [nm1, fm, kz, u8E]
theorem nds_nm (n : Int) : nds (nm1 n) = 1 := by rw [nds_eq]; simp [nm1]
theorem bts_nm (n : Int) : bts (nm1 n) = 0 := by rw [bts_eq]; simp [nm1, ksum]; rfl
theorem awFit (form : Bool) : fitR form 0 awX 0 0 = true := by
  unfold fitR
  rw [okv_eq, nds_eq, bts_eq]
  have h1 : sA.size = 1 := rfl
  have h2 : sB.size = 1 := rfl
  simp [awX, fm, kz, ko, u8A, u8B, u8E, bltAB, okL, okv_nm, ndsL, nds_nm, btsL, bts_nm, ksum, h1, h2]
  show (0 : Int) + _ ≤ 65536
  decide
theorem vd_awX : vd awX = true := awFit true
def awKs : List ByteArray := [sB, sA, sB]
def awEs : List S28 := [nm1 1, nm1 2, nm1 3]
theorem wv_nm (n : Int) (h : -9223372036854775808 ≤ n ∧ n ≤ 9223372036854775807) : Wv (nm1 n) := .mk _ (by simp [nm1]) h (show (⟨#[]⟩ : ByteArray).size ≤ 140737488351232 from Nat.zero_le _) (by simp [nm1]) (by simp [nm1]) (by simp [nm1]) (by simp [nm1])
theorem wv_awX : Wv awX := .mk _ (by simp [awX]) (by simp [awX]) (show (⟨#[]⟩ : ByteArray).size ≤ 140737488351232 from Nat.zero_le _) (by simp [awX]) (by simp [awX, show sA.size = 1 from rfl, show sB.size = 1 from rfl]) (by simp [awX]) (by simp [awX, wv_nm])
theorem cnt_nm (n : Int) : cnt (nm1 n) = 1 := by rw [cnt_eq]; simp [nm1, ksz, cntL]; rfl
theorem cnt_awX : cnt awX ≤ 100 := by
  rw [cnt_eq]
  simp [awX, ksz, cntL, cnt_nm, show sA.size = 1 from rfl, show sB.size = 1 from rfl]
  show 1 + 0 ≤ 94
  decide
theorem aw_ov {ms : List Mem} (hp : ms.Perm (mems awKs)) (hs : ms.Pairwise lexM) : ov awEs ms = awX := by
  have e : ms = [(sA, 1), (sB, 0), (sB, 2)] := by
    refine perm_unique (r := lexM) (fun a b h k => ?_) _ _ (hp.trans ?_) hs ?_
    · have h1 := lexM_trans h k
      rcases h1 with h1 | ⟨_, h1⟩
      · rw [blt_irrefl] at h1; cases h1
      · omega
    · show List.Perm [(sB, 0), (sA, 1), (sB, 2)] [(sA, 1), (sB, 0), (sB, 2)]
      exact List.Perm.swap _ _ _
    · simp [lexM, bltAB]
  subst e
  have hAB : ¬ sB = sA := by intro h; have := congrArg (fun x : ByteArray => x.data) h; revert this; decide
  simp [ov, dd, awX, ge, awEs, hAB]
end Go.Proofs.Ytgpjkojnmeaoiaa.QV
