/- Summaries in a row. -/
import Derived.Test.YtkhnifehcnlpjaaDoorS1
namespace Go.Proofs.YtkhnifehcnlpjaaDoor.QC
open Go Go.RowKit Go.Proofs.YtkhnifehcnlpjaaDoorW.PrintWords Go.Proofs.YtkhnifehcnlpjaaDoorW.PrintLast Go.Proofs.YtkhnifehcnlpjaaDoorW.PrintMore
set_option linter.unusedVariables false
set_option linter.unusedSimpArgs false
set_option maxRecDepth 100000
set_option maxHeartbeats 4000000
def sm (x : S26) : Smm := ⟨x.f0, x.f1.f0, x.f1.f1, x.f1.f2, x.f2.f0, x.f2.f1, x.f2.f2⟩
/-- A summary in seven cells from an address on. -/
structure El (w : World) (ad : Addr) (A0 : Option Addr) (c0 : Nat) (A1 : Option Addr) (c1 : Nat) (A2 : Option Addr) (c2 : Nat) (x : Smm) : Prop where
  h0 : w.cell? ad = some (.int .i64 x.n)
  h1 : w.cell? ⟨ad.block, ad.off + 1, none⟩ = some (.int .i64 x.e0)
  h2 : w.cell? ⟨ad.block, ad.off + 2, none⟩ = some (.int .i64 x.e1)
  h3 : w.cell? ⟨ad.block, ad.off + 3, none⟩ = some (.int .i64 x.e2)
  h4 : w.cell? ⟨ad.block, ad.off + 4, none⟩ = some (.slice A0 x.l0.length c0)
  h5 : w.cell? ⟨ad.block, ad.off + 5, none⟩ = some (.slice A1 x.l1.length c1)
  h6 : w.cell? ⟨ad.block, ad.off + 6, none⟩ = some (.slice A2 x.l2.length c2)
  rd : RdS w A0 c0 A1 c1 A2 c2 x
theorem El.below {w w' : World} {ad : Addr} {A0 c0 A1 c1 A2 c2} {x : Smm} (h : El w ad A0 c0 A1 c1 A2 c2 x) (hb : Below w.heap.size w w') : El w' ad A0 c0 A1 c1 A2 c2 x :=
  ⟨(hb.cell (World.block_lt_of_cell? w _ h.h0)).trans h.h0, (hb.cell (World.block_lt_of_cell? w _ h.h1)).trans h.h1, (hb.cell (World.block_lt_of_cell? w _ h.h2)).trans h.h2, (hb.cell (World.block_lt_of_cell? w _ h.h3)).trans h.h3,
    (hb.cell (World.block_lt_of_cell? w _ h.h4)).trans h.h4, (hb.cell (World.block_lt_of_cell? w _ h.h5)).trans h.h5, (hb.cell (World.block_lt_of_cell? w _ h.h6)).trans h.h6, h.rd.below hb⟩
theorem el_at {w : World} {A : Option Addr} {n : Nat} {l : List S26} (h : Kd.C k26 w A n l) (i : Nat) (hi : i < n) {x : S26} (hx : l[i]? = some x) : ∃ ad A0 c0 A1 c1 A2 c2, A = some ad ∧ El w (ad.add (i * 7)) A0 c0 A1 c1 A2 c2 (sm x) := by
  obtain ⟨ad, A0, c0, A1, c1, A2, c2, e, a0, a1, a2, a3, a4, a5, a6, b1, b2, b3, b4, b5, b6⟩ := at_T26 h (i : Int) (by omega) (by omega)
  have e2 : rd_T26 l (i : Int) = x := by unfold rd_T26; rw [Int.toNat_natCast, List.getD_eq_getElem?_getD, hx]; rfl
  subst e2
  rw [Int.toNat_natCast] at *
  exact ⟨ad, A0, c0, A1, c1, A2, c2, e, ⟨a0, a1, a2, a3, a4, a5, a6, ⟨b1, b3, b5, b2, b4, b6⟩⟩⟩
end Go.Proofs.YtkhnifehcnlpjaaDoor.QC
