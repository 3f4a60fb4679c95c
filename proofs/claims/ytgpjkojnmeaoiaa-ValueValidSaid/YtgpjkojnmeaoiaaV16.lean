/- vals.Obj: the members' row and its sort, by hand. -/
import Derived.Test.YtgpjkojnmeaoiaaV9
import Derived.Test.YtgpjkojnmeaoiaaV15
namespace Go.Proofs.Ytgpjkojnmeaoiaa.QV
open Go Go.RowKit Go.Proofs.YtgpjkojnmeaoiaaW.PrintWords Go.Proofs.YtgpjkojnmeaoiaaW.PrintLast Go.Proofs.YtgpjkojnmeaoiaaW.PrintMore
set_option linter.unusedVariables false
set_option linter.unusedSimpArgs false
set_option maxRecDepth 100000
set_option maxHeartbeats 4000000
def memR : Mem → List Value → Prop := fun m cs => cs = [.string m.1, .int .i64 m.2]
def mems (l : List ByteArray) : List Mem := l.mapIdx (fun i k => (k, (i : Int)))
theorem mems_take {l : List ByteArray} {i : Nat} {k : ByteArray} (h : l[i]? = some k) : mems (l.take (i + 1)) = mems (l.take i) ++ [(k, (i : Int))] := by
  have hi := (List.getElem?_eq_some_iff.1 h).1
  rw [List.take_add_one, h]
  unfold mems
  rw [List.mapIdx_append]
  simp [List.length_take, Nat.min_eq_left (Nat.le_of_lt hi)]
theorem mems_len (l : List ByteArray) : (mems l).length = l.length := by unfold mems; simp
theorem mems_lt (l : List ByteArray) : (mems l).Pairwise (fun x y => x.2 < y.2) := by
  unfold mems
  rw [List.pairwise_iff_getElem]
  intro i j hi hj hij
  simp only [List.getElem_mapIdx]
  omega
theorem info76 : (Try.prog.info? 76).map (fun i => (i.zero, i.size, i.bytes)) = some (some (.agg #[.string ⟨#[]⟩, .int .i64 0]), 2, 24) := by kernel_rfl
/-- Between two rounds of the first loop of Obj. -/
structure Os (w W : World) (v : Value) (ms : List Mem) : Prop where
  z : Below w.heap.size w W
  res : W.heap[w.heap.size]? = some (.cells #[.int .i64 0, .int .i64 0, .string ⟨#[]⟩, .slice none 0 0, .slice none 0 0] 28 (0, 0))
  row : OwnRow memR 76 2 W (w.heap.size + 1) v ms
  lt : w.heap.size < W.heap.size
theorem Os.round {w W W1 : World} {v v1 : Value} {ms : List Mem} {m : Mem} (h : Os w W v ms) (hr : OwnRow memR 76 2 W1 (w.heap.size + 1) v1 (ms ++ [m])) (hb : Below (w.heap.size + 1) W W1) : Os w W1 v1 (ms ++ [m]) := by
  have h1 := h.lt
  have h2 := hb.size
  exact ⟨h.z.trans (hb.mono (by omega)), (hb.block _ (by omega)).trans h.res, hr, by omega⟩
theorem reps_flat : ∀ {ms : List Mem} {inner : List Value}, Reps memR 2 ms inner → inner = flat ms := fun {ms} => by
  induction ms with
  | nil =>
    intro inner h
    exact List.length_eq_zero_iff.1 (by have := h.1; simpa using this)
  | cons m l ih =>
    intro inner h
    obtain ⟨h1, h2⟩ := h
    rw [List.length_cons] at h1
    rcases inner with _ | ⟨a, _ | ⟨b, r⟩⟩
    · exfalso
      simp only [List.length_nil] at h1
      omega
    · exfalso
      simp only [List.length_cons, List.length_nil] at h1
      omega
    · have e := h2 0 m rfl
      have e : [a, b] = [.string m.1, .int .i64 m.2] := by simpa [memR] using e
      injection e with ea eb
      injection eb with eb _
      subst ea eb
      have hr := ih (inner := r) ⟨by simp at h1; omega, fun j p hp => by
        have h3 := h2 (j + 1) p (by simpa using hp)
        rw [show (j + 1) * 2 = j * 2 + 1 + 1 by omega] at h3
        simpa using h3⟩
      rw [hr]
      obtain ⟨k, i⟩ := m
      rfl
/-- The members as they lie. -/
def Ml (W : World) (base : Nat) (X : Option Addr) (n cp : Nat) (ms : List Mem) : Prop := (ms = [] ∧ X = none ∧ n = 0 ∧ cp = 0) ∨ ∃ g, X = some ⟨g, 0, none⟩ ∧ n = ms.length ∧ base ≤ g ∧ Mr W g cp ms
theorem Os.ml {w W : World} {X : Option Addr} {n cp : Nat} {ms : List Mem} (h : Os w W (.slice X n cp) ms) : Ml W (w.heap.size + 1) X n cp ms := by
  obtain ⟨inner, ho, hr⟩ := h.row
  have hf := reps_flat hr
  rcases ho.2 with ⟨e1, e2⟩ | ⟨g, cap, cur, e1, hb, hg, hnc, hcm, hsz, htk⟩
  · injection e1 with a1 a2 a3
    exact Or.inl ⟨List.length_eq_zero_iff.1 e2, a1, a2, a3⟩
  · injection e1 with a1 a2 a3
    subst a1 a2 a3
    exact Or.inr ⟨g, rfl, rfl, hb, ⟨⟨cur, hg, hsz, by rw [Nat.mul_comm 2, htk, hf]⟩, hnc⟩⟩
structure Ps (w W : World) (ks : List ByteArray) (X : Option Addr) (n cp : Nat) (ms : List Mem) : Prop where
  z : Below w.heap.size w W
  res : W.heap[w.heap.size]? = some (.cells #[.int .i64 0, .int .i64 0, .string ⟨#[]⟩, .slice none 0 0, .slice none 0 0] 28 (0, 0))
  row : Ml W (w.heap.size + 1) X n cp ms
  lt : w.heap.size < W.heap.size
  p : ms.Perm (mems ks)
  s : ms.Pairwise lexM
theorem sortMl {w W : World} {X : Option Addr} {n cp : Nat} {ks : List ByteArray} (h : Os w W (.slice X n cp) (mems ks)) (hn : ks.length ≤ 20) :
    Calls Try.prog 73 #[.slice X n cp, .func (.func 74) #[] #[]] W fun e W' => (∃ u, e = .returned u) ∧ ∃ ms, Ps w W' ks X n cp ms := by
  have hl := h.lt
  rcases h.ml with ⟨h1, rfl, rfl, rfl⟩ | ⟨g, rfl, rfl, hb, hm⟩
  · refine (sortStable0 W).mono ?_
    rintro e W' ⟨hu, rfl⟩
    exact ⟨hu, [], ⟨h.z, h.res, Or.inl ⟨rfl, rfl, rfl, rfl⟩, hl, by rw [h1], List.Pairwise.nil⟩⟩
  · refine (sortStableC (mems ks) g cp W hm (by rw [mems_len]; exact hn) (mems_lt ks)).mono ?_
    rintro e W' ⟨hu, ms, h1, h2, h3, h4⟩
    have h5 := h2.size
    refine ⟨hu, ms, ⟨h.z.trans ⟨h2.os, h2.tape, h2.output, h2.size, fun k hk => h2.block k (by omega) (fun e => by have := Option.some.inj e; omega)⟩, (h2.block _ hl (fun e => by have := Option.some.inj e; omega)).trans h.res, Or.inr ⟨g, rfl, h3.length_eq.symm, hb, h1⟩, by omega, h3, h4⟩⟩
end Go.Proofs.Ytgpjkojnmeaoiaa.QV
