/- The stable sort of at most twenty members, by hand. -/
import Derived.Test.YtgpjkojnmeaoiaaV2
import Derived.Test.YtgpjkojnmeaoiaaS
import Derived.RegionTactic
import Derived.ChangeAlike
import Derived.BigRegion
import Derived.Deep.QuietTactic
import Derived.BigQuiet
import Derived.Deep.DeepCutAuto
import Derived.Deep.CutRange
namespace Go.Proofs.Ytgpjkojnmeaoiaa.QV
open Go Go.RowKit Go.Proofs.YtgpjkojnmeaoiaaW.PrintWords Go.Proofs.YtgpjkojnmeaoiaaW.PrintLast Go.Proofs.YtgpjkojnmeaoiaaW.PrintMore
set_option linter.unusedVariables false
set_option linter.unusedSimpArgs false
set_option maxRecDepth 100000
set_option maxHeartbeats 4000000
abbrev Mem := ByteArray × Int
def flat : List Mem → List Value
  | [] => []
  | (k, a) :: l => .string k :: .int .i64 a :: flat l
theorem flat_length (l : List Mem) : (flat l).length = 2 * l.length := by
  induction l with
  | nil => rfl
  | cons m l ih => obtain ⟨k, a⟩ := m; simp only [flat, List.length_cons, ih]; omega
theorem flat_app (l m : List Mem) : flat (l ++ m) = flat l ++ flat m := by
  induction l with
  | nil => rfl
  | cons x l ih => obtain ⟨k, a⟩ := x; simp only [List.cons_append, flat, ih]
theorem flat_get (l : List Mem) (i : Nat) {k : ByteArray} {a : Int} (h : l[i]? = some (k, a)) : (flat l)[2 * i]? = some (.string k) ∧ (flat l)[2 * i + 1]? = some (.int .i64 a) := by
  induction l generalizing i with
  | nil => simp at h
  | cons m l ih =>
    obtain ⟨k', a'⟩ := m
    cases i with
    | zero =>
      simp at h
      obtain ⟨rfl, rfl⟩ := h
      exact ⟨rfl, rfl⟩
    | succ i =>
      have h2 := ih i (by simpa using h)
      rw [show 2 * (i + 1) = 2 * i + 1 + 1 by omega]
      simp only [flat, List.getElem?_cons_succ]
      exact h2
/-- The members lie in block g, with room behind them. -/
structure Mr (w : World) (g cap : Nat) (l : List Mem) : Prop where
  ex : ∃ cur : Array Value, w.heap[g]? = some (.cells cur 76 (0, 0)) ∧ cur.size = cap * 2 ∧ cur.toList.take (2 * l.length) = flat l
  le : l.length ≤ cap
theorem Mr.below {w w' : World} {g cap : Nat} {l : List Mem} (h : Mr w g cap l) (hb : Below w.heap.size w w') : Mr w' g cap l := by
  obtain ⟨⟨cur, h1, h2, h3⟩, h4⟩ := h
  exact ⟨⟨cur, (hb.block g (Array.getElem?_eq_some_iff.1 h1).1).trans h1, h2, h3⟩, h4⟩
theorem Mr.at {w : World} {g cap : Nat} {l : List Mem} (h : Mr w g cap l) (i : Nat) {k : ByteArray} {a : Int} (hi : l[i]? = some (k, a)) : w.cell? ⟨g, i * 2, none⟩ = some (.string k) ∧ w.cell? ⟨g, i * 2 + 1, none⟩ = some (.int .i64 a) := by
  obtain ⟨⟨cur, h1, h2, h3⟩, h4⟩ := h
  have hlt : i < l.length := (List.getElem?_eq_some_iff.1 hi).1
  obtain ⟨f1, f2⟩ := flat_get l i hi
  rw [← h3, List.getElem?_take_of_lt (by omega), Array.getElem?_toList] at f1 f2
  rw [Nat.mul_comm i 2]
  constructor <;> simp only [World.cell?, h1]
  · simpa using f1
  · simpa using f2
theorem Mr.frz {w : World} {g cap : Nat} {l : List Mem} (h : Mr w g cap l) (j : Nat) : w.frozen? ⟨g, j, none⟩ = false := by
  obtain ⟨⟨cur, h1, h2, h3⟩, h4⟩ := h
  simp [World.frozen?, h1]
def flip2 (a : List Mem) (y x : Mem) (c : List Mem) : List Mem := a ++ y :: x :: c
theorem set_flat (a : List Mem) (m m' : Mem) (c : List Mem) (cur : List Value) (h : cur.take (2 * (a ++ m :: c).length) = flat (a ++ m :: c)) :
    ((cur.set (2 * a.length) (.string m'.1)).set (2 * a.length + 1) (.int .i64 m'.2)).take (2 * (a ++ m' :: c).length) = flat (a ++ m' :: c) := by
  have hl : (a ++ m :: c).length = (a ++ m' :: c).length := by simp
  rw [← hl]
  have e : ∀ (l : List Value) (n i : Nat) (v : Value), (l.set i v).take n = (l.take n).set i v := fun l n i v => by rw [List.take_set]
  rw [e, e, h, flat_app, flat_app]
  obtain ⟨k, b⟩ := m
  obtain ⟨k', b'⟩ := m'
  have h1 := flat_length a
  rw [List.set_append_right _ _ (by omega), show 2 * a.length - (flat a).length = 0 by omega, List.set_append_right _ _ (by omega), show 2 * a.length + 1 - (flat a).length = 1 by omega]
  rfl
theorem Mr.set {w : World} {g cap : Nat} {a : List Mem} {m : Mem} {c : List Mem} (h : Mr w g cap (a ++ m :: c)) (m' : Mem) : Mr ((w.setCell ⟨g, a.length * 2, none⟩ (.string m'.1)).setCell ⟨g, a.length * 2 + 1, none⟩ (.int .i64 m'.2)) g cap (a ++ m' :: c) := by
  obtain ⟨⟨cur, h1, h2, h3⟩, h4⟩ := h
  refine ⟨⟨(cur.setIfInBounds (a.length * 2) (.string m'.1)).setIfInBounds (a.length * 2 + 1) (.int .i64 m'.2), ?_, ?_, ?_⟩, by simpa using h4⟩
  · exact heap_setCell_same _ _ _ _ _ _ (heap_setCell_same _ _ _ _ _ _ h1)
  · simpa using h2
  · rw [Array.toList_setIfInBounds, Array.toList_setIfInBounds, Nat.mul_comm a.length 2]
    exact set_flat a m m' c _ h3
theorem grownBy_cell' (W : World) (b j : Nat) (v : Value) : W.grownBy (W.setCell ⟨b, j, none⟩ v) (some b) :=
  ⟨rfl, rfl, rfl, by simp, fun k _ hk => Below.heap_setCell _ _ _ k (fun e => hk (by rw [e]))⟩
theorem Mr.swap {w : World} {g cap k : Nat} {a mc : List Mem} {x y : Mem} (h : Mr w g cap (a ++ [y] ++ x :: mc)) (hk : a.length = k) :
    ∃ W', ((((w.setCell ⟨g, (k + 1) * 2, none⟩ (.string y.1)).setCell ⟨g, (k + 1) * 2 + 1, none⟩ (.int .i64 y.2)).setCell ⟨g, k * 2, none⟩ (.string x.1)).setCell ⟨g, k * 2 + 1, none⟩ (.int .i64 x.2)).drew = W' ∧ Mr W' g cap (a ++ x :: (y :: mc)) ∧ w.grownBy W' (some g) := by
  refine ⟨_, rfl, ?_, ?_⟩
  · have h1 := h.set y
    have e : (a ++ [y]).length = k + 1 := by simp [hk]
    rw [e] at h1
    have h2 : Mr ((w.setCell ⟨g, (k + 1) * 2, none⟩ (.string y.1)).setCell ⟨g, (k + 1) * 2 + 1, none⟩ (.int .i64 y.2)) g cap (a ++ y :: (y :: mc)) := by simpa using h1
    have h3 := h2.set x
    rw [hk] at h3
    exact h3.below (Below.refl _ _).drew
  · exact ((((grownBy_cell' _ _ _ _).trans (grownBy_cell' _ _ _ _)).trans (grownBy_cell' _ _ _ _)).trans (grownBy_cell' _ _ _ _)).trans (grown_of_below ((Below.refl _ _).drew) (some g))
/-! ### the comparison -/
theorem cmpC (a b : Mem) (w : World) : Calls Try.prog 74 #[.agg #[.string a.1, .int .i64 a.2], .agg #[.string b.1, .int .i64 b.2]] w fun e w' => e = .returned (.int .i64 (Lib.compareBytes a.1.data.toList b.1.data.toList)) ∧ Below w.heap.size w w' := by
  have HC := Aside0.mk (fun W => Try.strings_Compare a.1 b.1 W)
  obtain ⟨r, hr⟩ : ∃ r, Lib.compareBytes a.1.data.toList b.1.data.toList = r := ⟨_, rfl⟩
  rw [hr] at HC ⊢
  clear hr
  have HB := Aside0.mk (below_step (new_below w (.cells #[.string a.1, .int .i64 a.2] 76)) (new_below _ (.cells #[.string b.1, .int .i64 b.2] 76)))
  go_enter Try.func74, Try.ntmps74
  go_wp2_with (first | (go_at_call 75; (with_reducible refine (HC.out _).mono ?_); rintro e we ⟨rfl, rfl⟩))
  go_ret
  exact ⟨rfl, HB.out⟩
theorem cb_neg : ∀ (a b : List UInt8), (Lib.compareBytes a b < 0 ↔ a < b)
  | [], [] => by simp [Lib.compareBytes]
  | [], _ :: _ => by simp [Lib.compareBytes]
  | _ :: _, [] => by simp [Lib.compareBytes]
  | x :: a, y :: b => by
    simp only [Lib.compareBytes]
    rw [List.cons_lt_cons_iff]
    by_cases h1 : x < y
    · rw [if_pos h1]
      simp [h1]
    · rw [if_neg h1]
      by_cases h2 : y < x
      · rw [if_pos h2]
        constructor
        · intro h; omega
        · rintro (h | ⟨h, _⟩)
          · exact absurd h h1
          · rw [h] at h2
            exact absurd h2 (by simp)
      · rw [if_neg h2]
        have e : x = y := by
          have h3 := UInt8.not_lt.1 h1
          have h4 := UInt8.not_lt.1 h2
          exact UInt8.le_antisymm h4 h3
        rw [cb_neg a b]
        simp [e]
theorem cmp_blt (a b : Mem) : decide (Lib.compareBytes a.1.data.toList b.1.data.toList < 0) = blt a.1 b.1 := by
  unfold blt
  rw [bytesLess_eq]
  have h := cb_neg a.1.data.toList b.1.data.toList
  have e1 : a.1.toList = a.1.data.toList := Lib.toList_data _
  have e2 : b.1.toList = b.1.data.toList := Lib.toList_data _
  rw [e1, e2]
  exact decide_eq_decide.2 h
/-! ### the order, and one insertion -/
def lexM (x y : Mem) : Prop := blt x.1 y.1 = true ∨ (x.1 = y.1 ∧ x.2 < y.2)
theorem ba_ext {a b : ByteArray} (h : a.toList = b.toList) : a = b := by
  have e1 : a.toList = a.data.toList := Lib.toList_data _
  have e2 : b.toList = b.data.toList := Lib.toList_data _
  rw [e1, e2] at h
  cases a; cases b
  congr 1
  exact Array.toList_inj.1 h
theorem blt_lt (a b : ByteArray) : blt a b = true ↔ a.toList < b.toList := by
  unfold blt
  rw [bytesLess_eq, decide_eq_true_iff]
theorem blt_tri (a b : ByteArray) : blt a b = true ∨ a = b ∨ blt b a = true := by
  rw [blt_lt, blt_lt]
  by_cases h1 : a.toList < b.toList
  · exact .inl h1
  · by_cases h2 : b.toList < a.toList
    · exact .inr (.inr h2)
    · exact .inr (.inl (ba_ext (List.le_antisymm (List.not_lt.1 h2) (List.not_lt.1 h1))))
theorem blt_trans {a b c : ByteArray} (h : blt a b = true) (k : blt b c = true) : blt a c = true := by
  rw [blt_lt] at *
  exact List.lt_trans h k
theorem blt_irrefl (a : ByteArray) : blt a a = false := by
  cases h : blt a a with
  | false => rfl
  | true => rw [blt_lt] at h; exact absurd h (List.lt_irrefl _)
theorem blt_asymm {a b : ByteArray} (h : blt a b = true) : blt b a = false := by
  cases k : blt b a with
  | false => rfl
  | true => have := blt_trans h k; rw [blt_irrefl] at this; cases this
theorem lexM_trans {x y z : Mem} (h : lexM x y) (k : lexM y z) : lexM x z := by
  rcases h with h | ⟨h1, h2⟩ <;> rcases k with k | ⟨k1, k2⟩
  · exact .inl (blt_trans h k)
  · exact .inl (by rw [← k1]; exact h)
  · exact .inl (by rw [h1]; exact k)
  · exact .inr ⟨h1.trans k1, by omega⟩
/-- Where the member comes to rest. -/
theorem ins_sorted {a m : List Mem} {x : Mem} (hp : (a ++ m).Pairwise lexM) (hat : ∀ y ∈ a ++ m, y.2 < x.2) (hm : ∀ y ∈ m, blt x.1 y.1 = true) (ha : a = [] ∨ ∃ a' y, a = a' ++ [y] ∧ blt x.1 y.1 = false) : (a ++ x :: m).Pairwise lexM := by
  rw [List.pairwise_append] at hp ⊢
  obtain ⟨p1, p2, p3⟩ := hp
  have hax : ∀ y ∈ a, lexM y x := by
    rcases ha with rfl | ⟨a', z, rfl, hz⟩
    · intro y hy; cases hy
    · intro y hy
      have hzx : lexM z x := by
        rcases blt_tri z.1 x.1 with h | h | h
        · exact .inl h
        · exact .inr ⟨h, hat z (by simp)⟩
        · rw [h] at hz; cases hz
      rcases List.mem_append.1 hy with hy | hy
      · have h1 := (List.pairwise_append.1 p1).2.2 y hy z (by simp)
        exact lexM_trans h1 hzx
      · rw [List.mem_singleton.1 hy]
        exact hzx
  refine ⟨p1, ?_, ?_⟩
  · rw [List.pairwise_cons]
    exact ⟨fun y hy => .inl (hm y hy), p2⟩
  · intro y hy z hz
    rcases List.mem_cons.1 hz with rfl | hz
    · exact hax y hy
    · exact p3 y hy z hz
def SortPost (l : List Mem) (g cap : Nat) (w : World) (e : Ending) (w' : World) : Prop := (∃ v, e = .returned v) ∧ ∃ l' : List Mem, Mr w' g cap l' ∧ w.grownBy w' (some g) ∧ l'.Perm l ∧ l'.Pairwise lexM
theorem insC (l : List Mem) (g cap : Nat) (w : World) (h : Mr w g cap l) (hn : l.length ≤ 1000) (hat : l.Pairwise (fun x y => x.2 < y.2)) :
    Calls Try.prog 93 #[.slice (some ⟨g, 0, none⟩) l.length cap, .int .i64 0, .int .i64 (l.length : Int), .func (.func 74) #[] #[]] w (SortPost l g cap w) := by
  have HM := Aside0.mk h
  have HAt := Aside0.mk hat
  obtain ⟨n, hln⟩ : ∃ n, l.length = n := ⟨_, rfl⟩
  have HL := Aside0.mk hln
  have hcap : n ≤ cap := by have := h.le; omega
  rw [hln] at hn ⊢
  clear h hat hln
  go_enter Try.func93, Try.ntmps93
  go_wp2_with fail
  go_loopg [8] n (fun kq v8 w' => ∃ (i : Nat) (p : List Mem), kq + i = n + 1 ∧ v8 = .int .i64 (i : Int) ∧ (1 ≤ i ∧ i ≤ n + 1) ∧ Aside0 (Mr w' g cap (p ++ l.drop i) ∧ p.Perm (l.take i) ∧ p.Pairwise lexM ∧ w.grownBy w' (some g)))
  case atStart =>
    refine ⟨1, l.take 1, by omega, rfl, by omega, ⟨by rw [List.take_append_drop]; exact HM.out, List.Perm.refl _, ?_, ⟨rfl, rfl, rfl, Nat.le_refl _, fun _ _ _ => rfl⟩⟩⟩
    have : (l.take 1).length ≤ 1 := by simp; omega
    match l.take 1, this with
    | [], _ => exact List.Pairwise.nil
    | [_], _ => simp
  case round =>
    clear HM
    obtain ⟨i, p, hi, rfl, hib, HM⟩ := hrel
    by_cases ci : i < n
    · have g0 : decide ((i : Int) < (n : Int)) = true := decide_eq_true (by omega)
      have hil : i < l.length := by have := HL.out; omega
      have hd := List.drop_eq_getElem_cons hil
      obtain ⟨x, hx⟩ : ∃ x, l[i] = x := ⟨_, rfl⟩
      rw [hx] at hd
      obtain ⟨m1, m2, m3, m4⟩ := HM.out
      rw [hd] at m1
      have hpl : p.length = i := by rw [m2.length_eq, List.length_take]; omega
      have HAx : Aside0 (∀ y ∈ p, y.2 < x.2) := ⟨fun y hy => by
        have h1 : y ∈ l.take i := m2.mem_iff.1 hy
        have h2 : l = l.take i ++ (x :: l.drop (i + 1)) := by rw [← hd, List.take_append_drop]
        have h3 := HAt.out
        rw [h2, List.pairwise_append] at h3
        exact h3.2.2 y h1 x (by simp)⟩
      have HP : Aside0 (p.Perm (l.take i) ∧ p.Pairwise lexM ∧ l.take (i + 1) = l.take i ++ [x]) := ⟨m2, m3, by rw [List.take_add_one, List.getElem?_eq_getElem hil, hx]; rfl⟩
      obtain ⟨c, hc⟩ : ∃ c, l.drop (i + 1) = c := ⟨_, rfl⟩
      have HC := Aside0.mk hc
      rw [hc] at m1
      have HI0 : Aside0 (Mr wr g cap (p ++ x :: ([] ++ c)) ∧ p ++ [] = p ∧ (∀ y ∈ ([] : List Mem), blt x.1 y.1 = true) ∧ w.grownBy wr (some g)) := ⟨m1, by simp, by simp, m4⟩
      have HII := Aside0.mk hi
      have HPL := Aside0.mk hpl
      obtain ⟨j1, rfl⟩ : ∃ j1, gk = j1 + 1 := ⟨gk - 1, by omega⟩
      clear hx hd m1 m2 m3 m4 hpl hc hi HM hil
      go_wp2_with fail
      obtain ⟨wo, rfl⟩ : ∃ wo : World, wo = wr := ⟨_, rfl⟩
      go_loopg [9] i (fun kq v9 w' => ∃ (a m : List Mem), kq = a.length ∧ v9 = .int .i64 (a.length : Int) ∧ (a.length ≤ i) ∧ Aside0 (Mr w' g cap (a ++ x :: (m ++ c)) ∧ a ++ m = p ∧ (∀ y ∈ m, blt x.1 y.1 = true) ∧ w.grownBy w' (some g)))
      case atStart => exact ⟨p, [], by have := HPL.out; omega, by rw [HPL.out], by have := HPL.out; omega, HI0⟩
      case round =>
        clear HI0
        obtain ⟨a, m, ha, rfl, hai, HM⟩ := hrel
        obtain ⟨k0, hk0⟩ : ∃ k0, a.length = k0 := ⟨_, rfl⟩
        have HK0 := Aside0.mk hk0
        rw [hk0] at hai ha ⊢
        clear hk0
        by_cases cz : k0 = 0
        · subst cz
          have ha0 : a = [] := List.length_eq_zero_iff.1 HK0.out
          have HDone : Aside0 (Mr wr g cap ((x :: m) ++ c) ∧ (x :: m).Perm (l.take (i + 1)) ∧ (x :: m).Pairwise lexM ∧ w.grownBy wr (some g)) := ⟨by
            obtain ⟨m1, m2, m3, m4⟩ := HM.out
            subst ha0
            obtain ⟨p1, p2, p3⟩ := HP.out
            have e : m = p := by simpa using m2
            subst e
            refine ⟨m1, ?_, ?_, m4⟩
            · rw [p3]
              exact (List.Perm.cons x p1).trans (List.perm_append_singleton x _).symm
            · exact ins_sorted (a := []) (m := m) p2 HAx.out m3 (.inl rfl)⟩
          clear HM HK0 ha0 ha hai
          go_upto_region 4 with fail
          go_quiet (fail)
          go_wp2_with fail
          go_roundg j1
          case measure => omega
          case rel => exact ⟨i + 1, x :: m, by have := HII.out; omega, rfl, by omega, ⟨by rw [HC.out]; exact HDone.out.1.below (drawn_below ⟨_, rfl⟩), HDone.out.2.1, HDone.out.2.2.1, HDone.out.2.2.2.trans (grown_of_below (drawn_below ⟨_, rfl⟩) (some g))⟩⟩
        · obtain ⟨k, rfl⟩ : ∃ k, k0 = k + 1 := ⟨k0 - 1, by omega⟩
          obtain ⟨a', y, hay⟩ : ∃ a' y, a = a' ++ [y] := by
            have hne : a ≠ [] := fun e => by have := HK0.out; rw [e] at this; simp at this
            exact ⟨a.dropLast, a.getLast hne, (List.dropLast_concat_getLast hne).symm⟩
          subst hay
          have hk' : a'.length = k := by have := HK0.out; simp at this; omega
          have HK' := Aside0.mk hk'
          have hMr := HM.out.1
          have hxk : (a' ++ [y] ++ x :: (m ++ c))[k + 1]? = some x := by
            rw [List.getElem?_append_right (by simp; omega)]
            simp [hk']
          have hyk : (a' ++ [y] ++ x :: (m ++ c))[k]? = some y := by
            rw [List.append_assoc, List.getElem?_append_right (by omega)]
            simp [hk']
          obtain ⟨q0, q1⟩ := hMr.at (k + 1) (k := x.1) (a := x.2) hxk
          obtain ⟨q2, q3⟩ := hMr.at k (k := y.1) (a := y.2) hyk
          have hfz := hMr.frz
          have hkn : k + 1 < n := by omega
          have HK : Aside0 (∀ W, Below wr.heap.size wr W → W.cell? ⟨g, (k + 1) * 2, none⟩ = some (.string x.1) ∧ W.cell? ⟨g, (k + 1) * 2 + 1, none⟩ = some (.int .i64 x.2) ∧ W.cell? ⟨g, k * 2, none⟩ = some (.string y.1) ∧ W.cell? ⟨g, k * 2 + 1, none⟩ = some (.int .i64 y.2)) := ⟨fun W hb => by
            have h2 := hMr.below hb
            exact ⟨(h2.at (k + 1) hxk).1, (h2.at (k + 1) hxk).2, (h2.at k hyk).1, (h2.at k hyk).2⟩⟩
          have HCm := Aside0.mk (fun W => cmpC x y W)
          obtain ⟨r, hr⟩ : ∃ r, Lib.compareBytes x.1.data.toList y.1.data.toList = r := ⟨_, rfl⟩
          rw [hr] at HCm
          have hbr : decide (r < 0) = blt x.1 y.1 := by rw [← hr]; exact cmp_blt x y
          obtain ⟨bb, hbb⟩ : ∃ bb, blt x.1 y.1 = bb := ⟨_, rfl⟩
          rw [hbb] at hbr
          have Hbb := Aside0.mk hbb
          have e1 : ((k : Int) + 1 < 0) = False := eq_false (by omega)
          have e2 : ((k : Int) + 1 < (n : Int)) = True := eq_true (by omega)
          have e3 : (0 ≤ (k : Int)) = True := eq_true (by omega)
          have e4 : ((k : Int) < (n : Int)) = True := eq_true (by omega)
          have e5 : (0 ≤ (k : Int) + 1) = True := eq_true (by omega)
          have e6 : IntKind.i64.wrap (k : Int) = (k : Int) := by rw [i64_w]; unfold Go.RowKit.wrap64; omega
          have e7 : decide ((k : Int) + 1 > 0) = true := decide_eq_true (by omega)
          clear q0 q1 q2 q3 hfz hxk hyk hMr hr hbb hk' cz HK0
          cases bb with
          | true =>
            go_upto_region 4 with fail
            have HX : Aside0 (Below wr.heap.size wr wr.drew) := ⟨(Below.refl _ _).drew⟩
            refine start_ (n := 17) (S := fun w' => w'.cell? ⟨g, (k + 1) * 2, none⟩ = some (.string x.1) ∧ w'.cell? ⟨g, (k + 1) * 2 + 1, none⟩ = some (.int .i64 x.2) ∧ w'.cell? ⟨g, k * 2, none⟩ = some (.string y.1) ∧ w'.cell? ⟨g, k * 2 + 1, none⟩ = some (.int .i64 y.2)) (ds := []) #[false, false, false, false, false, false, false, false, false, false, false, false, false, false, false, false, false] (by kernel_rfl) rfl (by rfl) (HK.out _ HX.out) (fun hS => ?_)
            refine take_ (i := 0) (N := some 18) (v := (.int .i64 ((k : Int) + 1))) #[true, false, false, false, false, false, false, false, false, false, false, false, false, false, false, false, false] rfl rfl (by kernel_rfl) (fun _ _ _ h => h) (Or.inl ⟨by rfl, by intro w hSw; (try dsimp only at hSw); go_simp⟩) hS rfl ?_
            try simp only [Act.put, List.setIfInBounds_toArray, List.set_cons_zero, List.set_cons_succ]
            refine take_ (i := 1) (N := some 19) (v := (.int .i64 0)) #[true, true, false, false, false, false, false, false, false, false, false, false, false, false, false, false, false] rfl rfl (by kernel_rfl) (fun _ _ _ h => h) (Or.inl ⟨by rfl, by intro w hSw; (try dsimp only at hSw); go_simp⟩) hS rfl ?_
            try simp only [Act.put, List.setIfInBounds_toArray, List.set_cons_zero, List.set_cons_succ]
            refine take_ (i := 2) (N := some 20) (v := (.bool true)) #[true, true, true, false, false, false, false, false, false, false, false, false, false, false, false, false, false] rfl rfl (by kernel_rfl) (fun _ _ _ h => h) (Or.inl ⟨by rfl, by intro w hSw; (try dsimp only at hSw); go_simp⟩) hS rfl ?_
            try simp only [Act.put, List.setIfInBounds_toArray, List.set_cons_zero, List.set_cons_succ]
            refine take_ (i := 3) (N := some 21) (v := (.bool true)) #[true, true, true, true, false, false, false, false, false, false, false, false, false, false, false, false, false] rfl rfl (by kernel_rfl) (fun _ _ _ h => h) (Or.inl ⟨by rfl, by intro w hSw; (try dsimp only at hSw); go_simp⟩) hS rfl ?_
            try simp only [Act.put, List.setIfInBounds_toArray, List.set_cons_zero, List.set_cons_succ]
            refine take_ (i := 4) (N := some 22) (v := (.func (.func 74) #[] #[])) #[true, true, true, true, true, false, false, false, false, false, false, false, false, false, false, false, false] rfl rfl (by kernel_rfl) (fun _ _ _ h => h) (Or.inl ⟨by rfl, by intro w hSw; (try dsimp only at hSw); go_simp⟩) hS rfl ?_
            try simp only [Act.put, List.setIfInBounds_toArray, List.set_cons_zero, List.set_cons_succ]
            refine take_ (i := 5) (N := some 23) (v := (.slice (some ⟨g, 0, none⟩) n cap)) #[true, true, true, true, true, true, false, false, false, false, false, false, false, false, false, false, false] rfl rfl (by kernel_rfl) (fun _ _ _ h => h) (Or.inl ⟨by rfl, by intro w hSw; (try dsimp only at hSw); go_simp⟩) hS rfl ?_
            try simp only [Act.put, List.setIfInBounds_toArray, List.set_cons_zero, List.set_cons_succ]
            refine take_ (i := 6) (N := some 24) (v := (.int .i64 ((k : Int) + 1))) #[true, true, true, true, true, true, true, false, false, false, false, false, false, false, false, false, false] rfl rfl (by kernel_rfl) (fun _ _ _ h => h) (Or.inl ⟨by rfl, by intro w hSw; (try dsimp only at hSw); go_simp⟩) hS rfl ?_
            try simp only [Act.put, List.setIfInBounds_toArray, List.set_cons_zero, List.set_cons_succ]
            refine take_ (i := 7) (N := some 25) (v := (.pointer (some ⟨g, (k + 1) * 2, none⟩))) #[true, true, true, true, true, true, true, true, false, false, false, false, false, false, false, false, false] rfl rfl (by kernel_rfl) (fun _ _ _ h => h) (Or.inl ⟨by rfl, by intro w hSw; (try dsimp only at hSw); go_simp⟩) hS rfl ?_
            try simp only [Act.put, List.setIfInBounds_toArray, List.set_cons_zero, List.set_cons_succ]
            refine take_ (i := 8) (N := some 26) (v := (.agg #[.string x.1, .int .i64 x.2])) #[true, true, true, true, true, true, true, true, true, false, false, false, false, false, false, false, false] rfl rfl (by kernel_rfl) (fun _ _ _ h => h) (Or.inl ⟨by rfl, by intro w hSw; (try dsimp only at hSw); go_simp⟩) hS rfl ?_
            try simp only [Act.put, List.setIfInBounds_toArray, List.set_cons_zero, List.set_cons_succ]
            refine take_ (i := 9) (N := some 27) (v := (.slice (some ⟨g, 0, none⟩) n cap)) #[true, true, true, true, true, true, true, true, true, true, false, false, false, false, false, false, false] rfl rfl (by kernel_rfl) (fun _ _ _ h => h) (Or.inl ⟨by rfl, by intro w hSw; (try dsimp only at hSw); go_simp⟩) hS rfl ?_
            try simp only [Act.put, List.setIfInBounds_toArray, List.set_cons_zero, List.set_cons_succ]
            refine take_ (i := 10) (N := some 28) (v := (.int .i64 ((k : Int) + 1))) #[true, true, true, true, true, true, true, true, true, true, true, false, false, false, false, false, false] rfl rfl (by kernel_rfl) (fun _ _ _ h => h) (Or.inl ⟨by rfl, by intro w hSw; (try dsimp only at hSw); go_simp⟩) hS rfl ?_
            try simp only [Act.put, List.setIfInBounds_toArray, List.set_cons_zero, List.set_cons_succ]
            refine take_ (i := 11) (N := some 29) (v := (.int .i64 (k : Int))) #[true, true, true, true, true, true, true, true, true, true, true, true, false, false, false, false, false] rfl rfl (by kernel_rfl) (fun _ _ _ h => h) (Or.inl ⟨by rfl, by intro w hSw; (try dsimp only at hSw); go_simp⟩) hS rfl ?_
            try simp only [Act.put, List.setIfInBounds_toArray, List.set_cons_zero, List.set_cons_succ]
            refine take_ (i := 12) (N := some 30) (v := (.pointer (some ⟨g, k * 2, none⟩))) #[true, true, true, true, true, true, true, true, true, true, true, true, true, false, false, false, false] rfl rfl (by kernel_rfl) (fun _ _ _ h => h) (Or.inl ⟨by rfl, by intro w hSw; (try dsimp only at hSw); go_simp⟩) hS rfl ?_
            try simp only [Act.put, List.setIfInBounds_toArray, List.set_cons_zero, List.set_cons_succ]
            refine take_ (i := 13) (N := some 31) (v := (.agg #[.string y.1, .int .i64 y.2])) #[true, true, true, true, true, true, true, true, true, true, true, true, true, true, false, false, false] rfl rfl (by kernel_rfl) (fun _ _ _ h => h) (Or.inl ⟨by rfl, by intro w hSw; (try dsimp only at hSw); go_simp⟩) hS rfl ?_
            try simp only [Act.put, List.setIfInBounds_toArray, List.set_cons_zero, List.set_cons_succ]
            refine one_ (i := 14) (N := some 32) #[true, true, true, true, true, true, true, true, true, true, true, true, true, true, true, false, false] rfl rfl (by kernel_rfl) (by decide) ?_
            intro K hK
            go_simp
            go_at_call 74; (with_reducible refine (HCm.out _).mono ?_); rintro e we ⟨rfl, hb⟩; have HX2 := Aside0.mk (below_step HX.out hb); clear HX hb; have HX := HX2; clear HX2
            refine hK.out _ _ (HK.out _ HX.out) (fun hS => ?_)
            clear hK K
            try simp only [Act.put, List.setIfInBounds_toArray, List.set_cons_zero, List.set_cons_succ]
            refine take_ (i := 15) (N := some 33) (v := (.bool true)) #[true, true, true, true, true, true, true, true, true, true, true, true, true, true, true, true, false] rfl rfl (by kernel_rfl) (fun _ _ _ h => h) (Or.inl ⟨by rfl, by intro w hSw; (try dsimp only at hSw); go_simp⟩) hS rfl ?_
            try simp only [Act.put, List.setIfInBounds_toArray, List.set_cons_zero, List.set_cons_succ]
            refine take_ (i := 16) (N := some 34) (v := (.bool true)) #[true, true, true, true, true, true, true, true, true, true, true, true, true, true, true, true, true] rfl rfl (by kernel_rfl) (fun _ _ _ h => h) (Or.inl ⟨by rfl, by intro w hSw; (try dsimp only at hSw); go_simp⟩) hS rfl ?_
            try simp only [Act.put, List.setIfInBounds_toArray, List.set_cons_zero, List.set_cons_succ]
            refine done_ (by kernel_rfl) ?_
            go_upto_region 6 with fail
            obtain ⟨q0, q1, q2, q3⟩ := HK.out _ HX.out
            have hM2 := HM.out.1.below HX.out
            have hfz := hM2.frz
            obtain ⟨W', hW', hMs, hg⟩ := hM2.swap HK'.out
            have HN2 : Aside0 (Mr W' g cap (a' ++ x :: ((y :: m) ++ c)) ∧ a' ++ (y :: m) = p ∧ (∀ z ∈ y :: m, blt x.1 z.1 = true) ∧ w.grownBy W' (some g)) := ⟨by
              obtain ⟨m1, m2, m3, m4⟩ := HM.out
              refine ⟨hMs, by simpa using m2, fun z hz => ?_, (m4.trans (grown_of_below HX.out (some g))).trans hg⟩
              rcases List.mem_cons.1 hz with rfl | hz
              · exact Hbb.out
              · exact m3 z hz⟩
            have HWe := Aside0.mk hW'
            clear hM2 e7 hbr hMs hg hW'
            go_region
            rw [HWe.out]
            go_wp2_with fail
            subst ha
            go_roundg k
            case measure => omega
            case rel => exact ⟨a', y :: m, by rw [HK'.out], by rw [HK'.out], by have := HK'.out; omega, HN2⟩
          | false =>
            have HDone : Aside0 (Mr wr g cap ((a' ++ [y] ++ x :: m) ++ c) ∧ (a' ++ [y] ++ x :: m).Perm (l.take (i + 1)) ∧ (a' ++ [y] ++ x :: m).Pairwise lexM ∧ w.grownBy wr (some g)) := ⟨by
              obtain ⟨m1, m2, m3, m4⟩ := HM.out
              obtain ⟨p1, p2, p3⟩ := HP.out
              refine ⟨by simpa using m1, ?_, ?_, m4⟩
              · rw [p3, ← m2] at *
                exact (List.perm_middle).trans ((List.Perm.cons x p1).trans (List.perm_append_singleton x _).symm)
              · exact ins_sorted (by rw [m2]; exact p2) (by rw [m2]; exact HAx.out) m3 (.inr ⟨a', y, rfl, Hbb.out⟩)⟩
            clear HM
            go_upto_region 4 with fail
            have HX : Aside0 (Below wr.heap.size wr wr.drew) := ⟨(Below.refl _ _).drew⟩
            refine start_ (n := 17) (S := fun w' => w'.cell? ⟨g, (k + 1) * 2, none⟩ = some (.string x.1) ∧ w'.cell? ⟨g, (k + 1) * 2 + 1, none⟩ = some (.int .i64 x.2) ∧ w'.cell? ⟨g, k * 2, none⟩ = some (.string y.1) ∧ w'.cell? ⟨g, k * 2 + 1, none⟩ = some (.int .i64 y.2)) (ds := []) #[false, false, false, false, false, false, false, false, false, false, false, false, false, false, false, false, false] (by kernel_rfl) rfl (by rfl) (HK.out _ HX.out) (fun hS => ?_)
            refine take_ (i := 0) (N := some 18) (v := (.int .i64 ((k : Int) + 1))) #[true, false, false, false, false, false, false, false, false, false, false, false, false, false, false, false, false] rfl rfl (by kernel_rfl) (fun _ _ _ h => h) (Or.inl ⟨by rfl, by intro w hSw; (try dsimp only at hSw); go_simp⟩) hS rfl ?_
            try simp only [Act.put, List.setIfInBounds_toArray, List.set_cons_zero, List.set_cons_succ]
            refine take_ (i := 1) (N := some 19) (v := (.int .i64 0)) #[true, true, false, false, false, false, false, false, false, false, false, false, false, false, false, false, false] rfl rfl (by kernel_rfl) (fun _ _ _ h => h) (Or.inl ⟨by rfl, by intro w hSw; (try dsimp only at hSw); go_simp⟩) hS rfl ?_
            try simp only [Act.put, List.setIfInBounds_toArray, List.set_cons_zero, List.set_cons_succ]
            refine take_ (i := 2) (N := some 20) (v := (.bool true)) #[true, true, true, false, false, false, false, false, false, false, false, false, false, false, false, false, false] rfl rfl (by kernel_rfl) (fun _ _ _ h => h) (Or.inl ⟨by rfl, by intro w hSw; (try dsimp only at hSw); go_simp⟩) hS rfl ?_
            try simp only [Act.put, List.setIfInBounds_toArray, List.set_cons_zero, List.set_cons_succ]
            refine take_ (i := 3) (N := some 21) (v := (.bool true)) #[true, true, true, true, false, false, false, false, false, false, false, false, false, false, false, false, false] rfl rfl (by kernel_rfl) (fun _ _ _ h => h) (Or.inl ⟨by rfl, by intro w hSw; (try dsimp only at hSw); go_simp⟩) hS rfl ?_
            try simp only [Act.put, List.setIfInBounds_toArray, List.set_cons_zero, List.set_cons_succ]
            refine take_ (i := 4) (N := some 22) (v := (.func (.func 74) #[] #[])) #[true, true, true, true, true, false, false, false, false, false, false, false, false, false, false, false, false] rfl rfl (by kernel_rfl) (fun _ _ _ h => h) (Or.inl ⟨by rfl, by intro w hSw; (try dsimp only at hSw); go_simp⟩) hS rfl ?_
            try simp only [Act.put, List.setIfInBounds_toArray, List.set_cons_zero, List.set_cons_succ]
            refine take_ (i := 5) (N := some 23) (v := (.slice (some ⟨g, 0, none⟩) n cap)) #[true, true, true, true, true, true, false, false, false, false, false, false, false, false, false, false, false] rfl rfl (by kernel_rfl) (fun _ _ _ h => h) (Or.inl ⟨by rfl, by intro w hSw; (try dsimp only at hSw); go_simp⟩) hS rfl ?_
            try simp only [Act.put, List.setIfInBounds_toArray, List.set_cons_zero, List.set_cons_succ]
            refine take_ (i := 6) (N := some 24) (v := (.int .i64 ((k : Int) + 1))) #[true, true, true, true, true, true, true, false, false, false, false, false, false, false, false, false, false] rfl rfl (by kernel_rfl) (fun _ _ _ h => h) (Or.inl ⟨by rfl, by intro w hSw; (try dsimp only at hSw); go_simp⟩) hS rfl ?_
            try simp only [Act.put, List.setIfInBounds_toArray, List.set_cons_zero, List.set_cons_succ]
            refine take_ (i := 7) (N := some 25) (v := (.pointer (some ⟨g, (k + 1) * 2, none⟩))) #[true, true, true, true, true, true, true, true, false, false, false, false, false, false, false, false, false] rfl rfl (by kernel_rfl) (fun _ _ _ h => h) (Or.inl ⟨by rfl, by intro w hSw; (try dsimp only at hSw); go_simp⟩) hS rfl ?_
            try simp only [Act.put, List.setIfInBounds_toArray, List.set_cons_zero, List.set_cons_succ]
            refine take_ (i := 8) (N := some 26) (v := (.agg #[.string x.1, .int .i64 x.2])) #[true, true, true, true, true, true, true, true, true, false, false, false, false, false, false, false, false] rfl rfl (by kernel_rfl) (fun _ _ _ h => h) (Or.inl ⟨by rfl, by intro w hSw; (try dsimp only at hSw); go_simp⟩) hS rfl ?_
            try simp only [Act.put, List.setIfInBounds_toArray, List.set_cons_zero, List.set_cons_succ]
            refine take_ (i := 9) (N := some 27) (v := (.slice (some ⟨g, 0, none⟩) n cap)) #[true, true, true, true, true, true, true, true, true, true, false, false, false, false, false, false, false] rfl rfl (by kernel_rfl) (fun _ _ _ h => h) (Or.inl ⟨by rfl, by intro w hSw; (try dsimp only at hSw); go_simp⟩) hS rfl ?_
            try simp only [Act.put, List.setIfInBounds_toArray, List.set_cons_zero, List.set_cons_succ]
            refine take_ (i := 10) (N := some 28) (v := (.int .i64 ((k : Int) + 1))) #[true, true, true, true, true, true, true, true, true, true, true, false, false, false, false, false, false] rfl rfl (by kernel_rfl) (fun _ _ _ h => h) (Or.inl ⟨by rfl, by intro w hSw; (try dsimp only at hSw); go_simp⟩) hS rfl ?_
            try simp only [Act.put, List.setIfInBounds_toArray, List.set_cons_zero, List.set_cons_succ]
            refine take_ (i := 11) (N := some 29) (v := (.int .i64 (k : Int))) #[true, true, true, true, true, true, true, true, true, true, true, true, false, false, false, false, false] rfl rfl (by kernel_rfl) (fun _ _ _ h => h) (Or.inl ⟨by rfl, by intro w hSw; (try dsimp only at hSw); go_simp⟩) hS rfl ?_
            try simp only [Act.put, List.setIfInBounds_toArray, List.set_cons_zero, List.set_cons_succ]
            refine take_ (i := 12) (N := some 30) (v := (.pointer (some ⟨g, k * 2, none⟩))) #[true, true, true, true, true, true, true, true, true, true, true, true, true, false, false, false, false] rfl rfl (by kernel_rfl) (fun _ _ _ h => h) (Or.inl ⟨by rfl, by intro w hSw; (try dsimp only at hSw); go_simp⟩) hS rfl ?_
            try simp only [Act.put, List.setIfInBounds_toArray, List.set_cons_zero, List.set_cons_succ]
            refine take_ (i := 13) (N := some 31) (v := (.agg #[.string y.1, .int .i64 y.2])) #[true, true, true, true, true, true, true, true, true, true, true, true, true, true, false, false, false] rfl rfl (by kernel_rfl) (fun _ _ _ h => h) (Or.inl ⟨by rfl, by intro w hSw; (try dsimp only at hSw); go_simp⟩) hS rfl ?_
            try simp only [Act.put, List.setIfInBounds_toArray, List.set_cons_zero, List.set_cons_succ]
            refine one_ (i := 14) (N := some 32) #[true, true, true, true, true, true, true, true, true, true, true, true, true, true, true, false, false] rfl rfl (by kernel_rfl) (by decide) ?_
            intro K hK
            go_simp
            go_at_call 74; (with_reducible refine (HCm.out _).mono ?_); rintro e we ⟨rfl, hb⟩; have HX2 := Aside0.mk (below_step HX.out hb); clear HX hb; have HX := HX2; clear HX2
            refine hK.out _ _ (HK.out _ HX.out) (fun hS => ?_)
            clear hK K
            try simp only [Act.put, List.setIfInBounds_toArray, List.set_cons_zero, List.set_cons_succ]
            refine take_ (i := 15) (N := some 33) (v := (.bool false)) #[true, true, true, true, true, true, true, true, true, true, true, true, true, true, true, true, false] rfl rfl (by kernel_rfl) (fun _ _ _ h => h) (Or.inl ⟨by rfl, by intro w hSw; (try dsimp only at hSw); go_simp⟩) hS rfl ?_
            try simp only [Act.put, List.setIfInBounds_toArray, List.set_cons_zero, List.set_cons_succ]
            refine take_ (i := 16) (N := some 34) (v := (.bool false)) #[true, true, true, true, true, true, true, true, true, true, true, true, true, true, true, true, true] rfl rfl (by kernel_rfl) (fun _ _ _ h => h) (Or.inl ⟨by rfl, by intro w hSw; (try dsimp only at hSw); go_simp⟩) hS rfl ?_
            try simp only [Act.put, List.setIfInBounds_toArray, List.set_cons_zero, List.set_cons_succ]
            refine done_ (by kernel_rfl) ?_
            go_wp2_with fail
            go_roundg j1
            case measure => omega
            case rel => exact ⟨i + 1, a' ++ [y] ++ x :: m, by have := HII.out; omega, rfl, by omega, ⟨by rw [HC.out]; exact HDone.out.1.below HX.out, HDone.out.2.1, HDone.out.2.2.1, HDone.out.2.2.2.trans (grown_of_below HX.out (some g))⟩⟩
    · have g0 : decide (i < n) = false := decide_eq_false ci
      have hN : Aside0 (¬ i < n) := ⟨ci⟩
      clear ci hi
      go_wp2_with fail
      go_end0
      obtain ⟨m1, m2, m3, m4⟩ := HM.out
      have h1 := hN.out
      have h2 := HL.out
      rw [List.drop_eq_nil_of_le (by omega), List.append_nil] at m1
      rw [List.take_of_length_le (by omega)] at m2
      exact ⟨⟨_, rfl⟩, p, m1, m4, m2, m3⟩
end Go.Proofs.Ytgpjkojnmeaoiaa.QV
