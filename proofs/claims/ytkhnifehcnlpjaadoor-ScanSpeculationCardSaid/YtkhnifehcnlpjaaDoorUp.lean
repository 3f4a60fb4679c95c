/- A region that draws its order, with a preorder R on worlds ('nothing that stood has changed'): an operation whose VALUE is the same in every world above w may be taken first, also if it makes memory (a call by its contract, a load, a number). My own words (session 5); the kernel checks all. -/
import Derived.OrdersHeld
import Derived.Deep.RegionHeld3
namespace Go.Up
open Go
set_option linter.unusedVariables false
set_option linter.unusedSimpArgs false
structure Pre (R : World → World → Prop) : Prop where
  refl : ∀ w, R w w
  trans : ∀ {a b c}, R a b → R b c → R a c
section
variable {P : Program} {ops : Array Oper} {Q : Exit → Act → World → Prop} {md : Region.Mode} {R : World → World → Prop} {ds : List Nat}
/-- Whatever order is picked, in whatever world above w; R is shown behind each operation, those of ds apart. -/
def wpUp (P : Program) (md : Region.Mode) (ops : Array Oper) (Q : Exit → Act → World → Prop) (R : World → World → Prop) (ds : List Nat) : Nat → Array Bool → Act → World → Prop
  | 0, l, a, w => Region.ready md ops l = [] ∧ ∀ w1, R w w1 → Q .normal a w1
  | n + 1, l, a, w => ∀ w1, R w w1 → (Region.ready md ops l = [] → Q .normal a w1) ∧
      ∀ i ∈ Region.ready md ops l, wpOp P ops Q i (fun a' w' => (i ∉ ds → R w1 w') ∧ wpUp P md ops Q R ds n (l.setIfInBounds i true) a' w') a w1
theorem wpUp.up (hR : Pre R) {w w1 : World} (h01 : R w w1) : ∀ {n : Nat} {l : Array Bool} {a : Act}, wpUp P md ops Q R ds n l a w → wpUp P md ops Q R ds n l a w1
  | 0, _, _, h => ⟨h.1, fun w2 h2 => h.2 w2 (hR.trans h01 h2)⟩
  | _ + 1, _, _, h => fun w2 h2 => h w2 (hR.trans h01 h2)
theorem any_of_up (hR : Pre R) : ∀ (n : Nat) (l : Array Bool) (a : Act) (w : World), wpUp P md ops Q R ds n l a w → wpAny P md ops Q n l a w
  | 0, _, _, w, h => ⟨h.1, h.2 w (hR.refl w)⟩
  | _ + 1, _, _, w, h => ⟨(h w (hR.refl w)).1, fun i hi => wpOp_mono (fun a' w' h' => any_of_up hR _ _ a' w' h'.2) ((h w (hR.refl w)).2 i hi)⟩
/-- In every world above w this instruction ends with v, and R holds. -/
def Gives (P : Program) (R : World → World → Prop) (w : World) (x : Sem Next) (v : Value) : Prop :=
  ∀ w1, R w w1 → (∃ w2, x.run P w1 = .ok (.value v) w2 ∧ R w1 w2) ∨ (∃ f as w2, x.run P w1 = .ok (.enter f as) w2 ∧ Calls P f as w2 fun e w3 => e = .returned v ∧ R w1 w3)
def YieldsUp (P : Program) (ops : Array Oper) (R : World → World → Prop) (w : World) (o : Oper) (v : Value) (a : Act) : Prop :=
  (Region.wanted o (yielded ops a.tmps) = true ∧ Gives P R w (execOp a.eval o) v) ∨ (Region.wanted o (yielded ops a.tmps) = false ∧ v = undef)
theorem YieldsUp.up (hR : Pre R) {w w1 : World} (h01 : R w w1) {o : Oper} {v : Value} {a : Act} (h : YieldsUp P ops R w o v a) : YieldsUp P ops R w1 o v a :=
  h.imp (fun ⟨x, y⟩ => ⟨x, fun w2 h2 => y w2 (hR.trans h01 h2)⟩) id
theorem YieldsUp.same {w : World} {o : Oper} {v : Value} {a a' : Act} (h : YieldsUp P ops R w o v a) (he : execOp a'.eval o = execOp a.eval o) (hw : Region.wanted o (yielded ops a'.tmps) = Region.wanted o (yielded ops a.tmps)) : YieldsUp P ops R w o v a' := by
  unfold YieldsUp at *
  rw [he, hw]
  exact h
theorem YieldsUp.run {i : Nat} {o : Oper} {v : Value} {a : Act} {w : World} (hR : Pre R) (hi : ops[i]? = some o) (h : YieldsUp P ops R w o v a) {K : Act → World → Prop} {w1 : World} (h1 : R w w1)
    (hK : ∀ w2, R w1 w2 → K (a.put o.dst v) w2) : wpOp P ops Q i K a w1 := by
  unfold wpOp
  simp only [hi]
  rcases h with ⟨hw, hg⟩ | ⟨hw, rfl⟩
  · rw [if_pos hw]
    left
    unfold Oper.wp
    rcases hg w1 h1 with ⟨w2, e, h2⟩ | ⟨f, as, w2, e, h2⟩
    · rw [e]
      exact hK _ h2
    · rw [e, Oper.upon_enter]
      refine h2.mono fun e w3 h3 => ?_
      obtain ⟨rfl, h4⟩ := h3
      exact hK _ h4
  · rw [if_neg (by rw [hw]; simp)]
    exact hK _ (hR.refl _)
/-- What oi looks at is the same in a' as in a. -/
def Like (ops : Array Oper) (oi : Oper) (a a' : Act) : Prop := execOp a'.eval oi = execOp a.eval oi ∧ Region.wanted oi (yielded ops a'.tmps) = Region.wanted oi (yielded ops a.tmps)
/-- One operation oj apart from oi: oi's value in its place or not, oj goes alike, and oi sees the same behind it. -/
theorem put_like {j : Nat} {oi oj : Oper} {v : Value} (hj : ops[j]? = some oj) (hap : oi.apart ops oj = true) (hsi : ∀ cs b, oi.op ≠ .select cs b) (hsj : ∀ cs b, oj.op ≠ .select cs b)
    (hQ : ∀ c a w, Q (.panic c) (a.put oi.dst v) w → Q (.panic c) a w) {K : Act → World → Prop} {a : Act} {w : World} (h : wpOp P ops Q j K (a.put oi.dst v) w) :
    wpOp P ops Q j (fun a' w' => Like ops oi a a' ∧ K (a'.put oi.dst v) w') a w := by
  obtain ⟨h1, h2, h3⟩ := Oper.apart_spec hap
  have lk : ∀ (b : Act) (u : Value), Like ops oi a b → Like ops oi a (b.put oj.dst u) := fun b u hb =>
    ⟨(execOp_put oi hsi b oj.dst u h3).trans hb.1, (wanted_put oi b oj.dst u h3).trans hb.2⟩
  have l0 : Like ops oi a a := ⟨rfl, rfl⟩
  have e1 := execOp_put (ops := ops) oj hsj a oi.dst v h1
  have e2 := wanted_put (ops := ops) oj a oi.dst v h1
  have cm : ∀ (b : Act) (u : Value), (b.put oi.dst v).put oj.dst u = (b.put oj.dst u).put oi.dst v := fun b u => Act.put_comm b v u h2
  unfold wpOp at h ⊢
  simp only [hj] at h ⊢
  rw [e2] at h
  by_cases hw : Region.wanted oj (yielded ops a.tmps) = true
  · rw [if_pos hw] at h ⊢
    rcases h with h | ⟨ha, hl⟩
    · left
      unfold Oper.wp at h ⊢
      rw [e1] at h
      cases hr : (execOp a.eval oj).run P w with
      | ok n w' =>
        rw [hr] at h
        cases n with
        | value u => exact ⟨lk _ _ l0, by rw [← cm]; exact h⟩
        | skip => exact ⟨lk _ _ l0, by rw [← cm]; exact h⟩
        | «defer» d =>
          refine ⟨lk { a with defers := d :: a.defers } _ l0, ?_⟩
          show K _ _
          rw [← cm, ← Act.put_defers]
          exact h
        | enter f as =>
          rw [Oper.upon_enter] at h ⊢
          refine Calls.mono h fun e w2 he => ?_
          cases e with
          | returned u => exact ⟨lk _ _ l0, by rw [← cm]; exact he⟩
          | panicked c => exact hQ _ _ _ he
          | outgrown => exact he
        | row r as =>
          rw [Oper.upon_row] at h ⊢
          exact Rows.mono h fun u w2 he => ⟨lk _ _ l0, by rw [← cm]; exact he⟩
        | _ => exact h
      | halt x w' =>
        rw [hr] at h
        cases x with
        | panic u => exact hQ _ _ _ h
        | _ => exact h
    · right
      exact ⟨by unfold Oper.asks at ha ⊢; rw [e1] at ha; exact ha, hl⟩
  · rw [if_neg hw] at h ⊢
    exact ⟨lk _ _ l0, by rw [← cm]; exact h⟩
theorem wpUp_first (hR : Pre R) {i : Nat} {oi : Oper} {v : Value} (hi : ops[i]? = some oi) (hsel : ∀ (j : Nat) (o : Oper) cs b, ops[j]? = some o → o.op ≠ .select cs b)
    (hQ : ∀ c a w, Q (.panic c) (a.put oi.dst v) w → Q (.panic c) a w) (hid : i ∉ ds) :
    ∀ (n : Nat) (l : Array Bool) (a : Act) (w : World),
      (∀ j oj, ops[j]? = some oj → j ≠ i → l.getD j true = false → (∀ e ∈ oj.after, Region.binds md e = true → e.on ≠ i) → oi.apart ops oj = true) →
      (∀ d ∈ ds, ∀ od, ops[d]? = some od → l.getD d true = false → ¬ ∀ e ∈ od.after, Region.binds md e = true → e.on ≠ i) →
      i ∈ Region.ready md ops l → YieldsUp P ops R w oi v a →
      wpUp P md ops Q R ds n (l.setIfInBounds i true) (a.put oi.dst v) w → wpUp P md ops Q R ds (n + 1) l a w := by
  intro n
  induction n with
  | zero =>
    intro l a w _ _ hr hy H w1 h1
    refine ⟨fun h => (by rw [h] at hr; cases hr), fun j hj => ?_⟩
    by_cases hji : j = i
    · subst hji
      exact hy.run hR hi h1 fun w2 h2 => ⟨fun _ => h2, H.1, fun w3 h3 => H.2 w3 (hR.trans h1 (hR.trans h2 h3))⟩
    · have := ready_mono hj hji
      rw [H.1] at this
      cases this
  | succ n ih =>
    intro l a w hfree hds hr hy H w1 h1
    refine ⟨fun h => (by rw [h] at hr; cases hr), fun j hj => ?_⟩
    by_cases hji : j = i
    · subst hji
      exact hy.run hR hi h1 fun w2 h2 => ⟨fun _ => h2, fun w3 h3 => H w3 (hR.trans h1 (hR.trans h2 h3))⟩
    · have hj1 := (H w1 h1).2 j (ready_mono hj hji)
      obtain ⟨hjun, oj, hoj, hall⟩ := mem_ready.1 hj
      have hiun := (mem_ready.1 hr).1
      have hnot : ∀ e ∈ oj.after, Region.binds md e = true → e.on ≠ i := fun e he hb heq => by
        have h1 := hall e he hb
        rw [heq] at h1
        rcases Nat.lt_or_ge i l.size with h' | h'
        · simp [h'] at hiun h1; rw [hiun] at h1; cases h1
        · simp [Array.getElem?_eq_none h'] at h1
      have hjd : j ∉ ds := fun hm => hds j hm oj hoj hjun hnot
      have h2 := put_like hoj (hfree j oj hoj hji hjun hnot) (fun cs b => hsel i oi cs b hi) (fun cs b => hsel j oj cs b hoj) hQ hj1
      have un : ∀ k, (l.setIfInBounds j true).getD k true = false → l.getD k true = false := fun k hun => by
        by_cases hjk : j = k
        · subst hjk; exact hjun
        · rw [getD_set_ne true hjk] at hun; exact hun
      refine wpOp_mono (fun a' w' h3 => ?_) h2
      obtain ⟨hl, hr1, hw⟩ := h3
      refine ⟨hr1, ih (l.setIfInBounds j true) a' w' (fun k ok hk hki hun hno => hfree k ok hk hki (un k hun) hno) (fun d hd od hod hun => hds d hd od hod (un d hun)) (ready_mono hr (Ne.symm hji)) ((hy.up hR (hR.trans h1 (hr1 hjd))).same hl.1 hl.2) ?_⟩
      rw [Array.setIfInBounds_comm _ _ hji]
      exact hw
def dsB (md : Region.Mode) (ops : Array Oper) (l : Array Bool) (ds : List Nat) (i : Nat) : Bool :=
  ds.all fun d => l.getD d true || (match ops[d]? with | some o => o.after.any fun e => Region.binds md e && e.on == i | none => true)
theorem dsB_spec {l : Array Bool} {i : Nat} (h : dsB md ops l ds i = true) : ∀ d ∈ ds, ∀ od, ops[d]? = some od → l.getD d true = false → ¬ ∀ e ∈ od.after, Region.binds md e = true → e.on ≠ i := by
  intro d hd od ho hl hn
  have h1 := List.all_eq_true.1 h d hd
  rw [hl, ho] at h1
  simp only [Bool.false_or] at h1
  obtain ⟨e, he, h2⟩ := Array.any_eq_true'.1 h1
  simp only [Bool.and_eq_true, beq_iff_eq] at h2
  exact hn e he h2.1 h2.2
theorem start_ (hR : Pre R) {id n : Nat} {a : Act} {w : World} (l : Array Bool) (hm : P.follows .mixedOrders = true) (hn : ops.size = n) (hl : Array.replicate n false = l)
    (h : wpUp P .any ops Q R ds n l a w.drew) : (Code.region id ops true).wp P Q a w := by
  subst hn
  subst hl
  exact wp_region_any hm (any_of_up hR _ _ _ _ h)
def takeB (md : Region.Mode) (ops : Array Oper) (ds : List Nat) (l l' : Array Bool) (i : Nat) : Bool :=
  Region.noSelect ops && Region.free md ops l i && (Region.ready md ops l).contains i && dsB md ops l ds i && !ds.contains i && (l.setIfInBounds i true == l')
/-- Taken first: the same value in every world above. -/
theorem take_ (hR : Pre R) {i : Nat} {N : Option Tmp} {oi : Oper} (v : Value) {n : Nat} {l : Array Bool} {a : Act} {w : World} (l' : Array Bool) (hi : ops[i]? = some oi) (hN : oi.dst = N) (hc : takeB md ops ds l l' i = true)
    (hQ : ∀ c a w, Q (.panic c) (a.put oi.dst v) w → Q (.panic c) a w) (hy : YieldsUp P ops R w oi v a) {a' : Act} (ha : a.put N v = a') (h : wpUp P md ops Q R ds n l' a' w) : wpUp P md ops Q R ds (n + 1) l a w := by
  subst ha
  subst hN
  simp only [takeB, Bool.and_eq_true, beq_iff_eq, Bool.not_eq_true'] at hc
  obtain ⟨⟨⟨⟨⟨h1, h2⟩, h3⟩, h4⟩, h5⟩, h6⟩ := hc
  subst h6
  exact wpUp_first hR hi (Region.noSelect_spec h1) hQ (by simpa using h5) n l a w (Region.free_spec hi h2) (dsB_spec h4) (by simpa using h3) hy h
theorem done_ (hR : Pre R) {l : Array Bool} {a : Act} {w : World} {n : Nat} (hr : (Region.ready md ops l == []) = true) (h : ∀ w1, R w w1 → Q .normal a w1) : wpUp P md ops Q R ds n l a w := by
  have hr' : Region.ready md ops l = [] := by simpa using hr
  cases n with
  | zero => exact ⟨hr', h⟩
  | succ n => exact fun w1 h1 => ⟨fun _ => h w1 h1, by rw [hr']; simp⟩
/-- What is not wanted (its guard is off). -/
theorem off_ {w : World} {o : Oper} {a : Act} (h : Region.wanted o (yielded ops a.tmps) = false) : YieldsUp P ops R w o undef a := .inr ⟨h, rfl⟩
/-- A value, the world as it was. -/
theorem value_ (hR : Pre R) {w : World} {o : Oper} {v : Value} {a : Act} (hw : Region.wanted o (yielded ops a.tmps) = true) (h : ∀ w1, R w w1 → (execOp a.eval o).run P w1 = .ok (.value v) w1) : YieldsUp P ops R w o v a :=
  .inl ⟨hw, fun w1 h1 => .inl ⟨w1, h w1 h1, hR.refl _⟩⟩
theorem enters_ {f : FuncId} {fn : Func} (hf : P.funcs[f]? = some fn) (hname : (fn.name == "runtime.NumGoroutine") = false) (hb : fn.body.isSome = true) (args : Array Value) (w : World) : (callFunc f args).run P w = .ok (.enter f args) w := by
  have h1 : fn.name ≠ "runtime.NumGoroutine" := by simpa using hname
  obtain ⟨c, hc⟩ := Option.isSome_iff_exists.1 hb
  simp [callFunc, hf, h1, hc]
/-- A call of a Go function by its contract. -/
theorem call_ {w : World} {o : Oper} {v : Value} {a : Act} {f : FuncId} {fn : Func} {as : Array Operand} {ts : Array TypeId} (hf : P.funcs[f]? = some fn) (hname : (fn.name == "runtime.NumGoroutine") = false) (hb : fn.body.isSome = true) (args : Array Value)
    (hw : Region.wanted o (yielded ops a.tmps) = true) (hop : o.op = .call { callee := .value (.func f), args := as, argTypes := ts }) (hargs : as.map a.eval = args)
    (h : ∀ w1, R w w1 → Calls P f args w1 fun e w2 => e = .returned v ∧ R w1 w2) : YieldsUp P ops R w o v a :=
  .inl ⟨hw, fun w1 h1 => .inr ⟨f, args, w1, by
    have he := enters_ hf hname hb args w1
    unfold execOp
    simp [hop, resolve, Deferred.ofValue, invoke, Act.eval, hargs, he], h w1 h1⟩⟩
def readyB (md : Region.Mode) (ops : Array Oper) (l l' : Array Bool) (i : Nat) : Bool := (Region.ready md ops l == [i]) && (l.setIfInBounds i true == l')
theorem step_ {n : Nat} {l : Array Bool} {a : Act} {w1 : World} {i : Nat} {o : Oper} {N : Option Tmp} (ho : ops[i]? = some o) (hN : o.dst = N)
    (h : ∀ K : Act → World → Prop, Shut (∀ a' w', (i ∉ ds → R w1 w') → wpUp P md ops Q R ds n (l.setIfInBounds i true) a' w' → K a' w') → if Region.wanted o (yielded ops a.tmps) = true then Oper.wp P o a w1 K Q else K (a.put N undef) w1) :
    wpOp P ops Q i (fun a' w' => (i ∉ ds → R w1 w') ∧ wpUp P md ops Q R ds n (l.setIfInBounds i true) a' w') a w1 := by
  subst hN
  exact wpOp_step ho (fun K hK => h K (fun a' w' h1 h2 => hK a' w' ⟨h1, h2⟩))
/-- One operation alone may come up: it is run, in some world above. -/
theorem one_ {i : Nat} {N : Option Tmp} {oi : Oper} {n : Nat} {l : Array Bool} {a : Act} {w : World} (l' : Array Bool) (hi : ops[i]? = some oi) (hN : oi.dst = N) (hc : readyB md ops l l' i = true) (hd : i ∉ ds)
    (h : ∀ w1, R w w1 → ∀ K : Act → World → Prop, Shut (∀ a' w', R w1 w' → wpUp P md ops Q R ds n l' a' w' → K a' w') → if Region.wanted oi (yielded ops a.tmps) = true then Oper.wp P oi a w1 K Q else K (a.put N undef) w1) :
    wpUp P md ops Q R ds (n + 1) l a w := by
  simp only [readyB, Bool.and_eq_true, beq_iff_eq] at hc
  obtain ⟨h1, h2⟩ := hc
  subst h2
  intro w1 hw
  refine ⟨fun e => (by rw [h1] at e; cases e), fun j hj => ?_⟩
  rw [h1] at hj
  obtain rfl : j = i := by simpa using hj
  exact step_ hi hN fun K hK => h w1 hw K fun a' w' hr hu => hK a' w' (fun _ => hr) hu
/-- The same for one of ds: nothing is shown behind it. -/
theorem last_ {i : Nat} {N : Option Tmp} {oi : Oper} {n : Nat} {l : Array Bool} {a : Act} {w : World} (l' : Array Bool) (hi : ops[i]? = some oi) (hN : oi.dst = N) (hc : readyB md ops l l' i = true) (hd : i ∈ ds)
    (h : ∀ w1, R w w1 → ∀ K : Act → World → Prop, Shut (∀ a' w', wpUp P md ops Q R ds n l' a' w' → K a' w') → if Region.wanted oi (yielded ops a.tmps) = true then Oper.wp P oi a w1 K Q else K (a.put N undef) w1) :
    wpUp P md ops Q R ds (n + 1) l a w := by
  simp only [readyB, Bool.and_eq_true, beq_iff_eq] at hc
  obtain ⟨h1, h2⟩ := hc
  subst h2
  intro w1 hw
  refine ⟨fun e => (by rw [h1] at e; cases e), fun j hj => ?_⟩
  rw [h1] at hj
  obtain rfl : j = i := by simpa using hj
  exact step_ hi hN fun K hK => h w1 hw K fun a' w' hu => hK a' w' (fun hn => absurd hd hn) hu
theorem two_ {i j : Nat} {Ni Nj : Option Tmp} {oi oj : Oper} {n : Nat} {l : Array Bool} {a : Act} {w : World} (li lj : Array Bool) (hi : ops[i]? = some oi) (hj : ops[j]? = some oj) (hNi : oi.dst = Ni) (hNj : oj.dst = Nj)
    (hc : (Region.ready md ops l == [i, j] && l.setIfInBounds i true == li && l.setIfInBounds j true == lj) = true) (hdi : i ∉ ds) (hdj : j ∉ ds)
    (h1 : ∀ w1, R w w1 → ∀ K : Act → World → Prop, Shut (∀ a' w', R w1 w' → wpUp P md ops Q R ds n li a' w' → K a' w') → if Region.wanted oi (yielded ops a.tmps) = true then Oper.wp P oi a w1 K Q else K (a.put Ni undef) w1)
    (h2 : ∀ w1, R w w1 → ∀ K : Act → World → Prop, Shut (∀ a' w', R w1 w' → wpUp P md ops Q R ds n lj a' w' → K a' w') → if Region.wanted oj (yielded ops a.tmps) = true then Oper.wp P oj a w1 K Q else K (a.put Nj undef) w1) :
    wpUp P md ops Q R ds (n + 1) l a w := by
  simp only [Bool.and_eq_true, beq_iff_eq] at hc
  obtain ⟨⟨h3, h4⟩, h5⟩ := hc
  subst h4
  subst h5
  intro w1 hw
  refine ⟨fun e => (by rw [h3] at e; cases e), fun k hk => ?_⟩
  rw [h3] at hk
  rcases List.mem_cons.1 hk with rfl | hk
  · exact step_ hi hNi fun K hK => h1 w1 hw K fun a' w' hr hu => hK a' w' (fun _ => hr) hu
  · obtain rfl : k = j := by simpa using hk
    exact step_ hj hNj fun K hK => h2 w1 hw K fun a' w' hr hu => hK a' w' (fun _ => hr) hu
def putAll : Act → List (Tmp × Value) → Act
  | a, [] => a
  | a, (n, v) :: r => putAll (a.put (some n) v) r
/-- What follows, once. -/
theorem join_ {σ : Type} {n : Nat} {l : Array Bool} {a : Act} {w : World} (n' : Nat) (l' : Array Bool) (ns : σ → List (Tmp × Value)) (F : σ → World → Prop)
    (hcont : ∀ s w', F s w' → wpUp P md ops Q R ds n' l' (putAll a (ns s)) w')
    (h : (∀ s w', F s w' → wpUp P md ops Q R ds n' l' (putAll a (ns s)) w') → wpUp P md ops Q R ds n l a w) : wpUp P md ops Q R ds n l a w := h hcont
end
end Go.Up
