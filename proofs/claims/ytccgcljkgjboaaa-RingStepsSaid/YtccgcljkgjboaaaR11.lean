import Derived.Test.YtccgcljkgjboaaaR10
/- Rows of the reference's ring: what append makes of them. -/
namespace Go.Proofs.Ytccgcljkgjboaaa.Rg
open Go.RowKit Go.Proofs.YtccgcljkgjboaaaW.PrintWords Go.Proofs.YtccgcljkgjboaaaW.PrintLast Go.Proofs.YtccgcljkgjboaaaW.PrintMore
set_option linter.unusedVariables false
set_option linter.unusedSimpArgs false
set_option maxRecDepth 100000
set_option maxHeartbeats 4000000
theorem Rd.C {w : World} {A : Option Addr} {l : List Int} (h : Rd w A l) : Kd.C (Kd.int .i64) w A l.length l := Kd.C_of_reads (d := (0 : Int)) (h1 := fun _ => rfl) h.1
theorem Rd.of {w : World} {B : Nat} {ok : Nat → Prop} {A : Option Addr} {n c : Nat} {l : List Int} (h : Own B ok w (.slice A n c) l) : Rd w A l := by
  have h1 := Kd.R_reads' h
  refine ⟨Kd.reads_of_C (d := (0 : Int)) h1.2.2, fun hl => ?_⟩
  obtain ⟨ad, e, _⟩ := h1.2.2.2.2 hl
  subst e
  obtain ⟨inner, ho⟩ := Kd.R_own h
  rcases ho.2 with ⟨e, _⟩ | ⟨b, cap, cur, e, hb, hc, _⟩
  · cases e
  · injection e with e1
    cases e1
    exact ⟨_, cur, rfl, hc⟩
theorem Rd.take {w : World} {A : Option Addr} {l : List Int} (h : Rd w A l) (m : Nat) (hm : m ≤ l.length) : Rd w A (l.take m) :=
  ⟨Kd.reads_of_C (d := (0 : Int)) (Kd.C_take h.C hm), fun hp => h.2 (by rw [List.length_take] at hp; omega)⟩
theorem Rd.drop {w : World} {A : Option Addr} {l : List Int} (h : Rd w A l) (m c : Nat) (hm : m ≤ l.length) (hc : l.length ≤ c) : Rd w (if c = m then A else A.map (·.add m)) (l.drop m) := by
  have h1 := Kd.C_drop h.C hm hc
  rw [show m * (Kd.int .i64).sz = m from Nat.mul_one m] at h1
  refine ⟨Kd.reads_of_C (d := (0 : Int)) h1, fun hp => ?_⟩
  rw [List.length_drop] at hp
  obtain ⟨ad, cur, rfl, hcur⟩ := h.2 (by omega)
  rw [if_neg (by omega)]
  exact ⟨ad.add m, cur, rfl, by rw [add_block]; exact hcur⟩
theorem RX.take {w : World} {A : Option Addr} {l : List Res} (h : RX w A l) (m : Nat) (hm : m ≤ l.length) : RX w A (l.take m) := by
  obtain ⟨rows, hl, hC, hT, hE⟩ := h
  have hC' : Kd.C (Kd.raw 3) w A rows.length rows := by rw [hl]; exact hC
  have h1 := Kd.C_take (m := m) hC' (by omega)
  refine ⟨rows.take m, by simp [hl], ?_, fun hp => hT (by rw [List.length_take] at hp; omega), fun j x cs h2 h3 => ?_⟩
  · have e : (l.take m).length = (rows.take m).length := by simp [hl]
    rw [e]; exact h1
  · rw [List.getElem?_take] at h2 h3
    split at h2
    · rw [if_pos (by assumption)] at h3
      exact hE j x cs h2 h3
    · cases h2
theorem RX.drop {w : World} {A : Option Addr} {l : List Res} (h : RX w A l) (m c : Nat) (hm : m ≤ l.length) (hc : l.length ≤ c) : RX w (if c = m then A else A.map (·.add (m * 3))) (l.drop m) := by
  obtain ⟨rows, hl, hC, hT, hE⟩ := h
  have hC' : Kd.C (Kd.raw 3) w A rows.length rows := by rw [hl]; exact hC
  have h1 := Kd.C_drop (m := m) (c := c) hC' (by omega) (by omega)
  refine ⟨rows.drop m, by simp [hl], ?_, fun hp => ?_, fun j x cs h2 h3 => ?_⟩
  · have e : (l.drop m).length = (rows.drop m).length := by simp [hl]
    rw [e]; exact h1
  · rw [List.length_drop] at hp
    obtain ⟨b, o, cur, rfl, hcur⟩ := hT (by omega)
    rw [if_neg (by omega)]
    exact ⟨b, o + m * 3, cur, by simp [Addr.add], hcur⟩
  · rw [List.getElem?_drop] at h2 h3
    exact hE (m + j) x cs h2 h3
theorem Rd.lit {w : World} {k : Nat} {M : Int} (hk : w.heap[k]? = some (.cells #[.int .i64 M] 3 (0, 0))) : Rd w (some ⟨k, 0, none⟩) [M] := by
  refine ⟨⟨rfl, by simp, fun _ => ⟨_, rfl, fun j hj => ?_⟩⟩, fun _ => ⟨_, _, rfl, hk⟩⟩
  obtain rfl : j = 0 := by simp at hj; omega
  simp [World.cell?, Addr.add, hk]
theorem RX.lit {w : World} {k c : Nat} {B : Option Addr} {x : Res} (hk : w.heap[k]? = some (.cells #[.slice B x.out.length c, .int .i64 x.st, .int .i64 x.rc] 33 (0, 0))) (hc : x.out.length ≤ c) (hr : RdB w B x.out) : RX w (some ⟨k, 0, none⟩) [x] := by
  refine ⟨[[.slice B x.out.length c, .int .i64 x.st, .int .i64 x.rc]], rfl, ⟨rfl, by simp, fun _ => ⟨_, rfl, fun j p hj => ?_⟩⟩, fun _ => ⟨_, _, _, rfl, hk⟩, fun j y cs h1 h2 => ?_⟩
  · rcases j with _ | j
    · obtain rfl := Option.some.inj hj
      refine ⟨_, rfl, ⟨rfl, rfl, fun u hu => ?_⟩, fun i u hu => ?_⟩
      · simp at hu; rcases hu with rfl | rfl | rfl <;> rfl
      · rcases i with _ | _ | _ | i
        · obtain rfl := Option.some.inj hu; simp [World.cell?, Addr.add, hk]
        · obtain rfl := Option.some.inj hu; simp [World.cell?, Addr.add, hk]
        · obtain rfl := Option.some.inj hu; simp [World.cell?, Addr.add, hk]
        · simp at hu
    · simp at hj
  · rcases j with _ | j
    · obtain rfl := Option.some.inj h1
      obtain rfl := Option.some.inj h2
      exact ⟨B, c, rfl, hc, hr⟩
    · simp at h1
def OwnX (B : Nat) (w : World) (v : Value) (xs : List Res) : Prop :=
  ∃ rows : List (List Value), rows.length = xs.length ∧ (Kd.raw 3).R 33 w B (fun _ => True) v rows ∧
    ∀ (j : Nat) (x : Res) (cs : List Value), xs[j]? = some x → rows[j]? = some cs → ∃ B c, cs = [.slice B x.out.length c, .int .i64 x.st, .int .i64 x.rc] ∧ x.out.length ≤ c ∧ RdB w B x.out
theorem RX.of {w : World} {B : Nat} {v : Value} {xs : List Res} (h : OwnX B w v xs) : ∃ A c, v = .slice A xs.length c ∧ xs.length ≤ c ∧ RX w A xs := by
  obtain ⟨rows, hl, hR, hE⟩ := h
  obtain ⟨A, c, rfl, h1, h2⟩ := Kd.R_reads hR
  refine ⟨A, c, by rw [hl], by omega, rows, hl, by rw [← hl]; exact h2, fun hp => ?_, hE⟩
  obtain ⟨ad, e, _⟩ := h2.2.2 (by omega)
  subst e
  obtain ⟨inner, ho⟩ := Kd.R_own hR
  rcases ho.2 with ⟨e, _⟩ | ⟨b, cap, cur, e, hb, hc, _⟩
  · cases e
  · injection e with e1
    cases e1
    exact ⟨_, _, cur, rfl, hc⟩
theorem own_empty {w : World} {k B : Nat} {cur : Array Value} (hk : w.heap[k]? = some (.cells #[] 3 (0, 0))) (hB : B ≤ k) : Own B (fun _ => True) w (.slice (some ⟨k, 0, none⟩) 0 0) [] :=
  Kd.R_of_own (h1 := fun _ => rfl) ⟨by simp [encs], .inr ⟨k, 0, #[], rfl, hB, hk, by simp, by simp [maxLen], by simp, by simp [encs]⟩⟩ (fun _ _ => trivial)
theorem ownX_empty {w : World} {k B : Nat} (hk : w.heap[k]? = some (.cells #[] 33 (0, 0))) (hB : B ≤ k) : OwnX B w (.slice (some ⟨k, 0, none⟩) 0 0) [] :=
  ⟨[], rfl, ⟨fun _ _ => trivial, [], ⟨rfl, .inr ⟨k, 0, #[], rfl, hB, hk, by simp, by simp [maxLen], by simp [Kd.raw], by simp⟩⟩, rfl, fun j p hj => by simp at hj⟩, fun j x cs h => by simp at h⟩
theorem stepRow {ops : Array Oper} {o : Oper} {a : Act} {Q : Exit → Act → World → Prop} {K : Act → World → Prop} {E : Prop} {w0 W : World} (hgd : o.guard = none) (base : Nat) (s x : Operand)
    (ho : o.op = .call { callee := .builtin .append, args := #[s, x], argTypes := #[22, 22] }) (v : Value) (xs ys : List Int) (A : Option Addr) (m c : Nat) (hs : a.eval s = v) (hx : a.eval x = .slice A m c)
    (HO : Own base (fun _ => True) W v xs) (HR : Rd W A ys) (hm : ys.length = m) (HB : Below base w0 W) (hbase : base ≤ W.heap.size) (hl : xs.length + m ≤ 17592186044416)
    (h : ∀ v1 w1, Own base (fun _ => True) w1 v1 (xs ++ ys) → Below base w0 w1 → W.grownBy w1 v.ownBlock → K (a.put o.dst v1) w1) :
    if Region.wanted o (yielded ops a.tmps) = true then Oper.wp Try.prog o a W K Q else E := by
  have hw : Region.wanted o (yielded ops a.tmps) = true := by simp [Region.wanted, hgd]
  rw [if_pos hw]
  have H := Kd.R_append_rows_step (P := Try.prog) (ops := ops) (o := o) (a := a) (Q := Q) (Kc := K) (Kd.int .i64) (Rr := (Kd.int .i64).K W) (w0 := w0) (W := W) base hw s x 22 3 (.int .i64 0) 8 ho Try.underlying22 inf3 rfl (by decide) (by omega) v xs ys A m c (fun _ => True) (fun _ => False) hs hx HO (by rw [← hm]; exact HR.C) (fun _ _ hk => hk) (fun _ hk => hk.elim) (fun _ _ => trivial) HB hbase (by omega) (fun v1 w1 h1 h2 h3 _ => h v1 w1 h1 h2 h3)
  rw [if_pos hw] at H
  exact H
theorem inf33 : (Try.prog.info? 33).map (fun i => (i.zero, i.size, i.bytes)) = some (some (.agg #[.slice none 0 0, .int .i64 0, .int .i64 0]), 3, 40) := by kernel_rfl
theorem grow_bytes {w w' : World} {B : Nat} {v : Value} {rows : List (List Value)} (h : (Kd.raw 3).R 33 w B (fun _ => True) v rows) (hg : w.grownBy w' v.ownBlock) {A : Option Addr} {l : List Int} (hr : RdB w A l) : RdB w' A l :=
  hr.move (fun k cur hk => hg.block k (hlt hk) (fun e => by
    obtain ⟨inner, ho⟩ := Kd.R_own h
    obtain ⟨cells, hc⟩ := own_typed ho k e.symm
    exact absurd (type_ne hk hc) (by decide)))
theorem stepX {ops : Array Oper} {o : Oper} {a : Act} {Q : Exit → Act → World → Prop} {K : Act → World → Prop} {E : Prop} {w0 W : World} (hgd : o.guard = none) (base : Nat) (s x : Operand)
    (ho : o.op = .call { callee := .builtin .append, args := #[s, x], argTypes := #[37, 37] }) (v : Value) (xs ys : List Res) (A : Option Addr) (m c : Nat) (hs : a.eval s = v) (hx : a.eval x = .slice A m c)
    (HO : OwnX base W v xs) (HR : RX W A ys) (hm : ys.length = m) (HB : Below base w0 W) (hbase : base ≤ W.heap.size) (hl : xs.length + m ≤ 1000)
    (h : ∀ v1 w1, OwnX base w1 v1 (xs ++ ys) → Below base w0 w1 → W.grownBy w1 v.ownBlock → (∀ k, v.ownBlock = some k → ∃ cells, W.heap[k]? = some (.cells cells 33 (0, 0))) → K (a.put o.dst v1) w1) :
    if Region.wanted o (yielded ops a.tmps) = true then Oper.wp Try.prog o a W K Q else E := by
  have hw : Region.wanted o (yielded ops a.tmps) = true := by simp [Region.wanted, hgd]
  rw [if_pos hw]
  obtain ⟨rows, hlr, hR, hE⟩ := HO
  obtain ⟨news, hln, hC, hT, hF⟩ := HR
  have H := Kd.R_append_rows_step (P := Try.prog) (ops := ops) (o := o) (a := a) (Q := Q) (Kc := K) (Kd.raw 3) (Rr := (Kd.raw 3).K W) (w0 := w0) (W := W) base hw s x 37 33 (.agg #[.slice none 0 0, .int .i64 0, .int .i64 0]) 40 ho Try.underlying37 inf33 rfl (by decide) (by omega) v rows news A m c (fun _ => True) (fun _ => False) hs hx hR (by rw [← hm]; exact hC) (fun _ _ hk => hk) (fun _ hk => hk.elim) (fun _ _ => trivial) HB hbase (by omega) (fun v1 w1 h1 h2 h3 _ => h v1 w1 ⟨rows ++ news, by simp [hlr, hln], h1, fun j y cs e1 e2 => by
    rcases Nat.lt_or_ge j xs.length with hj | hj
    · rw [List.getElem?_append_left hj] at e1
      rw [List.getElem?_append_left (by omega)] at e2
      obtain ⟨B, c, q1, q2, q3⟩ := hE j y cs e1 e2
      exact ⟨B, c, q1, q2, grow_bytes hR h3 q3⟩
    · rw [List.getElem?_append_right hj] at e1
      rw [List.getElem?_append_right (by omega), hlr] at e2
      obtain ⟨B, c, q1, q2, q3⟩ := hF _ y cs e1 e2
      exact ⟨B, c, q1, q2, grow_bytes hR h3 q3⟩⟩ h2 h3 (fun k hk => by obtain ⟨inner, ho⟩ := Kd.R_own hR; exact own_typed ho k hk))
  rw [if_pos hw] at H
  exact H
/-- l[:i] and l[i:] of a slice whose elements have the size sz. -/
theorem takeRun {P : Program} (t e : TypeId) {i : TypeInfo} (ht : P.underlying t = some (.slice e)) (hi : P.info? e = some i) (A : Option Addr) (n c m : Nat) (hm : m ≤ n) (hc : n ≤ c) (W : World) :
    (Instr.slice t (.slice A n c) none (some (.int .i64 (m : Int))) none).run P W = .ok (.slice A m c) W := by
  have hel : P.elem t = e := by simp [Program.elem, ht]
  have hu : P.underlying t = some (.slice (P.elem t)) := by rw [hel]; exact ht
  have ha : (A.map fun x => x.add 0) = A := by cases A <;> simp [Addr.add]
  rw [run_slice_h W t A n c hu .i64 (m : Int) (by omega) (by omega), hel]
  simp [sizeOf, typeInfo, hi, sliced, Result.andThen, ha]
theorem dropRun {P : Program} (t e : TypeId) {i : TypeInfo} (ht : P.underlying t = some (.slice e)) (hi : P.info? e = some i) (size : Nat) (hsz : i.size = size) (A : Option Addr) (n c m : Nat) (hm : m ≤ n) (hc : n ≤ c) (W : World) :
    (Instr.slice t (.slice A n c) (some (.int .i64 (m : Int))) none none).run P W = .ok (.slice (if c = m then A else A.map (·.add (m * size))) (n - m) (c - m)) W := by
  have hel : P.elem t = e := by simp [Program.elem, ht]
  have hu : P.underlying t = some (.slice (P.elem t)) := by rw [hel]; exact ht
  rw [run_slice_l W t A n c hu .i64 (m : Int) (by omega) (by omega), hel]
  simp [sizeOf, typeInfo, hi, hsz, sliced, Result.andThen]
/-- How many numbers of a row lie ahead of M. -/
def pos : List Int → Int → Nat
  | [], _ => 0
  | a :: l, M => if a < M then pos l M + 1 else 0
theorem pos_le : ∀ (l : List Int) (M : Int), pos l M ≤ l.length
  | [], _ => Nat.le_refl _
  | a :: l, M => by rw [pos]; split; have := pos_le l M; simp only [List.length_cons]; omega; simp
theorem pos_lt : ∀ (l : List Int) (M : Int) (j : Nat), j < pos l M → l.getD j 0 < M
  | [], _, j, h => by simp [pos] at h
  | a :: l, M, j, h => by
    rw [pos] at h
    split at h
    · rcases j with _ | j
      · simpa using (by assumption : a < M)
      · simpa using pos_lt l M j (by omega)
    · omega
theorem pos_ge : ∀ (l : List Int) (M : Int), pos l M < l.length → ¬ l.getD (pos l M) 0 < M
  | [], _, h => by simp at h
  | a :: l, M, h => by
    rw [pos] at h ⊢
    split
    · rw [if_pos (by assumption)] at h
      simp only [List.length_cons] at h
      simpa using pos_ge l M (by omega)
    · simpa using (by assumption : ¬ a < M)
end Go.Proofs.Ytccgcljkgjboaaa.Rg
