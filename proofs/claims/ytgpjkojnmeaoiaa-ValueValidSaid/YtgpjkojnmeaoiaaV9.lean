/- slices.SortStableFunc at most twenty members, by hand. -/
import Derived.Test.YtgpjkojnmeaoiaaV8
namespace Go.Proofs.Ytgpjkojnmeaoiaa.QV
open Go Go.RowKit Go.Proofs.YtgpjkojnmeaoiaaW.PrintWords Go.Proofs.YtgpjkojnmeaoiaaW.PrintLast Go.Proofs.YtgpjkojnmeaoiaaW.PrintMore
set_option linter.unusedVariables false
set_option linter.unusedSimpArgs false
set_option maxRecDepth 100000
set_option maxHeartbeats 4000000
theorem insZ (v : Value) (n : Int) (hn : 0 ≤ n ∧ n ≤ 1000) (w : World) : Calls Try.prog 93 #[v, .int .i64 n, .int .i64 n, .func (.func 74) #[] #[]] w fun e w' => (∃ u, e = .returned u) ∧ w' = w := by
  go_enter Try.func93, Try.ntmps93
  go_wp2_with fail
  have g0 : decide (n + 1 < n) = false := decide_eq_false (by omega)
  go_loopg [8] 0 (fun kq v8 w' => v8 = .int .i64 (n + 1) ∧ w' = w)
  case atStart => exact ⟨rfl, rfl⟩
  case round =>
    obtain ⟨rfl, rfl⟩ := hrel
    go_wp2_with fail
    go_end0
    exact ⟨⟨_, rfl⟩, rfl⟩
theorem sort0 (w : World) : Calls Try.prog 86 #[.slice none 0 0, .int .i64 0, .func (.func 74) #[] #[]] w fun e w' => (∃ u, e = .returned u) ∧ w' = w := by
  have HZ := Aside0.mk (fun W => insZ (.slice none 0 0) 0 (by omega) W)
  go_enter Try.func86, Try.ntmps86
  go_wp2_with fail
  go_loopg [7, 8] 0 (fun kq v7 v8 w' => v7 = .int .i64 0 ∧ v8 = .int .i64 20 ∧ w' = w)
  case atStart => exact ⟨rfl, rfl, rfl⟩
  case round =>
    obtain ⟨rfl, rfl, rfl⟩ := hrel
    go_wp2_with (first | (go_at_call 93; (with_reducible refine (HZ.out _).mono ?_); rintro e we ⟨⟨u, rfl⟩, rfl⟩))
    go_loopg [6] 0 (fun kq v6 w' => v6 = .int .i64 20 ∧ w' = we)
    case atStart => exact ⟨rfl, rfl⟩
    case round =>
      obtain ⟨rfl, rfl⟩ := hrel
      go_wp2_with fail
      go_end0
      exact ⟨⟨_, rfl⟩, rfl⟩
theorem sortC (l : List Mem) (g cap : Nat) (w : World) (h : Mr w g cap l) (hn : l.length ≤ 20) (hat : l.Pairwise (fun x y => x.2 < y.2)) :
    Calls Try.prog 86 #[.slice (some ⟨g, 0, none⟩) l.length cap, .int .i64 (l.length : Int), .func (.func 74) #[] #[]] w (SortPost l g cap w) := by
  have HI := Aside0.mk (insC l g cap w h (by omega) hat)
  have HZ := Aside0.mk (fun (n : Int) (hn : 0 ≤ n ∧ n ≤ 1000) (W : World) => insZ (.slice (some ⟨g, 0, none⟩) l.length cap) n hn W)
  obtain ⟨n, hln⟩ : ∃ n, l.length = n := ⟨_, rfl⟩
  rw [hln] at hn HI HZ ⊢
  clear h hat hln
  by_cases c : n < 20
  · have g0 : decide ((20 : Int) ≤ (n : Int)) = false := decide_eq_false (by omega)
    have g0' : decide (20 ≤ n) = false := decide_eq_false (by omega)
    have g1 : decide ((20 : Int) < (n : Int)) = false := decide_eq_false (by omega)
    have g1' : decide (20 < n) = false := decide_eq_false (by omega)
    go_enter Try.func86, Try.ntmps86
    go_wp2_with fail
    go_loopg [7, 8] 0 (fun kq v7 v8 w' => v7 = .int .i64 0 ∧ v8 = .int .i64 20 ∧ w' = w)
    case atStart => exact ⟨rfl, rfl, rfl⟩
    case round =>
      obtain ⟨rfl, rfl, rfl⟩ := hrel
      go_wp2_with (first | (go_at_call 93; (with_reducible refine HI.out.mono ?_); rintro e we ⟨⟨u, rfl⟩, hl⟩; have HL := Aside0.mk hl; clear hl))
      go_loopg [6] 0 (fun kq v6 w' => v6 = .int .i64 20 ∧ w' = we)
      case atStart => exact ⟨rfl, rfl⟩
      case round =>
        obtain ⟨rfl, rfl⟩ := hrel
        go_wp2_with fail
        go_end0
        exact ⟨⟨_, rfl⟩, HL.out⟩
  · obtain rfl : n = 20 := by omega
    have HI2 : Aside0 (Calls Try.prog 93 #[.slice (some ⟨g, 0, none⟩) 20 cap, .int .i64 0, .int .i64 20, .func (.func 74) #[] #[]] w (SortPost l g cap w)) := ⟨HI.out⟩
    clear c hn HI
    have HI := HI2
    clear HI2
    go_enter Try.func86, Try.ntmps86
    go_wp2_with fail
    go_loopg [7, 8] 1 (fun kq v7 v8 w' => (kq = 1 ∧ v7 = .int .i64 0 ∧ v8 = .int .i64 20 ∧ w' = w) ∨ (kq = 0 ∧ v7 = .int .i64 20 ∧ v8 = .int .i64 40 ∧ Aside0 (∃ l' : List Mem, Mr w' g cap l' ∧ w.grownBy w' (some g) ∧ l'.Perm l ∧ l'.Pairwise lexM)))
    case atStart => exact .inl ⟨rfl, rfl, rfl, rfl⟩
    case round =>
      rcases hrel with ⟨rfl, rfl, rfl, rfl⟩ | ⟨rfl, rfl, rfl, HL⟩
      · go_wp2_with (first | (go_at_call 93; (with_reducible refine HI.out.mono ?_); rintro e we ⟨⟨u, rfl⟩, hl⟩; have HL := Aside0.mk hl; clear hl))
        go_roundg 0
        case measure => omega
        case rel => exact .inr ⟨rfl, rfl, rfl, HL⟩
      · go_wp2_with (first | (go_at_call 93; (with_reducible refine (HZ.out 20 (by omega) _).mono ?_); rintro e we ⟨⟨u, rfl⟩, rfl⟩))
        go_loopg [6] 0 (fun kq v6 w' => v6 = .int .i64 20 ∧ w' = we)
        case atStart => exact ⟨rfl, rfl⟩
        case round =>
          obtain ⟨rfl, rfl⟩ := hrel
          go_wp2_with fail
          go_end0
          exact ⟨⟨_, rfl⟩, HL.out⟩
theorem sortStable0 (w : World) : Calls Try.prog 73 #[.slice none 0 0, .func (.func 74) #[] #[]] w fun e w' => (∃ u, e = .returned u) ∧ w' = w := by
  have HZ := Aside0.mk (fun W => sort0 W)
  go_enter Try.func73, Try.ntmps73
  go_wp2_with (first | (go_at_call 86; (with_reducible refine (HZ.out _).mono ?_); rintro e we ⟨⟨u, rfl⟩, rfl⟩))
  go_end0
  exact ⟨⟨_, rfl⟩, rfl⟩
theorem sortStableC (l : List Mem) (g cap : Nat) (w : World) (h : Mr w g cap l) (hn : l.length ≤ 20) (hat : l.Pairwise (fun x y => x.2 < y.2)) :
    Calls Try.prog 73 #[.slice (some ⟨g, 0, none⟩) l.length cap, .func (.func 74) #[] #[]] w (SortPost l g cap w) := by
  have HS := Aside0.mk (sortC l g cap w h hn hat)
  clear h hn hat
  go_enter Try.func73, Try.ntmps73
  go_wp2_with (first | (go_at_call 86; (with_reducible refine HS.out.mono ?_); rintro e we ⟨⟨u, rfl⟩, hl⟩; have HL := Aside0.mk hl; clear hl))
  go_end0
  exact ⟨⟨_, rfl⟩, HL.out⟩
end Go.Proofs.Ytgpjkojnmeaoiaa.QV
