/- What a sandbox is behind a step: the walk of the law's own reckoning. -/
import Derived.Test.YtjehcgmbkhekmaaSteps
namespace Go.Proofs.Ytjehcgmbkhekmaa
open Go.RowKit Go.Kpt
set_option linter.unusedVariables false

set_option maxHeartbeats 1000000 in
theorem runs_quiet (b : Nat) (x : Bx) (w : World) (h : Bq w b x) (hs : x.st < 4) :
    Calls Try.prog 13 #[.pointer (some ⟨b, 0, none⟩)] w fun e w' => e = .returned (.bool (runs x)) ∧ ∃ m, w' = w.drewN m := by
  obtain ⟨id, fn, ho, mem, st, bo, pi, si⟩ := x
  obtain ⟨-, -, -, -, c4, c5, -, -⟩ := h.cells
  have hst : st = 0 ∨ st = 1 ∨ st = 2 ∨ st = 3 := by simp at hs; omega
  rcases hst with rfl | rfl | rfl | rfl <;> cases bo
  all_goals
    go_enter Try.func13, Try.ntmps13
    go_wp2_with fail
    try (go_quiet (fail); go_wp2_with fail)
    go_ret
    exact ⟨rfl, by first | exact ⟨0, rfl⟩ | exact ⟨_, rfl⟩⟩

set_option maxHeartbeats 4000000 in
theorem next_0 (x : Bx) (now : Int) (w : World) (hs : x.st < 4) :
    Calls Try.prog 8 #[.agg (bc x), .int .i64 0, .int .i64 now] w fun e w' => e = .returned (.tuple #[.agg (bc (call x now).1), .bool (call x now).2]) ∧ Below w.heap.size w w' := by
  obtain ⟨id, fn, ho, mem, st, bo, pi, si⟩ := x
  have hst : st = 0 ∨ st = 1 ∨ st = 2 ∨ st = 3 := by simp at hs; omega
  rcases hst with rfl | rfl | rfl | rfl <;> cases bo
  all_goals
    unfold bc
    dsimp only
    go_enter Try.func8, Try.ntmps8
    go_wp2_with fail
    go_returns
    exact ⟨rfl, by go_grown⟩

set_option maxHeartbeats 4000000 in
theorem next_1 (x : Bx) (now : Int) (w : World) (hs : x.st < 4) :
    Calls Try.prog 8 #[.agg (bc x), .int .i64 1, .int .i64 now] w fun e w' => e = .returned (.tuple #[.agg (bc (booted x now).1), .bool (booted x now).2]) ∧ Below w.heap.size w w' := by
  obtain ⟨id, fn, ho, mem, st, bo, pi, si⟩ := x
  have hst : st = 0 ∨ st = 1 ∨ st = 2 ∨ st = 3 := by simp at hs; omega
  rcases hst with rfl | rfl | rfl | rfl <;> cases bo
  all_goals
    unfold bc
    dsimp only
    go_enter Try.func8, Try.ntmps8
    go_wp2_with fail
    go_returns
    exact ⟨rfl, by go_grown⟩

set_option maxHeartbeats 4000000 in
theorem next_2 (x : Bx) (now : Int) (w : World) (hs : x.st < 4) :
    Calls Try.prog 8 #[.agg (bc x), .int .i64 2, .int .i64 now] w fun e w' => e = .returned (.tuple #[.agg (bc (done x now).1), .bool (done x now).2]) ∧ Below w.heap.size w w' := by
  obtain ⟨id, fn, ho, mem, st, bo, pi, si⟩ := x
  have hst : st = 0 ∨ st = 1 ∨ st = 2 ∨ st = 3 := by simp at hs; omega
  rcases hst with rfl | rfl | rfl | rfl <;> cases bo
  all_goals
    unfold bc
    dsimp only
    go_enter Try.func8, Try.ntmps8
    go_wp2_with fail
    go_returns
    exact ⟨rfl, by go_grown⟩

set_option maxHeartbeats 4000000 in
theorem next_3 (x : Bx) (now : Int) (w : World) (hs : x.st < 4) :
    Calls Try.prog 8 #[.agg (bc x), .int .i64 3, .int .i64 now] w fun e w' => e = .returned (.tuple #[.agg (bc (kill x now).1), .bool (kill x now).2]) ∧ Below w.heap.size w w' := by
  obtain ⟨id, fn, ho, mem, st, bo, pi, si⟩ := x
  have hst : st = 0 ∨ st = 1 ∨ st = 2 ∨ st = 3 := by simp at hs; omega
  rcases hst with rfl | rfl | rfl | rfl <;> cases bo
  all_goals
    unfold bc
    dsimp only
    go_enter Try.func8, Try.ntmps8
    go_wp2_with fail
    go_returns
    exact ⟨rfl, by go_grown⟩
end Go.Proofs.Ytjehcgmbkhekmaa
