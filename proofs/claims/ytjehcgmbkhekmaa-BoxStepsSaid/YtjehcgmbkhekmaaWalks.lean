/- What a sandbox's functions do. -/
import Derived.Test.YtjehcgmbkhekmaaRows
import Derived.Test.YtjehcgmbkhekmaaKept
import Derived.Test.YtjehcgmbkhekmaaArgs
import Derived.Test.YtjehcgmbkhekmaaBits
import Derived.BigRegion
import Derived.BigQuiet
import Derived.Handy
namespace Go.Proofs.Ytjehcgmbkhekmaa
open Go.RowKit Go.Kpt
set_option linter.unusedVariables false

/-- A sandbox. -/
structure Bx where
  id : Int
  fn : Int
  host : Int
  mem : Int
  st : Nat
  bound : Bool
  pin : Bool
  since : Int

def bc (x : Bx) : Array Value := #[.int .i64 x.id, .int .i64 x.fn, .int .i64 x.host, .int .i64 x.mem, .int .i64 x.st, .bool x.bound, .bool x.pin, .int .i64 x.since]

/-- A sandbox in its block. -/
def Bq (w : World) (b : Nat) (x : Bx) : Prop := w.heap[b]? = some (.cells (bc x) 29 (0, 0))

theorem Bq.below {w w' : World} {b : Nat} {x : Bx} (h : Bq w b x) (hB : Below w.heap.size w w') : Bq w' b x := (hB.block b (lt_of h)).trans h
theorem Bq.kept {F : Nat → Prop} {w w' : World} {b : Nat} {x : Bx} (h : Bq w b x) (k : Kept F w w') (hF : ¬ F b) : Bq w' b x := (k.block b (lt_of h) hF).trans h

def call (x : Bx) (now : Int) : Bx × Bool :=
  if x.st = 1 then ({ x with st := 2, since := now }, true)
  else if x.st = 0 ∧ x.bound = false then ({ x with bound := true }, true)
  else (x, false)
def booted (x : Bx) (now : Int) : Bx × Bool :=
  if x.st = 0 then (if x.bound then { x with st := 2, bound := false, since := now } else { x with st := 1, since := now }, true)
  else (x, false)
def done (x : Bx) (now : Int) : Bx × Bool := if x.st = 2 then ({ x with st := 1, since := now }, true) else (x, false)
def kill (x : Bx) (now : Int) : Bx × Bool := if x.st = 3 then (x, false) else ({ x with st := 3, bound := false, pin := false, since := now }, true)
def runs (x : Bx) : Bool := x.st == 2 || (x.st == 0 && x.bound)
def idle (x : Bx) : Bool := x.st == 1

theorem Bq.cells {w : World} {b : Nat} {x : Bx} (h : Bq w b x) :
    w.cell? ⟨b, 0, none⟩ = some (.int .i64 x.id) ∧ w.cell? ⟨b, 1, none⟩ = some (.int .i64 x.fn) ∧ w.cell? ⟨b, 2, none⟩ = some (.int .i64 x.host) ∧ w.cell? ⟨b, 3, none⟩ = some (.int .i64 x.mem) ∧
    w.cell? ⟨b, 4, none⟩ = some (.int .i64 x.st) ∧ w.cell? ⟨b, 5, none⟩ = some (.bool x.bound) ∧ w.cell? ⟨b, 6, none⟩ = some (.bool x.pin) ∧ w.cell? ⟨b, 7, none⟩ = some (.int .i64 x.since) :=
  ⟨cell_of h, cell_of h, cell_of h, cell_of h, cell_of h, cell_of h, cell_of h, cell_of h⟩

theorem Bq.frozen {w : World} {b : Nat} {x : Bx} (h : Bq w b x) (j : Nat) : w.frozen? ⟨b, j, none⟩ = false := frozen_of h

theorem Bq.setSt {w : World} {b : Nat} {x : Bx} (h : Bq w b x) (v : Nat) : Bq (w.setCell ⟨b, 4, none⟩ (.int .i64 v)) b { x with st := v } := set_same _ h
theorem Bq.setBound {w : World} {b : Nat} {x : Bx} (h : Bq w b x) (v : Bool) : Bq (w.setCell ⟨b, 5, none⟩ (.bool v)) b { x with bound := v } := set_same _ h
theorem Bq.setPin {w : World} {b : Nat} {x : Bx} (h : Bq w b x) (v : Bool) : Bq (w.setCell ⟨b, 6, none⟩ (.bool v)) b { x with pin := v } := set_same _ h
theorem Bq.setSince {w : World} {b : Nat} {x : Bx} (h : Bq w b x) (v : Int) : Bq (w.setCell ⟨b, 7, none⟩ (.int .i64 v)) b { x with since := v } := set_same _ h
theorem Kept.setb {a w : World} {b : Nat} (h : Kept (fun x => x = b) a w) (i : Nat) (u : Value) : Kept (fun x => x = b) a (w.setCell ⟨b, i, none⟩ u) := h.setCell (p := ⟨b, i, none⟩) (fun _ => rfl) u

set_option maxHeartbeats 1000000 in
theorem call_any (b : Nat) (x : Bx) (now : Int) (w : World) (h : Bq w b x) (hs : x.st < 4) :
    Calls Try.prog 9 #[.pointer (some ⟨b, 0, none⟩), .int .i64 now] w fun e w' => e = .returned (.bool (call x now).2) ∧ Bq w' b (call x now).1 ∧ Kept (fun x => x = b) w w' := by
  obtain ⟨id, fn, ho, mem, st, bo, pi, si⟩ := x
  obtain ⟨-, -, -, -, c4, c5, -, c7⟩ := h.cells
  have f4 := h.frozen 4
  have f5 := h.frozen 5
  have f7 := h.frozen 7
  have hst : st = 0 ∨ st = 1 ∨ st = 2 ∨ st = 3 := by simp at hs; omega
  rcases hst with rfl | rfl | rfl | rfl <;> cases bo
  all_goals
    go_enter Try.func9, Try.ntmps9
    go_wp2_with fail
    go_ret
    exact ⟨rfl, by first | exact h | exact (h.setSt 2).setSince now | exact h.setBound true, by repeat' first | exact Kept.refl _ _ | refine Kept.setb ?_ _ _⟩

set_option maxHeartbeats 1000000 in
theorem booted_any (b : Nat) (x : Bx) (now : Int) (w : World) (h : Bq w b x) (hs : x.st < 4) :
    Calls Try.prog 10 #[.pointer (some ⟨b, 0, none⟩), .int .i64 now] w fun e w' => e = .returned (.bool (booted x now).2) ∧ Bq w' b (booted x now).1 ∧ Kept (fun x => x = b) w w' := by
  obtain ⟨id, fn, ho, mem, st, bo, pi, si⟩ := x
  obtain ⟨-, -, -, -, c4, c5, -, c7⟩ := h.cells
  have f4 := h.frozen 4
  have f5 := h.frozen 5
  have f7 := h.frozen 7
  have hst : st = 0 ∨ st = 1 ∨ st = 2 ∨ st = 3 := by simp at hs; omega
  rcases hst with rfl | rfl | rfl | rfl <;> cases bo
  all_goals
    go_enter Try.func10, Try.ntmps10
    go_wp2_with fail
    go_ret
    exact ⟨rfl, by first | exact h | exact (h.setSt 1).setSince now | exact (((h.setSt 1).setSince now).setSt 2).setBound false, by repeat' first | exact Kept.refl _ _ | refine Kept.setb ?_ _ _⟩

set_option maxHeartbeats 1000000 in
theorem done_any (b : Nat) (x : Bx) (now : Int) (w : World) (h : Bq w b x) (hs : x.st < 4) :
    Calls Try.prog 11 #[.pointer (some ⟨b, 0, none⟩), .int .i64 now] w fun e w' => e = .returned (.bool (done x now).2) ∧ Bq w' b (done x now).1 ∧ Kept (fun x => x = b) w w' := by
  obtain ⟨id, fn, ho, mem, st, bo, pi, si⟩ := x
  obtain ⟨-, -, -, -, c4, c5, -, c7⟩ := h.cells
  have f4 := h.frozen 4
  have f5 := h.frozen 5
  have f7 := h.frozen 7
  have hst : st = 0 ∨ st = 1 ∨ st = 2 ∨ st = 3 := by simp at hs; omega
  rcases hst with rfl | rfl | rfl | rfl
  all_goals
    go_enter Try.func11, Try.ntmps11
    go_wp2_with fail
    go_ret
    exact ⟨rfl, by first | exact h | exact (h.setSt 1).setSince now, by repeat' first | exact Kept.refl _ _ | refine Kept.setb ?_ _ _⟩

set_option maxHeartbeats 1000000 in
theorem kill_any (b : Nat) (x : Bx) (now : Int) (w : World) (h : Bq w b x) (hs : x.st < 4) :
    Calls Try.prog 12 #[.pointer (some ⟨b, 0, none⟩), .int .i64 now] w fun e w' => e = .returned (.bool (kill x now).2) ∧ Bq w' b (kill x now).1 ∧ Kept (fun x => x = b) w w' := by
  obtain ⟨id, fn, ho, mem, st, bo, pi, si⟩ := x
  obtain ⟨-, -, -, -, c4, c5, c6, c7⟩ := h.cells
  have f4 := h.frozen 4
  have f5 := h.frozen 5
  have f6 := h.frozen 6
  have f7 := h.frozen 7
  have hst : st = 0 ∨ st = 1 ∨ st = 2 ∨ st = 3 := by simp at hs; omega
  rcases hst with rfl | rfl | rfl | rfl
  all_goals
    go_enter Try.func12, Try.ntmps12
    go_wp2_with fail
    go_ret
    exact ⟨rfl, by first | exact h | exact (((h.setSt 3).setBound false).setPin false).setSince now, by repeat' first | exact Kept.refl _ _ | refine Kept.setb ?_ _ _⟩

set_option maxHeartbeats 1000000 in
theorem runs_any (b : Nat) (x : Bx) (w : World) (h : Bq w b x) (hs : x.st < 4) :
    Calls Try.prog 13 #[.pointer (some ⟨b, 0, none⟩)] w fun e w' => e = .returned (.bool (runs x)) ∧ Below w.heap.size w w' := by
  obtain ⟨id, fn, ho, mem, st, bo, pi, si⟩ := x
  obtain ⟨-, -, -, -, c4, c5, -, -⟩ := h.cells
  have hst : st = 0 ∨ st = 1 ∨ st = 2 ∨ st = 3 := by simp at hs; omega
  rcases hst with rfl | rfl | rfl | rfl <;> cases bo
  all_goals
    go_enter Try.func13, Try.ntmps13
    go_wp2_with fail
    try (go_quiet (fail); go_wp2_with fail)
    go_ret
    exact ⟨rfl, by first | exact Below.refl _ _ | exact below_drewN (Below.refl _ _) _⟩

set_option maxHeartbeats 1000000 in
theorem idle_any (b : Nat) (x : Bx) (w : World) (h : Bq w b x) (hs : x.st < 4) :
    Calls Try.prog 14 #[.pointer (some ⟨b, 0, none⟩)] w fun e w' => e = .returned (.bool (idle x)) ∧ w = w' := by
  obtain ⟨id, fn, ho, mem, st, bo, pi, si⟩ := x
  obtain ⟨-, -, -, -, c4, c5, -, -⟩ := h.cells
  have hst : st = 0 ∨ st = 1 ∨ st = 2 ∨ st = 3 := by simp at hs; omega
  rcases hst with rfl | rfl | rfl | rfl
  all_goals
    go_enter Try.func14, Try.ntmps14
    go_wp2_with fail
    go_ret
    exact ⟨rfl, rfl⟩

set_option maxHeartbeats 1000000 in
theorem new_any (id fn ho mem now : Int) (w : World) :
    Calls Try.prog 7 #[.int .i64 id, .int .i64 fn, .int .i64 ho, .int .i64 mem, .int .i64 now] w fun e w' => e = .returned (.pointer (some ⟨w.heap.size, 0, none⟩)) ∧ Bq w' w.heap.size ⟨id, fn, ho, mem, 0, false, false, now⟩ ∧ Below w.heap.size w w' ∧ w'.heap.size = w.heap.size + 1 := by
  go_enter Try.func7, Try.ntmps7
  go_wp2_with fail
  go_ret
  exact ⟨rfl, heap_alloc_new _ _, by go_grown, by simp⟩

theorem call_st {x : Bx} (now : Int) (h : x.st < 4) : (call x now).1.st < 4 := by
  unfold call
  split
  · simp
  · split <;> simpa using h
theorem booted_st {x : Bx} (now : Int) (h : x.st < 4) : (booted x now).1.st < 4 := by
  unfold booted
  split
  · dsimp only
    split <;> simp
  · simpa using h
theorem done_st {x : Bx} (now : Int) (h : x.st < 4) : (done x now).1.st < 4 := by
  unfold done
  split
  · simp
  · simpa using h
theorem kill_st {x : Bx} (now : Int) (h : x.st < 4) : (kill x now).1.st < 4 := by
  unfold kill
  split
  · simpa using h
  · simp
end Go.Proofs.Ytjehcgmbkhekmaa
