/- Plain laws of a sandbox's steps; the document's example. -/
import Derived.Test.YtjehcgmbkhekmaaWalks
namespace Go.Proofs.Ytjehcgmbkhekmaa
open Go.RowKit Go.Kpt
set_option linter.unusedVariables false

theorem call_t {x : Bx} {n : Int} (h : (call x n).2 = true) : runs x = false ∧ x.st ≠ 3 ∧ runs (call x n).1 = true ∧ (call x n).1.st ≠ 3 := by
  unfold call at *
  split at h
  · rename_i h1; rw [if_pos h1]; simp [runs, h1]
  · rename_i h1
    split at h
    · rename_i h2; rw [if_neg h1, if_pos h2]; simp [runs, h2]
    · cases h
theorem call_f {x : Bx} {n : Int} (h : (call x n).2 = false) : (call x n).1 = x := by
  unfold call at *
  split at h
  · cases h
  · rename_i h1
    split at h
    · cases h
    · rename_i h2; rw [if_neg h1, if_neg h2]
theorem booted_t {x : Bx} {n : Int} (h : (booted x n).2 = true) : x.st ≠ 3 ∧ runs (booted x n).1 = runs x ∧ (booted x n).1.st ≠ 3 := by
  unfold booted at *
  split at h
  · rename_i h1
    rw [if_pos h1]
    dsimp only
    cases hb : x.bound <;> simp [runs, h1, hb]
  · cases h
theorem booted_f {x : Bx} {n : Int} (h : (booted x n).2 = false) : (booted x n).1 = x := by
  unfold booted at *
  split at h
  · cases h
  · rename_i h1; rw [if_neg h1]
theorem done_t {x : Bx} {n : Int} (h : (done x n).2 = true) : runs x = true ∧ x.st ≠ 3 ∧ runs (done x n).1 = false ∧ (done x n).1.st ≠ 3 := by
  unfold done at *
  split at h
  · rename_i h1; rw [if_pos h1]; simp [runs, h1]
  · cases h
theorem done_f {x : Bx} {n : Int} (h : (done x n).2 = false) : (done x n).1 = x := by
  unfold done at *
  split at h
  · cases h
  · rename_i h1; rw [if_neg h1]
theorem kill_t {x : Bx} {n : Int} (h : (kill x n).2 = true) : x.st ≠ 3 ∧ runs (kill x n).1 = false ∧ (kill x n).1.st = 3 := by
  unfold kill at *
  split at h
  · cases h
  · rename_i h1; rw [if_neg h1]; simp [runs, h1]
theorem kill_f {x : Bx} {n : Int} (h : (kill x n).2 = false) : x.st = 3 ∧ (kill x n).1 = x := by
  unfold kill at *
  split at h
  · rename_i h1; rw [if_pos h1]; exact ⟨h1, rfl⟩
  · cases h
theorem runs_dead {x : Bx} (h : x.st = 3) : runs x = false := by simp [runs, h]

set_option maxRecDepth 100000 in
set_option maxHeartbeats 1000000 in
theorem head_any (w : World) : Calls Try.prog 6 #[] w fun e w' => e = .returned (.bool true) ∧ Below w.heap.size w w' := by
  go_enter Try.func6, Try.ntmps6
  go_wp2_with fail
  refine (new_any 1 2 3 4 5 _).mono ?_
  rintro e w1 ⟨rfl, h1, hB1, hs1⟩
  obtain ⟨b, hb⟩ : ∃ b, w.heap.size = b := ⟨_, rfl⟩
  have hB1' := hB1
  rw [hb] at h1 hB1' ⊢
  go_wp2_with fail
  refine (call_any b _ 6 w1 h1 (by decide)).mono ?_
  rintro e w2 ⟨rfl, h2, k2⟩
  rw [show (call ⟨1, 2, 3, 4, 0, false, false, 5⟩ 6).2 = true by decide]
  rw [show (call ⟨1, 2, 3, 4, 0, false, false, 5⟩ 6).1 = ⟨1, 2, 3, 4, 0, true, false, 5⟩ by rfl] at h2
  go_wp2_with fail
  refine (booted_any b _ 7 w2 h2 (by decide)).mono ?_
  rintro e w3 ⟨rfl, h3, k3⟩
  rw [show (booted ⟨1, 2, 3, 4, 0, true, false, 5⟩ 7).2 = true by decide]
  rw [show (booted ⟨1, 2, 3, 4, 0, true, false, 5⟩ 7).1 = ⟨1, 2, 3, 4, 2, false, false, 7⟩ by rfl] at h3
  obtain ⟨-, -, -, -, c4, -, -, -⟩ := h3.cells
  have hd := done_any b _ 8 w3 h3 (by decide)
  rw [show (done ⟨1, 2, 3, 4, 2, false, false, 7⟩ 8).2 = true by decide, show (done ⟨1, 2, 3, 4, 2, false, false, 7⟩ 8).1 = ⟨1, 2, 3, 4, 1, false, false, 8⟩ by rfl] at hd
  go_wp2_with fail
  refine hd.mono ?_
  rintro e w4 ⟨rfl, h4, k4⟩
  have hi := idle_any b _ w4 h4 (by decide)
  rw [show idle ⟨1, 2, 3, 4, 1, false, false, 8⟩ = true by decide] at hi
  clear hd
  go_wp2_with fail
  refine hi.mono ?_
  rintro e w5 ⟨rfl, rfl⟩
  have hd := done_any b _ 9 w4 h4 (by decide)
  rw [show (done ⟨1, 2, 3, 4, 1, false, false, 8⟩ 9).2 = false by decide, show (done ⟨1, 2, 3, 4, 1, false, false, 8⟩ 9).1 = ⟨1, 2, 3, 4, 1, false, false, 8⟩ by rfl] at hd
  clear hi
  go_wp2_with fail
  refine hd.mono ?_
  rintro e w6 ⟨rfl, h6, k6⟩
  obtain ⟨-, -, -, -, -, -, -, c7⟩ := h6.cells
  clear hd c4
  go_wp2_with fail
  go_ret
  exact ⟨rfl, hB1.trans (((((k2.trans k3 (fun _ _ h => h)).trans k4 (fun _ _ h => h)).trans k6 (fun _ _ h => h))).below (by omega) (fun x hx h => by omega))⟩
end Go.Proofs.Ytjehcgmbkhekmaa
