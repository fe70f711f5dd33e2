/- How often it is asked which value is less: bounds, in plain arithmetic. -/
import Derived.Test.YtbnpipfmeekbdaaUp
namespace Go.Proofs.Ytbnpipfmeekbdaa
open Go.RowKit Go.Kpt HeapPure
set_option linter.unusedVariables false

/-- How many levels are above place i, and beneath it among n. -/
def above (i : Nat) : Nat := Nat.log2 (i + 1)
def beneath (n i : Nat) : Nat := Nat.log2 (n / (i + 1))
theorem above_par {i : Nat} (h : 0 < i) : above (par i) + 1 ≤ above i := by
  unfold above
  rw [Nat.le_log2 (by omega), Nat.pow_succ]
  have h1 := Nat.log2_self_le (n := par i + 1) (by omega)
  unfold par at *
  omega
theorem above_le {i : Nat} (h : i < 4096) : above i ≤ 12 := by
  have := (Nat.log2_lt (n := i + 1) (k := 13) (by omega)).2 (by omega)
  unfold above; omega
theorem beneath_child {n i c : Nat} (h : 2 * i + 1 ≤ c) (hc : c < n) : beneath n c + 1 ≤ beneath n i := by
  unfold beneath
  have hn : n / (c + 1) ≠ 0 := by
    have := Nat.div_pos (show c + 1 ≤ n by omega) (show 0 < c + 1 by omega)
    omega
  have h1 := Nat.log2_self_le hn
  obtain ⟨p, hp⟩ : ∃ p, 2 ^ Nat.log2 (n / (c + 1)) = p := ⟨_, rfl⟩
  rw [hp] at h1
  have h2 : p * (c + 1) ≤ n := Nat.le_trans (Nat.mul_le_mul_right _ h1) (Nat.div_mul_le_self n (c + 1))
  have h3 : p * 2 * (i + 1) ≤ n := by
    have h4 : p * (2 * (i + 1)) ≤ p * (c + 1) := Nat.mul_le_mul_left _ (by omega)
    rw [Nat.mul_assoc]; omega
  have h5 : p * 2 ≤ n / (i + 1) := (Nat.le_div_iff_mul_le (by omega)).2 h3
  have hn2 : n / (i + 1) ≠ 0 := by
    have := Nat.div_pos (show i + 1 ≤ n by omega) (show 0 < i + 1 by omega)
    omega
  rw [Nat.le_log2 hn2, Nat.pow_succ, hp]
  exact h5
theorem beneath_le {n i : Nat} (h : n ≤ 4096) : beneath n i ≤ 12 := by
  unfold beneath
  by_cases e : n / (i + 1) = 0
  · rw [e]; decide
  · have h1 := Nat.div_le_self n (i + 1)
    have := (Nat.log2_lt (n := n / (i + 1)) (k := 13) e).2 (by omega)
    omega
end Go.Proofs.Ytbnpipfmeekbdaa
