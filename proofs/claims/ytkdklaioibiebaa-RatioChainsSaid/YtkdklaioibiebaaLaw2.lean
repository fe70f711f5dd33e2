/- Plain laws of the order of ratios: steps, mids, wholes, chains. -/
import Derived.Test.YtkdklaioibiebaaArgsU
namespace Go.Proofs.Ytkdklaioibiebaa
open Go.RowKit Go.Kpt RatioPure
set_option linter.unusedVariables false

theorem sgn_bd' (p q : Nat) : -1 ≤ sgn p q ∧ sgn p q ≤ 1 := by
  unfold sgn; split
  · omega
  · split <;> omega

theorem step_up {n d : Nat} (h : 0 < d) : sgn ((n + 1) * d) (n * d) = 1 := sgn_gt (by rw [Nat.add_mul]; omega)
theorem step_down0 {n d : Nat} (h : n = 0) : sgn (n * (d + 1)) (n * d) = 0 := by subst h; simp [sgn]
theorem step_down1 {n d : Nat} (h : 0 < n) : sgn (n * (d + 1)) (n * d) = 1 := sgn_gt (by rw [Nat.mul_add]; omega)

theorem mid_left (an ad bn bd : Nat) : sgn (an * (ad + bd)) ((an + bn) * ad) = sgn (an * bd) (bn * ad) := by
  apply sgn_congr <;> rw [Nat.mul_add, Nat.add_mul] <;> omega
theorem mid_right (an ad bn bd : Nat) : sgn ((an + bn) * bd) (bn * (ad + bd)) = sgn (an * bd) (bn * ad) := by
  apply sgn_congr <;> rw [Nat.mul_add, Nat.add_mul] <;> omega

theorem sgn_le_zero {p q : Nat} : sgn p q ≤ 0 ↔ p ≤ q := by
  rcases Nat.lt_trichotomy p q with h | h | h
  · rw [sgn_lt h]; omega
  · rw [sgn_eq h]; omega
  · rw [sgn_gt h]; omega

theorem chain {an ad bn bd cn cd : Nat} (h2 : 0 < bd) (h : sgn (an * bd) (bn * ad) ≤ 0) (k : sgn (bn * cd) (cn * bd) ≤ 0) : sgn (an * cd) (cn * ad) ≤ 0 := by
  rw [sgn_le_zero] at *
  have h' := Nat.mul_le_mul_right cd h
  have k' := Nat.mul_le_mul_right ad k
  have e1 : an * bd * cd = (an * cd) * bd := by rw [Nat.mul_assoc, Nat.mul_comm bd cd, ← Nat.mul_assoc]
  have e2 : bn * ad * cd = bn * cd * ad := by rw [Nat.mul_assoc, Nat.mul_comm ad cd, ← Nat.mul_assoc]
  have e3 : cn * bd * ad = (cn * ad) * bd := by rw [Nat.mul_assoc, Nat.mul_comm bd ad, ← Nat.mul_assoc]
  exact Nat.le_of_mul_le_mul_right (by omega : an * cd * bd ≤ cn * ad * bd) h2

theorem same_self (n d k : Nat) : sgn (n * k * d) (n * (d * k)) = 0 := sgn_eq (by rw [Nat.mul_assoc, Nat.mul_comm k d])
theorem same_other {n d n' d' k : Nat} (hk : 0 < k) : sgn (n * k * d') (n' * (d * k)) = sgn (n * d') (n' * d) := by
  have e1 : n * k * d' = n * d' * k := by rw [Nat.mul_assoc, Nat.mul_comm k d', ← Nat.mul_assoc]
  have e2 : n' * (d * k) = n' * d * k := by rw [Nat.mul_assoc]
  rw [e1, e2]
  apply sgn_congr <;> exact ⟨fun h => Nat.lt_of_mul_lt_mul_right h, fun h => (Nat.mul_lt_mul_right hk).2 h⟩

theorem whole_self (n d : Nat) : sgn ((n * d + 1) * 1) (n * d) = 1 := sgn_gt (by omega)
theorem whole_ge (n d : Nat) : sgn (n * 1) (1 * 1) ≤ sgn ((n * d + 1) * 1) (1 * d) := by
  rcases Nat.eq_zero_or_pos n with rfl | h
  · rw [sgn_lt (by omega)]; exact (sgn_bd' _ _).1
  · have : d ≤ n * d := Nat.le_mul_of_pos_left d h
    rw [sgn_gt (p := (n * d + 1) * 1) (by omega)]; exact (sgn_bd' _ _).2
end Go.Proofs.Ytkdklaioibiebaa
