/- What a sandbox is worth, and which one is worth less. -/
import Derived.Test.YtamifcgljockaaaRatio
import Derived.Test.YtamifcgljockaaaHeapPure
namespace Go.Proofs.Ytamifcgljockaaa
open Go.RowKit Go.Kpt RatioPure HeapPure
set_option linter.unusedVariables false

/-- A number by another one, and whose it is. -/
structure Mk where
  n : Nat
  d : Nat
  id : Int
  hn : Sm n
  hd : Sm d
  pos : 0 < d
instance : Inhabited Mk := ⟨⟨0, 1, 0, by unfold Sm; omega, by unfold Sm; omega, by omega⟩⟩

def sgnI (x y : Int) : Int := if x < y then -1 else if y < x then 1 else 0
theorem sgnI_lt {x y : Int} (h : x < y) : sgnI x y = -1 := if_pos h
theorem sgnI_gt {x y : Int} (h : y < x) : sgnI x y = 1 := by unfold sgnI; rw [if_neg (by omega), if_pos h]
theorem sgnI_eq {x y : Int} (h : x = y) : sgnI x y = 0 := by unfold sgnI; rw [if_neg (by omega), if_neg (by omega)]

set_option maxHeartbeats 400000 in
theorem nanI_any (x : Int) (w : World) : Calls Try.prog 36 #[.int .i64 x] w fun e w' => e = .returned (.bool false) ∧ w = w' := by
  go_enter Try.func36, Try.ntmps36
  go_wp2
  go_ret
  exact ⟨by simp, rfl⟩

set_option maxHeartbeats 400000 in
theorem cmpI_any (x y : Int) (w : World) : Calls Try.prog 30 #[.int .i64 x, .int .i64 y] w fun e w' => e = .returned (.int .i64 (sgnI x y)) ∧ w = w' := by
  rcases Int.lt_trichotomy x y with h | h | h
  · have H := Lib.hid (sgnI_lt h)
    go_enter Try.func30, Try.ntmps30
    go_wp2_with fail
    refine (nanI_any _ _).mono ?_
    rintro e w' ⟨rfl, rfl⟩
    go_wp2_with fail
    refine (nanI_any _ _).mono ?_
    rintro e w' ⟨rfl, rfl⟩
    go_wp2_with fail
    go_ret
    exact ⟨by rw [H.out]; rfl, rfl⟩
  · have H := Lib.hid (sgnI_eq h)
    have h1 : ¬ x < y := by omega
    have h2 : ¬ y < x := by omega
    clear h
    go_enter Try.func30, Try.ntmps30
    go_wp2_with fail
    refine (nanI_any _ _).mono ?_
    rintro e w' ⟨rfl, rfl⟩
    go_wp2_with fail
    refine (nanI_any _ _).mono ?_
    rintro e w' ⟨rfl, rfl⟩
    go_wp2_with fail
    go_ret
    exact ⟨by rw [H.out]; rfl, rfl⟩
  · have H := Lib.hid (sgnI_gt h)
    have h1 : ¬ x < y := by omega
    go_enter Try.func30, Try.ntmps30
    go_wp2_with fail
    refine (nanI_any _ _).mono ?_
    rintro e w' ⟨rfl, rfl⟩
    go_wp2_with fail
    refine (nanI_any _ _).mono ?_
    rintro e w' ⟨rfl, rfl⟩
    go_wp2_with fail
    go_ret
    exact ⟨by rw [H.out]; rfl, rfl⟩

/-- Is one worth less? -/
def ltn (an ad : Nat) (ai : Int) (bn bd : Nat) (bi : Int) : Bool := decide (orI (sgn (an * bd) (bn * ad)) (sgnI ai bi) < 0)
def lt (a b : Mk) : Bool := ltn a.n a.d a.id b.n b.d b.id

theorem lt_iff (a b : Mk) : lt a b = true ↔ (a.n * b.d < b.n * a.d ∨ (a.n * b.d = b.n * a.d ∧ a.id < b.id)) := by
  unfold lt ltn orI
  rw [decide_eq_true_eq]
  rcases Nat.lt_trichotomy (a.n * b.d) (b.n * a.d) with h | h | h
  · rw [sgn_lt h, if_neg (by decide)]; simp [h]
  · rw [sgn_eq h, if_pos rfl]
    rcases Int.lt_trichotomy a.id b.id with h2 | h2 | h2
    · rw [sgnI_lt h2]; simp [h, h2]
    · rw [sgnI_eq h2]; simp; omega
    · rw [sgnI_gt h2]; simp; omega
  · rw [sgn_gt h, if_neg (by decide)]; simp; omega
theorem lt_false (a b : Mk) : lt a b = false ↔ (b.n * a.d < a.n * b.d ∨ (a.n * b.d = b.n * a.d ∧ b.id ≤ a.id)) := by
  have h := lt_iff a b
  cases e : lt a b with
  | false =>
    rw [e] at h
    simp only [Bool.false_eq_true, false_iff, not_or, not_and] at h
    simp only [true_iff]
    by_cases h1 : a.n * b.d = b.n * a.d
    · exact .inr ⟨h1, by have := h.2 h1; omega⟩
    · exact .inl (by have := h.1; omega)
  | true =>
    rw [e] at h
    have := h.1 rfl
    simp
    omega

theorem le_trans3 {an ad bn bd cn cd : Nat} (hb : 0 < bd) (h1 : an * bd ≤ bn * ad) (h2 : bn * cd ≤ cn * bd) : an * cd ≤ cn * ad := by
  refine Nat.le_of_mul_le_mul_right (c := bd) ?_ hb
  have e1 := Nat.mul_le_mul_right cd h1
  have e2 := Nat.mul_le_mul_right ad h2
  have s1 : an * cd * bd = an * bd * cd := by rw [Nat.mul_assoc, Nat.mul_comm cd bd, ← Nat.mul_assoc]
  have s2 : bn * ad * cd = bn * cd * ad := by rw [Nat.mul_assoc, Nat.mul_comm ad cd, ← Nat.mul_assoc]
  have s3 : cn * ad * bd = cn * bd * ad := by rw [Nat.mul_assoc, Nat.mul_comm ad bd, ← Nat.mul_assoc]
  omega
theorem ord_lt : Ord lt where
  asym := fun a b h => by
    rw [lt_iff] at h
    rw [lt_false]
    omega
  trans := fun a b c h1 h2 => by
    rw [lt_false] at h1 h2 ⊢
    have l1 : a.n * b.d ≤ b.n * a.d := by omega
    have l2 : b.n * c.d ≤ c.n * b.d := by omega
    have l3 := le_trans3 b.pos l1 l2
    by_cases e : a.n * c.d < c.n * a.d
    · exact .inl e
    · have l4 : c.n * a.d ≤ a.n * c.d := by omega
      have l5 := le_trans3 a.pos l4 l1
      have l6 := le_trans3 c.pos l2 l4
      omega

/-- What is worth, as a value. -/
abbrev mv (m : Mk) : Value := .agg #[.int .u64 m.n, .int .u64 m.d, .int .i64 m.id]
/-- What 'less' does. -/
def LessC : Prop := ∀ (a b : Mk) (w : World), Calls Try.prog 20 #[mv a, mv b] w fun e w' => e = .returned (.bool (lt a b)) ∧ Below w.heap.size w w'
end Go.Proofs.Ytamifcgljockaaa
