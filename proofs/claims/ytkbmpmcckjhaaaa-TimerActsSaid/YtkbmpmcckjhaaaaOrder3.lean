/- Times that are set: which one comes ahead of another one. -/
import Derived.Test.YtkbmpmcckjhaaaaRows
import Derived.Test.YtkbmpmcckjhaaaaKeyE
import Derived.Test.YtkbmpmcckjhaaaaHeapPure
namespace Go.Proofs.Ytkbmpmcckjhaaaa
open Go.RowKit Go.Kpt HeapPure
set_option linter.unusedVariables false

/-- A time, and the key that it is set for. -/
structure Tm where
  at_ : Int
  kd : Int
  id : Int
instance : Inhabited Tm := ⟨⟨0, 0, 0⟩⟩

def sgnI (x y : Int) : Int := if x < y then -1 else if y < x then 1 else 0
theorem sgnI_lt {x y : Int} (h : x < y) : sgnI x y = -1 := if_pos h
theorem sgnI_gt {x y : Int} (h : y < x) : sgnI x y = 1 := by unfold sgnI; rw [if_neg (by omega), if_pos h]
theorem sgnI_eq {x y : Int} (h : x = y) : sgnI x y = 0 := by unfold sgnI; rw [if_neg (by omega), if_neg (by omega)]

/-- The first of three that isn't nought. -/
def orI (a b c : Int) : Int := if a ≠ 0 then a else if b ≠ 0 then b else c
/-- Does one come ahead of another one? -/
def lt (a b : Tm) : Bool := decide (orI (sgnI a.at_ b.at_) (sgnI a.kd b.kd) (sgnI a.id b.id) < 0)

theorem lt_iff (a b : Tm) : lt a b = true ↔ (a.at_ < b.at_ ∨ (a.at_ = b.at_ ∧ (a.kd < b.kd ∨ (a.kd = b.kd ∧ a.id < b.id)))) := by
  unfold lt orI
  rw [decide_eq_true_eq]
  rcases Int.lt_trichotomy a.at_ b.at_ with h | h | h
  · rw [sgnI_lt h, if_pos (by decide)]; simp [h]
  · rw [sgnI_eq h, if_neg (by decide)]
    rcases Int.lt_trichotomy a.kd b.kd with h2 | h2 | h2
    · rw [sgnI_lt h2, if_pos (by decide)]; simp [h, h2]
    · rw [sgnI_eq h2, if_neg (by decide)]
      rcases Int.lt_trichotomy a.id b.id with h3 | h3 | h3
      · rw [sgnI_lt h3]; simp [h, h2, h3]
      · rw [sgnI_eq h3]; simp [h, h2, h3]
      · rw [sgnI_gt h3]; simp [h, h2]; omega
    · rw [sgnI_gt h2, if_pos (by decide)]; simp [h]; omega
  · rw [sgnI_gt h, if_pos (by decide)]; simp; omega
theorem lt_false (a b : Tm) : lt a b = false ↔ (b.at_ < a.at_ ∨ (a.at_ = b.at_ ∧ (b.kd < a.kd ∨ (a.kd = b.kd ∧ b.id ≤ a.id)))) := by
  have h := lt_iff a b
  cases e : lt a b with
  | false =>
    rw [e] at h
    constructor
    · intro _
      have h2 := mt h.2 Bool.false_ne_true
      omega
    · intro _; rfl
  | true =>
    rw [e] at h
    have := h.1 rfl
    constructor
    · intro hh; cases hh
    · intro hh; omega
theorem ord_lt : Ord lt where
  asym := fun a b h => by
    rw [lt_iff] at h
    rw [lt_false]
    omega
  trans := fun a b c h1 h2 => by
    rw [lt_false] at h1 h2 ⊢
    omega

/-- A time, as a value. -/
abbrev mv (m : Tm) : Value := .agg #[.int .i64 m.at_, .int .i64 m.kd, .int .i64 m.id]
/-- What 'less' does. -/
def LessC : Prop := ∀ (a b : Tm) (w : World), Calls Try.prog 17 #[mv a, mv b] w fun e w' => e = .returned (.bool (lt a b)) ∧ Below w.heap.size w w'

theorem zeroI (w : World) : (zeroValue 3).run Try.prog w = .ok (.int .i64 0) w := by kernel_rfl
end Go.Proofs.Ytkbmpmcckjhaaaa
