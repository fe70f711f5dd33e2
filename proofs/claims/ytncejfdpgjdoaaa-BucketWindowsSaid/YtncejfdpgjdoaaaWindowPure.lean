/- Sums of what is taken, tick by tick: within any ticks side by side no more than there may be, and comes. -/
namespace WindowPure

def psum (gs : List Int) : Nat → Int
  | 0 => 0
  | n + 1 => psum gs n + gs.getD n 0

theorem psum_append (gs : List Int) (g : Int) : ∀ n, n ≤ gs.length → psum (gs ++ [g]) n = psum gs n
  | 0, _ => rfl
  | n + 1, h => by
    rw [psum, psum, psum_append gs g n (by omega)]
    congr 1
    simp [List.getD_eq_getElem?_getD, List.getElem?_append, show n < gs.length by omega]

theorem psum_last (gs : List Int) (g : Int) : psum (gs ++ [g]) (gs.length + 1) = psum gs gs.length + g := by
  rw [psum, psum_append gs g _ (Nat.le_refl _)]; simp [List.getD_eq_getElem?_getD]

/-- All windows of what was taken hold. -/
def Wins (gs : List Int) (s r : Int) : Prop := ∀ i j : Nat, i ≤ j → j < gs.length → psum gs (j + 1) - psum gs i ≤ s + r * ((j - i : Nat) : Int)

/-- What is there, and was taken since any tick. -/
def Due (gs : List Int) (s r t : Int) : Prop := ∀ i : Nat, i ≤ gs.length → t + psum gs gs.length - psum gs i ≤ s + r * ((gs.length - i : Nat) : Int)

theorem wins_nil (s r : Int) : Wins [] s r := fun _ _ _ h => by simp at h
theorem due_nil {s r t : Int} (h : t ≤ s) : Due [] s r t := fun i hi => by
  have : i = 0 := by simpa using hi
  subst this; simp [psum]; exact h

theorem wins_snoc {gs : List Int} {s r t g : Int} (hw : Wins gs s r) (hd : Due gs s r t) (hg : g ≤ t) : Wins (gs ++ [g]) s r := by
  intro i j hij hj
  simp at hj
  by_cases h : j < gs.length
  · rw [psum_append _ _ _ (by omega), psum_append _ _ _ (by omega)]; exact hw i j hij h
  · obtain rfl : j = gs.length := by omega
    rw [psum_last, psum_append _ _ _ (by omega)]
    have := hd i hij
    omega

theorem due_snoc {gs : List Int} {s r t g u : Int} (hd : Due gs s r t) (hu : u ≤ t - g + r) (hus : u ≤ s) : Due (gs ++ [g]) s r u := by
  intro i hi
  simp only [List.length_append, List.length_singleton] at hi ⊢
  by_cases h : i ≤ gs.length
  · rw [psum_last, psum_append _ _ _ h]
    have := hd i h
    have e : ((gs.length + 1 - i : Nat) : Int) = ((gs.length - i : Nat) : Int) + 1 := by omega
    rw [e, Int.mul_add, Int.mul_one]
    omega
  · obtain rfl : i = gs.length + 1 := by omega
    simp; omega

theorem psum_mono {gs : List Int} (h : ∀ g ∈ gs, 0 ≤ g) : ∀ i j : Nat, i ≤ j → psum gs i ≤ psum gs j
  | i, 0, hij => by
    have : i = 0 := by omega
    subst this; exact Int.le_refl _
  | i, j + 1, hij => by
    by_cases e : i = j + 1
    · subst e; exact Int.le_refl _
    · have := psum_mono h i j (by omega)
      rw [psum]
      have h0 : 0 ≤ gs.getD j 0 := by
        rw [List.getD_eq_getElem?_getD]
        cases e2 : gs[j]? with
        | none => simp
        | some x => exact h x (List.mem_of_getElem? e2)
      omega

end WindowPure
