/- The last few numbers in a ring of eight places: what it holds behind any that came. -/
namespace RingPure

/-- Eight places and a count hold the last few of h. -/
structure Rep (l : List Int) (n : Nat) (h : List Int) : Prop where
  len : l.length = 8
  mod : n % 8 = h.length % 8
  lo : h.length < 8 → n = h.length
  hi : 8 ≤ h.length → 8 ≤ n ∧ n < 16
  at_ : ∀ i, i < h.length → h.length ≤ i + 8 → l.getD (i % 8) 0 = h.getD i 0

/-- The last few. -/
def lastl (h : List Int) : List Int := h.drop (h.length - 8)

theorem lastl_length (h : List Int) : (lastl h).length = if h.length < 8 then h.length else 8 := by
  unfold lastl; rw [List.length_drop]; split <;> omega

theorem lastl_get (h : List Int) (i : Nat) : (lastl h).getD i 0 = h.getD (h.length - 8 + i) 0 := by
  unfold lastl; simp [List.getD_eq_getElem?_getD, List.getElem?_drop]

theorem Rep.lt {l : List Int} {n : Nat} {h : List Int} (r : Rep l n h) : n < 16 := by
  by_cases c : h.length < 8
  · have := r.lo c; omega
  · exact (r.hi (by omega)).2

theorem Rep.count {l : List Int} {n : Nat} {h : List Int} (r : Rep l n h) : (if n < 8 then n else 8) = (lastl h).length := by
  rw [lastl_length]
  by_cases c : h.length < 8
  · rw [if_pos c, r.lo c, if_pos c]
  · have := r.hi (by omega); rw [if_neg c, if_neg (by omega)]

theorem Rep.nil : Rep (List.replicate 8 0) 0 [] := ⟨rfl, rfl, fun _ => rfl, fun h => by simp at h, fun i h => by simp at h⟩

theorem Rep.push {l : List Int} {n : Nat} {h : List Int} (r : Rep l n h) (x : Int) :
    Rep (l.set (n % 8) x) (if n + 1 = 16 then 8 else n + 1) (h ++ [x]) := by
  have hm := r.mod
  refine ⟨by rw [List.length_set]; exact r.len, ?_, ?_, ?_, ?_⟩
  · simp only [List.length_append, List.length_singleton]; split <;> omega
  · intro hl
    simp only [List.length_append, List.length_singleton] at hl ⊢
    have := r.lo (by omega)
    rw [if_neg (by omega)]; omega
  · intro hl
    simp only [List.length_append, List.length_singleton] at hl
    by_cases c : h.length < 8
    · have := r.lo c; rw [if_neg (by omega)]; omega
    · have := r.hi (by omega); split <;> omega
  · intro i hi hl
    simp only [List.length_append, List.length_singleton] at hi hl
    by_cases c : i < h.length
    · have hne : i % 8 ≠ n % 8 := by omega
      rw [List.getD_eq_getElem?_getD, List.getElem?_set_ne (by omega), ← List.getD_eq_getElem?_getD]
      rw [r.at_ i c (by omega)]
      simp [List.getD_eq_getElem?_getD, List.getElem?_append, c]
    · obtain rfl : i = h.length := by omega
      have hlt : n % 8 < l.length := by rw [r.len]; omega
      rw [← hm]
      simp [List.getD_eq_getElem?_getD, hlt]

/-- What stands at a place that is told. -/
theorem Rep.told {l : List Int} {n : Nat} {h : List Int} (r : Rep l n h) (k : Nat) (hk : k < (lastl h).length) :
    l.getD ((n - (lastl h).length + k) % 8) 0 = (lastl h).getD k 0 := by
  rw [lastl_get]
  have hm := r.mod
  rw [lastl_length] at hk ⊢
  by_cases c : h.length < 8
  · rw [if_pos c] at hk ⊢
    have := r.lo c
    have e : n - h.length + k = h.length - 8 + k := by omega
    rw [e]
    exact r.at_ _ (by omega) (by omega)
  · rw [if_neg c] at hk ⊢
    have := r.hi (by omega)
    have e : (n - 8 + k) % 8 = (h.length - 8 + k) % 8 := by omega
    rw [e]
    exact r.at_ _ (by omega) (by omega)

theorem Rep.told' {l : List Int} {n : Nat} {h : List Int} (r : Rep l n h) : (lastl h).length ≤ n ∧ (lastl h).length ≤ 8 := by
  rw [← r.count]; split <;> omega

/-- Behind eight numbers only they are there. -/
theorem lastl_append (a l : List Int) (h : l.length = 8) : lastl (a ++ l) = l := by
  unfold lastl
  rw [List.length_append, h, Nat.add_sub_cancel, List.drop_left]

theorem lastl_join (a b : List Int) : lastl (lastl a ++ b) = lastl (a ++ b) := by
  unfold lastl
  rw [List.length_append, List.length_append, List.length_drop]
  by_cases c : a.length ≤ 8
  · rw [show a.length - 8 = 0 by omega]; simp
  · have : a = a.take (a.length - 8) ++ a.drop (a.length - 8) := (List.take_append_drop _ _).symm
    by_cases d : b.length ≤ 8
    · rw [List.drop_append_of_le_length (by simp; omega), List.drop_append_of_le_length (by omega), List.drop_drop]
      congr 2; omega
    · have e1 : (List.drop (a.length - 8) a).length = 8 := by simp; omega
      rw [List.drop_append, List.drop_append, e1, List.drop_eq_nil_of_le (as := List.drop (a.length - 8) a) (by omega), List.drop_eq_nil_of_le (as := a) (by omega)]
      congr 2; omega

end RingPure
