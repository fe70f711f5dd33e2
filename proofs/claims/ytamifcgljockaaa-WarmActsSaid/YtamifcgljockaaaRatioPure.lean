/- The order of two numbers by numbers, by their whole parts and what is left turned about, is the order of their products crosswise. -/
namespace RatioPure

def sgn (p q : Nat) : Int := if p < q then -1 else if q < p then 1 else 0

/-- What 'Compare' of the law comes to, with so many rounds. -/
def cf : Nat → Nat → Nat → Nat → Nat → Int
  | 0, _, _, _, _ => 0
  | k + 1, an, ad, bn, bd =>
    if an / ad < bn / bd then -1 else if bn / bd < an / ad then 1
    else if an % ad = 0 ∧ bn % bd = 0 then 0 else if an % ad = 0 then -1 else if bn % bd = 0 then 1
    else cf k bd (bn % bd) ad (an % ad)

theorem sgn_lt {p q : Nat} (h : p < q) : sgn p q = -1 := by unfold sgn; rw [if_pos h]
theorem sgn_gt {p q : Nat} (h : q < p) : sgn p q = 1 := by unfold sgn; rw [if_neg (by omega), if_pos h]
theorem sgn_eq {p q : Nat} (h : p = q) : sgn p q = 0 := by unfold sgn; rw [if_neg (by omega), if_neg (by omega)]

theorem sgn_congr {p q p' q' : Nat} (h1 : p < q ↔ p' < q') (h2 : q < p ↔ q' < p') : sgn p q = sgn p' q' := by
  unfold sgn
  by_cases c : p < q
  · rw [if_pos c, if_pos (h1.1 c)]
  · rw [if_neg c, if_neg (fun x => c (h1.2 x))]
    by_cases d : q < p
    · rw [if_pos d, if_pos (h2.1 d)]
    · rw [if_neg d, if_neg (fun x => d (h2.2 x))]

theorem cross_lt {an ad bn bd : Nat} (h1 : 0 < ad) (h2 : 0 < bd) (h : an / ad < bn / bd) : an * bd < bn * ad := by
  have e1 := Nat.div_add_mod an ad
  have e2 := Nat.div_add_mod bn bd
  have l1 := Nat.mod_lt an h1
  generalize an / ad = x at *
  generalize bn / bd = y at *
  generalize an % ad = r at *
  generalize bn % bd = s at *
  subst e1 e2
  -- (ad * x + r) * bd < (bd * y + s) * ad
  have hx : x + 1 ≤ y := h
  calc (ad * x + r) * bd < (ad * x + ad) * bd := Nat.mul_lt_mul_of_pos_right (by omega) h2
    _ = ad * bd * (x + 1) := by rw [Nat.add_mul, Nat.mul_add, Nat.mul_one, Nat.mul_assoc, Nat.mul_assoc, Nat.mul_comm x bd]
    _ ≤ ad * bd * y := Nat.mul_le_mul_left _ hx
    _ = bd * y * ad := by rw [Nat.mul_comm ad bd, Nat.mul_assoc, Nat.mul_assoc, Nat.mul_comm ad y]
    _ ≤ (bd * y + s) * ad := Nat.mul_le_mul_right _ (by omega)

theorem cross_eq {an ad bn bd : Nat} (h : an / ad = bn / bd) :
    an * bd = ad * bd * (an / ad) + (an % ad) * bd ∧ bn * ad = ad * bd * (an / ad) + (bn % bd) * ad := by
  have e1 := Nat.div_add_mod an ad
  have e2 := Nat.div_add_mod bn bd
  rw [← h] at e2
  generalize an / ad = x at *
  generalize an % ad = r at *
  generalize bn % bd = s at *
  subst e1 e2
  constructor
  · rw [Nat.add_mul, Nat.mul_assoc ad x bd, Nat.mul_comm x bd, ← Nat.mul_assoc]
  · rw [Nat.add_mul, Nat.mul_assoc bd x ad, Nat.mul_comm x ad, ← Nat.mul_assoc, Nat.mul_comm bd ad]

theorem cf_succ (k an ad bn bd : Nat) : cf (k + 1) an ad bn bd =
    if an / ad < bn / bd then -1 else if bn / bd < an / ad then 1
    else if an % ad = 0 ∧ bn % bd = 0 then 0 else if an % ad = 0 then -1 else if bn % bd = 0 then 1
    else cf k bd (bn % bd) ad (an % ad) := rfl

/-- One round: it is decided, or what is left is in the same order. -/
theorem cf_step (k : Nat) {an ad bn bd : Nat} (h1 : 0 < ad) (h2 : 0 < bd) :
    cf (k + 1) an ad bn bd = sgn (an * bd) (bn * ad) ∨
    (0 < an % ad ∧ 0 < bn % bd ∧ cf (k + 1) an ad bn bd = cf k bd (bn % bd) ad (an % ad) ∧ sgn (an * bd) (bn * ad) = sgn (bd * (an % ad)) (ad * (bn % bd))) := by
  rw [cf_succ]
  by_cases c1 : an / ad < bn / bd
  · left; rw [if_pos c1, sgn_lt (cross_lt h1 h2 c1)]
  rw [if_neg c1]
  by_cases c2 : bn / bd < an / ad
  · left; rw [if_pos c2, sgn_gt (cross_lt h2 h1 c2)]
  rw [if_neg c2]
  obtain ⟨p, q⟩ := cross_eq (show an / ad = bn / bd by omega)
  by_cases c3 : an % ad = 0 ∧ bn % bd = 0
  · left; rw [if_pos c3, sgn_eq]; rw [p, q, c3.1, c3.2]; simp
  rw [if_neg c3]
  by_cases c4 : an % ad = 0
  · left
    have hs : 0 < bn % bd := by omega
    rw [if_pos c4, sgn_lt]; rw [p, q, c4]; have := Nat.mul_pos hs h1; omega
  rw [if_neg c4]
  by_cases c5 : bn % bd = 0
  · left
    have hs : 0 < an % ad := by omega
    rw [if_pos c5, sgn_gt]; rw [p, q, c5]; have := Nat.mul_pos hs h2; omega
  right
  rw [if_neg c5]
  refine ⟨by omega, by omega, rfl, ?_⟩
  rw [p, q, Nat.mul_comm (an % ad) bd, Nat.mul_comm (bn % bd) ad]
  exact sgn_congr (by omega) (by omega)

theorem cf_enough (m : Nat) : ∀ (k an ad bn bd : Nat), 0 < ad → 0 < bd → ad < 2 ^ m → 2 * m ≤ k → cf k an ad bn bd = sgn (an * bd) (bn * ad) := by
  induction m with
  | zero => intro k an ad bn bd h1 h2 h3 h4; simp at h3; omega
  | succ m ih =>
    intro k an ad bn bd h1 h2 h3 h4
    obtain ⟨k, rfl⟩ : ∃ j, k = j + 2 := ⟨k - 2, by omega⟩
    rcases cf_step (k + 1) (an := an) (bn := bn) h1 h2 with h | ⟨hr, hs, e1, e2⟩
    · exact h
    · rw [e1, e2]
      rcases cf_step k (an := bd) (ad := bn % bd) (bn := ad) (bd := an % ad) hs hr with h | ⟨hr', hs', e3, e4⟩
      · rw [h]
      · rw [e3, e4]
        have hlt := Nat.mod_lt ad hr
        have hle : ad % (an % ad) + an % ad ≤ ad := by
          have e := Nat.div_add_mod ad (an % ad)
          have hm := Nat.mod_lt an h1
          have hd : 1 ≤ ad / (an % ad) := (Nat.le_div_iff_mul_le hr).2 (by omega)
          have := Nat.mul_le_mul_left (an % ad) hd
          omega
        exact ih k (an % ad) (ad % (an % ad)) (bn % bd) (bd % (bn % bd)) hs' hr' (by rw [Nat.pow_succ] at h3; omega) (by omega)

end RatioPure
