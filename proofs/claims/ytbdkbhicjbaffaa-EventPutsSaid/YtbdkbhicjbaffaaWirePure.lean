/- Numbers as bytes, seven bits a byte, the lowest ones first: one form a number, and back. -/
namespace WirePure

/-- A number's bytes. -/
def enc (n : Nat) : List Nat := if n < 128 then [n] else (n % 128 + 128) :: enc (n / 128)
termination_by n

/-- The number that stands at the beginning of bytes, and how many it has; none: bytes that are none. 'i': how many of its bytes were read ahead. -/
def dec : Nat → List Nat → Option (Nat × Nat)
  | _, [] => none
  | i, c :: l =>
    if (i = 9 ∧ 1 < c) ∨ (0 < i ∧ c = 0) then none
    else if 128 ≤ c then (dec (i + 1) l).map fun x => (c - 128 + 128 * x.1, x.2 + 1)
    else some (c, 1)

theorem enc_small {n : Nat} (h : n < 128) : enc n = [n] := by unfold enc; rw [if_pos h]
theorem enc_big {n : Nat} (h : ¬ n < 128) : enc n = (n % 128 + 128) :: enc (n / 128) := by rw [enc, if_neg h]

theorem enc_len_pos (n : Nat) : 1 ≤ (enc n).length := by
  by_cases h : n < 128
  · rw [enc_small h]; simp
  · rw [enc_big h]; simp

theorem enc_len_le (k : Nat) : ∀ n, n < 128 ^ k → 1 ≤ k → (enc n).length ≤ k := by
  induction k with
  | zero => intro n _ h; omega
  | succ k ih =>
    intro n hn _
    by_cases h : n < 128
    · rw [enc_small h]; simp
    · rw [enc_big h]
      have hk : 1 ≤ k := by
        rcases Nat.eq_zero_or_pos k with rfl | hk
        · simp at hn; omega
        · exact hk
      have := ih (n / 128) (by rw [Nat.pow_succ] at hn; omega) hk
      simp; omega

theorem enc_len_ten {n : Nat} (h : n < 2 ^ 64) : (enc n).length ≤ 10 := enc_len_le 10 n (by omega) (by omega)

theorem enc_len_mono (k : Nat) : ∀ a b, a ≤ b → b < 128 ^ k → (enc a).length ≤ (enc b).length := by
  induction k with
  | zero => intro a b h hb; have : b = 0 := by simpa using hb
            have : a = b := by omega
            rw [this]; exact Nat.le_refl _
  | succ k ih =>
    intro a b h hb
    by_cases ha : a < 128
    · rw [enc_small ha]; simpa using enc_len_pos b
    · rw [enc_big ha, enc_big (show ¬ b < 128 by omega)]
      have := ih (a / 128) (b / 128) (Nat.div_le_div_right h) (by rw [Nat.pow_succ] at hb; omega)
      simp; exact this

theorem enc_bytes (k : Nat) : ∀ n, n < 128 ^ k → ∀ c ∈ enc n, c < 256 := by
  induction k with
  | zero => intro n hn c hc; have : n = 0 := by simpa using hn
            subst this; rw [enc_small (by omega)] at hc; simp at hc; omega
  | succ k ih =>
    intro n hn c hc
    by_cases h : n < 128
    · rw [enc_small h] at hc; simp at hc; omega
    · rw [enc_big h] at hc
      rcases List.mem_cons.1 hc with rfl | hc
      · omega
      · exact ih (n / 128) (by rw [Nat.pow_succ] at hn; omega) c hc

/-- A number as bytes, and back, whatever stands behind. -/
theorem dec_enc (k : Nat) : ∀ i n rest, n < 128 ^ k → n < 2 ^ (64 - 7 * i) → i ≤ 9 → (0 < i → 0 < n) → dec i (enc n ++ rest) = some (n, (enc n).length) := by
  induction k with
  | zero =>
    intro i n rest hk h hi hp
    have : n = 0 := by simpa using hk
    subst this
    have : i = 0 := by omega
    subst this
    rw [enc_small (by omega)]; simp [dec]
  | succ k ih =>
    intro i n rest hk h hi hp
    by_cases hn : n < 128
    · rw [enc_small hn]
      have h9 : ¬ (i = 9 ∧ 1 < n ∨ 0 < i ∧ n = 0) := by
        rintro (⟨rfl, h1⟩ | ⟨h1, h2⟩)
        · simp at h; omega
        · have := hp h1; omega
      simp only [List.singleton_append, dec]
      rw [if_neg h9, if_neg (by omega)]
      simp
    · rw [enc_big hn]
      have hi9 : i ≠ 9 := by rintro rfl; simp at h; omega
      have h9 : ¬ (i = 9 ∧ 1 < n % 128 + 128 ∨ 0 < i ∧ n % 128 + 128 = 0) := by omega
      have e : 64 - 7 * i = 64 - 7 * (i + 1) + 7 := by omega
      rw [e, Nat.pow_add] at h
      have := ih (i + 1) (n / 128) rest (by rw [Nat.pow_succ] at hk; omega) (by omega) (by omega) (fun _ => by omega)
      simp only [List.cons_append, dec]
      rw [if_neg h9, if_pos (by omega), this]
      simp
      omega

theorem dec_enc0 {n : Nat} (h : n < 2 ^ 64) (rest : List Nat) : dec 0 (enc n ++ rest) = some (n, (enc n).length) :=
  dec_enc 10 0 n rest (by omega) (by simpa using h) (by omega) (fun h => by omega)

/-- What is read as a number is written as just these bytes. -/
theorem enc_dec (l : List Nat) : ∀ i n k, (∀ c ∈ l, c < 256) → i ≤ 9 → dec i l = some (n, k) → k ≤ l.length ∧ l.take k = enc n ∧ n < 2 ^ (64 - 7 * i) ∧ (0 < i → 0 < n) := by
  induction l with
  | nil => intro i n k _ _ h; simp [dec] at h
  | cons c l ih =>
    intro i n k hb hi h
    simp only [dec] at h
    by_cases h1 : i = 9 ∧ 1 < c ∨ 0 < i ∧ c = 0
    · rw [if_pos h1] at h; cases h
    rw [if_neg h1] at h
    have hc := hb c (List.mem_cons_self ..)
    by_cases h2 : 128 ≤ c
    · rw [if_pos h2] at h
      cases e : dec (i + 1) l with
      | none => rw [e] at h; cases h
      | some x =>
        rw [e] at h
        simp at h
        obtain ⟨rfl, rfl⟩ := h
        have hi9 : i ≠ 9 := by omega
        obtain ⟨a1, a2, a3, a4⟩ := ih (i + 1) x.1 x.2 (fun c hc => hb c (List.mem_cons_of_mem _ hc)) (by omega) e
        have hx := a4 (by omega)
        refine ⟨by simp; omega, ?_, ?_, fun _ => by omega⟩
        · rw [List.take_succ_cons, a2]
          rw [enc_big (n := c - 128 + 128 * x.1) (by omega)]
          congr 1
          · omega
          · congr 1; omega
        · have e : 64 - 7 * i = 64 - 7 * (i + 1) + 7 := by omega
          rw [e, Nat.pow_add]; omega
    · rw [if_neg h2] at h
      simp at h
      obtain ⟨rfl, rfl⟩ := h
      refine ⟨by simp, by simp [enc_small (show c < 128 by omega)], ?_, fun hh => by omega⟩
      by_cases h9 : i = 9
      · subst h9; simp; omega
      · have : 2 ^ 7 ≤ 2 ^ (64 - 7 * i) := Nat.pow_le_pow_right (by omega) (by omega)
        omega

theorem enc_dec0 {l : List Nat} {n k : Nat} (hb : ∀ c ∈ l, c < 256) (h : dec 0 l = some (n, k)) : k ≤ l.length ∧ l.take k = enc n ∧ n < 2 ^ 64 := by
  obtain ⟨a, b, c, _⟩ := enc_dec l 0 n k hb (by omega) h
  exact ⟨a, b, c⟩

theorem dec_pos (l : List Nat) : ∀ i n k, dec i l = some (n, k) → 1 ≤ k ∧ k ≤ l.length := by
  induction l with
  | nil => intro i n k h; simp [dec] at h
  | cons c l ih =>
    intro i n k h
    simp only [dec] at h
    split at h
    · cases h
    · split at h
      · cases e : dec (i + 1) l with
        | none => rw [e] at h; cases h
        | some x =>
          rw [e] at h; simp at h
          have := ih _ x.1 x.2 e
          simp; omega
      · simp at h; simp; omega

/-- A number's bytes cut off are none. -/
theorem dec_cut (k : Nat) : ∀ i n j, n < 128 ^ k → j < (enc n).length → dec i ((enc n).take j) = none := by
  induction k with
  | zero =>
    intro i n j hk hj
    have : n = 0 := by simpa using hk
    subst this; rw [enc_small (by omega)] at *; simp at hj; subst hj; simp [dec]
  | succ k ih =>
    intro i n j hk hj
    by_cases hn : n < 128
    · rw [enc_small hn] at *; simp at hj; subst hj; simp [dec]
    · rw [enc_big hn] at *
      cases j with
      | zero => simp [dec]
      | succ j =>
        simp at hj
        simp only [List.take_succ_cons, dec]
        rw [ih (i + 1) (n / 128) j (by rw [Nat.pow_succ] at hk; omega) hj]
        split
        · rfl
        · split
          · rfl
          · omega

end WirePure
