/- Two sets that answer alike hand out the same keys in the same order. -/
import Derived.Test.YtkbmpmcckjhaaaaHeadT
namespace Go.Proofs.Ytkbmpmcckjhaaaa
open Go.RowKit Go.Kpt HeapPure
set_option linter.unusedVariables false

/-- Each time stands with its own key. -/
def Keyed (l : List (Ke × Tm)) : Prop := ∀ k v, HeapPure.get l k = some v → v.kd = k.1 ∧ v.id = k.2
def Alike (l m : List (Ke × Tm)) : Prop := ∀ k, HeapPure.get l k = HeapPure.get m k

theorem alike_first {l m : List (Ke × Tm)} (Gl : HeapPure.Good lt l) (Gm : HeapPure.Good lt m) (A : Alike l m) (K : Keyed l) (hl : 0 < l.length) : 0 < m.length ∧ kk l 0 = kk m 0 ∧ vv l 0 = vv m 0 := by
  obtain ⟨m1, m2⟩ := min_spec Gl hl
  have h1 := m1
  rw [A] at h1
  have hm := len_pos h1
  obtain ⟨n1, n2⟩ := min_spec Gm hm
  have h2 := n1
  rw [← A] at h2
  have c1 := m2 _ _ h2
  have c2 := n2 _ _ h1
  have k1 := K _ _ m1
  have k2 := K _ _ h2
  have d1 : ¬ lt (vv m 0) (vv l 0) = true := by rw [c1]; decide
  have d2 : ¬ lt (vv l 0) (vv m 0) = true := by rw [c2]; decide
  rw [lt_iff] at d1 d2
  have e3 : (vv l 0).at_ = (vv m 0).at_ ∧ (vv l 0).kd = (vv m 0).kd ∧ (vv l 0).id = (vv m 0).id := by omega
  obtain ⟨e3, e1, e2⟩ := e3
  refine ⟨hm, Prod.ext (by rw [← k1.1, ← k2.1, e1]) (by rw [← k1.2, ← k2.2, e2]), ?_⟩
  generalize vv l 0 = x at *
  generalize vv m 0 = y at *
  obtain ⟨x1, x2, x3⟩ := x
  obtain ⟨y1, y2, y3⟩ := y
  dsimp only at e1 e2 e3
  rw [e1, e2, e3]
theorem alike_drop {l m : List (Ke × Tm)} (Gl : HeapPure.Good lt l) (Gm : HeapPure.Good lt m) (A : Alike l m) (k : Ke) : Alike (drop lt l k) (drop lt m k) := fun k' => by
  rw [drop_get ord_lt Gl, drop_get ord_lt Gm, A]
theorem sub_drop {l : List (Ke × Tm)} (G : HeapPure.Good lt l) (k k' : Ke) (v : Tm) (h : HeapPure.get (drop lt l k) k' = some v) : HeapPure.get l k' = some v := by
  rw [drop_get ord_lt G] at h
  split at h
  · cases h
  · exact h
theorem alike_len : ∀ (N : Nat) {l m : List (Ke × Tm)}, HeapPure.Good lt l → HeapPure.Good lt m → Alike l m → Keyed l → l.length = N → m.length = N
  | 0, l, m, Gl, Gm, A, K, h => len_zero Gm (fun k => by
      obtain rfl : l = [] := List.eq_nil_of_length_eq_zero h
      rw [← A]; rfl)
  | N + 1, l, m, Gl, Gm, A, K, h => by
    obtain ⟨hm, e1, -⟩ := alike_first Gl Gm A K (by omega)
    obtain ⟨g1, l1⟩ := drop_first Gl (by omega)
    obtain ⟨g2, l2⟩ := drop_first Gm hm
    rw [← e1] at g2 l2
    have := alike_len N g1 g2 (alike_drop Gl Gm A (kk l 0)) (fun k v hk => K k v (sub_drop Gl _ _ _ hk)) (by omega)
    omega

/-- Each of the first i keys has its time; and there is no other key than the n. -/
structure TurnA (n i : Nat) (kf : Nat → Ke) (tm : Nat → Tm) (l : List (Ke × Tm)) : Prop where
  good : HeapPure.Good lt l
  got : ∀ j, j < i → HeapPure.get l (kf j) = some (tm j)
  dom : ∀ k v, HeapPure.get l k = some v → ∃ j, j < n ∧ k = kf j
  len : l.length ≤ 60 + i
/-- Each of i keys, c from the first on and round, has its time; and there is no other. -/
structure TurnB (n i c : Nat) (kf : Nat → Ke) (tm : Nat → Tm) (l : List (Ke × Tm)) : Prop where
  good : HeapPure.Good lt l
  got : ∀ j, j < i → HeapPure.get l (kf ((j + c) % n)) = some (tm ((j + c) % n))
  dom : ∀ k v, HeapPure.get l k = some v → ∃ j, j < i ∧ k = kf ((j + c) % n)
  len : l.length = i
section
variable {n i c : Nat} {kf : Nat → Ke} {tm : Nat → Tm} {l m : List (Ke × Tm)}
theorem TurnA.first (h : TurnA n 0 kf tm l) (hi : i < n) (x : Tm) (hl : l.length + 1 ≤ 60) : TurnA n 0 kf tm (setAt lt l (kf i) x) :=
  ⟨setAt_good ord_lt h.good _ _, fun j hj => by omega, fun k v hk => by
    rw [setAt_get ord_lt h.good] at hk
    by_cases e : k = kf i
    · exact ⟨i, hi, e⟩
    · rw [if_neg e] at hk; exact h.dom k v hk, by have := len_set l (kf i) x; omega⟩
theorem TurnA.step (inj : ∀ a b, a < n → b < n → kf a = kf b → a = b) (h : TurnA n i kf tm l) (hi : i < n) : TurnA n (i + 1) kf tm (setAt lt l (kf i) (tm i)) :=
  ⟨setAt_good ord_lt h.good _ _, fun j hj => by
    rw [setAt_get ord_lt h.good]
    by_cases e : j = i
    · subst e; rw [if_pos rfl]
    · by_cases e2 : kf j = kf i
      · rw [if_pos e2]
        exact absurd (inj _ _ (by omega) hi e2) e
      · rw [if_neg e2]; exact h.got j (by omega), fun k v hk => by
    rw [setAt_get ord_lt h.good] at hk
    by_cases e : k = kf i
    · exact ⟨i, hi, e⟩
    · rw [if_neg e] at hk; exact h.dom k v hk, by have := len_set l (kf i) (tm i); have := h.len; omega⟩
theorem round_small {a d : Nat} (ha : a < n) (hd : d < n) : (a + d) % n = if a + d < n then a + d else a + d - n := by
  by_cases h : a + d < n
  · rw [if_pos h, Nat.mod_eq_of_lt h]
  · rw [if_neg h, Nat.mod_eq_sub_mod (by omega), Nat.mod_eq_of_lt (by omega)]
theorem round_inj {a b : Nat} (ha : a < n) (hb : b < n) (h : (a + c) % n = (b + c) % n) : a = b := by
  have hd := Nat.mod_lt c (show n > 0 by omega)
  rw [← Nat.add_mod_mod a, ← Nat.add_mod_mod b, round_small ha hd, round_small hb hd] at h
  split at h <;> split at h <;> omega
theorem round_surj {j : Nat} (hj : j < n) : ∃ a, a < n ∧ (a + c) % n = j := by
  have hd := Nat.mod_lt c (show n > 0 by omega)
  refine ⟨(j + (n - c % n)) % n, Nat.mod_lt _ (by omega), ?_⟩
  rw [Nat.mod_add_mod]
  have e : j + (n - c % n) + c = j + n * (1 + c / n) := by
    have h1 := Nat.div_add_mod c n
    rw [Nat.mul_add, Nat.mul_one]
    omega
  rw [e, Nat.add_mul_mod_self_left, Nat.mod_eq_of_lt hj]
theorem TurnB.step (inj : ∀ a b, a < n → b < n → kf a = kf b → a = b) (h : TurnB n i c kf tm l) (hi : i < n) : TurnB n (i + 1) c kf tm (setAt lt l (kf ((i + c) % n)) (tm ((i + c) % n))) := by
  have hr : ∀ a, (a + c) % n < n := fun a => Nat.mod_lt _ (by omega)
  have hne : ∀ j, j < i → kf ((j + c) % n) ≠ kf ((i + c) % n) := fun j hj e => by
    have := round_inj (by omega) hi (inj _ _ (hr j) (hr i) e)
    omega
  refine ⟨setAt_good ord_lt h.good _ _, fun j hj => ?_, fun k v hk => ?_, ?_⟩
  · rw [setAt_get ord_lt h.good]
    by_cases e : j = i
    · subst e; rw [if_pos rfl]
    · rw [if_neg (hne j (by omega))]; exact h.got j (by omega)
  · rw [setAt_get ord_lt h.good] at hk
    by_cases e : k = kf ((i + c) % n)
    · exact ⟨i, by omega, e⟩
    · rw [if_neg e] at hk
      obtain ⟨j, hj, he⟩ := h.dom k v hk
      exact ⟨j, by omega, he⟩
  · have hn : HeapPure.get l (kf ((i + c) % n)) = none := by
      cases hg : HeapPure.get l (kf ((i + c) % n)) with
      | none => rfl
      | some v =>
        obtain ⟨j, hj, he⟩ := h.dom _ v hg
        exact absurd he.symm (hne j hj)
    rw [setAt_length, ← get_isSome, hn, h.len]
    rfl
theorem turns_alike (h : TurnA n n kf tm l) (g : TurnB n n c kf tm m) : Alike l m := fun k => by
  cases hm : HeapPure.get m k with
  | some v =>
    obtain ⟨j, hj, rfl⟩ := g.dom k v hm
    rw [g.got j hj] at hm
    rw [h.got _ (Nat.mod_lt _ (by omega)), hm]
  | none =>
    cases hl : HeapPure.get l k with
    | none => rfl
    | some v =>
      obtain ⟨j, hj, rfl⟩ := h.dom k v hl
      obtain ⟨a, ha, hr⟩ := round_surj (c := c) hj
      have := g.got a ha
      rw [hr, hm] at this
      cases this
theorem turns_val (h : TurnA n n kf tm l) {P : Ke → Tm → Prop} (hp : ∀ j, j < n → P (kf j) (tm j)) : ∀ k v, HeapPure.get l k = some v → P k v := fun k v hk => by
  obtain ⟨j, hj, rfl⟩ := h.dom k v hk
  rw [h.got j hj] at hk
  cases hk
  exact hp j hj

/-- Two sets that answer alike, each with r left. -/
structure Turns (r : Nat) (l m : List (Ke × Tm)) : Prop where
  gl : HeapPure.Good lt l
  gm : HeapPure.Good lt m
  al : Alike l m
  kd : Keyed l
  at_ : ∀ k v, HeapPure.get l k = some v → v.at_ ≤ 9223372036854775807
  ll : l.length = r
  lm : m.length = r
theorem Turns.step {r : Nat} (h : Turns (r + 1) l m) : 0 < l.length ∧ 0 < m.length ∧ (vv l 0).at_ ≤ 9223372036854775807 ∧ (vv m 0).at_ ≤ 9223372036854775807 ∧ kk m 0 = kk l 0 ∧ Turns r (drop lt l (kk l 0)) (drop lt m (kk m 0)) := by
  have hl : 0 < l.length := by rw [h.ll]; omega
  obtain ⟨hm, e1, e2⟩ := alike_first h.gl h.gm h.al h.kd hl
  have ha := h.at_ _ _ (min_spec h.gl hl).1
  obtain ⟨g1, l1⟩ := drop_first h.gl hl
  obtain ⟨g2, l2⟩ := drop_first h.gm hm
  refine ⟨hl, hm, ha, by rw [← e2]; exact ha, e1.symm, g1, g2, ?_, fun k v hk => h.kd k v (sub_drop h.gl _ _ _ hk), fun k v hk => h.at_ k v (sub_drop h.gl _ _ _ hk), by have := h.ll; omega, by have := h.lm; omega⟩
  rw [← e1]; exact alike_drop h.gl h.gm h.al _
theorem turns_start (h : TurnA n n kf tm l) (g : TurnB n n c kf tm m) (hk : ∀ j, j < n → (tm j).kd = (kf j).1 ∧ (tm j).id = (kf j).2) (ha : ∀ j, j < n → (tm j).at_ ≤ 9223372036854775807) : Turns n l m :=
  ⟨h.good, g.good, turns_alike h g, turns_val h (P := fun k v => v.kd = k.1 ∧ v.id = k.2) hk, turns_val h (P := fun k v => v.at_ ≤ 9223372036854775807) ha,
   alike_len n g.good h.good (fun k => (turns_alike h g k).symm) (fun k v hv => turns_val h (P := fun k v => v.kd = k.1 ∧ v.id = k.2) hk k v ((turns_alike h g k).trans hv)) g.len, g.len⟩
end
end Go.Proofs.Ytkbmpmcckjhaaaa
