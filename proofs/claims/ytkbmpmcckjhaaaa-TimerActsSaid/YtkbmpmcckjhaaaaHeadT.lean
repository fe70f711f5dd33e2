/- The document's example of times. -/
import Derived.Test.YtkbmpmcckjhaaaaPopsT
namespace Go.Proofs.Ytkbmpmcckjhaaaa
open Go.RowKit Go.Kpt HeapPure
set_option linter.unusedVariables false

theorem len_pos {l : List (Ke × Tm)} {k : Ke} {x : Tm} (h : HeapPure.get l k = some x) : 0 < l.length := by
  obtain ⟨i, hi⟩ := get_some h
  have := (List.getElem?_eq_some_iff.1 hi).1; omega
theorem len_zero {l : List (Ke × Tm)} (G : HeapPure.Good lt l) (h : ∀ k, HeapPure.get l k = none) : l.length = 0 := by
  rcases Nat.eq_zero_or_pos l.length with e | e
  · exact e
  · have := (min_spec G e).1
    rw [h] at this; cases this
theorem min_is {l : List (Ke × Tm)} (G : HeapPure.Good lt l) {k : Ke} {v : Tm} (h : HeapPure.get l k = some v) (hm : ∀ k' v', HeapPure.get l k' = some v' → k' ≠ k → lt v v' = true) : kk l 0 = k ∧ vv l 0 = v := by
  obtain ⟨m1, m2⟩ := min_spec G (len_pos h)
  have h2 := m2 k v h
  by_cases e : kk l 0 = k
  · rw [e, h] at m1
    exact ⟨e, (Option.some.inj m1).symm⟩
  · rw [hm _ _ m1 e] at h2; cases h2
theorem tget_nil (k : Ke) : HeapPure.get ([] : List (Ke × Tm)) k = none := rfl

def b1 : List (Ke × Tm) := setAt lt [] (1, 2) ⟨5, 1, 2⟩
def b2 : List (Ke × Tm) := setAt lt b1 (1, 1) ⟨5, 1, 1⟩
def b3 : List (Ke × Tm) := setAt lt b2 (0, 9) ⟨7, 0, 9⟩
theorem gb1 : HeapPure.Good lt b1 := setAt_good ord_lt HeapPure.Good.nil _ _
theorem gb2 : HeapPure.Good lt b2 := setAt_good ord_lt gb1 _ _
theorem gb3 : HeapPure.Good lt b3 := setAt_good ord_lt gb2 _ _
theorem get_b3 (k : Ke) : HeapPure.get b3 k = if k = (0, 9) then some ⟨7, 0, 9⟩ else if k = (1, 1) then some ⟨5, 1, 1⟩ else if k = (1, 2) then some ⟨5, 1, 2⟩ else none := by
  unfold b3
  rw [setAt_get ord_lt gb2]
  unfold b2
  rw [setAt_get ord_lt gb1]
  unfold b1
  rw [setAt_get ord_lt HeapPure.Good.nil, tget_nil]
theorem len_set (l : List (Ke × Tm)) (k : Ke) (x : Tm) : (setAt lt l k x).length ≤ l.length + 1 := by rw [setAt_length]; split <;> omega
theorem len_b3 : b3.length ≤ 3 := by
  have h1 := len_set ([] : List (Ke × Tm)) (1, 2) ⟨5, 1, 2⟩
  have h2 := len_set b1 (1, 1) ⟨5, 1, 1⟩
  have h3 := len_set b2 (0, 9) ⟨7, 0, 9⟩
  simp only [List.length_nil] at h1
  show (setAt lt b2 (0, 9) ⟨7, 0, 9⟩).length ≤ 3
  have e1 : b1.length ≤ 1 := h1
  have e2 : b2.length ≤ b1.length + 1 := h2
  omega
theorem pop1 : kk (after 0 b3) 0 = (1, 1) ∧ vv (after 0 b3) 0 = ⟨5, 1, 1⟩ := by
  refine min_is (l := b3) gb3 (by rw [get_b3]; rfl) fun k' v' h hne => ?_
  rw [get_b3] at h
  rw [lt_iff]
  by_cases e1 : k' = (0, 9)
  · rw [if_pos e1] at h; cases h; left; decide
  · rw [if_neg e1, if_neg hne] at h
    by_cases e3 : k' = (1, 2)
    · rw [if_pos e3] at h; cases h; right; decide
    · rw [if_neg e3] at h; cases h
theorem get_a1 (k : Ke) : HeapPure.get (after 1 b3) k = if k = (1, 1) then none else HeapPure.get b3 k := by
  show HeapPure.get (drop lt b3 (kk (after 0 b3) 0)) k = _
  rw [pop1.1, drop_get ord_lt gb3]
theorem ga1 : HeapPure.Good lt (after 1 b3) := drop_good ord_lt gb3 _
theorem pop2 : kk (after 1 b3) 0 = (1, 2) ∧ vv (after 1 b3) 0 = ⟨5, 1, 2⟩ := by
  refine min_is ga1 (by rw [get_a1, get_b3]; rfl) fun k' v' h hne => ?_
  rw [get_a1] at h
  by_cases e0 : k' = (1, 1)
  · rw [if_pos e0] at h; cases h
  rw [if_neg e0, get_b3] at h
  rw [lt_iff]
  by_cases e1 : k' = (0, 9)
  · rw [if_pos e1] at h; cases h; left; decide
  · rw [if_neg e1, if_neg e0, if_neg hne] at h; cases h
theorem get_a2 (k : Ke) : HeapPure.get (after 2 b3) k = if k = (1, 2) then none else HeapPure.get (after 1 b3) k := by
  show HeapPure.get (drop lt (after 1 b3) (kk (after 1 b3) 0)) k = _
  rw [pop2.1, drop_get ord_lt ga1]
theorem ga2 : HeapPure.Good lt (after 2 b3) := drop_good ord_lt ga1 _
theorem pop3 : kk (after 2 b3) 0 = (0, 9) ∧ vv (after 2 b3) 0 = ⟨7, 0, 9⟩ := by
  refine min_is ga2 (by rw [get_a2, get_a1, get_b3]; rfl) fun k' v' h hne => ?_
  rw [get_a2] at h
  by_cases e2 : k' = (1, 2)
  · rw [if_pos e2] at h; cases h
  rw [if_neg e2, get_a1] at h
  by_cases e0 : k' = (1, 1)
  · rw [if_pos e0] at h; cases h
  rw [if_neg e0, get_b3, if_neg hne, if_neg e0, if_neg e2] at h
  cases h
theorem head_steps {ks : List Ke} {l' : List (Ke × Tm)} (h : Steps 6 b3 ks l') (hs : ¬ Dues l' 6) (hl : ks.length + l'.length = b3.length) : ks = [(1, 1), (1, 2)] ∧ l'.length = 1 := by
  obtain ⟨h1, h2, h3⟩ := steps_n h
  have d0 : Dues (after 0 b3) 6 := ⟨len_pos (k := (1, 1)) (x := ⟨5, 1, 1⟩) (by show HeapPure.get b3 _ = _; rw [get_b3]; rfl), by rw [pop1.2]; decide⟩
  have d1 : Dues (after 1 b3) 6 := ⟨len_pos (k := (1, 2)) (x := ⟨5, 1, 2⟩) (by rw [get_a1, get_b3]; rfl), by rw [pop2.2]; decide⟩
  have l2 : 0 < (after 2 b3).length := len_pos (k := (0, 9)) (x := ⟨7, 0, 9⟩) (by rw [get_a2, get_a1, get_b3]; rfl)
  have d2 : ¬ Dues (after 2 b3) 6 := fun hh => by have := hh.2; rw [pop3.2] at this; exact absurd this (by decide)
  have hn : ks.length = 2 := by
    rcases Nat.lt_trichotomy ks.length 2 with e | e | e
    · exfalso
      rw [h2] at hs
      match hk : ks.length, e with
      | 0, _ => rw [hk] at hs; exact hs d0
      | 1, _ => rw [hk] at hs; exact hs d1
    · exact e
    · exact absurd (h3 2 e) d2
  rw [hn] at h1 h2
  refine ⟨?_, ?_⟩
  · rw [h1]
    show ([] ++ [kk (after 0 b3) 0]) ++ [kk (after 1 b3) 0] = _
    rw [pop1.1, pop2.1]; rfl
  · have := len_b3
    rw [← h2] at l2
    omega

set_option maxRecDepth 100000 in
set_option maxHeartbeats 4000000 in
theorem head_any (w : World) : Calls Try.prog 6 #[] w fun e w' => e = .returned (.bool true) ∧ Below w.heap.size w w' := by
  go_enter Try.func6, Try.ntmps6
  go_wp2_with fail
  refine (tnew_any w).mono ?_
  rintro e w1 ⟨cb, rfl, h1, -, hB1⟩
  have s1 : Calls Try.prog 8 #[.pointer (some ⟨cb, 0, none⟩), .agg #[.int .i64 1, .int .i64 2], .int .i64 5] w1 _ := tset_any w.heap.size cb [] (1, 2) 5 (by decide) (by simp) (fun _ => False) w1 h1
  go_wp2_with fail
  refine s1.mono ?_
  clear s1
  rintro e w2 ⟨rfl, h2, k2, -⟩
  have h2 : TX w2 w.heap.size cb b1 (fun _ => False) := h2
  have s2 : Calls Try.prog 8 #[.pointer (some ⟨cb, 0, none⟩), .agg #[.int .i64 1, .int .i64 1], .int .i64 5] w2 _ := tset_any w.heap.size cb b1 (1, 1) 5 (by decide) (by have := len_set ([] : List (Ke × Tm)) (1, 2) ⟨5, 1, 2⟩; simp only [List.length_nil] at this; have e : b1.length ≤ 0 + 1 := this; omega) (fun _ => False) w2 h2
  go_wp2_with fail
  refine s2.mono ?_
  clear s2
  rintro e w3 ⟨rfl, h3, k3, -⟩
  have h3 : TX w3 w.heap.size cb b2 (fun _ => False) := h3
  have hb2 : b2.length ≤ 2 := by
    have h1 := len_set ([] : List (Ke × Tm)) (1, 2) ⟨5, 1, 2⟩
    have h2 := len_set b1 (1, 1) ⟨5, 1, 1⟩
    simp only [List.length_nil] at h1
    have e1 : b1.length ≤ 1 := h1
    have e2 : b2.length ≤ b1.length + 1 := h2
    omega
  have s3 : Calls Try.prog 8 #[.pointer (some ⟨cb, 0, none⟩), .agg #[.int .i64 0, .int .i64 9], .int .i64 7] w3 _ := tset_any w.heap.size cb b2 (0, 9) 7 (by decide) (by omega) (fun _ => False) w3 h3
  go_wp2_with fail
  refine s3.mono ?_
  clear s3
  rintro e w4 ⟨rfl, h4, k4, -⟩
  have h4 : TX w4 w.heap.size cb b3 (fun _ => False) := h4
  have s4 := due_any w.heap.size cb b3 6 gb3 (by have := len_b3; omega) (fun _ => False) w4 h4
  go_wp2_with fail
  refine s4.mono ?_
  clear s4
  rintro e w5 ⟨v, ks, l', rfl, hS, hD, hG, hL, hO, hX, k5, -⟩
  obtain ⟨rfl, hl'⟩ := head_steps hS hD hL
  have s5 := tlen_any w.heap.size cb l' _ w5 hX
  rw [hl'] at s5
  have s5 : Calls Try.prog 10 #[.pointer (some ⟨cb, 0, none⟩)] w5 fun e w' => e = .returned (.int .i64 1) ∧ w5 = w' := s5
  have hfin := hB1.trans (k2.trans (k3.trans (k4.trans k5)))
  rcases hO.shape with ⟨-, hn⟩ | ⟨g, cap, rfl, hg1, hg2, hlc, hcm, -, hcl⟩
  · cases hn
  obtain ⟨c0, c1⟩ := hcl 0 (by decide)
  obtain ⟨c2, c3⟩ := hcl 1 (by decide)
  have c0 : w5.cell? ⟨g, 0, none⟩ = some (.int .i64 1) := c0
  have c1 : w5.cell? ⟨g, 1, none⟩ = some (.int .i64 1) := c1
  have c2 : w5.cell? ⟨g, 2, none⟩ = some (.int .i64 1) := c2
  have c3 : w5.cell? ⟨g, 3, none⟩ = some (.int .i64 2) := c3
  have q1 := eql_ke (1, 1) (1, 1)
  have q2 := eql_ke (1, 2) (1, 2)
  have hgd := guard_ke
  simp only [decide_true] at q1 q2
  clear h1 h2 h3 h4 hB1 k2 k3 k4 k5 hcl hX hO hS hD hG hL
  go_wp2_with fail
  refine s5.mono ?_
  rintro e w6 ⟨rfl, rfl⟩
  go_wp2_with fail
  go_ret
  exact ⟨rfl, hfin⟩
end Go.Proofs.Ytkbmpmcckjhaaaa
