/- A ledger's operations, for whatever numbers. -/
import Derived.Test.YtjibcecekjmnlaaMod
namespace Go.Proofs.Ytjibcecekjmnlaa
open Go.RowKit Go.Kpt
set_option linter.unusedVariables false

def askI (s : Lg) (k : Int) : Int × Bool := if (fsI s k).th = true then (askR s k.toNat, true) else (0, false)
def beginI (s : Lg) (k : Int) : Bool × Lg := if (fsI s k).th = true ∧ askR s k.toNat = 0 then (true, s.setF k.toNat { s.fs k.toNat with bu := (s.fs k.toNat).bu + 1 }) else (false, s)
def endI (s : Lg) (k : Int) : Bool × Lg := if (fsI s k).th = true ∧ (fsI s k).bu ≠ 0 then (true, s.setF k.toNat { s.fs k.toNat with bu := (s.fs k.toNat).bu - 1 }) else (false, s)
def setAI (s : Lg) (a n : Int) : Int × Lg := if (0 ≤ a ∧ a < 16) ∧ 0 ≤ n ∧ n ≤ 1000 then (if n < rs s.fs a.toNat 64 then (4, s) else (0, s.setA a.toNat ⟨true, n⟩)) else (1, s)
def setFI (s : Lg) (f a n : Int) : Int × Lg :=
  if (0 ≤ f ∧ f < 64) ∧ (0 ≤ a ∧ a < 16) ∧ 0 ≤ n ∧ n ≤ 1000 then
    (if (s.ac a.toNat).th = false then (2, s)
     else if (s.fs f.toNat).th = true ∧ (s.fs f.toNat).acc ≠ a.toNat then (3, s)
     else if (s.ac a.toNat).lim < rs s.fs a.toNat 64 - (s.fs f.toNat).res + n then (4, s)
     else (0, s.setF f.toNat ⟨true, a.toNat, n, (s.fs f.toNat).bu⟩))
  else (1, s)

theorem known_tot (b : Nat) (s : Lg) (k : Int) (w : World) (q : Lq w b s) :
    Calls Try.prog 24 #[.pointer (some ⟨b, 0, none⟩), .int .i64 k] w fun e w' => e = .returned (.bool (fsI s k).th) ∧ w = w' := by
  by_cases hr : 0 ≤ k ∧ k < 64
  · obtain ⟨j, rfl⟩ : ∃ j : Nat, k = j := ⟨k.toNat, by omega⟩
    rw [fsI_in s j (by omega)]
    exact known_any b s j (by omega) w q
  · rw [fsI_out s k hr]
    clear q
    rcases Int.lt_or_le k 0 with h | h
    · clear hr
      go_enter Try.func24, Try.ntmps24
      go_wp2_with fail
      go_ret
      exact ⟨rfl, rfl⟩
    · have h1 : ¬ k < 0 := by omega
      have h2 : 64 ≤ k := by omega
      have h3 : ¬ k < 64 := by omega
      clear hr
      go_enter Try.func24, Try.ntmps24
      go_wp2_with fail
      go_ret
      exact ⟨rfl, rfl⟩

theorem ask_tot (b : Nat) (s : Lg) (hg : Good s) (k : Int) (w : World) (q : Lq w b s) :
    Calls Try.prog 20 #[.pointer (some ⟨b, 0, none⟩), .int .i64 k] w fun e w' => e = .returned (.tuple #[.int .i64 (askI s k).1, .bool (askI s k).2]) ∧ Below w.heap.size w w' := by
  by_cases hr : 0 ≤ k ∧ k < 64
  · obtain ⟨j, rfl⟩ : ∃ j : Nat, k = j := ⟨k.toNat, by omega⟩
    have hj : j < 64 := by omega
    unfold askI
    rw [fsI_in s j hj, Int.toNat_natCast]
    cases ht : (s.fs j).th
    · exact ask_none b s j hj ht w q
    · exact ask_any b s hg j hj ht w q
  · have hk := known_tot b s k w q
    unfold askI
    rw [fsI_out s k hr] at hk ⊢
    go_enter Try.func20, Try.ntmps20
    go_wp2_with fail
    refine hk.mono ?_
    rintro e w1 ⟨rfl, rfl⟩
    go_wp2_with fail
    go_returns
    exact ⟨rfl, Below.refl _ _⟩

theorem begin_tot (b : Nat) (s : Lg) (hg : Good s) (k : Int) (w : World) (q : Lq w b s) :
    Calls Try.prog 12 #[.pointer (some ⟨b, 0, none⟩), .int .i64 k] w fun e w' => e = .returned (.bool (beginI s k).1) ∧ Lq w' b (beginI s k).2 ∧ Kept (fun x => x = b) w w' := by
  by_cases hr : 0 ≤ k ∧ k < 64
  · obtain ⟨j, rfl⟩ : ∃ j : Nat, k = j := ⟨k.toNat, by omega⟩
    have hj : j < 64 := by omega
    unfold beginI
    rw [fsI_in s j hj, Int.toNat_natCast]
    cases ht : (s.fs j).th
    · rw [if_neg (fun h => by cases h.1)]
      exact (begin_f0 b s j hj ht w q).mono fun e w' ⟨h, k⟩ => ⟨h, q.below k, Kept.of_below k⟩
    · by_cases ha : askR s j = 0
      · rw [if_pos ⟨rfl, ha⟩]
        have h := begin_t b s hg j hj ht ha w q
        exact h
      · rw [if_neg (fun h => ha h.2)]
        exact (begin_f b s hg j hj ht ha w q).mono fun e w' ⟨h, k⟩ => ⟨h, q.below k, Kept.of_below k⟩
  · have hk := ask_tot b s hg k w q
    unfold askI at hk
    unfold beginI
    rw [fsI_out s k hr] at hk ⊢
    rw [if_neg (fun h => by cases h)] at hk
    rw [if_neg (fun h => by cases h.1)]
    go_enter Try.func12, Try.ntmps12
    go_wp2_with fail
    refine hk.mono ?_
    rintro e w1 ⟨rfl, hB⟩
    go_wp2_with fail
    go_ret
    exact ⟨rfl, q.below hB, Kept.of_below hB⟩

theorem end_tot (b : Nat) (s : Lg) (hg : Good s) (k : Int) (w : World) (q : Lq w b s) :
    Calls Try.prog 13 #[.pointer (some ⟨b, 0, none⟩), .int .i64 k] w fun e w' => e = .returned (.bool (endI s k).1) ∧ Lq w' b (endI s k).2 ∧ Kept (fun x => x = b) w w' := by
  by_cases hr : 0 ≤ k ∧ k < 64
  · obtain ⟨j, rfl⟩ : ∃ j : Nat, k = j := ⟨k.toNat, by omega⟩
    have hj : j < 64 := by omega
    unfold endI
    rw [fsI_in s j hj, Int.toNat_natCast]
    by_cases hc : (s.fs j).th = true ∧ (s.fs j).bu ≠ 0
    · rw [if_pos hc]
      exact end_t b s j hj (hg.1 j hj) hc.1 hc.2 w q
    · rw [if_neg hc]
      refine (end_f b s j hj ?_ w q).mono fun e w' ⟨h, k⟩ => ⟨h, k ▸ q, k ▸ Kept.refl _ _⟩
      cases ht : (s.fs j).th
      · exact .inl rfl
      · exact .inr (Decidable.byContradiction fun h => hc ⟨ht, h⟩)
  · have hk := known_tot b s k w q
    unfold endI
    rw [fsI_out s k hr] at hk ⊢
    rw [if_neg (fun h => by cases h.1)]
    go_enter Try.func13, Try.ntmps13
    go_wp2_with fail
    refine hk.mono ?_
    rintro e w1 ⟨rfl, rfl⟩
    go_wp2_with fail
    go_ret
    exact ⟨rfl, q, Kept.refl _ _⟩

theorem busy_tot (b : Nat) (s : Lg) {n : Nat} (hs : Ok s n) (k : Int) (w : World) (q : Lq w b s) :
    Calls Try.prog 14 #[.pointer (some ⟨b, 0, none⟩), .int .i64 k] w fun e w' => e = .returned (.int .i64 (fsI s k).bu) ∧ w = w' := by
  by_cases hr : 0 ≤ k ∧ k < 64
  · obtain ⟨j, rfl⟩ : ∃ j : Nat, k = j := ⟨k.toNat, by omega⟩
    have hj : j < 64 := by omega
    rw [fsI_in s j hj]
    exact busy_any b s j hj (fun h => (hs.un j hj h).2) w q
  · have hk := known_tot b s k w q
    rw [fsI_out s k hr] at hk ⊢
    go_enter Try.func14, Try.ntmps14
    go_wp2_with fail
    refine hk.mono ?_
    rintro e w1 ⟨rfl, rfl⟩
    go_wp2_with fail
    go_ret
    exact ⟨rfl, rfl⟩

/-- What is not within its bounds. -/
theorem out2 {a lo hi : Int} (h : ¬ (lo ≤ a ∧ a < hi)) : a < lo ∨ (¬ a < lo ∧ hi ≤ a) := by omega
theorem setA_tot (b : Nat) (s : Lg) (hg : Good s) (a n : Int) (w : World) (q : Lq w b s) :
    Calls Try.prog 10 #[.pointer (some ⟨b, 0, none⟩), .int .i64 a, .int .i64 n] w fun e w' => e = .returned (.int .i64 (setAI s a n).1) ∧ Lq w' b (setAI s a n).2 ∧ Kept (fun x => x = b) w w' := by
  unfold setAI
  by_cases hr : (0 ≤ a ∧ a < 16) ∧ 0 ≤ n ∧ n ≤ 1000
  · rw [if_pos hr]
    obtain ⟨j, rfl⟩ : ∃ j : Nat, a = j := ⟨a.toNat, by omega⟩
    rw [Int.toNat_natCast]
    by_cases hn : n < rs s.fs j 64
    · rw [if_pos hn]
      exact (setA_f b s hg j (by omega) n hr.2.1 hr.2.2 hn w q).mono fun e w' ⟨h, k⟩ => ⟨h, q.below k, Kept.of_below k⟩
    · rw [if_neg hn]
      exact setA_t b s hg j (by omega) n hr.2.1 hr.2.2 (by omega) w q
  · rw [if_neg hr]
    have hways : a < 0 ∨ (¬ a < 0 ∧ 16 ≤ a) ∨ (¬ a < 0 ∧ ¬ 16 ≤ a ∧ n < 0) ∨ (¬ a < 0 ∧ ¬ 16 ≤ a ∧ ¬ n < 0 ∧ 1000 < n) := by omega
    have hq : Lq w b s ∧ Kept (fun x => x = b) w w := ⟨q, Kept.refl _ _⟩
    clear hr q
    rcases hways with h1 | ⟨h1, h2⟩ | ⟨h1, h2, h3⟩ | ⟨h1, h2, h3, h4⟩
    all_goals
      go_enter Try.func10, Try.ntmps10
      go_wp2_with fail
      go_ret
      exact ⟨rfl, hq⟩

set_option maxHeartbeats 1000000 in
theorem setF_arg (b : Nat) (s : Lg) (f a n : Int) (hr : ¬ ((0 ≤ f ∧ f < 64) ∧ (0 ≤ a ∧ a < 16) ∧ 0 ≤ n ∧ n ≤ 1000)) (w : World) (q : Lq w b s) :
    Calls Try.prog 11 #[.pointer (some ⟨b, 0, none⟩), .int .i64 f, .int .i64 a, .int .i64 n] w fun e w' => e = .returned (.int .i64 1) ∧ w = w' := by
  have hways : f < 0 ∨ (¬ f < 0 ∧ 64 ≤ f) ∨ (¬ f < 0 ∧ ¬ 64 ≤ f ∧ a < 0) ∨ (¬ f < 0 ∧ ¬ 64 ≤ f ∧ ¬ a < 0 ∧ 16 ≤ a) ∨ (¬ f < 0 ∧ ¬ 64 ≤ f ∧ ¬ a < 0 ∧ ¬ 16 ≤ a ∧ n < 0) ∨ (¬ f < 0 ∧ ¬ 64 ≤ f ∧ ¬ a < 0 ∧ ¬ 16 ≤ a ∧ ¬ n < 0 ∧ 1000 < n) := by omega
  clear hr q
  rcases hways with h1 | ⟨h1, h2⟩ | ⟨h1, h2, h3⟩ | ⟨h1, h2, h3, h4⟩ | ⟨h1, h2, h3, h4, h5⟩ | ⟨h1, h2, h3, h4, h5, h6⟩
  all_goals
    go_enter Try.func11, Try.ntmps11
    go_wp2_with fail
    go_ret
    exact ⟨rfl, rfl⟩

set_option maxHeartbeats 1000000 in
theorem setF_state (b : Nat) (s : Lg) (f a : Nat) (hf : f < 64) (ha : a < 16) (n : Int) (hn : 0 ≤ n) (hm : n ≤ 1000) (w : World) (q : Lq w b s) :
    ((s.ac a).th = false → Calls Try.prog 11 #[.pointer (some ⟨b, 0, none⟩), .int .i64 f, .int .i64 a, .int .i64 n] w fun e w' => e = .returned (.int .i64 2) ∧ w = w') ∧
    ((s.ac a).th = true → (s.fs f).th = true → (s.fs f).acc ≠ a → Calls Try.prog 11 #[.pointer (some ⟨b, 0, none⟩), .int .i64 f, .int .i64 a, .int .i64 n] w fun e w' => e = .returned (.int .i64 3) ∧ w = w') := by
  obtain ⟨A0, A1⟩ := q.acell a ha
  obtain ⟨c0, c1, c2, c3⟩ := q.fcell f hf
  have h1 : ¬ (16 : Int) ≤ a := by omega
  have h1' : ¬ (64 : Int) ≤ f := by omega
  have h2 : ¬ n < 0 := by omega
  have h3 : ¬ 1000 < n := by omega
  clear q
  refine ⟨fun h => ?_, fun h h' h'' => ?_⟩
  · rw [h] at A0
    clear h
    go_enter Try.func11, Try.ntmps11
    go_wp2_with fail
    go_ret
    exact ⟨rfl, rfl⟩
  · rw [h] at A0
    rw [h'] at c0
    have d1 : (((s.fs f).acc : Int) == (a : Int)) = false := by simp; omega
    clear h h' h''
    go_enter Try.func11, Try.ntmps11
    go_wp2_with fail
    go_ret
    exact ⟨rfl, rfl⟩

theorem setF_tot (b : Nat) (s : Lg) (hg : Good s) (f a n : Int) (w : World) (q : Lq w b s) :
    Calls Try.prog 11 #[.pointer (some ⟨b, 0, none⟩), .int .i64 f, .int .i64 a, .int .i64 n] w fun e w' => e = .returned (.int .i64 (setFI s f a n).1) ∧ Lq w' b (setFI s f a n).2 ∧ Kept (fun x => x = b) w w' := by
  unfold setFI
  by_cases hr : (0 ≤ f ∧ f < 64) ∧ (0 ≤ a ∧ a < 16) ∧ 0 ≤ n ∧ n ≤ 1000
  · rw [if_pos hr]
    obtain ⟨j, rfl⟩ : ∃ j : Nat, a = j := ⟨a.toNat, by omega⟩
    obtain ⟨i, rfl⟩ : ∃ i : Nat, f = i := ⟨f.toNat, by omega⟩
    simp only [Int.toNat_natCast]
    have hi : i < 64 := by omega
    have hj : j < 16 := by omega
    have hst := setF_state b s i j hi hj n hr.2.2.1 hr.2.2.2 w q
    cases ht : (s.ac j).th
    · rw [if_pos rfl]
      exact (hst.1 ht).mono fun e w' ⟨h, k⟩ => ⟨h, k ▸ q, k ▸ Kept.refl _ _⟩
    · rw [if_neg (by simp)]
      by_cases hc : (s.fs i).th = true ∧ (s.fs i).acc ≠ j
      · rw [if_pos hc]
        exact (hst.2 ht hc.1 hc.2).mono fun e w' ⟨h, k⟩ => ⟨h, k ▸ q, k ▸ Kept.refl _ _⟩
      · rw [if_neg hc]
        have hfa : (s.fs i).th = false ∨ (s.fs i).acc = j := by
          cases ht : (s.fs i).th
          · exact .inl rfl
          · exact .inr (Decidable.byContradiction fun h => hc ⟨ht, h⟩)
        by_cases hl : (s.ac j).lim < rs s.fs j 64 - (s.fs i).res + n
        · rw [if_pos hl]
          exact (setF_f b s hg i j hi hj n hr.2.2.1 hr.2.2.2 ht hfa hl w q).mono fun e w' ⟨h, k⟩ => ⟨h, q.below k, Kept.of_below k⟩
        · rw [if_neg hl]
          exact setF_t b s hg i j hi hj n hr.2.2.1 hr.2.2.2 ht hfa (by omega) w q
  · rw [if_neg hr]
    exact (setF_arg b s f a n hr w q).mono fun e w' ⟨h, k⟩ => ⟨h, k ▸ q, k ▸ Kept.refl _ _⟩

/-- Of an account by any number: its limit, what is reserved, what runs. -/
def accR (s : Lg) (a : Int) : Int := if (acI s a).th then rs s.fs a.toNat 64 else 0
def accB (s : Lg) (a : Int) : Int := if (acI s a).th then bs s.fs a.toNat 64 else 0
def accL (s : Lg) (a : Int) : Int := if (acI s a).th then (acI s a).lim else 0
set_option maxHeartbeats 1000000 in
theorem account_tot (b : Nat) (s : Lg) (hg : Good s) (a : Int) (w : World) (q : Lq w b s) :
    Calls Try.prog 22 #[.pointer (some ⟨b, 0, none⟩), .int .i64 a] w fun e w' => e = .returned (.tuple #[.int .i64 (accL s a), .int .i64 (accR s a), .int .i64 (accB s a), .bool (acI s a).th]) ∧ Below w.heap.size w w' := by
  by_cases hr : 0 ≤ a ∧ a < 16
  · obtain ⟨j, rfl⟩ : ∃ j : Nat, a = j := ⟨a.toNat, by omega⟩
    have hj : j < 16 := by omega
    unfold accL accR accB
    rw [acI_in s j hj, Int.toNat_natCast]
    obtain ⟨A0, A1⟩ := q.acell j hj
    have h1 : ¬ (16 : Int) ≤ j := by omega
    have hk := sums_any b s hg.1 j w q
    generalize rs s.fs j 64 = R at *
    generalize bs s.fs j 64 = B at *
    generalize os s.fs j 64 = O at *
    cases ht : (s.ac j).th
    · rw [ht] at A0
      clear hk q
      go_enter Try.func22, Try.ntmps22
      go_wp2_with fail
      go_returns
      exact ⟨rfl, Below.refl _ _⟩
    · rw [ht] at A0
      go_enter Try.func22, Try.ntmps22
      go_wp2_with fail
      refine hk.mono ?_
      rintro e w1 ⟨rfl, hB⟩
      obtain ⟨A0, A1⟩ := (q.below hB).acell j hj
      clear hk q
      go_wp2_with fail
      go_returns
      exact ⟨rfl, hB⟩
  · unfold accL accR accB
    rw [acI_out s a hr]
    have hways : a < 0 ∨ (¬ a < 0 ∧ 16 ≤ a) := by omega
    clear hr q
    rcases hways with h1 | ⟨h1, h2⟩
    all_goals
      go_enter Try.func22, Try.ntmps22
      go_wp2_with fail
      go_returns
      exact ⟨rfl, Below.refl _ _⟩
end Go.Proofs.Ytjibcecekjmnlaa
