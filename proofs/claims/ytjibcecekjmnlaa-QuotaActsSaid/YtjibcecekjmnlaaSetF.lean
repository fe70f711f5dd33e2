/- A function's reserved calls are set. -/
import Derived.Test.YtjibcecekjmnlaaOps
namespace Go.Proofs.Ytjibcecekjmnlaa
open Go.RowKit Go.Kpt
set_option linter.unusedVariables false

set_option maxRecDepth 100000 in
set_option maxHeartbeats 4000000 in
theorem setF_t (b : Nat) (s : Lg) (hg : Good s) (f a : Nat) (hf : f < 64) (ha : a < 16) (n : Int) (hn : 0 ≤ n) (hm : n ≤ 1000) (hth : (s.ac a).th = true) (hfa : (s.fs f).th = false ∨ (s.fs f).acc = a)
    (hr : rs s.fs a 64 - (s.fs f).res + n ≤ (s.ac a).lim) (w : World) (q : Lq w b s) :
    Calls Try.prog 11 #[.pointer (some ⟨b, 0, none⟩), .int .i64 f, .int .i64 a, .int .i64 n] w fun e w' => e = .returned (.int .i64 0) ∧ Lq w' b (s.setF f ⟨true, a, n, (s.fs f).bu⟩) ∧ Kept (fun x => x = b) w w' := by
  have hk := sums_any b s hg.1 a w q
  have hgf := hg.1 f hf
  have hga := hg.2 a ha
  have hrb := rs_bd hg.1 a 64 (by omega)
  unfold goodf at hgf
  obtain ⟨g1, g2, g3, g4, g5⟩ := hgf
  obtain ⟨A0, A1⟩ := q.acell a ha
  obtain ⟨c0, c1, c2, c3⟩ := q.fcell f hf
  generalize rs s.fs a 64 = R at *
  generalize bs s.fs a 64 = B at *
  generalize os s.fs a 64 = O at *
  rw [hth] at A0
  have h1 : ¬ (16 : Int) ≤ a := by omega
  have h1' : ¬ (64 : Int) ≤ f := by omega
  have h2 : ¬ n < 0 := by omega
  have h3 : ¬ 1000 < n := by omega
  have h4 : ¬ (s.ac a).lim < R - (s.fs f).res + n := by omega
  have HX : ∀ W, Lq W b s → Lq (((W.setCell ⟨b, 32 + f * 4, none⟩ (.bool true)).setCell ⟨b, 32 + f * 4 + 1, none⟩ (.int .i64 a)).setCell ⟨b, 32 + f * 4 + 2, none⟩ (.int .i64 n)) b (s.setF f ⟨true, a, n, (s.fs f).bu⟩) := fun W h => by
    have := ((h.setTh f hf true).setAcc f hf a).setRes f hf n
    simpa only [setF_setF, setF_at] using this
  have HX := Lib.hid HX
  have hts : (s.fs f).th = false ∨ ((s.fs f).th = true ∧ (s.fs f).acc = a) := by
    rcases hfa with h | h
    · exact .inl h
    · cases ht : (s.fs f).th
      · exact .inl rfl
      · exact .inr ⟨rfl, h⟩
  clear hfa hr
  rcases hts with ht | ⟨ht, hac⟩
  · rw [ht] at c0
    clear hg
    go_enter Try.func11, Try.ntmps11
    go_wp2_with fail
    refine hk.mono ?_
    rintro e w1 ⟨rfl, hB⟩
    have q1 := q.below hB
    obtain ⟨A0, A1⟩ := q1.acell a ha
    obtain ⟨c0, c1, c2, c3⟩ := q1.fcell f hf
    clear hk q
    go_wp2_with fail
    go_quiet (fail)
    have q2 := q1.below (below_drewN (Below.refl _ _) nq)
    have k2 := (Kept.of_below (F := fun x => x = b) hB).drewN nq
    clear A0 A1 c0 c1 c2 c3 q1 hB
    generalize w1.drewN nq = v at *
    go_wp2_with fail
    obtain ⟨c0, c1, c2, c3⟩ := q2.fcell f hf
    have f0 := q2.frozen (32 + f * 4)
    have f1 := q2.frozen (32 + f * 4 + 1)
    have f2 := q2.frozen (32 + f * 4 + 2)
    have HR := Lib.hid (HX.out v q2)
    have HK := Lib.hid (Kept.setb (Kept.setb (Kept.setb k2 (32 + f * 4) (.bool true)) (32 + f * 4 + 1) (.int .i64 a)) (32 + f * 4 + 2) (.int .i64 n))
    clear HX q2 k2
    go_region
    all_goals
      go_wp2
      go_ret
      exact ⟨rfl, HR.out.below (Below.refl _ _).drew, HK.out.drew⟩
  · rw [ht] at c0
    rw [hac] at c1
    clear hg
    go_enter Try.func11, Try.ntmps11
    go_wp2_with fail
    refine hk.mono ?_
    rintro e w1 ⟨rfl, hB⟩
    have q1 := q.below hB
    obtain ⟨A0, A1⟩ := q1.acell a ha
    obtain ⟨c0, c1, c2, c3⟩ := q1.fcell f hf
    clear hk q
    go_wp2_with fail
    go_quiet (fail)
    have q2 := q1.below (below_drewN (Below.refl _ _) nq)
    have k2 := (Kept.of_below (F := fun x => x = b) hB).drewN nq
    clear A0 A1 c0 c1 c2 c3 q1 hB
    generalize w1.drewN nq = v at *
    go_wp2_with fail
    obtain ⟨c0, c1, c2, c3⟩ := q2.fcell f hf
    have f0 := q2.frozen (32 + f * 4)
    have f1 := q2.frozen (32 + f * 4 + 1)
    have f2 := q2.frozen (32 + f * 4 + 2)
    have HR := Lib.hid (HX.out v q2)
    have HK := Lib.hid (Kept.setb (Kept.setb (Kept.setb k2 (32 + f * 4) (.bool true)) (32 + f * 4 + 1) (.int .i64 a)) (32 + f * 4 + 2) (.int .i64 n))
    clear HX q2 k2
    go_region
    all_goals
      go_wp2
      go_ret
      exact ⟨rfl, HR.out.below (Below.refl _ _).drew, HK.out.drew⟩

set_option maxRecDepth 100000 in
set_option maxHeartbeats 4000000 in
theorem setF_f (b : Nat) (s : Lg) (hg : Good s) (f a : Nat) (hf : f < 64) (ha : a < 16) (n : Int) (hn : 0 ≤ n) (hm : n ≤ 1000) (hth : (s.ac a).th = true) (hfa : (s.fs f).th = false ∨ (s.fs f).acc = a)
    (hr : (s.ac a).lim < rs s.fs a 64 - (s.fs f).res + n) (w : World) (q : Lq w b s) :
    Calls Try.prog 11 #[.pointer (some ⟨b, 0, none⟩), .int .i64 f, .int .i64 a, .int .i64 n] w fun e w' => e = .returned (.int .i64 4) ∧ Below w.heap.size w w' := by
  have hk := sums_any b s hg.1 a w q
  have hgf := hg.1 f hf
  have hga := hg.2 a ha
  have hrb := rs_bd hg.1 a 64 (by omega)
  unfold goodf at hgf
  obtain ⟨g1, g2, g3, g4, g5⟩ := hgf
  obtain ⟨A0, A1⟩ := q.acell a ha
  obtain ⟨c0, c1, c2, c3⟩ := q.fcell f hf
  generalize rs s.fs a 64 = R at *
  generalize bs s.fs a 64 = B at *
  generalize os s.fs a 64 = O at *
  rw [hth] at A0
  have h1 : ¬ (16 : Int) ≤ a := by omega
  have h1' : ¬ (64 : Int) ≤ f := by omega
  have h2 : ¬ n < 0 := by omega
  have h3 : ¬ 1000 < n := by omega
  have hts : (s.fs f).th = false ∨ ((s.fs f).th = true ∧ (s.fs f).acc = a) := by
    rcases hfa with h | h
    · exact .inl h
    · cases ht : (s.fs f).th
      · exact .inl rfl
      · exact .inr ⟨rfl, h⟩
  clear hfa
  rcases hts with ht | ⟨ht, hac⟩
  · rw [ht] at c0
    clear hg
    go_enter Try.func11, Try.ntmps11
    go_wp2_with fail
    refine hk.mono ?_
    rintro e w1 ⟨rfl, hB⟩
    have q1 := q.below hB
    obtain ⟨A0, A1⟩ := q1.acell a ha
    obtain ⟨c0, c1, c2, c3⟩ := q1.fcell f hf
    clear hk q
    go_wp2_with fail
    go_quiet (fail)
    go_wp2_with fail
    go_ret
    exact ⟨rfl, below_drewN hB _⟩
  · rw [ht] at c0
    rw [hac] at c1
    clear hg
    go_enter Try.func11, Try.ntmps11
    go_wp2_with fail
    refine hk.mono ?_
    rintro e w1 ⟨rfl, hB⟩
    have q1 := q.below hB
    obtain ⟨A0, A1⟩ := q1.acell a ha
    obtain ⟨c0, c1, c2, c3⟩ := q1.fcell f hf
    clear hk q
    go_wp2_with fail
    go_quiet (fail)
    go_wp2_with fail
    go_ret
    exact ⟨rfl, below_drewN hB _⟩
end Go.Proofs.Ytjibcecekjmnlaa
