/- Behind a limit that was lowered none begins until fewer run: the walk. -/
import Derived.Test.YtjibcecekjmnlaaSolo
namespace Go.Proofs.Ytjibcecekjmnlaa
open Go.RowKit Go.Kpt
set_option linter.unusedVariables false
attribute [local go_sem] i64_and63

set_option maxRecDepth 100000 in
set_option maxHeartbeats 8000000 in
theorem quotaLowers_walk (high low run : Int) (w : World) (_ : (Lit.int .i64 high).wf = true) (_ : (Lit.int .i64 low).wf = true) (_ : (Lit.int .i64 run).wf = true) :
    Calls Try.prog 5 #[.int .i64 high, .int .i64 low, .int .i64 run] w fun e w' => e = .returned (.bool true) ∧ Below w.heap.size w w' := by
  have ha : 0 ≤ high % 64 ∧ high % 64 < 64 := ⟨by omega, by omega⟩
  have hb : 0 ≤ low % 64 ∧ low % 64 < 64 := ⟨by omega, by omega⟩
  have hc : 0 ≤ run % 64 ∧ run % 64 < 64 := ⟨by omega, by omega⟩
  obtain ⟨H, hH⟩ : ∃ H, high % 64 = H := ⟨_, rfl⟩
  obtain ⟨L, hL⟩ : ∃ L, low % 64 = L := ⟨_, rfl⟩
  obtain ⟨R, hR⟩ : ∃ R, run % 64 = R := ⟨_, rfl⟩
  rw [hH] at ha
  rw [hL] at hb
  rw [hR] at hc
  obtain ⟨hH0, hH1⟩ := ha
  obtain ⟨hL0, hL1⟩ := hb
  obtain ⟨hR0, hR1⟩ := hc
  go_enter Try.func5, Try.ntmps5
  go_wp2_with fail
  refine (head_any _).mono ?_
  rintro e v0 ⟨rfl, hB0⟩
  go_wp2_with fail
  clear hH hL hR
  refine (new_any v0).mono ?_
  rintro e v1 ⟨rfl, hq1, hBn, hs1⟩
  have hB1 : Below w.heap.size w v1 := hB0.trans (hBn.mono hB0.size)
  obtain ⟨b, hb⟩ : ∃ b, v0.heap.size = b := ⟨_, rfl⟩
  have hbw : w.heap.size ≤ b := by have := hB0.size; omega
  rw [hb] at hq1 ⊢
  clear hs1 hb hBn hB0
  have c1 := solo_first b H hH0 (by omega) v1 hq1
  go_wp2_with fail
  refine c1.mono ?_
  rintro e v2 ⟨rfl, hq2, hk2⟩
  have hB2 := hk_below hbw hB1 hk2
  have c2 := solo_second b H hH0 (by omega) v2 hq2
  clear c1 hq1 hB1 hk2
  go_wp2_with fail
  refine c2.mono ?_
  rintro e v3 ⟨rfl, hq3, hk3⟩
  have hB3 := hk_below hbw hB2 hk3
  clear c2 hq2 hB2 hk3
  go_wp2_with fail
  go_loopw [8] (fun x wr => ∃ (i n : Int), x = .int .i64 i ∧ 0 ≤ i ∧ i ≤ R ∧ 0 ≤ n ∧ n ≤ i ∧ n ≤ H ∧ (n = i ∨ n = H) ∧ Lq wr b (solo H n) ∧ Below w.heap.size w wr) (fun x _ => (R - intOf x).toNat)
  case atStart => exact ⟨0, 0, rfl, by omega, by omega, by omega, by omega, by omega, .inl rfl, hq3, hB3⟩
  case round =>
    clear hq3 hB3
    obtain ⟨i, n, rfl, hi0, hi1, hn0, hn1, hn2, hn3, hq, hB⟩ := hrel
    by_cases hlt : i < R
    · by_cases hm : i < H
      · obtain rfl : n = i := by omega
        have c1 := solo_begin b H n hH0 (by omega) hn0 (by omega) wr hq hm
        go_wp2_with fail
        refine c1.mono ?_
        rintro e v4 ⟨rfl, hq4, hk4⟩
        have hB4 := hk_below hbw hB hk4
        clear c1 hq hB hk4
        go_wp2_with fail
        go_roundw
        case rel => exact ⟨n + 1, n + 1, rfl, by omega, by omega, by omega, by omega, by omega, .inl rfl, hq4, hB4⟩
        case measure => simp [intOf]; omega
      · obtain rfl : n = H := by omega
        have c1 := solo_begin_f b n n hH0 (by omega) hn0 (by omega) wr hq (by omega)
        go_wp2_with fail
        refine c1.mono ?_
        rintro e v4 ⟨rfl, hk4⟩
        have hq4 := hq.below hk4
        have hB4 := hB.trans (hk4.mono hB.size)
        clear c1 hq hB hk4
        go_wp2_with fail
        go_roundw
        case rel => exact ⟨i + 1, n, rfl, by omega, by omega, by omega, by omega, by omega, .inr rfl, hq4, hB4⟩
        case measure => simp [intOf]; omega
    · have hmin : (H < R ∧ n = H) ∨ (¬ H < R ∧ n = R) := by omega
      have c1 := solo_limit b H n hH0 (by omega) hn0 (by omega) wr hq L hL0 (by omega)
      have hn64 : n < 64 := by omega
      clear hn3
      rcases hmin with ⟨hm, rfl⟩ | ⟨hm, rfl⟩
      all_goals
        go_wp2_with fail
        refine c1.mono ?_
        rintro e v4 ⟨rfl, hq4, hk4⟩
        have hB4 := hk_below hbw hB hk4
        clear c1 hq hB hk4
        go_wp2_with fail
        go_loopw [9] (fun x wr => ∃ (m : Int), x = .int .i64 m ∧ 0 ≤ m ∧ m ≤ n ∧ Lq wr b (solo L m) ∧ Below w.heap.size w wr) (fun x _ => (intOf x).toNat)
        case atStart => exact ⟨n, rfl, by omega, by omega, hq4, hB4⟩
        case round =>
          clear hq4 hB4
          obtain ⟨m, rfl, hm0, hm1, hq, hB⟩ := hrel
          by_cases hpos : 0 < m
          · have c1 := solo_busy b L m wr hq
            by_cases hlow : m < L
            · have c2 := solo_begin b L m hL0 (by omega) hm0 (by omega) wr hq hlow
              go_wp2_with fail
              refine c1.mono ?_
              rintro e v5 ⟨rfl, rfl⟩
              go_wp2_with fail
              refine c2.mono ?_
              rintro e v5 ⟨rfl, hq5, hk5⟩
              have hB5 := hk_below hbw hB hk5
              have c3 := solo_end b L (m + 1) hL0 (by omega) (by omega) (by omega) v5 hq5 (by omega)
              rw [show m + 1 - 1 = m by omega] at c3
              clear c1 c2 hq hB hk5
              go_wp2_with fail
              refine c3.mono ?_
              rintro e v6 ⟨rfl, hq6, hk6⟩
              have hB6 := hk_below hbw hB5 hk6
              have c4 := solo_end b L m hL0 (by omega) (by omega) (by omega) v6 hq6 (by omega)
              clear c3 hq5 hB5 hk6
              go_wp2_with fail
              refine c4.mono ?_
              rintro e v7 ⟨rfl, hq7, hk7⟩
              have hB7 := hk_below hbw hB6 hk7
              go_wp2_with fail
              go_roundw
              case rel => exact ⟨m - 1, rfl, by omega, by omega, hq7, hB7⟩
              case measure => simp [intOf]; omega
            · have c2 := solo_begin_f b L m hL0 (by omega) hm0 (by omega) wr hq hlow
              go_wp2_with fail
              refine c1.mono ?_
              rintro e v5 ⟨rfl, rfl⟩
              go_wp2_with fail
              refine c2.mono ?_
              rintro e v5 ⟨rfl, hk5⟩
              have hq5 := hq.below hk5
              have hB5 := hB.trans (hk5.mono hB.size)
              have c4 := solo_end b L m hL0 (by omega) (by omega) (by omega) v5 hq5 (by omega)
              clear c1 c2 hq hB hk5
              go_wp2_with fail
              refine c4.mono ?_
              rintro e v7 ⟨rfl, hq7, hk7⟩
              have hB7 := hk_below hbw hB5 hk7
              go_wp2_with fail
              go_roundw
              case rel => exact ⟨m - 1, rfl, by omega, by omega, hq7, hB7⟩
              case measure => simp [intOf]; omega
          · obtain rfl : m = 0 := by omega
            have c1 := solo_end_f b L 0 wr hq rfl
            by_cases hL : 0 < L
            · have c2 := solo_begin b L 0 hL0 (by omega) (by omega) (by omega) wr hq hL
              go_wp2_with fail
              refine c1.mono ?_
              rintro e v5 ⟨rfl, rfl⟩
              clear c1
              go_wp2_with fail
              refine c2.mono ?_
              rintro e v5 ⟨rfl, hq5, hk5⟩
              have hB5 := hk_below hbw hB hk5
              go_wp2_with fail
              go_ret
              exact ⟨rfl, hB5⟩
            · have c2 := solo_begin_f b L 0 hL0 (by omega) (by omega) (by omega) wr hq hL
              go_wp2_with fail
              refine c1.mono ?_
              rintro e v5 ⟨rfl, rfl⟩
              clear c1
              go_wp2_with fail
              refine c2.mono ?_
              rintro e v5 ⟨rfl, hk5⟩
              have hB5 := hB.trans (hk5.mono hB.size)
              go_wp2_with fail
              go_ret
              exact ⟨by simp; omega, hB5⟩
end Go.Proofs.Ytjibcecekjmnlaa
