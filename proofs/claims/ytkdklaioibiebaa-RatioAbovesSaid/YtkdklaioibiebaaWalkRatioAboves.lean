/- A whole number and a part, or that there is no room: the walk. -/
import Derived.Test.YtkdklaioibiebaaArgsU
namespace Go.Proofs.Ytkdklaioibiebaa
open Go.RowKit Go.Kpt RatioPure
set_option linter.unusedVariables false

theorem wrap_sum {l u : Nat} : IntKind.u64.wrap ((l : Int) + (u : Int)) = (sm l u : Int) := by
  unfold sm
  rw [← Int.natCast_add, Int.natCast_emod]
  simp [IntKind.wrap, IntKind.bits, IntKind.signed]

theorem sm_over {l u : Nat} (hl : Sm l) (hu : Sm u) (h : 0 < cy l u) : sm l u < l := by
  unfold Sm cy sm at *
  have h1 : 18446744073709551616 ≤ l + u := by
    rcases Nat.lt_or_ge (l + u) 18446744073709551616 with g | g
    · rw [Nat.div_eq_of_lt g] at h; omega
    · exact g
  rw [Nat.mod_eq_sub_mod h1, Nat.mod_eq_of_lt (by omega)]
  omega

set_option maxRecDepth 100000 in
set_option maxHeartbeats 1000000 in
theorem ratioAboves_yes (n up down : Nat) (hn : Sm n) (hu : Sm up) (hd : Sm down) (hf : Fits n up down) (w : World) :
    Calls Try.prog 4 #[.int .u64 n, .int .u64 up, .int .u64 down] w fun e w' => e = .returned (.bool true) ∧ Below w.heap.size w w' := by
  have hyes := above_yes n up down hn hu hd hf
  have hnum := fits_num hf
  obtain ⟨h0, h1, h2⟩ := hf
  have hm := mul_any n down hn hd
  have hlo : lo n down = n * down := by have := hi_lo n down; rw [h1] at this; omega
  have hsum := wrap_sum (l := lo n down) (u := up)
  rw [hnum] at hsum
  have hts : Sm (n * down + up) := by rw [← hnum]; exact Nat.mod_lt _ (by decide)
  have hfl := floor_any (n * down + up) down hts h0
  rw [h1] at hm
  have hq : n ≤ (n * down + up) / down := (Nat.le_div_iff_mul_le h0).2 (by omega)
  have hq2 : up < down → (n * down + up) / down = n := by
    intro hlt
    rw [Nat.add_comm, Nat.add_mul_div_right _ _ h0, Nat.div_eq_of_lt hlt]; omega
  have hge : lo n down ≤ n * down + up := by omega
  generalize (n * down + up) / down = q at *
  generalize n * down + up = t at *
  generalize lo n down = l at *
  have hdz : ((down : Int) != 0) = true := by simp; omega
  have hge2 : (l : Int) ≤ (t : Int) := by omega
  have hqn : (n : Int) ≤ (q : Int) := by omega
  clear h1 h2 hlo hnum hts
  by_cases hlt : up < down
  · have hqe := hq2 hlt
    subst hqe
    have hlt2 : ¬ ((down : Int) ≤ (up : Int)) := by omega
    clear hq2
    go_enter Try.func4, Try.ntmps4
    go_wp2_with fail
    refine (head_any _).mono ?_
    rintro e wa ⟨rfl, hB⟩
    go_wp2_with fail
    refine (hyes _).mono ?_
    rintro e wb ⟨rfl, hBb⟩
    have hs := hB.size
    go_wp2_with fail
    refine (hm _).mono ?_
    rintro e wc ⟨rfl, rfl⟩
    have hsb := hBb.size
    go_wp2_with fail
    refine (hfl _).mono ?_
    rintro e wd ⟨rfl, hBd⟩
    have k0 := (hBd.cell (p := ⟨wb.heap.size, 0, none⟩) (by simp)).trans (cell_of (heap_alloc_new wb (.cells #[.int .u64 t, .int .u64 down] 24)))
    have k1 := (hBd.cell (p := ⟨wb.heap.size, 1, none⟩) (by simp)).trans (cell_of (heap_alloc_new wb (.cells #[.int .u64 t, .int .u64 down] 24)))
    go_wp2_with fail
    refine (hfl _).mono ?_
    rintro e we ⟨rfl, hBe⟩
    go_wp2_with fail
    go_ret
    have hsd := hBd.size
    simp at hsd
    exact ⟨rfl, (((hB.trans (hBb.mono hB.size)).alloc (Nat.le_trans hB.size hBb.size) _).trans (hBd.mono (by simp; omega))).trans (hBe.mono (by omega))⟩
  · have hlt2 : (down : Int) ≤ (up : Int) := by omega
    clear hq2
    go_enter Try.func4, Try.ntmps4
    go_wp2_with fail
    refine (head_any _).mono ?_
    rintro e wa ⟨rfl, hB⟩
    go_wp2_with fail
    refine (hyes _).mono ?_
    rintro e wb ⟨rfl, hBb⟩
    have hs := hB.size
    go_wp2_with fail
    refine (hm _).mono ?_
    rintro e wc ⟨rfl, rfl⟩
    have hsb := hBb.size
    go_wp2_with fail
    refine (hfl _).mono ?_
    rintro e wd ⟨rfl, hBd⟩
    go_wp2_with fail
    go_ret
    exact ⟨rfl, ((hB.trans (hBb.mono hB.size)).alloc (Nat.le_trans hB.size hBb.size) _).trans (hBd.mono (by simp; omega))⟩

set_option maxRecDepth 100000 in
set_option maxHeartbeats 1000000 in
theorem ratioAboves_no (n up down : Nat) (hn : Sm n) (hu : Sm up) (hd : Sm down) (hf : ¬ Fits n up down) (w : World) :
    Calls Try.prog 4 #[.int .u64 n, .int .u64 up, .int .u64 down] w fun e w' => e = .returned (.bool true) ∧ Below w.heap.size w w' := by
  have hno := above_no n up down hn hu hd hf
  have hm := mul_any n down hn hd
  by_cases h0 : down = 0
  · have hdz : ((down : Int) != 0) = false := by simp; omega
    clear h0 hf
    go_enter Try.func4, Try.ntmps4
    go_wp2_with fail
    refine (head_any _).mono ?_
    rintro e wa ⟨rfl, hB⟩
    go_wp2_with fail
    refine (hno _).mono ?_
    rintro e wb ⟨rfl, hBb⟩
    have hs := hB.size
    go_wp2_with fail
    refine (hm _).mono ?_
    rintro e wc ⟨rfl, rfl⟩
    go_wp2_with fail
    go_ret
    exact ⟨rfl, (hB.trans (hBb.mono hB.size)).alloc (Nat.le_trans hB.size hBb.size) _⟩
  have hdz : ((down : Int) != 0) = true := by simp; omega
  by_cases h1 : hi n down = 0
  · rw [h1] at hm
    have h2 : 0 < cy (lo n down) up := by
      rcases Nat.eq_zero_or_pos (cy (lo n down) up) with h2 | h2
      · exact absurd ⟨by omega, h1, h2⟩ hf
      · exact h2
    have hov := sm_over (lo_lt n down) hu h2
    have hsum := wrap_sum (l := lo n down) (u := up)
    generalize lo n down = l at *
    generalize sm l up = s at *
    have hov2 : ¬ ((l : Int) ≤ (s : Int)) := by omega
    clear h0 hf h1 h2
    go_enter Try.func4, Try.ntmps4
    go_wp2_with fail
    refine (head_any _).mono ?_
    rintro e wa ⟨rfl, hB⟩
    go_wp2_with fail
    refine (hno _).mono ?_
    rintro e wb ⟨rfl, hBb⟩
    have hs := hB.size
    go_wp2_with fail
    refine (hm _).mono ?_
    rintro e wc ⟨rfl, rfl⟩
    go_wp2_with fail
    go_ret
    exact ⟨rfl, (hB.trans (hBb.mono hB.size)).alloc (Nat.le_trans hB.size hBb.size) _⟩
  · have hhz : ((hi n down : Int) == 0) = false := by simp; omega
    clear h0 hf
    go_enter Try.func4, Try.ntmps4
    go_wp2_with fail
    refine (head_any _).mono ?_
    rintro e wa ⟨rfl, hB⟩
    go_wp2_with fail
    refine (hno _).mono ?_
    rintro e wb ⟨rfl, hBb⟩
    have hs := hB.size
    go_wp2_with fail
    refine (hm _).mono ?_
    rintro e wc ⟨rfl, rfl⟩
    go_wp2_with fail
    go_ret
    exact ⟨rfl, (hB.trans (hBb.mono hB.size)).alloc (Nat.le_trans hB.size hBb.size) _⟩

theorem ratioAboves_walk (a0 a1 a2 : Int) (w : World) (w0 : (Lit.int .u64 a0).wf = true) (w1 : (Lit.int .u64 a1).wf = true) (w2 : (Lit.int .u64 a2).wf = true) :
    Calls Try.prog 4 #[.int .u64 a0, .int .u64 a1, .int .u64 a2] w fun e w' => e = .returned (.bool true) ∧ Below w.heap.size w w' := by
  obtain ⟨n, rfl, hn⟩ := wf_u64 w0
  obtain ⟨up, rfl, hu⟩ := wf_u64 w1
  obtain ⟨down, rfl, hd⟩ := wf_u64 w2
  by_cases hf : Fits n up down
  · exact ratioAboves_yes n up down hn hu hd hf w
  · exact ratioAboves_no n up down hn hu hd hf w
end Go.Proofs.Ytkdklaioibiebaa
