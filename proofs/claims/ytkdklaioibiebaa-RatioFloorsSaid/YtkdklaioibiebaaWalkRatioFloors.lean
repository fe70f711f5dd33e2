/- The whole part of any ratio: the walk. -/
import Derived.Test.YtkdklaioibiebaaArgsU
namespace Go.Proofs.Ytkdklaioibiebaa
open Go.RowKit Go.Kpt RatioPure
set_option linter.unusedVariables false

theorem hi_small {x y : Nat} (h : x * y < 18446744073709551616) : hi x y = 0 := Nat.div_eq_of_lt h
theorem lo_small {x y : Nat} (h : x * y < 18446744073709551616) : lo x y = x * y := Nat.mod_eq_of_lt h

set_option maxHeartbeats 800000 in
theorem ratioFloors_walk (z0 : Nat × Nat) (w : World) (w0 : z0.1 < 18446744073709551616 ∧ z0.2 < 18446744073709551616) :
    Calls Try.prog 3 #[.agg #[.int .u64 (z0.1 : Int), .int .u64 (z0.2 : Int)]] w fun e w' => e = .returned (.bool true) ∧ Below w.heap.size w w' := by
  obtain ⟨n, d⟩ := z0
  obtain ⟨hn, hd⟩ : Sm n ∧ Sm d := w0
  have c0 : (w.alloc (.cells #[.int .u64 n, .int .u64 d] 24)).cell? ⟨w.heap.size, 0, none⟩ = some (.int .u64 n) := cell_of (heap_alloc_new _ _)
  have c1 : (w.alloc (.cells #[.int .u64 n, .int .u64 d] 24)).cell? ⟨w.heap.size, 1, none⟩ = some (.int .u64 d) := cell_of (heap_alloc_new _ _)
  by_cases hd0 : d = 0
  · subst hd0
    have hfl := floor_none n
    go_enter Try.func3, Try.ntmps3
    go_wp2_with fail
    refine (head_any _).mono ?_
    rintro e wa ⟨rfl, hB⟩
    have a0 := (hB.cell (p := ⟨w.heap.size, 0, none⟩) (by simp)).trans c0
    have a1 := (hB.cell (p := ⟨w.heap.size, 1, none⟩) (by simp)).trans c1
    go_wp2_with fail
    refine (hfl _).mono ?_
    rintro e wb ⟨rfl, hBb⟩
    have hs := hB.size
    have hs' : w.heap.size + 1 ≤ wa.heap.size := by simpa using hs
    have b0 := (hBb.cell (p := ⟨w.heap.size, 0, none⟩) (show w.heap.size < _ by omega)).trans a0
    have b1 := (hBb.cell (p := ⟨w.heap.size, 1, none⟩) (show w.heap.size < _ by omega)).trans a1
    go_wp2_with fail
    go_ret
    exact ⟨rfl, (((Below.refl _ _).alloc (Nat.le_refl _) _).trans (hB.mono (by simp))).trans (hBb.mono (by omega))⟩
  · have hfl := floor_any n d hn (by omega)
    have hq : n / d * d ≤ n := Nat.div_mul_le_self n d
    have hr : n - n / d * d < d := by
      have := Nat.div_add_mod n d
      have h2 := Nat.mod_lt n (show 0 < d by omega)
      rw [Nat.mul_comm] at this
      omega
    have hqs : n / d * d < 18446744073709551616 := Nat.lt_of_le_of_lt hq hn
    have hfs : Sm (n / d) := Nat.lt_of_le_of_lt (Nat.div_le_self _ _) hn
    have hm := mul_any (n / d) d hfs hd
    rw [hi_small hqs, lo_small hqs] at hm
    have hdz : ((d : Int) == 0) = false := by simp; omega
    generalize n / d = f at *
    generalize f * d = q at *
    clear hqs hfs
    have hq2 : (q : Int) ≤ (n : Int) := by omega
    have hr2 : (n : Int) - (q : Int) < (d : Int) := by omega
    have hq3 : (n : Int) < 18446744073709551616 := by unfold Sm at hn; omega
    go_enter Try.func3, Try.ntmps3
    go_wp2_with fail
    refine (head_any _).mono ?_
    rintro e wa ⟨rfl, hB⟩
    have a0 := (hB.cell (p := ⟨w.heap.size, 0, none⟩) (by simp)).trans c0
    have a1 := (hB.cell (p := ⟨w.heap.size, 1, none⟩) (by simp)).trans c1
    go_wp2_with fail
    refine (hfl _).mono ?_
    rintro e wb ⟨rfl, hBb⟩
    have hs := hB.size
    have hs' : w.heap.size + 1 ≤ wa.heap.size := by simpa using hs
    have b0 := (hBb.cell (p := ⟨w.heap.size, 0, none⟩) (show w.heap.size < _ by omega)).trans a0
    have b1 := (hBb.cell (p := ⟨w.heap.size, 1, none⟩) (show w.heap.size < _ by omega)).trans a1
    go_wp2_with fail
    refine (hm _).mono ?_
    rintro e wc ⟨rfl, rfl⟩
    go_wp2_with fail
    go_ret
    exact ⟨rfl, (((Below.refl _ _).alloc (Nat.le_refl _) _).trans (hB.mono (by simp))).trans (hBb.mono (by omega))⟩
end Go.Proofs.Ytkdklaioibiebaa
