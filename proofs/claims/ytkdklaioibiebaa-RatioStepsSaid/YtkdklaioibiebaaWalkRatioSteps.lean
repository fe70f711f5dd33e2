/- One more above is more, one more beneath is less: the walk. -/
import Derived.Test.YtkdklaioibiebaaLaw2
namespace Go.Proofs.Ytkdklaioibiebaa
open Go.RowKit Go.Kpt RatioPure
set_option linter.unusedVariables false
set_option linter.unusedSimpArgs false

set_option maxRecDepth 100000 in
set_option maxHeartbeats 8000000 in
theorem ratioSteps_any (an ad : Nat) (ha : Sm an) (ha' : Sm ad) (w : World) :
    Calls Try.prog 8 #[rv an ad] w fun e w' => e = .returned (.bool true) ∧ Below w.heap.size w w' := by
  have c0 : (w.alloc (.cells #[.int .u64 an, .int .u64 ad] 24)).heap[w.heap.size]? = _ := heap_alloc_new _ _
  go_enter Try.func8, Try.ntmps8
  go_wp2_with fail
  refine (head_any _).mono ?_
  rintro e wa ⟨rfl, hB⟩
  have hs : w.heap.size + 1 ≤ wa.heap.size := by simpa using hB.size
  have hBl : Below w.heap.size w wa := Below.trans (b := w.alloc (.cells #[.int .u64 an, .int .u64 ad] 24)) (by go_grown) (hB.mono (by simp))
  have e0 : wa.heap[w.heap.size]? = _ := (hB.block w.heap.size (by simp)).trans c0
  clear hB c0
  have k0 : wa.cell? ⟨w.heap.size, 0, none⟩ = some (.int .u64 an) := cell_of e0
  have k1 : wa.cell? ⟨w.heap.size, 1, none⟩ = some (.int .u64 ad) := cell_of e0
  by_cases h1 : ad = 0
  · have d3 : ((ad : Int) == 0) = true := by simp; omega
    clear h1
    go_wp2_with fail
    go_ret
    exact ⟨rfl, hBl⟩
  have d3 : ((ad : Int) == 0) = false := by simp; omega
  by_cases h2 : 4611686018427387904 < an
  · have d4 : (4611686018427387904 : Int) < (an : Int) := by omega
    go_wp2_with fail
    go_ret
    exact ⟨rfl, hBl⟩
  have d4 : ¬ (4611686018427387904 : Int) < (an : Int) := by omega
  by_cases h3 : 4611686018427387904 < ad
  · have d5 : (4611686018427387904 : Int) < (ad : Int) := by omega
    go_wp2_with fail
    go_ret
    exact ⟨rfl, hBl⟩
  have d5 : ¬ (4611686018427387904 : Int) < (ad : Int) := by omega
  have hc1 := compare_any (an + 1) ad an ad (by unfold Sm; omega) ha' ha ha'
  have hc2 := compare_any an ad an (ad + 1) ha ha' ha (by unfold Sm; omega)
  have hf1 := floor_any (an + 1) ad (by unfold Sm; omega) (by omega)
  have hf2 := floor_any an (ad + 1) (by unfold Sm; omega) (by omega)
  have hf3 := floor_any an ad (by unfold Sm; omega) (by omega)
  rw [step_up (by omega)] at hc1
  have w1 : IntKind.u64.wrap ((an : Int) + 1) = ((an + 1 : Nat) : Int) := IntWalk.u64_in _ ⟨by omega, by omega⟩
  have w2 : IntKind.u64.wrap ((ad : Int) + 1) = ((ad + 1 : Nat) : Int) := IntWalk.u64_in _ ⟨by omega, by omega⟩
  have q1 : ((an / ad : Nat) : Int) ≤ (((an + 1) / ad : Nat) : Int) := Int.ofNat_le.2 (Nat.div_le_div_right (by omega))
  have q2 : ((an / (ad + 1) : Nat) : Int) ≤ ((an / ad : Nat) : Int) := Int.ofNat_le.2 (Nat.div_le_div_left (by omega) (by omega))
  obtain ⟨z, hz, hz2⟩ : ∃ z : Int, (z = 0 ∧ ((an : Int) == 0) = true ∨ z = 1 ∧ ((an : Int) == 0) = false) ∧ sgn (an * (ad + 1)) (an * ad) = z := by
    rcases Nat.eq_zero_or_pos an with h | h
    · exact ⟨0, .inl ⟨rfl, by simp; omega⟩, step_down0 h⟩
    · exact ⟨1, .inr ⟨rfl, by simp; omega⟩, step_down1 h⟩
  rw [hz2] at hc2
  have j0 : ∀ o, (wa.alloc o).cell? ⟨w.heap.size, 0, none⟩ = some (.int .u64 an) := fun o => cell_of ((Below.heap_alloc wa o w.heap.size (by omega)).trans e0)
  have j2 : ∀ o q, ((wa.alloc o).alloc q).cell? ⟨w.heap.size, 0, none⟩ = some (.int .u64 an) := fun o q => cell_of ((Below.heap_alloc _ q w.heap.size (by simp; omega)).trans ((Below.heap_alloc wa o w.heap.size (by omega)).trans e0))
  have j1 : ∀ o, (wa.alloc o).cell? ⟨w.heap.size, 1, none⟩ = some (.int .u64 ad) := fun o => cell_of ((Below.heap_alloc wa o w.heap.size (by omega)).trans e0)
  clear h2 h3 h1
  generalize (an + 1) / ad = f1 at *
  generalize an / (ad + 1) = f2 at *
  generalize an / ad = f3 at *
  generalize an + 1 = an1 at *
  generalize ad + 1 = ad1 at *
  have hk : ∀ W, Below (wa.heap.size + 2) ((wa.alloc (.cells #[.int .u64 an1, .int .u64 ad] 24)).alloc (.cells #[.int .u64 an, .int .u64 ad1] 24)) W → (W.cell? ⟨w.heap.size, 0, none⟩ = some (.int .u64 an) ∧ W.cell? ⟨w.heap.size, 1, none⟩ = some (.int .u64 ad) ∧ W.cell? ⟨wa.heap.size, 0, none⟩ = some (.int .u64 an1) ∧ W.cell? ⟨wa.heap.size, 1, none⟩ = some (.int .u64 ad) ∧ W.cell? ⟨wa.heap.size + 1, 0, none⟩ = some (.int .u64 an) ∧ W.cell? ⟨wa.heap.size + 1, 1, none⟩ = some (.int .u64 ad1) ∧ Below (wa.heap.size + 2) ((wa.alloc (.cells #[.int .u64 an1, .int .u64 ad] 24)).alloc (.cells #[.int .u64 an, .int .u64 ad1] 24)) W) := fun W h => by
    have hx : ((wa.alloc (.cells #[.int .u64 an1, .int .u64 ad] 24)).alloc (.cells #[.int .u64 an, .int .u64 ad1] 24)).heap[w.heap.size]? = _ := ((Below.heap_alloc _ _ _ (by simp; omega)).trans (Below.heap_alloc _ _ _ (by omega))).trans e0
    exact ⟨cell_of ((h.block _ (by omega)).trans hx), cell_of ((h.block _ (by omega)).trans hx), cell_of ((h.block _ (by omega)).trans (heap_alloc2_old _ _ _)), cell_of ((h.block _ (by omega)).trans (heap_alloc2_old _ _ _)), cell_of ((h.block _ (by omega)).trans (heap_alloc2_new _ _ _)), cell_of ((h.block _ (by omega)).trans (heap_alloc2_new _ _ _)), h⟩
  have HK := Lib.hid hk
  clear hk
  rcases hz with ⟨rfl, hz⟩ | ⟨rfl, hz⟩
  all_goals
    go_wp2_with fail
    go_region_held3 (fun W => W.cell? ⟨w.heap.size, 0, none⟩ = some (.int .u64 an) ∧ W.cell? ⟨w.heap.size, 1, none⟩ = some (.int .u64 ad) ∧ W.cell? ⟨wa.heap.size, 0, none⟩ = some (.int .u64 an1) ∧ W.cell? ⟨wa.heap.size, 1, none⟩ = some (.int .u64 ad) ∧ W.cell? ⟨wa.heap.size + 1, 0, none⟩ = some (.int .u64 an) ∧ W.cell? ⟨wa.heap.size + 1, 1, none⟩ = some (.int .u64 ad1) ∧ Below (wa.heap.size + 2) ((wa.alloc (.cells #[.int .u64 an1, .int .u64 ad] 24)).alloc (.cells #[.int .u64 an, .int .u64 ad1] 24)) W)
      (first | exact HK.out _ (Below.refl _ _).drew | (go_split_ands; exact HK.out _ (Below.trans (by assumption) (hBn.mono (by first | (simp; done) | exact Nat.le_trans (m := ((wa.alloc (.cells #[.int .u64 an1, .int .u64 ad] 24)).alloc (.cells #[.int .u64 an, .int .u64 ad1] 24)).heap.size) (by simp) (Below.size (B := wa.heap.size + 2) (by assumption)))))))
      (first | (go_at_call 14; first | (with_reducible refine (hc1 _).mono ?_; rintro e w' ⟨rfl, hBn⟩) | (with_reducible refine (hc2 _).mono ?_; rintro e w' ⟨rfl, hBn⟩)) | (go_at_call 11; first | (with_reducible refine (hf1 _).mono ?_; rintro e w' ⟨rfl, hBn⟩) | (with_reducible refine (hf2 _).mono ?_; rintro e w' ⟨rfl, hBn⟩) | (with_reducible refine (hf3 _).mono ?_; rintro e w' ⟨rfl, hBn⟩)))
    obtain ⟨g0, g1, g2, g3, g4, g5, hBw⟩ := ‹_ ∧ _›
    go_wp2_with fail
    go_ret
    exact ⟨rfl, ((hBl.alloc (by omega) _).alloc (by simp; omega) _).trans (hBw.mono (by omega))⟩

theorem ratioSteps_walk (z0 : Nat × Nat) (w : World) (w0 : z0.1 < 18446744073709551616 ∧ z0.2 < 18446744073709551616) :
    Calls Try.prog 8 #[.agg #[.int .u64 (z0.1 : Int), .int .u64 (z0.2 : Int)]] w fun e w' => e = .returned (.bool true) ∧ Below w.heap.size w w' := ratioSteps_any _ _ w0.1 w0.2 w
end Go.Proofs.Ytkdklaioibiebaa
