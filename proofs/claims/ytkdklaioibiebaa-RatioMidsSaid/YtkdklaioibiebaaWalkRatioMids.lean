/- Both numbers and both by put together lie between the two: the walk. -/
import Derived.Test.YtkdklaioibiebaaLaw2
namespace Go.Proofs.Ytkdklaioibiebaa
open Go.RowKit Go.Kpt RatioPure
set_option linter.unusedVariables false

set_option maxRecDepth 100000 in
set_option maxHeartbeats 4000000 in
theorem ratioMids_any (an ad bn bd : Nat) (ha : Sm an) (ha' : Sm ad) (hb : Sm bn) (hb' : Sm bd) (w : World) :
    Calls Try.prog 7 #[rv an ad, rv bn bd] w fun e w' => e = .returned (.bool true) ∧ Below w.heap.size w w' := by
  have c0 : ((w.alloc (.cells #[.int .u64 an, .int .u64 ad] 24)).alloc (.cells #[.int .u64 bn, .int .u64 bd] 24)).heap[w.heap.size]? = _ := heap_alloc2_old _ _ _
  have c1 : ((w.alloc (.cells #[.int .u64 an, .int .u64 ad] 24)).alloc (.cells #[.int .u64 bn, .int .u64 bd] 24)).heap[w.heap.size + 1]? = _ := heap_alloc2_new _ _ _
  go_enter Try.func7, Try.ntmps7
  go_wp2_with fail
  refine (head_any _).mono ?_
  rintro e wa ⟨rfl, hB⟩
  have hBl : Below w.heap.size w wa := by
    refine Below.trans (b := (w.alloc (.cells #[.int .u64 an, .int .u64 ad] 24)).alloc (.cells #[.int .u64 bn, .int .u64 bd] 24)) (by go_grown) (hB.mono (by simp; omega))
  have hs := hB.size
  have hs' : w.heap.size + 2 ≤ wa.heap.size := by simpa using hs
  have e0 : wa.heap[w.heap.size]? = _ := (hB.block w.heap.size (by simp; omega)).trans c0
  have e1 : wa.heap[w.heap.size + 1]? = _ := (hB.block (w.heap.size + 1) (by simp)).trans c1
  clear hB c0 c1 hs
  have k0 : wa.cell? ⟨w.heap.size, 0, none⟩ = some (.int .u64 an) := cell_of e0
  have k1 : wa.cell? ⟨w.heap.size, 1, none⟩ = some (.int .u64 ad) := cell_of e0
  have k2 : wa.cell? ⟨w.heap.size + 1, 0, none⟩ = some (.int .u64 bn) := cell_of e1
  have k3 : wa.cell? ⟨w.heap.size + 1, 1, none⟩ = some (.int .u64 bd) := cell_of e1
  by_cases h1 : ad = 0
  · have d3 : ((ad : Int) == 0) = true := by simp; omega
    clear h1
    go_wp2_with fail
    go_ret
    exact ⟨rfl, hBl⟩
  have d1 : ((ad : Int) == 0) = false := by simp; omega
  by_cases h2 : bd = 0
  · have d3 : ((bd : Int) == 0) = true := by simp; omega
    clear h2
    go_wp2_with fail
    go_ret
    exact ⟨rfl, hBl⟩
  have d2 : ((bd : Int) == 0) = false := by simp; omega
  by_cases h3 : 4611686018427387904 < an
  · have d4 : (4611686018427387904 : Int) < (an : Int) := by omega
    go_wp2_with fail
    go_ret
    exact ⟨rfl, hBl⟩
  have d3 : ¬ (4611686018427387904 : Int) < (an : Int) := by omega
  by_cases h4 : 4611686018427387904 < bn
  · have d4 : (4611686018427387904 : Int) < (bn : Int) := by omega
    go_wp2_with fail
    go_ret
    exact ⟨rfl, hBl⟩
  have d4 : ¬ (4611686018427387904 : Int) < (bn : Int) := by omega
  by_cases h5 : 4611686018427387904 < ad
  · have d5 : (4611686018427387904 : Int) < (ad : Int) := by omega
    go_wp2_with fail
    go_ret
    exact ⟨rfl, hBl⟩
  have d5 : ¬ (4611686018427387904 : Int) < (ad : Int) := by omega
  by_cases h6 : 4611686018427387904 < bd
  · have d6 : (4611686018427387904 : Int) < (bd : Int) := by omega
    go_wp2_with fail
    go_ret
    exact ⟨rfl, hBl⟩
  have d6 : ¬ (4611686018427387904 : Int) < (bd : Int) := by omega
  have hc1 := compare_any an ad bn bd ha ha' hb hb'
  have hc2 := compare_any an ad (an + bn) (ad + bd) ha ha' (by unfold Sm; omega) (by unfold Sm; omega)
  have hc3 := compare_any (an + bn) (ad + bd) bn bd (by unfold Sm; omega) (by unfold Sm; omega) hb hb'
  rw [mid_left] at hc2
  rw [mid_right] at hc3
  have w1 : IntKind.u64.wrap ((an : Int) + (bn : Int)) = ((an + bn : Nat) : Int) := by rw [← Int.natCast_add]; exact IntWalk.u64_in _ ⟨by omega, by omega⟩
  have w2 : IntKind.u64.wrap ((ad : Int) + (bd : Int)) = ((ad + bd : Nat) : Int) := by rw [← Int.natCast_add]; exact IntWalk.u64_in _ ⟨by omega, by omega⟩
  clear h1 h2 h3 h4 h5 h6
  generalize sgn (an * bd) (bn * ad) = q at *
  generalize an + bn = mn at *
  generalize ad + bd = md at *
  have hk : ∀ W, Below (wa.heap.size + 1) (wa.alloc (.cells #[.int .u64 mn, .int .u64 md] 24)) W → (W.cell? ⟨w.heap.size, 0, none⟩ = some (.int .u64 an) ∧ W.cell? ⟨w.heap.size, 1, none⟩ = some (.int .u64 ad) ∧ W.cell? ⟨w.heap.size + 1, 0, none⟩ = some (.int .u64 bn) ∧ W.cell? ⟨w.heap.size + 1, 1, none⟩ = some (.int .u64 bd) ∧ W.cell? ⟨wa.heap.size, 0, none⟩ = some (.int .u64 mn) ∧ W.cell? ⟨wa.heap.size, 1, none⟩ = some (.int .u64 md)) := fun W h => by
    have hx : (wa.alloc (.cells #[.int .u64 mn, .int .u64 md] 24)).heap[w.heap.size]? = _ := (Below.heap_alloc _ _ _ (by omega)).trans e0
    have hy : (wa.alloc (.cells #[.int .u64 mn, .int .u64 md] 24)).heap[w.heap.size + 1]? = _ := (Below.heap_alloc _ _ _ (by omega)).trans e1
    exact ⟨cell_of ((h.block _ (by omega)).trans hx), cell_of ((h.block _ (by omega)).trans hx), cell_of ((h.block _ (by omega)).trans hy), cell_of ((h.block _ (by omega)).trans hy), cell_of ((h.block _ (by omega)).trans (heap_alloc_new _ _)), cell_of ((h.block _ (by omega)).trans (heap_alloc_new _ _))⟩
  have HK := Lib.hid hk
  clear hk
  obtain ⟨i0, i1, i2, i3, i4, i5⟩ := HK.out _ (Below.refl _ _)
  go_wp2_with fail
  refine (hc1 _).mono ?_
  rintro e wb ⟨rfl, hBb⟩
  have hBB : Below (wa.heap.size + 1) (wa.alloc (.cells #[.int .u64 mn, .int .u64 md] 24)) wb := hBb.mono (by simp)
  clear i0 i1 i2 i3 i4 i5
  obtain ⟨i0, i1, i2, i3, i4, i5⟩ := HK.out _ hBB
  go_wp2_with fail
  refine (hc2 _).mono ?_
  rintro e wc ⟨rfl, hBc⟩
  have hBC := hBB.trans (hBc.mono (Nat.le_trans (by simp) hBB.size))
  clear i0 i1 i2 i3 i4 i5
  obtain ⟨i0, i1, i2, i3, i4, i5⟩ := HK.out _ hBC
  go_wp2_with fail
  refine (hc3 _).mono ?_
  rintro e wd ⟨rfl, hBd⟩
  have hBD := hBC.trans (hBd.mono (Nat.le_trans (by simp) hBC.size))
  go_wp2_with fail
  go_ret
  exact ⟨rfl, (hBl.alloc (by omega) _).trans (hBD.mono (by omega))⟩

theorem ratioMids_walk (z0 z1 : Nat × Nat) (w : World) (w0 : z0.1 < 18446744073709551616 ∧ z0.2 < 18446744073709551616) (w1 : z1.1 < 18446744073709551616 ∧ z1.2 < 18446744073709551616) :
    Calls Try.prog 7 #[.agg #[.int .u64 (z0.1 : Int), .int .u64 (z0.2 : Int)], .agg #[.int .u64 (z1.1 : Int), .int .u64 (z1.2 : Int)]] w fun e w' => e = .returned (.bool true) ∧ Below w.heap.size w w' := ratioMids_any _ _ _ _ w0.1 w0.2 w1.1 w1.2 w
end Go.Proofs.Ytkdklaioibiebaa
