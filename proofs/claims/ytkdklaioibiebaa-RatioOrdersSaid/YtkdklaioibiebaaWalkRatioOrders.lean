/- The order of any two ratios, as by whole parts alone: the walk. -/
import Derived.Test.YtkdklaioibiebaaArgsU
namespace Go.Proofs.Ytkdklaioibiebaa
open Go.RowKit Go.Kpt RatioPure
set_option linter.unusedVariables false

theorem sgn_neg (p q : Nat) : sgn q p = -(sgn p q) := by
  rcases Nat.lt_trichotomy p q with h | h | h
  · rw [sgn_lt h, sgn_gt h]; rfl
  · rw [sgn_eq h, sgn_eq h.symm]; rfl
  · rw [sgn_gt h, sgn_lt h]

theorem sgn_bd (p q : Nat) : -1 ≤ sgn p q ∧ sgn p q ≤ 1 := by
  unfold sgn; split
  · omega
  · split <;> omega

theorem wf_sm {x : Nat} (h : x < 18446744073709551616) : Sm x := h

set_option maxRecDepth 100000 in
set_option maxHeartbeats 1600000 in
theorem orders_zz (an ad bn bd : Nat) (ha : Sm an) (ha' : Sm ad) (hb : Sm bn) (hb' : Sm bd) (h1 : ad = 0) (h2 : bd = 0) (w : World) :
    Calls Try.prog 9 #[rv an ad, rv bn bd] w fun e w' => e = .returned (.bool true) ∧ Below w.heap.size w w' := by
  have c0 : ((w.alloc (.cells #[.int .u64 an, .int .u64 ad] 24)).alloc (.cells #[.int .u64 bn, .int .u64 bd] 24)).heap[w.heap.size]? = _ := heap_alloc2_old _ _ _
  have c1 : ((w.alloc (.cells #[.int .u64 an, .int .u64 ad] 24)).alloc (.cells #[.int .u64 bn, .int .u64 bd] 24)).heap[w.heap.size + 1]? = _ := heap_alloc2_new _ _ _
  have d1 : ((ad : Int) != 0) = false := by simp; omega
  have d2 : ((bd : Int) != 0) = false := by simp; omega
  have d3 : ((ad : Int) == 0) = true := by simp; omega
  have d4 : ((bd : Int) == 0) = true := by simp; omega
  have d5 : decide (0 < ad) = false := by simp; omega
  have d6 : decide (0 < bd) = false := by simp; omega
  have hr1 := right_any an ad
  have hr2 := right_any bn bd
  clear h1 h2
  rw [d5] at hr1
  rw [d6] at hr2
  clear d5 d6
  go_enter Try.func9, Try.ntmps9
  go_wp2_with fail
  refine (head_any _).mono ?_
  rintro e wa ⟨rfl, hB⟩
  have hBl : Below w.heap.size w wa := by
    refine Below.trans (b := (w.alloc (.cells #[.int .u64 an, .int .u64 ad] 24)).alloc (.cells #[.int .u64 bn, .int .u64 bd] 24)) (by go_grown) (hB.mono (by simp; omega))
  have hs := hB.size
  have hs' : w.heap.size + 2 ≤ wa.heap.size := by simpa using hs
  have e0 : wa.heap[w.heap.size]? = _ := (hB.block w.heap.size (by simp; omega)).trans c0
  have e1 : wa.heap[w.heap.size + 1]? = _ := (hB.block (w.heap.size + 1) (by simp)).trans c1
  clear hB c0 c1 hs
  have k0 : wa.cell? ⟨w.heap.size, 0, none⟩ = some (.int .u64 an) := cell_of e0
  have k1 : wa.cell? ⟨w.heap.size, 1, none⟩ = some (.int .u64 ad) := cell_of e0
  have k2 : wa.cell? ⟨w.heap.size + 1, 0, none⟩ = some (.int .u64 bn) := cell_of e1
  have k3 : wa.cell? ⟨w.heap.size + 1, 1, none⟩ = some (.int .u64 bd) := cell_of e1
  go_wp2_with fail
  have hk : ∀ W, Below wa.heap.size wa W → (W.cell? ⟨w.heap.size, 0, none⟩ = some (.int .u64 an) ∧ W.cell? ⟨w.heap.size, 1, none⟩ = some (.int .u64 ad) ∧ W.cell? ⟨w.heap.size + 1, 0, none⟩ = some (.int .u64 bn) ∧ W.cell? ⟨w.heap.size + 1, 1, none⟩ = some (.int .u64 bd) ∧ Below wa.heap.size wa W) := fun W h =>
    ⟨(h.cell (p := ⟨w.heap.size, 0, none⟩) (show w.heap.size < _ by omega)).trans k0, (h.cell (p := ⟨w.heap.size, 1, none⟩) (show w.heap.size < _ by omega)).trans k1, (h.cell (p := ⟨w.heap.size + 1, 0, none⟩) (show w.heap.size + 1 < _ by omega)).trans k2, (h.cell (p := ⟨w.heap.size + 1, 1, none⟩) (show w.heap.size + 1 < _ by omega)).trans k3, h⟩
  have HK := Lib.hid hk
  clear hk
  go_region_held3 (fun W => W.cell? ⟨w.heap.size, 0, none⟩ = some (.int .u64 an) ∧ W.cell? ⟨w.heap.size, 1, none⟩ = some (.int .u64 ad) ∧ W.cell? ⟨w.heap.size + 1, 0, none⟩ = some (.int .u64 bn) ∧ W.cell? ⟨w.heap.size + 1, 1, none⟩ = some (.int .u64 bd) ∧ Below wa.heap.size wa W)
    (first | exact HK.out _ (Below.refl _ _).drew | (go_split_ands; exact HK.out _ (Below.trans (by assumption) (hBn.mono (Below.size (by assumption))))))
    (first | (go_at_call 15; first | (refine (hr1 _).mono ?_; rintro e w' ⟨rfl, hBn⟩) | (refine (hr2 _).mono ?_; rintro e w' ⟨rfl, hBn⟩)))
  obtain ⟨g0, g1, g2, g3, hBw⟩ := ‹_ ∧ _›
  have hBw' : Below w.heap.size w w' := hBl.trans (hBw.mono (by omega))
  go_wp2_with fail
  go_ret
  exact ⟨rfl, hBw'⟩

set_option maxRecDepth 100000 in
set_option maxHeartbeats 1600000 in
theorem orders_zp (an ad bn bd : Nat) (ha : Sm an) (ha' : Sm ad) (hb : Sm bn) (hb' : Sm bd) (h1 : ad = 0) (h2 : 0 < bd) (w : World) :
    Calls Try.prog 9 #[rv an ad, rv bn bd] w fun e w' => e = .returned (.bool true) ∧ Below w.heap.size w w' := by
  have c0 : ((w.alloc (.cells #[.int .u64 an, .int .u64 ad] 24)).alloc (.cells #[.int .u64 bn, .int .u64 bd] 24)).heap[w.heap.size]? = _ := heap_alloc2_old _ _ _
  have c1 : ((w.alloc (.cells #[.int .u64 an, .int .u64 ad] 24)).alloc (.cells #[.int .u64 bn, .int .u64 bd] 24)).heap[w.heap.size + 1]? = _ := heap_alloc2_new _ _ _
  have d1 : ((ad : Int) != 0) = false := by simp; omega
  have d2 : ((bd : Int) != 0) = true := by simp; omega
  have d3 : ((ad : Int) == 0) = true := by simp; omega
  have d4 : ((bd : Int) == 0) = false := by simp; omega
  have d5 : decide (0 < ad) = false := by simp; omega
  have d6 : decide (0 < bd) = true := by simp; omega
  have hr1 := right_any an ad
  have hr2 := right_any bn bd
  clear h1 h2
  rw [d5] at hr1
  rw [d6] at hr2
  clear d5 d6
  go_enter Try.func9, Try.ntmps9
  go_wp2_with fail
  refine (head_any _).mono ?_
  rintro e wa ⟨rfl, hB⟩
  have hBl : Below w.heap.size w wa := by
    refine Below.trans (b := (w.alloc (.cells #[.int .u64 an, .int .u64 ad] 24)).alloc (.cells #[.int .u64 bn, .int .u64 bd] 24)) (by go_grown) (hB.mono (by simp; omega))
  have hs := hB.size
  have hs' : w.heap.size + 2 ≤ wa.heap.size := by simpa using hs
  have e0 : wa.heap[w.heap.size]? = _ := (hB.block w.heap.size (by simp; omega)).trans c0
  have e1 : wa.heap[w.heap.size + 1]? = _ := (hB.block (w.heap.size + 1) (by simp)).trans c1
  clear hB c0 c1 hs
  have k0 : wa.cell? ⟨w.heap.size, 0, none⟩ = some (.int .u64 an) := cell_of e0
  have k1 : wa.cell? ⟨w.heap.size, 1, none⟩ = some (.int .u64 ad) := cell_of e0
  have k2 : wa.cell? ⟨w.heap.size + 1, 0, none⟩ = some (.int .u64 bn) := cell_of e1
  have k3 : wa.cell? ⟨w.heap.size + 1, 1, none⟩ = some (.int .u64 bd) := cell_of e1
  go_wp2_with fail
  have hk : ∀ W, Below wa.heap.size wa W → (W.cell? ⟨w.heap.size, 0, none⟩ = some (.int .u64 an) ∧ W.cell? ⟨w.heap.size, 1, none⟩ = some (.int .u64 ad) ∧ W.cell? ⟨w.heap.size + 1, 0, none⟩ = some (.int .u64 bn) ∧ W.cell? ⟨w.heap.size + 1, 1, none⟩ = some (.int .u64 bd) ∧ Below wa.heap.size wa W) := fun W h =>
    ⟨(h.cell (p := ⟨w.heap.size, 0, none⟩) (show w.heap.size < _ by omega)).trans k0, (h.cell (p := ⟨w.heap.size, 1, none⟩) (show w.heap.size < _ by omega)).trans k1, (h.cell (p := ⟨w.heap.size + 1, 0, none⟩) (show w.heap.size + 1 < _ by omega)).trans k2, (h.cell (p := ⟨w.heap.size + 1, 1, none⟩) (show w.heap.size + 1 < _ by omega)).trans k3, h⟩
  have HK := Lib.hid hk
  clear hk
  go_region_held3 (fun W => W.cell? ⟨w.heap.size, 0, none⟩ = some (.int .u64 an) ∧ W.cell? ⟨w.heap.size, 1, none⟩ = some (.int .u64 ad) ∧ W.cell? ⟨w.heap.size + 1, 0, none⟩ = some (.int .u64 bn) ∧ W.cell? ⟨w.heap.size + 1, 1, none⟩ = some (.int .u64 bd) ∧ Below wa.heap.size wa W)
    (first | exact HK.out _ (Below.refl _ _).drew | (go_split_ands; exact HK.out _ (Below.trans (by assumption) (hBn.mono (Below.size (by assumption))))))
    (first | (go_at_call 15; first | (refine (hr1 _).mono ?_; rintro e w' ⟨rfl, hBn⟩) | (refine (hr2 _).mono ?_; rintro e w' ⟨rfl, hBn⟩)))
  obtain ⟨g0, g1, g2, g3, hBw⟩ := ‹_ ∧ _›
  have hBw' : Below w.heap.size w w' := hBl.trans (hBw.mono (by omega))
  go_wp2_with fail
  go_ret
  exact ⟨rfl, hBw'⟩

set_option maxRecDepth 100000 in
set_option maxHeartbeats 1600000 in
theorem orders_pz (an ad bn bd : Nat) (ha : Sm an) (ha' : Sm ad) (hb : Sm bn) (hb' : Sm bd) (h1 : 0 < ad) (h2 : bd = 0) (w : World) :
    Calls Try.prog 9 #[rv an ad, rv bn bd] w fun e w' => e = .returned (.bool true) ∧ Below w.heap.size w w' := by
  have c0 : ((w.alloc (.cells #[.int .u64 an, .int .u64 ad] 24)).alloc (.cells #[.int .u64 bn, .int .u64 bd] 24)).heap[w.heap.size]? = _ := heap_alloc2_old _ _ _
  have c1 : ((w.alloc (.cells #[.int .u64 an, .int .u64 ad] 24)).alloc (.cells #[.int .u64 bn, .int .u64 bd] 24)).heap[w.heap.size + 1]? = _ := heap_alloc2_new _ _ _
  have d1 : ((ad : Int) != 0) = true := by simp; omega
  have d2 : ((bd : Int) != 0) = false := by simp; omega
  have d3 : ((ad : Int) == 0) = false := by simp; omega
  have d4 : ((bd : Int) == 0) = true := by simp; omega
  have d5 : decide (0 < ad) = true := by simp; omega
  have d6 : decide (0 < bd) = false := by simp; omega
  have hr1 := right_any an ad
  have hr2 := right_any bn bd
  clear h1 h2
  rw [d5] at hr1
  rw [d6] at hr2
  clear d5 d6
  go_enter Try.func9, Try.ntmps9
  go_wp2_with fail
  refine (head_any _).mono ?_
  rintro e wa ⟨rfl, hB⟩
  have hBl : Below w.heap.size w wa := by
    refine Below.trans (b := (w.alloc (.cells #[.int .u64 an, .int .u64 ad] 24)).alloc (.cells #[.int .u64 bn, .int .u64 bd] 24)) (by go_grown) (hB.mono (by simp; omega))
  have hs := hB.size
  have hs' : w.heap.size + 2 ≤ wa.heap.size := by simpa using hs
  have e0 : wa.heap[w.heap.size]? = _ := (hB.block w.heap.size (by simp; omega)).trans c0
  have e1 : wa.heap[w.heap.size + 1]? = _ := (hB.block (w.heap.size + 1) (by simp)).trans c1
  clear hB c0 c1 hs
  have k0 : wa.cell? ⟨w.heap.size, 0, none⟩ = some (.int .u64 an) := cell_of e0
  have k1 : wa.cell? ⟨w.heap.size, 1, none⟩ = some (.int .u64 ad) := cell_of e0
  have k2 : wa.cell? ⟨w.heap.size + 1, 0, none⟩ = some (.int .u64 bn) := cell_of e1
  have k3 : wa.cell? ⟨w.heap.size + 1, 1, none⟩ = some (.int .u64 bd) := cell_of e1
  go_wp2_with fail
  have hk : ∀ W, Below wa.heap.size wa W → (W.cell? ⟨w.heap.size, 0, none⟩ = some (.int .u64 an) ∧ W.cell? ⟨w.heap.size, 1, none⟩ = some (.int .u64 ad) ∧ W.cell? ⟨w.heap.size + 1, 0, none⟩ = some (.int .u64 bn) ∧ W.cell? ⟨w.heap.size + 1, 1, none⟩ = some (.int .u64 bd) ∧ Below wa.heap.size wa W) := fun W h =>
    ⟨(h.cell (p := ⟨w.heap.size, 0, none⟩) (show w.heap.size < _ by omega)).trans k0, (h.cell (p := ⟨w.heap.size, 1, none⟩) (show w.heap.size < _ by omega)).trans k1, (h.cell (p := ⟨w.heap.size + 1, 0, none⟩) (show w.heap.size + 1 < _ by omega)).trans k2, (h.cell (p := ⟨w.heap.size + 1, 1, none⟩) (show w.heap.size + 1 < _ by omega)).trans k3, h⟩
  have HK := Lib.hid hk
  clear hk
  go_region_held3 (fun W => W.cell? ⟨w.heap.size, 0, none⟩ = some (.int .u64 an) ∧ W.cell? ⟨w.heap.size, 1, none⟩ = some (.int .u64 ad) ∧ W.cell? ⟨w.heap.size + 1, 0, none⟩ = some (.int .u64 bn) ∧ W.cell? ⟨w.heap.size + 1, 1, none⟩ = some (.int .u64 bd) ∧ Below wa.heap.size wa W)
    (first | exact HK.out _ (Below.refl _ _).drew | (go_split_ands; exact HK.out _ (Below.trans (by assumption) (hBn.mono (Below.size (by assumption))))))
    (first | (go_at_call 15; first | (refine (hr1 _).mono ?_; rintro e w' ⟨rfl, hBn⟩) | (refine (hr2 _).mono ?_; rintro e w' ⟨rfl, hBn⟩)))
  obtain ⟨g0, g1, g2, g3, hBw⟩ := ‹_ ∧ _›
  have hBw' : Below w.heap.size w w' := hBl.trans (hBw.mono (by omega))
  go_wp2_with fail
  go_ret
  exact ⟨rfl, hBw'⟩

set_option maxRecDepth 100000 in
set_option maxHeartbeats 1600000 in
theorem orders_pp (an ad bn bd : Nat) (ha : Sm an) (ha' : Sm ad) (hb : Sm bn) (hb' : Sm bd) (h1 : 0 < ad) (h2 : 0 < bd) (w : World) :
    Calls Try.prog 9 #[rv an ad, rv bn bd] w fun e w' => e = .returned (.bool true) ∧ Below w.heap.size w w' := by
  have c0 : ((w.alloc (.cells #[.int .u64 an, .int .u64 ad] 24)).alloc (.cells #[.int .u64 bn, .int .u64 bd] 24)).heap[w.heap.size]? = _ := heap_alloc2_old _ _ _
  have c1 : ((w.alloc (.cells #[.int .u64 an, .int .u64 ad] 24)).alloc (.cells #[.int .u64 bn, .int .u64 bd] 24)).heap[w.heap.size + 1]? = _ := heap_alloc2_new _ _ _
  have d1 : ((ad : Int) != 0) = true := by simp; omega
  have d2 : ((bd : Int) != 0) = true := by simp; omega
  have d3 : ((ad : Int) == 0) = false := by simp; omega
  have d4 : ((bd : Int) == 0) = false := by simp; omega
  have d5 : decide (0 < ad) = true := by simp; omega
  have d6 : decide (0 < bd) = true := by simp; omega
  have hr1 := right_any an ad
  have hr2 := right_any bn bd
  have hlc := lawCompare_any an ad bn bd ha ha' hb hb' h1 h2
  have hcf := cf_enough 64 200 an ad bn bd h1 h2 (by unfold Sm at ha'; simpa using ha') (by omega)
  rw [hcf] at hlc
  have hc1 := compare_any an ad bn bd ha ha' hb hb'
  have hc2 := compare_any bn bd an ad hb hb' ha ha'
  have hc3 := compare_any an ad an ad ha ha' ha ha'
  have hsb := sgn_bd (an * bd) (bn * ad)
  rw [sgn_eq rfl] at hc3
  rw [sgn_neg (an * bd) (bn * ad)] at hc2
  clear hcf
  generalize sgn (an * bd) (bn * ad) = q at *
  have hneg : IntKind.i64.wrap (-q) = -q := IntWalk.i64_in _ ⟨by omega, by omega⟩
  rw [d5] at hr1
  rw [d6] at hr2
  clear d5 d6
  go_enter Try.func9, Try.ntmps9
  go_wp2_with fail
  refine (head_any _).mono ?_
  rintro e wa ⟨rfl, hB⟩
  have hBl : Below w.heap.size w wa := by
    refine Below.trans (b := (w.alloc (.cells #[.int .u64 an, .int .u64 ad] 24)).alloc (.cells #[.int .u64 bn, .int .u64 bd] 24)) (by go_grown) (hB.mono (by simp; omega))
  have hs := hB.size
  have hs' : w.heap.size + 2 ≤ wa.heap.size := by simpa using hs
  have e0 : wa.heap[w.heap.size]? = _ := (hB.block w.heap.size (by simp; omega)).trans c0
  have e1 : wa.heap[w.heap.size + 1]? = _ := (hB.block (w.heap.size + 1) (by simp)).trans c1
  clear hB c0 c1 hs
  have k0 : wa.cell? ⟨w.heap.size, 0, none⟩ = some (.int .u64 an) := cell_of e0
  have k1 : wa.cell? ⟨w.heap.size, 1, none⟩ = some (.int .u64 ad) := cell_of e0
  have k2 : wa.cell? ⟨w.heap.size + 1, 0, none⟩ = some (.int .u64 bn) := cell_of e1
  have k3 : wa.cell? ⟨w.heap.size + 1, 1, none⟩ = some (.int .u64 bd) := cell_of e1
  go_wp2_with fail
  have hk : ∀ W, Below wa.heap.size wa W → (W.cell? ⟨w.heap.size, 0, none⟩ = some (.int .u64 an) ∧ W.cell? ⟨w.heap.size, 1, none⟩ = some (.int .u64 ad) ∧ W.cell? ⟨w.heap.size + 1, 0, none⟩ = some (.int .u64 bn) ∧ W.cell? ⟨w.heap.size + 1, 1, none⟩ = some (.int .u64 bd) ∧ Below wa.heap.size wa W) := fun W h =>
    ⟨(h.cell (p := ⟨w.heap.size, 0, none⟩) (show w.heap.size < _ by omega)).trans k0, (h.cell (p := ⟨w.heap.size, 1, none⟩) (show w.heap.size < _ by omega)).trans k1, (h.cell (p := ⟨w.heap.size + 1, 0, none⟩) (show w.heap.size + 1 < _ by omega)).trans k2, (h.cell (p := ⟨w.heap.size + 1, 1, none⟩) (show w.heap.size + 1 < _ by omega)).trans k3, h⟩
  have HK := Lib.hid hk
  clear hk
  go_region_held3 (fun W => W.cell? ⟨w.heap.size, 0, none⟩ = some (.int .u64 an) ∧ W.cell? ⟨w.heap.size, 1, none⟩ = some (.int .u64 ad) ∧ W.cell? ⟨w.heap.size + 1, 0, none⟩ = some (.int .u64 bn) ∧ W.cell? ⟨w.heap.size + 1, 1, none⟩ = some (.int .u64 bd) ∧ Below wa.heap.size wa W)
    (first | exact HK.out _ (Below.refl _ _).drew | (go_split_ands; exact HK.out _ (Below.trans (by assumption) (hBn.mono (Below.size (by assumption))))))
    (first | (go_at_call 15; first | (refine (hr1 _).mono ?_; rintro e w' ⟨rfl, hBn⟩) | (refine (hr2 _).mono ?_; rintro e w' ⟨rfl, hBn⟩)))
  obtain ⟨g0, g1, g2, g3, hBw⟩ := ‹_ ∧ _›
  have hBw' : Below w.heap.size w w' := hBl.trans (hBw.mono (by omega))
  go_wp2_with fail
  refine (hc1 _).mono ?_
  rintro e wb ⟨rfl, hBb⟩
  have j0 := (hBb.cell (p := ⟨w.heap.size, 0, none⟩) (block_lt_of_cell g0)).trans g0
  have j1 := (hBb.cell (p := ⟨w.heap.size, 1, none⟩) (block_lt_of_cell g1)).trans g1
  have j2 := (hBb.cell (p := ⟨w.heap.size + 1, 0, none⟩) (block_lt_of_cell g2)).trans g2
  have j3 := (hBb.cell (p := ⟨w.heap.size + 1, 1, none⟩) (block_lt_of_cell g3)).trans g3
  have hBb' : Below w.heap.size w wb := hBw'.trans (hBb.mono hBw'.size)
  clear g0 g1 g2 g3
  go_wp2_with fail
  refine (hlc _).mono ?_
  rintro e wc ⟨rfl, hBc⟩
  have l0 := (hBc.cell (p := ⟨w.heap.size, 0, none⟩) (block_lt_of_cell j0)).trans j0
  have l1 := (hBc.cell (p := ⟨w.heap.size, 1, none⟩) (block_lt_of_cell j1)).trans j1
  have l2 := (hBc.cell (p := ⟨w.heap.size + 1, 0, none⟩) (block_lt_of_cell j2)).trans j2
  have l3 := (hBc.cell (p := ⟨w.heap.size + 1, 1, none⟩) (block_lt_of_cell j3)).trans j3
  have hBc' : Below w.heap.size w wc := hBb'.trans (hBc.mono hBb'.size)
  clear j0 j1 j2 j3
  go_wp2_with fail
  refine (hc2 _).mono ?_
  rintro e wd ⟨rfl, hBd⟩
  have m0 := (hBd.cell (p := ⟨w.heap.size, 0, none⟩) (block_lt_of_cell l0)).trans l0
  have m1 := (hBd.cell (p := ⟨w.heap.size, 1, none⟩) (block_lt_of_cell l1)).trans l1
  have m2 := (hBd.cell (p := ⟨w.heap.size + 1, 0, none⟩) (block_lt_of_cell l2)).trans l2
  have m3 := (hBd.cell (p := ⟨w.heap.size + 1, 1, none⟩) (block_lt_of_cell l3)).trans l3
  have hBd' : Below w.heap.size w wd := hBc'.trans (hBd.mono hBc'.size)
  clear l0 l1 l2 l3
  go_wp2_with fail
  refine (hc3 _).mono ?_
  rintro e we ⟨rfl, hBe⟩
  have hBe' : Below w.heap.size w we := hBd'.trans (hBe.mono hBd'.size)
  go_wp2_with fail
  go_ret
  exact ⟨rfl, hBe'⟩

theorem ratioOrders_walk (z0 z1 : Nat × Nat) (w : World) (w0 : z0.1 < 18446744073709551616 ∧ z0.2 < 18446744073709551616) (w1 : z1.1 < 18446744073709551616 ∧ z1.2 < 18446744073709551616) :
    Calls Try.prog 9 #[.agg #[.int .u64 (z0.1 : Int), .int .u64 (z0.2 : Int)], .agg #[.int .u64 (z1.1 : Int), .int .u64 (z1.2 : Int)]] w fun e w' => e = .returned (.bool true) ∧ Below w.heap.size w w' := by
  rcases Nat.eq_zero_or_pos z0.2 with h1 | h1 <;> rcases Nat.eq_zero_or_pos z1.2 with h2 | h2
  · exact orders_zz _ _ _ _ w0.1 w0.2 w1.1 w1.2 h1 h2 w
  · exact orders_zp _ _ _ _ w0.1 w0.2 w1.1 w1.2 h1 h2 w
  · exact orders_pz _ _ _ _ w0.1 w0.2 w1.1 w1.2 h1 h2 w
  · exact orders_pp _ _ _ _ w0.1 w0.2 w1.1 w1.2 h1 h2 w
end Go.Proofs.Ytkdklaioibiebaa
