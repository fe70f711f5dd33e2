/- What is less than something that is less than a third is less than that; the same number by other numbers is the same: the walk. -/
import Derived.Test.YtkdklaioibiebaaLaw2
import Derived.Laws.BitsAllLaws
namespace Go.Proofs.Ytkdklaioibiebaa
open Go.RowKit Go.Kpt RatioPure
set_option linter.unusedVariables false

theorem and255 {k : Nat} (h : Sm k) : bits .and .u64 (k : Int) 255 = ((k % 256 : Nat) : Int) := by
  have := u64_and_nat k 255 h (by omega)
  rw [nat_mask8] at this
  exact this

/-- The three ratios in their blocks. -/
def Tri (W : World) (b an ad bn bd cn cd : Nat) : Prop :=
  W.heap[b]? = some (.cells #[.int .u64 an, .int .u64 ad] 24 (0, 0)) ∧ W.heap[b + 1]? = some (.cells #[.int .u64 bn, .int .u64 bd] 24 (0, 0)) ∧ W.heap[b + 2]? = some (.cells #[.int .u64 cn, .int .u64 cd] 24 (0, 0))

theorem Tri.below {w w' : World} {b an ad bn bd cn cd : Nat} (h : Tri w b an ad bn bd cn cd) (hB : Below w.heap.size w w') : Tri w' b an ad bn bd cn cd :=
  ⟨(hB.block _ (lt_of h.1)).trans h.1, (hB.block _ (lt_of h.2.1)).trans h.2.1, (hB.block _ (lt_of h.2.2)).trans h.2.2⟩

theorem Tri.cells {W : World} {b an ad bn bd cn cd : Nat} (h : Tri W b an ad bn bd cn cd) :
    W.cell? ⟨b, 0, none⟩ = some (.int .u64 an) ∧ W.cell? ⟨b, 1, none⟩ = some (.int .u64 ad) ∧ W.cell? ⟨b + 1, 0, none⟩ = some (.int .u64 bn) ∧ W.cell? ⟨b + 1, 1, none⟩ = some (.int .u64 bd) ∧ W.cell? ⟨b + 2, 0, none⟩ = some (.int .u64 cn) ∧ W.cell? ⟨b + 2, 1, none⟩ = some (.int .u64 cd) :=
  ⟨cell_of h.1, cell_of h.1, cell_of h.2.1, cell_of h.2.1, cell_of h.2.2, cell_of h.2.2⟩

set_option maxRecDepth 100000 in
set_option maxHeartbeats 8000000 in
theorem ratioChains_any (an ad bn bd cn cd k : Nat) (ha : Sm an) (ha' : Sm ad) (hb : Sm bn) (hb' : Sm bd) (hc : Sm cn) (hc' : Sm cd) (hk : Sm k) (w : World) :
    Calls Try.prog 5 #[rv an ad, rv bn bd, rv cn cd, .int .u64 k] w fun e w' => e = .returned (.bool true) ∧ Below w.heap.size w w' := by
  have c0 : Tri (((w.alloc (.cells #[.int .u64 an, .int .u64 ad] 24)).alloc (.cells #[.int .u64 bn, .int .u64 bd] 24)).alloc (.cells #[.int .u64 cn, .int .u64 cd] 24)) w.heap.size an ad bn bd cn cd := by
    refine ⟨(Below.heap_alloc _ _ _ (by simp; omega)).trans (heap_alloc2_old _ _ _), (Below.heap_alloc _ _ _ (by simp)).trans (heap_alloc2_new _ _ _), ?_⟩
    have := heap_alloc_new ((w.alloc (.cells #[.int .u64 an, .int .u64 ad] 24)).alloc (.cells #[.int .u64 bn, .int .u64 bd] 24)) (.cells #[.int .u64 cn, .int .u64 cd] 24)
    simpa using this
  go_enter Try.func5, Try.ntmps5
  go_wp2_with fail
  refine (head_any _).mono ?_
  rintro e wa ⟨rfl, hB⟩
  have hBl : Below w.heap.size w wa := by
    refine Below.trans (b := ((w.alloc (.cells #[.int .u64 an, .int .u64 ad] 24)).alloc (.cells #[.int .u64 bn, .int .u64 bd] 24)).alloc (.cells #[.int .u64 cn, .int .u64 cd] 24)) (by go_grown) (hB.mono (by simp; omega))
  have hT := c0.below hB
  clear hB c0
  have hs3 := lt_of hT.2.2
  obtain ⟨i0, i1, i2, i3, i4, i5⟩ := hT.cells
  by_cases h1 : ad = 0
  · have d3 : ((ad : Int) == 0) = true := by simp; omega
    clear h1
    go_wp2_with fail
    go_ret
    exact ⟨rfl, hBl⟩
  have d1 : ((ad : Int) == 0) = false := by simp; omega
  by_cases h2 : bd = 0
  · have d3 : ((bd : Int) == 0) = true := by simp; omega
    clear h2
    go_wp2_with fail
    go_ret
    exact ⟨rfl, hBl⟩
  have d2 : ((bd : Int) == 0) = false := by simp; omega
  by_cases h3 : cd = 0
  · have d3 : ((cd : Int) == 0) = true := by simp; omega
    clear h3
    go_wp2_with fail
    go_ret
    exact ⟨rfl, hBl⟩
  have d3 : ((cd : Int) == 0) = false := by simp; omega
  have hx1 := compare_any an ad bn bd ha ha' hb hb'
  have hx2 := compare_any bn bd cn cd hb hb' hc hc'
  have hx3 := compare_any an ad cn cd ha ha' hc hc'
  have hch := chain (an := an) (ad := ad) (bn := bn) (cn := cn) (cd := cd) (show 0 < bd by omega)
  -- the last part, from a world on in which the three stand
  obtain ⟨m, hm, hm1, hm2⟩ : ∃ m : Nat, m = 1 + k % 256 ∧ 1 ≤ m ∧ m ≤ 256 := ⟨_, rfl, by omega, by omega⟩
  have q1 := and255 hk
  have q2 : IntKind.u64.wrap (1 + ((k % 256 : Nat) : Int)) = (m : Int) := by rw [hm]; exact IntWalk.u64_in _ ⟨by omega, by omega⟩
  have hmz : (1 : Int) + ((k % 256 : Nat) : Int) = (m : Int) := by omega
  clear hm
  generalize k % 256 = k8 at *
  obtain ⟨q, hq⟩ : ∃ q, sgn (an * bd) (bn * ad) = q := ⟨_, rfl⟩
  have hsame : sgn (an * m * bd) (bn * (ad * m)) = q := (same_other (show 0 < m by omega)).trans hq
  rw [hq] at hx1 hch
  clear hq
  by_cases h4 : q ≤ 0
  · by_cases h5 : sgn (bn * cd) (cn * bd) ≤ 0
    · have h6 := hch h4 h5
      have h6' : ¬ 0 < sgn (an * cd) (cn * ad) := by omega
      clear hch h6
      generalize sgn (bn * cd) (cn * bd) = q3 at *
      generalize sgn (an * cd) (cn * ad) = q4 at *
      go_wp2_with fail
      refine (hx1 _).mono ?_
      rintro e wb ⟨rfl, hBb⟩
      have hT2 := hT.below hBb
      clear i0 i1 i2 i3 i4 i5
      obtain ⟨i0, i1, i2, i3, i4, i5⟩ := hT2.cells
      go_wp2_with fail
      refine (hx2 _).mono ?_
      rintro e wc ⟨rfl, hBc⟩
      have hT3 := hT2.below hBc
      clear i0 i1 i2 i3 i4 i5
      obtain ⟨i0, i1, i2, i3, i4, i5⟩ := hT3.cells
      go_wp2_with fail
      refine (hx3 _).mono ?_
      rintro e wd ⟨rfl, hBd⟩
      have hT4 := hT3.below hBd
      clear i0 i1 i2 i3 i4 i5
      obtain ⟨i0, i1, i2, i3, i4, i5⟩ := hT4.cells
      have hZ : Below w.heap.size w wd := ((hBl.trans (hBb.mono hBl.size)).trans (hBc.mono (Nat.le_trans hBl.size hBb.size))).trans (hBd.mono (Nat.le_trans (Nat.le_trans hBl.size hBb.size) hBc.size))
      by_cases h7 : 1125899906842624 < an
      · have d4 : (1125899906842624 : Int) < (an : Int) := by omega
        go_wp2_with fail
        go_ret
        exact ⟨rfl, hZ⟩
      have d4 : ¬ (1125899906842624 : Int) < (an : Int) := by omega
      by_cases h8 : 1125899906842624 < ad
      · have d5 : (1125899906842624 : Int) < (ad : Int) := by omega
        go_wp2_with fail
        go_ret
        exact ⟨rfl, hZ⟩
      have d5 : ¬ (1125899906842624 : Int) < (ad : Int) := by omega
      have b1 : an * m ≤ 1125899906842624 * 256 := Nat.mul_le_mul (by omega) hm2
      have b2 : ad * m ≤ 1125899906842624 * 256 := Nat.mul_le_mul (by omega) hm2
      have w1 : IntKind.u64.wrap ((an : Int) * (m : Int)) = ((an * m : Nat) : Int) := by rw [← Int.natCast_mul]; exact IntWalk.u64_in _ ⟨by omega, by omega⟩
      have w2 : IntKind.u64.wrap ((ad : Int) * (m : Int)) = ((ad * m : Nat) : Int) := by rw [← Int.natCast_mul]; exact IntWalk.u64_in _ ⟨by omega, by omega⟩
      have hy1 := compare_any (an * m) (ad * m) an ad (by unfold Sm; omega) (by unfold Sm; omega) ha ha'
      have hy2 := compare_any (an * m) (ad * m) bn bd (by unfold Sm; omega) (by unfold Sm; omega) hb hb'
      rw [same_self] at hy1
      rw [hsame] at hy2
      have hf1 := floor_any (an * m) (ad * m) (by unfold Sm; omega) (Nat.mul_pos (by omega) (by omega))
      have hf2 := floor_any an ad ha (by omega)
      rw [Nat.mul_div_mul_right _ _ (show 0 < m by omega)] at hf1
      clear hsame b1 b2
      generalize an / ad = f at *
      generalize an * m = mn at *
      generalize ad * m = md at *
      have hsz := lt_of hT4.2.2
      have hk2 : ∀ V, Below (wd.heap.size + 1) (wd.alloc (.cells #[.int .u64 mn, .int .u64 md] 24)) V → (V.cell? ⟨w.heap.size, 0, none⟩ = some (.int .u64 an) ∧ V.cell? ⟨w.heap.size, 1, none⟩ = some (.int .u64 ad) ∧ V.cell? ⟨w.heap.size + 1, 0, none⟩ = some (.int .u64 bn) ∧ V.cell? ⟨w.heap.size + 1, 1, none⟩ = some (.int .u64 bd) ∧ V.cell? ⟨wd.heap.size, 0, none⟩ = some (.int .u64 mn) ∧ V.cell? ⟨wd.heap.size, 1, none⟩ = some (.int .u64 md) ∧ Below (wd.heap.size + 1) (wd.alloc (.cells #[.int .u64 mn, .int .u64 md] 24)) V) := fun V h => by
        have hU := hT4.below (((Below.refl wd.heap.size wd).alloc (Nat.le_refl _) (.cells #[.int .u64 mn, .int .u64 md] 24)).trans (h.mono (by omega)))
        obtain ⟨i0, i1, i2, i3, i4, i5⟩ := hU.cells
        exact ⟨i0, i1, i2, i3, cell_of ((h.block _ (by omega)).trans (heap_alloc_new _ _)), cell_of ((h.block _ (by omega)).trans (heap_alloc_new _ _)), h⟩
      have HK2 := Lib.hid hk2
      clear hk2
      go_wp2_with fail
      go_region_held3 (fun V => V.cell? ⟨w.heap.size, 0, none⟩ = some (.int .u64 an) ∧ V.cell? ⟨w.heap.size, 1, none⟩ = some (.int .u64 ad) ∧ V.cell? ⟨w.heap.size + 1, 0, none⟩ = some (.int .u64 bn) ∧ V.cell? ⟨w.heap.size + 1, 1, none⟩ = some (.int .u64 bd) ∧ V.cell? ⟨wd.heap.size, 0, none⟩ = some (.int .u64 mn) ∧ V.cell? ⟨wd.heap.size, 1, none⟩ = some (.int .u64 md) ∧ Below (wd.heap.size + 1) (wd.alloc (.cells #[.int .u64 mn, .int .u64 md] 24)) V)
        (first | exact HK2.out _ (Below.refl _ _).drew | (go_split_ands; exact HK2.out _ (Below.trans (by assumption) (hBn.mono (by first | (simp; done) | exact Nat.le_trans (m := (wd.alloc (.cells #[.int .u64 mn, .int .u64 md] 24)).heap.size) (by simp) (Below.size (B := wd.heap.size + 1) (by assumption)))))))
        (first | (go_at_call 14; first | (with_reducible refine (hy1 _).mono ?_; rintro e w' ⟨rfl, hBn⟩) | (with_reducible refine (hy2 _).mono ?_; rintro e w' ⟨rfl, hBn⟩) | (with_reducible refine (hx1 _).mono ?_; rintro e w' ⟨rfl, hBn⟩)) | (go_at_call 11; first | (with_reducible refine (hf1 _).mono ?_; rintro e w' ⟨rfl, hBn⟩) | (with_reducible refine (hf2 _).mono ?_; rintro e w' ⟨rfl, hBn⟩)))
      obtain ⟨g0, g1, g2, g3, g4, g5, hBw⟩ := ‹_ ∧ _›
      go_wp2_with fail
      go_ret
      exact ⟨rfl, (hZ.alloc hZ.size _).trans (hBw.mono (by have := hZ.size; omega))⟩
    · clear hch hx3
      generalize sgn (bn * cd) (cn * bd) = q3 at *
      go_wp2_with fail
      refine (hx1 _).mono ?_
      rintro e wb ⟨rfl, hBb⟩
      have hT2 := hT.below hBb
      clear i0 i1 i2 i3 i4 i5
      obtain ⟨i0, i1, i2, i3, i4, i5⟩ := hT2.cells
      go_wp2_with fail
      refine (hx2 _).mono ?_
      rintro e wc ⟨rfl, hBc⟩
      have hT3 := hT2.below hBc
      clear i0 i1 i2 i3 i4 i5
      obtain ⟨i0, i1, i2, i3, i4, i5⟩ := hT3.cells
      have hZ : Below w.heap.size w wc := (hBl.trans (hBb.mono hBl.size)).trans (hBc.mono (Nat.le_trans hBl.size hBb.size))
      by_cases h7 : 1125899906842624 < an
      · have d4 : (1125899906842624 : Int) < (an : Int) := by omega
        go_wp2_with fail
        go_ret
        exact ⟨rfl, hZ⟩
      have d4 : ¬ (1125899906842624 : Int) < (an : Int) := by omega
      by_cases h8 : 1125899906842624 < ad
      · have d5 : (1125899906842624 : Int) < (ad : Int) := by omega
        go_wp2_with fail
        go_ret
        exact ⟨rfl, hZ⟩
      have d5 : ¬ (1125899906842624 : Int) < (ad : Int) := by omega
      have b1 : an * m ≤ 1125899906842624 * 256 := Nat.mul_le_mul (by omega) hm2
      have b2 : ad * m ≤ 1125899906842624 * 256 := Nat.mul_le_mul (by omega) hm2
      have w1 : IntKind.u64.wrap ((an : Int) * (m : Int)) = ((an * m : Nat) : Int) := by rw [← Int.natCast_mul]; exact IntWalk.u64_in _ ⟨by omega, by omega⟩
      have w2 : IntKind.u64.wrap ((ad : Int) * (m : Int)) = ((ad * m : Nat) : Int) := by rw [← Int.natCast_mul]; exact IntWalk.u64_in _ ⟨by omega, by omega⟩
      have hy1 := compare_any (an * m) (ad * m) an ad (by unfold Sm; omega) (by unfold Sm; omega) ha ha'
      have hy2 := compare_any (an * m) (ad * m) bn bd (by unfold Sm; omega) (by unfold Sm; omega) hb hb'
      rw [same_self] at hy1
      rw [hsame] at hy2
      have hf1 := floor_any (an * m) (ad * m) (by unfold Sm; omega) (Nat.mul_pos (by omega) (by omega))
      have hf2 := floor_any an ad ha (by omega)
      rw [Nat.mul_div_mul_right _ _ (show 0 < m by omega)] at hf1
      clear hsame b1 b2
      generalize an / ad = f at *
      generalize an * m = mn at *
      generalize ad * m = md at *
      have hsz := lt_of hT3.2.2
      have hk2 : ∀ V, Below (wc.heap.size + 1) (wc.alloc (.cells #[.int .u64 mn, .int .u64 md] 24)) V → (V.cell? ⟨w.heap.size, 0, none⟩ = some (.int .u64 an) ∧ V.cell? ⟨w.heap.size, 1, none⟩ = some (.int .u64 ad) ∧ V.cell? ⟨w.heap.size + 1, 0, none⟩ = some (.int .u64 bn) ∧ V.cell? ⟨w.heap.size + 1, 1, none⟩ = some (.int .u64 bd) ∧ V.cell? ⟨wc.heap.size, 0, none⟩ = some (.int .u64 mn) ∧ V.cell? ⟨wc.heap.size, 1, none⟩ = some (.int .u64 md) ∧ Below (wc.heap.size + 1) (wc.alloc (.cells #[.int .u64 mn, .int .u64 md] 24)) V) := fun V h => by
        have hU := hT3.below (((Below.refl wc.heap.size wc).alloc (Nat.le_refl _) (.cells #[.int .u64 mn, .int .u64 md] 24)).trans (h.mono (by omega)))
        obtain ⟨i0, i1, i2, i3, i4, i5⟩ := hU.cells
        exact ⟨i0, i1, i2, i3, cell_of ((h.block _ (by omega)).trans (heap_alloc_new _ _)), cell_of ((h.block _ (by omega)).trans (heap_alloc_new _ _)), h⟩
      have HK2 := Lib.hid hk2
      clear hk2
      go_wp2_with fail
      go_region_held3 (fun V => V.cell? ⟨w.heap.size, 0, none⟩ = some (.int .u64 an) ∧ V.cell? ⟨w.heap.size, 1, none⟩ = some (.int .u64 ad) ∧ V.cell? ⟨w.heap.size + 1, 0, none⟩ = some (.int .u64 bn) ∧ V.cell? ⟨w.heap.size + 1, 1, none⟩ = some (.int .u64 bd) ∧ V.cell? ⟨wc.heap.size, 0, none⟩ = some (.int .u64 mn) ∧ V.cell? ⟨wc.heap.size, 1, none⟩ = some (.int .u64 md) ∧ Below (wc.heap.size + 1) (wc.alloc (.cells #[.int .u64 mn, .int .u64 md] 24)) V)
        (first | exact HK2.out _ (Below.refl _ _).drew | (go_split_ands; exact HK2.out _ (Below.trans (by assumption) (hBn.mono (by first | (simp; done) | exact Nat.le_trans (m := (wc.alloc (.cells #[.int .u64 mn, .int .u64 md] 24)).heap.size) (by simp) (Below.size (B := wc.heap.size + 1) (by assumption)))))))
        (first | (go_at_call 14; first | (with_reducible refine (hy1 _).mono ?_; rintro e w' ⟨rfl, hBn⟩) | (with_reducible refine (hy2 _).mono ?_; rintro e w' ⟨rfl, hBn⟩) | (with_reducible refine (hx1 _).mono ?_; rintro e w' ⟨rfl, hBn⟩)) | (go_at_call 11; first | (with_reducible refine (hf1 _).mono ?_; rintro e w' ⟨rfl, hBn⟩) | (with_reducible refine (hf2 _).mono ?_; rintro e w' ⟨rfl, hBn⟩)))
      obtain ⟨g0, g1, g2, g3, g4, g5, hBw⟩ := ‹_ ∧ _›
      go_wp2_with fail
      go_ret
      exact ⟨rfl, (hZ.alloc hZ.size _).trans (hBw.mono (by have := hZ.size; omega))⟩
  · clear hch hx3 hx2
    go_wp2_with fail
    refine (hx1 _).mono ?_
    rintro e wb ⟨rfl, hBb⟩
    have hT2 := hT.below hBb
    clear i0 i1 i2 i3 i4 i5
    obtain ⟨i0, i1, i2, i3, i4, i5⟩ := hT2.cells
    have hZ : Below w.heap.size w wb := hBl.trans (hBb.mono hBl.size)
    by_cases h7 : 1125899906842624 < an
    · have d4 : (1125899906842624 : Int) < (an : Int) := by omega
      go_wp2_with fail
      go_ret
      exact ⟨rfl, hZ⟩
    have d4 : ¬ (1125899906842624 : Int) < (an : Int) := by omega
    by_cases h8 : 1125899906842624 < ad
    · have d5 : (1125899906842624 : Int) < (ad : Int) := by omega
      go_wp2_with fail
      go_ret
      exact ⟨rfl, hZ⟩
    have d5 : ¬ (1125899906842624 : Int) < (ad : Int) := by omega
    have b1 : an * m ≤ 1125899906842624 * 256 := Nat.mul_le_mul (by omega) hm2
    have b2 : ad * m ≤ 1125899906842624 * 256 := Nat.mul_le_mul (by omega) hm2
    have w1 : IntKind.u64.wrap ((an : Int) * (m : Int)) = ((an * m : Nat) : Int) := by rw [← Int.natCast_mul]; exact IntWalk.u64_in _ ⟨by omega, by omega⟩
    have w2 : IntKind.u64.wrap ((ad : Int) * (m : Int)) = ((ad * m : Nat) : Int) := by rw [← Int.natCast_mul]; exact IntWalk.u64_in _ ⟨by omega, by omega⟩
    have hy1 := compare_any (an * m) (ad * m) an ad (by unfold Sm; omega) (by unfold Sm; omega) ha ha'
    have hy2 := compare_any (an * m) (ad * m) bn bd (by unfold Sm; omega) (by unfold Sm; omega) hb hb'
    rw [same_self] at hy1
    rw [hsame] at hy2
    have hf1 := floor_any (an * m) (ad * m) (by unfold Sm; omega) (Nat.mul_pos (by omega) (by omega))
    have hf2 := floor_any an ad ha (by omega)
    rw [Nat.mul_div_mul_right _ _ (show 0 < m by omega)] at hf1
    clear hsame b1 b2
    generalize an / ad = f at *
    generalize an * m = mn at *
    generalize ad * m = md at *
    have hsz := lt_of hT2.2.2
    have hk2 : ∀ V, Below (wb.heap.size + 1) (wb.alloc (.cells #[.int .u64 mn, .int .u64 md] 24)) V → (V.cell? ⟨w.heap.size, 0, none⟩ = some (.int .u64 an) ∧ V.cell? ⟨w.heap.size, 1, none⟩ = some (.int .u64 ad) ∧ V.cell? ⟨w.heap.size + 1, 0, none⟩ = some (.int .u64 bn) ∧ V.cell? ⟨w.heap.size + 1, 1, none⟩ = some (.int .u64 bd) ∧ V.cell? ⟨wb.heap.size, 0, none⟩ = some (.int .u64 mn) ∧ V.cell? ⟨wb.heap.size, 1, none⟩ = some (.int .u64 md) ∧ Below (wb.heap.size + 1) (wb.alloc (.cells #[.int .u64 mn, .int .u64 md] 24)) V) := fun V h => by
      have hU := hT2.below (((Below.refl wb.heap.size wb).alloc (Nat.le_refl _) (.cells #[.int .u64 mn, .int .u64 md] 24)).trans (h.mono (by omega)))
      obtain ⟨i0, i1, i2, i3, i4, i5⟩ := hU.cells
      exact ⟨i0, i1, i2, i3, cell_of ((h.block _ (by omega)).trans (heap_alloc_new _ _)), cell_of ((h.block _ (by omega)).trans (heap_alloc_new _ _)), h⟩
    have HK2 := Lib.hid hk2
    clear hk2
    go_wp2_with fail
    go_region_held3 (fun V => V.cell? ⟨w.heap.size, 0, none⟩ = some (.int .u64 an) ∧ V.cell? ⟨w.heap.size, 1, none⟩ = some (.int .u64 ad) ∧ V.cell? ⟨w.heap.size + 1, 0, none⟩ = some (.int .u64 bn) ∧ V.cell? ⟨w.heap.size + 1, 1, none⟩ = some (.int .u64 bd) ∧ V.cell? ⟨wb.heap.size, 0, none⟩ = some (.int .u64 mn) ∧ V.cell? ⟨wb.heap.size, 1, none⟩ = some (.int .u64 md) ∧ Below (wb.heap.size + 1) (wb.alloc (.cells #[.int .u64 mn, .int .u64 md] 24)) V)
      (first | exact HK2.out _ (Below.refl _ _).drew | (go_split_ands; exact HK2.out _ (Below.trans (by assumption) (hBn.mono (by first | (simp; done) | exact Nat.le_trans (m := (wb.alloc (.cells #[.int .u64 mn, .int .u64 md] 24)).heap.size) (by simp) (Below.size (B := wb.heap.size + 1) (by assumption)))))))
      (first | (go_at_call 14; first | (with_reducible refine (hy1 _).mono ?_; rintro e w' ⟨rfl, hBn⟩) | (with_reducible refine (hy2 _).mono ?_; rintro e w' ⟨rfl, hBn⟩) | (with_reducible refine (hx1 _).mono ?_; rintro e w' ⟨rfl, hBn⟩)) | (go_at_call 11; first | (with_reducible refine (hf1 _).mono ?_; rintro e w' ⟨rfl, hBn⟩) | (with_reducible refine (hf2 _).mono ?_; rintro e w' ⟨rfl, hBn⟩)))
    obtain ⟨g0, g1, g2, g3, g4, g5, hBw⟩ := ‹_ ∧ _›
    go_wp2_with fail
    go_ret
    exact ⟨rfl, (hZ.alloc hZ.size _).trans (hBw.mono (by have := hZ.size; omega))⟩

theorem ratioChains_walk (z0 z1 z2 : Nat × Nat) (a3 : Int) (w : World) (w0 : z0.1 < 18446744073709551616 ∧ z0.2 < 18446744073709551616) (w1 : z1.1 < 18446744073709551616 ∧ z1.2 < 18446744073709551616) (w2 : z2.1 < 18446744073709551616 ∧ z2.2 < 18446744073709551616) (w3 : (Lit.int .u64 a3).wf = true) :
    Calls Try.prog 5 #[.agg #[.int .u64 (z0.1 : Int), .int .u64 (z0.2 : Int)], .agg #[.int .u64 (z1.1 : Int), .int .u64 (z1.2 : Int)], .agg #[.int .u64 (z2.1 : Int), .int .u64 (z2.2 : Int)], .int .u64 a3] w fun e w' => e = .returned (.bool true) ∧ Below w.heap.size w w' := by
  obtain ⟨n, rfl, hn⟩ := wf_u64 w3
  exact ratioChains_any _ _ _ _ _ _ _ w0.1 w0.2 w1.1 w1.2 w2.1 w2.2 hn w
end Go.Proofs.Ytkdklaioibiebaa
