/- Numbers by one stand as whole numbers do; a part more is above: the walk. -/
import Derived.Test.YtkdklaioibiebaaLaw2
namespace Go.Proofs.Ytkdklaioibiebaa
open Go.RowKit Go.Kpt RatioPure
set_option linter.unusedVariables false

set_option maxRecDepth 100000 in
set_option maxHeartbeats 4000000 in
theorem ratioWholes_any (a b den : Nat) (ha : Sm a) (hb : Sm b) (hd : Sm den) (w : World) :
    Calls Try.prog 6 #[.int .u64 a, .int .u64 b, .int .u64 den] w fun e w' => e = .returned (.bool true) ∧ Below w.heap.size w w' := by
  have s1 : Sm 1 := by unfold Sm; omega
  have hc1 := compare_any a 1 b 1 ha s1 hb s1
  have hf1 := floor_any a 1 ha (by omega)
  rw [Nat.div_one] at hf1
  go_enter Try.func6, Try.ntmps6
  go_wp2_with fail
  refine (head_any _).mono ?_
  rintro e wa ⟨rfl, hBl⟩
  have hs := hBl.size
  -- the order of the two is one of three
  obtain ⟨z, hz, hz2⟩ : ∃ z : Int, sgn (a * 1) (b * 1) = z ∧ ((z = -1 ∧ (a : Int) < (b : Int) ∧ ¬ (b : Int) < (a : Int)) ∨ (z = 0 ∧ ¬ (a : Int) < (b : Int) ∧ ¬ (b : Int) < (a : Int)) ∨ (z = 1 ∧ ¬ (a : Int) < (b : Int) ∧ (b : Int) < (a : Int))) := by
    rcases Nat.lt_trichotomy a b with h | h | h
    · exact ⟨_, sgn_lt (by omega), .inl ⟨rfl, by omega, by omega⟩⟩
    · exact ⟨_, sgn_eq (by omega), .inr (.inl ⟨rfl, by omega, by omega⟩)⟩
    · exact ⟨_, sgn_gt (by omega), .inr (.inr ⟨rfl, by omega, by omega⟩)⟩
  rw [hz] at hc1
  clear hz
  have hc1 : ∀ w : World, Calls Try.prog 14 #[.agg #[.int .u64 a, .int .u64 1], .agg #[.int .u64 b, .int .u64 1]] w fun e w' => e = .returned (.int .i64 z) ∧ Below w.heap.size w w' := hc1
  have hf1 : ∀ w : World, Calls Try.prog 11 #[.agg #[.int .u64 a, .int .u64 1]] w fun e w' => e = .returned (.int .u64 a) ∧ Below w.heap.size w w' := hf1
  have hk : ∀ W, Below (wa.heap.size + 2) ((wa.alloc (.cells #[.int .u64 a, .int .u64 1] 24)).alloc (.cells #[.int .u64 b, .int .u64 1] 24)) W → (W.cell? ⟨wa.heap.size, 0, none⟩ = some (.int .u64 a) ∧ W.cell? ⟨wa.heap.size, 1, none⟩ = some (.int .u64 1) ∧ W.cell? ⟨wa.heap.size + 1, 0, none⟩ = some (.int .u64 b) ∧ W.cell? ⟨wa.heap.size + 1, 1, none⟩ = some (.int .u64 1)) := fun W h =>
    ⟨cell_of ((h.block _ (by omega)).trans (heap_alloc2_old _ _ _)), cell_of ((h.block _ (by omega)).trans (heap_alloc2_old _ _ _)), cell_of ((h.block _ (by omega)).trans (heap_alloc2_new _ _ _)), cell_of ((h.block _ (by omega)).trans (heap_alloc2_new _ _ _))⟩
  have HK := Lib.hid hk
  clear hk
  by_cases hf : Fits a 1 den
  · have hab := above_yes a 1 den ha s1 hd hf
    have hden : 0 < den := hf.1
    have hnum := fits_num hf
    have hsm : Sm (a * den + 1) := by rw [← hnum]; exact Nat.mod_lt _ (by decide)
    have hc2 := compare_any (a * den + 1) den a 1 hsm hd ha s1
    have hc3 := compare_any (a * den + 1) den 1 1 hsm hd s1 s1
    have hc4 := compare_any a 1 1 1 ha s1 s1 s1
    rw [whole_self] at hc2
    have hge := whole_ge a den
    clear hnum
    generalize sgn (a * 1) (1 * 1) = y at *
    generalize sgn ((a * den + 1) * 1) (1 * den) = x at *
    generalize a * den + 1 = t at *
    have hc2 : ∀ w : World, Calls Try.prog 14 #[.agg #[.int .u64 t, .int .u64 den], .agg #[.int .u64 a, .int .u64 1]] w fun e w' => e = .returned (.int .i64 1) ∧ Below w.heap.size w w' := hc2
    have hc3 : ∀ w : World, Calls Try.prog 14 #[.agg #[.int .u64 t, .int .u64 den], .agg #[.int .u64 1, .int .u64 1]] w fun e w' => e = .returned (.int .i64 x) ∧ Below w.heap.size w w' := hc3
    have hc4 : ∀ w : World, Calls Try.prog 14 #[.agg #[.int .u64 a, .int .u64 1], .agg #[.int .u64 1, .int .u64 1]] w fun e w' => e = .returned (.int .i64 y) ∧ Below w.heap.size w w' := hc4
    have hab : ∀ w : World, Calls Try.prog 13 #[.int .u64 a, .int .u64 1, .int .u64 den] w fun e w' => e = .returned (.tuple #[.agg #[.int .u64 t, .int .u64 den], .bool true]) ∧ Below w.heap.size w w' := hab
    clear hf hden
    rcases hz2 with ⟨rfl, c1, c2⟩ | ⟨rfl, c1, c2⟩ | ⟨rfl, c1, c2⟩
    all_goals
      go_wp2_with fail
      with_reducible refine (hc1 _).mono ?_
      rintro e wb ⟨rfl, hBb⟩
      have hBB : Below (wa.heap.size + 2) ((wa.alloc (.cells #[.int .u64 a, .int .u64 1] 24)).alloc (.cells #[.int .u64 b, .int .u64 1] 24)) wb := hBb.mono (by simp)
      obtain ⟨i0, i1, i2, i3⟩ := HK.out _ hBB
      go_wp2_with fail
      with_reducible refine (hf1 _).mono ?_
      rintro e wc ⟨rfl, hBc⟩
      have hBC := hBB.trans (hBc.mono (Nat.le_trans (by simp) hBB.size))
      clear i0 i1 i2 i3
      go_wp2_with fail
      with_reducible refine (hab _).mono ?_
      rintro e wd ⟨rfl, hBd⟩
      have hBD := hBC.trans (hBd.mono (Nat.le_trans (by simp) hBC.size))
      have hsd : wa.heap.size + 2 ≤ wd.heap.size := Nat.le_trans (by simp) hBD.size
      have hk2 : ∀ W, Below (wd.heap.size + 1) (wd.alloc (.cells #[.int .u64 t, .int .u64 den] 24)) W → (W.cell? ⟨wa.heap.size, 0, none⟩ = some (.int .u64 a) ∧ W.cell? ⟨wa.heap.size, 1, none⟩ = some (.int .u64 1) ∧ W.cell? ⟨wd.heap.size, 0, none⟩ = some (.int .u64 t) ∧ W.cell? ⟨wd.heap.size, 1, none⟩ = some (.int .u64 den) ∧ Below (wd.heap.size + 1) (wd.alloc (.cells #[.int .u64 t, .int .u64 den] 24)) W) := fun W h => by
        obtain ⟨i0, i1, i2, i3⟩ := HK.out W ((hBD.alloc hsd _).trans (h.mono (by omega)))
        exact ⟨i0, i1, cell_of ((h.block _ (by omega)).trans (heap_alloc_new _ _)), cell_of ((h.block _ (by omega)).trans (heap_alloc_new _ _)), h⟩
      have HK2 := Lib.hid hk2
      clear hk2
      go_wp2_with fail
      go_region_held3 (fun W => W.cell? ⟨wa.heap.size, 0, none⟩ = some (.int .u64 a) ∧ W.cell? ⟨wa.heap.size, 1, none⟩ = some (.int .u64 1) ∧ W.cell? ⟨wd.heap.size, 0, none⟩ = some (.int .u64 t) ∧ W.cell? ⟨wd.heap.size, 1, none⟩ = some (.int .u64 den) ∧ Below (wd.heap.size + 1) (wd.alloc (.cells #[.int .u64 t, .int .u64 den] 24)) W)
        (first | exact HK2.out _ (Below.refl _ _).drew | (go_split_ands; exact HK2.out _ (Below.trans (by assumption) (hBn.mono (by first | (simp; done) | exact Nat.le_trans (m := (wd.alloc (.cells #[.int .u64 t, .int .u64 den] 24)).heap.size) (by simp) (Below.size (B := wd.heap.size + 1) (by assumption)))))))
        (first | (go_at_call 14; first | (with_reducible refine (hc2 _).mono ?_; rintro e w' ⟨rfl, hBn⟩) | (with_reducible refine (hc3 _).mono ?_; rintro e w' ⟨rfl, hBn⟩) | (with_reducible refine (hc4 _).mono ?_; rintro e w' ⟨rfl, hBn⟩)))
      obtain ⟨g0, g1, g2, g3, hBw⟩ := ‹_ ∧ _›
      go_wp2_with fail
      go_ret
      exact ⟨rfl, ((((hBl.alloc hs _).alloc (by simp; omega) _).trans (hBD.mono (by omega))).alloc (by omega) _).trans (hBw.mono (by omega))⟩
  · have hab : ∀ w : World, Calls Try.prog 13 #[.int .u64 a, .int .u64 1, .int .u64 den] w fun e w' => e = .returned (.tuple #[.agg #[.int .u64 0, .int .u64 0], .bool false]) ∧ Below w.heap.size w w' := above_no a 1 den ha s1 hd hf
    clear hf
    rcases hz2 with ⟨rfl, c1, c2⟩ | ⟨rfl, c1, c2⟩ | ⟨rfl, c1, c2⟩
    all_goals
      go_wp2_with fail
      with_reducible refine (hc1 _).mono ?_
      rintro e wb ⟨rfl, hBb⟩
      have hBB : Below (wa.heap.size + 2) ((wa.alloc (.cells #[.int .u64 a, .int .u64 1] 24)).alloc (.cells #[.int .u64 b, .int .u64 1] 24)) wb := hBb.mono (by simp)
      obtain ⟨i0, i1, i2, i3⟩ := HK.out _ hBB
      go_wp2_with fail
      with_reducible refine (hf1 _).mono ?_
      rintro e wc ⟨rfl, hBc⟩
      have hBC := hBB.trans (hBc.mono (Nat.le_trans (by simp) hBB.size))
      clear i0 i1 i2 i3
      go_wp2_with fail
      with_reducible refine (hab _).mono ?_
      rintro e wd ⟨rfl, hBd⟩
      have hBD := hBC.trans (hBd.mono (Nat.le_trans (by simp) hBC.size))
      have hsd : wa.heap.size + 2 ≤ wd.heap.size := Nat.le_trans (by simp) hBD.size
      go_wp2_with fail
      go_quiet (fail)
      go_wp2_with fail
      go_ret
      exact ⟨rfl, below_drewN ((((hBl.alloc hs _).alloc (by simp; omega) _).trans (hBD.mono (by omega))).alloc (by omega) _) _⟩

theorem ratioWholes_walk (a0 a1 a2 : Int) (w : World) (w0 : (Lit.int .u64 a0).wf = true) (w1 : (Lit.int .u64 a1).wf = true) (w2 : (Lit.int .u64 a2).wf = true) :
    Calls Try.prog 6 #[.int .u64 a0, .int .u64 a1, .int .u64 a2] w fun e w' => e = .returned (.bool true) ∧ Below w.heap.size w w' := by
  obtain ⟨n, rfl, hn⟩ := wf_u64 w0
  obtain ⟨up, rfl, hu⟩ := wf_u64 w1
  obtain ⟨down, rfl, hd⟩ := wf_u64 w2
  exact ratioWholes_any n up down hn hu hd w
end Go.Proofs.Ytkdklaioibiebaa
