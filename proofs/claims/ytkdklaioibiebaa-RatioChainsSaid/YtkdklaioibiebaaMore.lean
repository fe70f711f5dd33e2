/- What the functions of ratios do: where there is no room; the order by whole parts; the document's example. -/
import Derived.Test.YtkdklaioibiebaaWalks
namespace Go.Proofs.Ytkdklaioibiebaa
open Go.RowKit Go.Kpt RatioPure
set_option linter.unusedVariables false

set_option maxHeartbeats 800000 in
theorem above_no1 (n up down : Nat) (hn : Sm n) (hu : Sm up) (hd : Sm down) (h : 0 < hi n down) (w : World) :
    Calls Try.prog 13 #[.int .u64 n, .int .u64 up, .int .u64 down] w fun e w' => e = .returned (.tuple #[rv 0 0, .bool false]) ∧ Below w.heap.size w w' := by
  have hm := mul_any n down hn hd
  have ha := add64_run (lo n down) up
  have h2 : (0 : Int) < (hi n down : Int) := by omega
  generalize hi n down = a at *
  generalize lo n down = l at *
  generalize sm l up = s at *
  generalize cy l up = c at *
  go_enter Try.func13, Try.ntmps13
  go_wp2_with fail
  refine (hm _).mono ?_
  rintro e w' ⟨rfl, rfl⟩
  clear hm
  go_wp2_with fail
  go_returns
  exact ⟨rfl, by go_grown⟩

set_option maxHeartbeats 800000 in
theorem above_no2 (n up down : Nat) (hn : Sm n) (hu : Sm up) (hd : Sm down) (h : hi n down = 0) (h1 : 0 < cy (lo n down) up) (w : World) :
    Calls Try.prog 13 #[.int .u64 n, .int .u64 up, .int .u64 down] w fun e w' => e = .returned (.tuple #[rv 0 0, .bool false]) ∧ Below w.heap.size w w' := by
  have hm := mul_any n down hn hd
  have ha := add64_run (lo n down) up
  rw [h] at hm
  clear h
  have h2 : (0 : Int) < (cy (lo n down) up : Int) := by omega
  generalize lo n down = l at *
  generalize sm l up = s at *
  generalize cy l up = c at *
  go_enter Try.func13, Try.ntmps13
  go_wp2_with fail
  refine (hm _).mono ?_
  rintro e w' ⟨rfl, rfl⟩
  clear hm
  go_wp2_with fail
  go_returns
  exact ⟨rfl, by go_grown⟩

set_option maxHeartbeats 800000 in
theorem above_no3 (n up down : Nat) (hn : Sm n) (hu : Sm up) (hd : Sm down) (h : down = 0) (w : World) :
    Calls Try.prog 13 #[.int .u64 n, .int .u64 up, .int .u64 down] w fun e w' => e = .returned (.tuple #[rv 0 0, .bool false]) ∧ Below w.heap.size w w' := by
  have hm := mul_any n down hn hd
  have ha := add64_run (lo n down) up
  have h1 : hi n down = 0 := by rw [h]; unfold hi; simp
  have h2 : lo n down = 0 := by rw [h]; unfold lo; simp
  have h3 : cy (lo n down) up = 0 := by rw [h2]; unfold cy; unfold Sm at hu; exact Nat.div_eq_of_lt (by omega)
  have hz : ((down : Int) == 0) = true := by simp; exact h
  rw [h1] at hm
  rw [h3] at ha
  clear h1 h2 h3 h
  generalize lo n down = l at *
  generalize sm l up = s at *
  go_enter Try.func13, Try.ntmps13
  go_wp2_with fail
  refine (hm _).mono ?_
  rintro e w' ⟨rfl, rfl⟩
  clear hm
  go_wp2_with fail
  go_returns
  exact ⟨rfl, by go_grown⟩

theorem above_no (n up down : Nat) (hn : Sm n) (hu : Sm up) (hd : Sm down) (hf : ¬ Fits n up down) (w : World) :
    Calls Try.prog 13 #[.int .u64 n, .int .u64 up, .int .u64 down] w fun e w' => e = .returned (.tuple #[rv 0 0, .bool false]) ∧ Below w.heap.size w w' := by
  by_cases h0 : down = 0
  · exact above_no3 n up down hn hu hd h0 w
  · by_cases h1 : hi n down = 0
    · by_cases h2 : cy (lo n down) up = 0
      · exact absurd ⟨by omega, h1, h2⟩ hf
      · exact above_no2 n up down hn hu hd h1 (by omega) w
    · exact above_no1 n up down hn hu hd (by omega) w

theorem wrap_mod {n : Nat} (d : Nat) (h : Sm n) : IntKind.u64.wrap ((n : Int) % (d : Int)) = ((n % d : Nat) : Int) := by
  have h1 : n % d ≤ n := Nat.mod_le _ _
  unfold Sm at h
  rw [← Int.natCast_emod]
  generalize n % d = q at *
  exact IntWalk.u64_in _ ⟨by omega, by omega⟩

def Rb (w : World) (b n d : Nat) : Prop := w.heap[b]? = some (.cells #[.int .u64 n, .int .u64 d] 24 (0, 0))

theorem Rb.set {w : World} {b n d : Nat} (h : Rb w b n d) (n' d' : Nat) : Rb ((w.setCell ⟨b, 0, none⟩ (.int .u64 n')).setCell ⟨b, 1, none⟩ (.int .u64 d')) b n' d' := set_same _ (set_same _ h)
theorem Rb.other {w : World} {b n d : Nat} (h : Rb w b n d) {c : Nat} (hc : b ≠ c) (i : Nat) (u : Value) : Rb (w.setCell ⟨c, i, none⟩ u) b n d := (Below.heap_setCell w ⟨c, i, none⟩ u b hc).trans h

set_option maxRecDepth 100000 in
set_option maxHeartbeats 1600000 in
theorem lawCompare_any (an ad bn bd : Nat) (ha : Sm an) (ha' : Sm ad) (hb : Sm bn) (hb' : Sm bd) (h1 : 0 < ad) (h2 : 0 < bd) (w : World) :
    Calls Try.prog 16 #[rv an ad, rv bn bd] w fun e w' => e = .returned (.int .i64 (cf 200 an ad bn bd)) ∧ Below w.heap.size w w' := by
  obtain ⟨R, hR⟩ : ∃ R, cf 200 an ad bn bd = R := ⟨_, rfl⟩
  rw [hR]
  have HR := Lib.hid hR
  clear hR
  have hA : Rb ((w.alloc (.cells #[.int .u64 an, .int .u64 ad] 24)).alloc (.cells #[.int .u64 bn, .int .u64 bd] 24)) w.heap.size an ad := heap_alloc2_old _ _ _
  have hB : Rb ((w.alloc (.cells #[.int .u64 an, .int .u64 ad] 24)).alloc (.cells #[.int .u64 bn, .int .u64 bd] 24)) (w.heap.size + 1) bn bd := heap_alloc2_new _ _ _
  have hBl : Below w.heap.size w ((w.alloc (.cells #[.int .u64 an, .int .u64 ad] 24)).alloc (.cells #[.int .u64 bn, .int .u64 bd] 24)) := by go_grown
  go_enter Try.func16, Try.ntmps16
  go_wp2_with fail
  go_loopw [5] (fun i wr => ∃ (k an ad bn bd : Nat), k ≤ 200 ∧ i = .int .i64 k ∧ Sm an ∧ Sm ad ∧ Sm bn ∧ Sm bd ∧ 0 < ad ∧ 0 < bd ∧ Hid (cf (200 - k) an ad bn bd = R) ∧ Rb wr w.heap.size an ad ∧ Rb wr (w.heap.size + 1) bn bd ∧ Below w.heap.size w wr) (fun i _ => 200 - (intOf i).toNat)
  case atStart => exact ⟨0, an, ad, bn, bd, by omega, rfl, ha, ha', hb, hb', h1, h2, HR, hA, hB, hBl⟩
  case round =>
    clear ha ha' hb hb' h1 h2 HR hA hB hBl
    obtain ⟨k, an, ad, bn, bd, hk, rfl, ha, ha', hb, hb', h1, h2, HR, hA, hB, hBl⟩ := hrel
    by_cases hlt : k < 200
    · obtain ⟨m, hm⟩ : ∃ m, 200 - k = m + 1 := ⟨199 - k, by omega⟩
      have hR := HR.out
      rw [hm, cf_succ] at hR
      clear HR
      have a0 : wr.cell? ⟨w.heap.size, 0, none⟩ = some (.int .u64 an) := cell_of hA
      have a1 : wr.cell? ⟨w.heap.size, 1, none⟩ = some (.int .u64 ad) := cell_of hA
      have b0 : wr.cell? ⟨w.heap.size + 1, 0, none⟩ = some (.int .u64 bn) := cell_of hB
      have b1 : wr.cell? ⟨w.heap.size + 1, 1, none⟩ = some (.int .u64 bd) := cell_of hB
      have hz1 : ((ad : Int) == 0) = false := by simp; omega
      have hz2 : ((bd : Int) == 0) = false := by simp; omega
      have e1 := wrap_div ad ha
      have e2 := wrap_div bd hb
      obtain ⟨r, hr⟩ : ∃ r, r = an % ad := ⟨_, rfl⟩
      obtain ⟨s, hs⟩ : ∃ s, s = bn % bd := ⟨_, rfl⟩
      have hr1 : r < ad := by rw [hr]; exact Nat.mod_lt _ h1
      have hs1 : s < bd := by rw [hs]; exact Nat.mod_lt _ h2
      have e3 : (an : Int) % (ad : Int) = (r : Int) := by rw [hr, Int.natCast_emod]
      have e4 : (bn : Int) % (bd : Int) = (s : Int) := by rw [hs, Int.natCast_emod]
      rw [← hr] at hR
      rw [← hs] at hR
      clear hr hs
      generalize an / ad = x at *
      generalize bn / bd = y at *
      by_cases c1 : x < y
      · rw [if_pos c1] at hR
        have HR := Lib.hid hR
        clear hR
        go_wp2_with fail
        go_ret
        exact ⟨by rw [← HR.out]; rfl, hBl⟩
      rw [if_neg c1] at hR
      by_cases c2 : y < x
      · rw [if_pos c2] at hR
        have HR := Lib.hid hR
        clear hR
        go_wp2_with fail
        go_ret
        exact ⟨by rw [← HR.out]; rfl, hBl⟩
      rw [if_neg c2] at hR
      by_cases c3 : r = 0
      · by_cases c4 : s = 0
        · rw [if_pos ⟨c3, c4⟩] at hR
          have HR := Lib.hid hR
          subst c3 c4
          clear hR
          go_wp2_with fail
          go_ret
          exact ⟨by rw [← HR.out]; rfl, hBl⟩
        · rw [if_neg (fun h => c4 h.2), if_pos c3] at hR
          have HR := Lib.hid hR
          subst c3
          have hsb : ((s : Int) == 0) = false := by simp; omega
          clear hR
          go_wp2_with fail
          go_ret
          exact ⟨by rw [← HR.out]; rfl, hBl⟩
      · have hrb : ((r : Int) == 0) = false := by simp; omega
        by_cases c4 : s = 0
        · rw [if_neg (fun h => c3 h.1), if_neg c3, if_pos c4] at hR
          have HR := Lib.hid hR
          subst c4
          clear hR
          go_wp2_with fail
          go_ret
          exact ⟨by rw [← HR.out]; rfl, hBl⟩
        · rw [if_neg (fun h => c3 h.1), if_neg c3, if_neg c4] at hR
          have HR : Hid (cf (200 - (k + 1)) bd s ad r = R) := by rw [show 200 - (k + 1) = m by omega]; exact hR
          have hsb : ((s : Int) == 0) = false := by simp; omega
          have f1 : wr.frozen? ⟨w.heap.size, 0, none⟩ = false := frozen_of hA
          have f2 : wr.frozen? ⟨w.heap.size, 1, none⟩ = false := frozen_of hA
          have f3 : wr.frozen? ⟨w.heap.size + 1, 0, none⟩ = false := frozen_of hB
          have f4 : wr.frozen? ⟨w.heap.size + 1, 1, none⟩ = false := frozen_of hB
          clear hR
          go_wp2_with fail
          go_roundw
          case rel => exact ⟨k + 1, bd, s, ad, r, by omega, by go_num, hb', Nat.lt_trans hs1 hb', ha', Nat.lt_trans hr1 ha', by omega, by omega, HR, ((hA.set bd s).other (by omega) _ _).other (by omega) _ _, ((hB.other (by omega) _ _).other (by omega) _ _).set ad r, (((hBl.setCell (Nat.le_refl _) _).setCell (Nat.le_refl _) _).setCell (Nat.le_succ _) _).setCell (Nat.le_succ _) _⟩
          case measure => simp [intOf]; omega
    · obtain rfl : k = 200 := by omega
      go_wp2_with fail
      go_ret
      exact ⟨by rw [← HR.out]; rfl, hBl⟩

set_option maxHeartbeats 1600000 in
theorem head_any (w : World) : Calls Try.prog 10 #[] w fun e w' => e = .returned (.bool true) ∧ Below w.heap.size w w' := by
  have hF : Fits 2 7 5 := by refine ⟨by omega, by decide, by decide⟩
  have ha := above_yes 2 7 5 (by unfold Sm; omega) (by unfold Sm; omega) (by unfold Sm; omega) hF
  have hfl := floor_any 17 5 (by unfold Sm; omega) (by omega)
  have hc := compare_any 1 3 2 5 (by unfold Sm; omega) (by unfold Sm; omega) (by unfold Sm; omega) (by unfold Sm; omega)
  have hs : sgn (1 * 5) (2 * 3) = -1 := by decide
  rw [hs] at hc
  clear hs hF
  go_enter Try.func10, Try.ntmps10
  go_wp2_with fail
  refine (ha _).mono ?_
  rintro e wa ⟨rfl, hB⟩
  have hs := hB.size
  go_wp2_with fail
  refine (hfl _).mono ?_
  rintro e wb ⟨rfl, hBb⟩
  go_wp2_with fail
  refine (hc _).mono ?_
  rintro e wc ⟨rfl, hBc⟩
  go_wp2_with fail
  go_ret
  exact ⟨rfl, ((hB.alloc hs _).trans (hBb.mono (by simp; omega))).trans (hBc.mono (by have := hBb.size; simp at this; omega))⟩
end Go.Proofs.Ytkdklaioibiebaa
