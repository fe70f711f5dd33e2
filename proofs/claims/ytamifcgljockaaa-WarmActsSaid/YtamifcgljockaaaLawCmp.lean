/- The law's own order of two ratios. -/
import Derived.Test.YtamifcgljockaaaRatio
namespace Go.Proofs.Ytamifcgljockaaa
open Go.RowKit Go.Kpt RatioPure
set_option linter.unusedVariables false

theorem wrap_mod {n : Nat} (d : Nat) (h : Sm n) : IntKind.u64.wrap ((n : Int) % (d : Int)) = ((n % d : Nat) : Int) := by
  have h1 : n % d ≤ n := Nat.mod_le _ _
  unfold Sm at h
  rw [← Int.natCast_emod]
  generalize n % d = q at *
  exact IntWalk.u64_in _ ⟨by omega, by omega⟩

def Rq (w : World) (b n d : Nat) : Prop := w.heap[b]? = some (.cells #[.int .u64 n, .int .u64 d] 34 (0, 0))

theorem Rq.set {w : World} {b n d : Nat} (h : Rq w b n d) (n' d' : Nat) : Rq ((w.setCell ⟨b, 0, none⟩ (.int .u64 n')).setCell ⟨b, 1, none⟩ (.int .u64 d')) b n' d' := set_same _ (set_same _ h)
theorem Rq.other {w : World} {b n d : Nat} (h : Rq w b n d) {c : Nat} (hc : b ≠ c) (i : Nat) (u : Value) : Rq (w.setCell ⟨c, i, none⟩ u) b n d := (Below.heap_setCell w ⟨c, i, none⟩ u b hc).trans h

set_option maxRecDepth 100000 in
set_option maxHeartbeats 1600000 in
theorem lawCompare_any (an ad bn bd : Nat) (ha : Sm an) (ha' : Sm ad) (hb : Sm bn) (hb' : Sm bd) (h1 : 0 < ad) (h2 : 0 < bd) (w : World) :
    Calls Try.prog 16 #[rv an ad, rv bn bd] w fun e w' => e = .returned (.int .i64 (cf 200 an ad bn bd)) ∧ Below w.heap.size w w' := by
  obtain ⟨R, hR⟩ : ∃ R, cf 200 an ad bn bd = R := ⟨_, rfl⟩
  rw [hR]
  have HR := Lib.hid hR
  clear hR
  have hA : Rq ((w.alloc (.cells #[.int .u64 an, .int .u64 ad] 34)).alloc (.cells #[.int .u64 bn, .int .u64 bd] 34)) w.heap.size an ad := heap_alloc2_old _ _ _
  have hB : Rq ((w.alloc (.cells #[.int .u64 an, .int .u64 ad] 34)).alloc (.cells #[.int .u64 bn, .int .u64 bd] 34)) (w.heap.size + 1) bn bd := heap_alloc2_new _ _ _
  have hBl : Below w.heap.size w ((w.alloc (.cells #[.int .u64 an, .int .u64 ad] 34)).alloc (.cells #[.int .u64 bn, .int .u64 bd] 34)) := by go_grown
  go_enter Try.func16, Try.ntmps16
  go_wp2_with fail
  go_loopw [5] (fun i wr => ∃ (k an ad bn bd : Nat), k ≤ 200 ∧ i = .int .i64 k ∧ Sm an ∧ Sm ad ∧ Sm bn ∧ Sm bd ∧ 0 < ad ∧ 0 < bd ∧ Hid (cf (200 - k) an ad bn bd = R) ∧ Rq wr w.heap.size an ad ∧ Rq wr (w.heap.size + 1) bn bd ∧ Below w.heap.size w wr) (fun i _ => 200 - (intOf i).toNat)
  case atStart => exact ⟨0, an, ad, bn, bd, by omega, rfl, ha, ha', hb, hb', h1, h2, HR, hA, hB, hBl⟩
  case round =>
    clear ha ha' hb hb' h1 h2 HR hA hB hBl
    obtain ⟨k, an, ad, bn, bd, hk, rfl, ha, ha', hb, hb', h1, h2, HR, hA, hB, hBl⟩ := hrel
    by_cases hlt : k < 200
    · obtain ⟨m, hm⟩ : ∃ m, 200 - k = m + 1 := ⟨199 - k, by omega⟩
      have hR := HR.out
      rw [hm, cf_succ] at hR
      clear HR
      have a0 : wr.cell? ⟨w.heap.size, 0, none⟩ = some (.int .u64 an) := cell_of hA
      have a1 : wr.cell? ⟨w.heap.size, 1, none⟩ = some (.int .u64 ad) := cell_of hA
      have b0 : wr.cell? ⟨w.heap.size + 1, 0, none⟩ = some (.int .u64 bn) := cell_of hB
      have b1 : wr.cell? ⟨w.heap.size + 1, 1, none⟩ = some (.int .u64 bd) := cell_of hB
      have hz1 : ((ad : Int) == 0) = false := by simp; omega
      have hz2 : ((bd : Int) == 0) = false := by simp; omega
      have e1 := wrap_div ad ha
      have e2 := wrap_div bd hb
      obtain ⟨r, hr⟩ : ∃ r, r = an % ad := ⟨_, rfl⟩
      obtain ⟨s, hs⟩ : ∃ s, s = bn % bd := ⟨_, rfl⟩
      have hr1 : r < ad := by rw [hr]; exact Nat.mod_lt _ h1
      have hs1 : s < bd := by rw [hs]; exact Nat.mod_lt _ h2
      have e3 : (an : Int) % (ad : Int) = (r : Int) := by rw [hr, Int.natCast_emod]
      have e4 : (bn : Int) % (bd : Int) = (s : Int) := by rw [hs, Int.natCast_emod]
      rw [← hr] at hR
      rw [← hs] at hR
      clear hr hs
      generalize an / ad = x at *
      generalize bn / bd = y at *
      by_cases c1 : x < y
      · rw [if_pos c1] at hR
        have HR := Lib.hid hR
        clear hR
        go_wp2_with fail
        go_ret
        exact ⟨by rw [← HR.out]; rfl, hBl⟩
      rw [if_neg c1] at hR
      by_cases c2 : y < x
      · rw [if_pos c2] at hR
        have HR := Lib.hid hR
        clear hR
        go_wp2_with fail
        go_ret
        exact ⟨by rw [← HR.out]; rfl, hBl⟩
      rw [if_neg c2] at hR
      by_cases c3 : r = 0
      · by_cases c4 : s = 0
        · rw [if_pos ⟨c3, c4⟩] at hR
          have HR := Lib.hid hR
          subst c3 c4
          clear hR
          go_wp2_with fail
          go_ret
          exact ⟨by rw [← HR.out]; rfl, hBl⟩
        · rw [if_neg (fun h => c4 h.2), if_pos c3] at hR
          have HR := Lib.hid hR
          subst c3
          have hsb : ((s : Int) == 0) = false := by simp; omega
          clear hR
          go_wp2_with fail
          go_ret
          exact ⟨by rw [← HR.out]; rfl, hBl⟩
      · have hrb : ((r : Int) == 0) = false := by simp; omega
        by_cases c4 : s = 0
        · rw [if_neg (fun h => c3 h.1), if_neg c3, if_pos c4] at hR
          have HR := Lib.hid hR
          subst c4
          clear hR
          go_wp2_with fail
          go_ret
          exact ⟨by rw [← HR.out]; rfl, hBl⟩
        · rw [if_neg (fun h => c3 h.1), if_neg c3, if_neg c4] at hR
          have HR : Hid (cf (200 - (k + 1)) bd s ad r = R) := by rw [show 200 - (k + 1) = m by omega]; exact hR
          have hsb : ((s : Int) == 0) = false := by simp; omega
          have f1 : wr.frozen? ⟨w.heap.size, 0, none⟩ = false := frozen_of hA
          have f2 : wr.frozen? ⟨w.heap.size, 1, none⟩ = false := frozen_of hA
          have f3 : wr.frozen? ⟨w.heap.size + 1, 0, none⟩ = false := frozen_of hB
          have f4 : wr.frozen? ⟨w.heap.size + 1, 1, none⟩ = false := frozen_of hB
          clear hR
          go_wp2_with fail
          go_roundw
          case rel => exact ⟨k + 1, bd, s, ad, r, by omega, by go_num, hb', Nat.lt_trans hs1 hb', ha', Nat.lt_trans hr1 ha', by omega, by omega, HR, ((hA.set bd s).other (by omega) _ _).other (by omega) _ _, ((hB.other (by omega) _ _).other (by omega) _ _).set ad r, (((hBl.setCell (Nat.le_refl _) _).setCell (Nat.le_refl _) _).setCell (Nat.le_succ _) _).setCell (Nat.le_succ _) _⟩
          case measure => simp [intOf]; omega
    · obtain rfl : k = 200 := by omega
      go_wp2_with fail
      go_ret
      exact ⟨by rw [← HR.out]; rfl, hBl⟩

end Go.Proofs.Ytamifcgljockaaa
