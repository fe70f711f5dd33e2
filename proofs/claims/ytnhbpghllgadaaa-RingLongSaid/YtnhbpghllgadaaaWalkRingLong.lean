/- However many come, there are never more than may be: the walk. -/
import Derived.Test.YtnhbpghllgadaaaHead
namespace Go.Proofs.Ytnhbpghllgadaaa
open Go.RowKit Go.Kpt RingPure
set_option linter.unusedVariables false
attribute [local go_sem] i64_and1023 i64_and7

/-- What comes. -/
def long (x : Int) (k : Nat) : List Int := (List.range k).map fun i : Nat => wrap64 (x + (i : Int) % 8)

theorem long_succ (x : Int) (k : Nat) : long x (k + 1) = long x k ++ [wrap64 (x + (k : Int) % 8)] := by unfold long; rw [List.range_succ]; simp
theorem long_length (x : Int) (k : Nat) : (long x k).length = k := by unfold long; simp
theorem long_get (x : Int) (n m k : Nat) (h : m ≤ n) (hk : k < m) : (long x n).getD (n - m + k) 0 = wrap64 (x + ((n : Int) - (m : Int) + (k : Int)) % 8) := by
  unfold long
  have e : ((n - m + k : Nat) : Int) = (n : Int) - (m : Int) + (k : Int) := by omega
  rw [← e]
  simp [List.getD_eq_getElem?_getD, show n - m + k < n by omega]

set_option maxRecDepth 100000 in
set_option maxHeartbeats 1000000 in
theorem ringLong_walk (a0 x : Int) (w : World) (w0 : (Lit.int .i64 a0).wf = true) (w1 : (Lit.int .i64 x).wf = true) :
    Calls Try.prog 5 #[.int .i64 a0, .int .i64 x] w fun e w' => e = .returned (.bool true) ∧ Below w.heap.size w w' := by
  go_enter Try.func5, Try.ntmps5
  go_wp2_with fail
  refine (head_any _).mono ?_
  rintro e wa ⟨rfl, hB⟩
  have hab := hB.size
  go_wp2_with fail
  refine (new_any _).mono ?_
  rintro e wb ⟨rfl, hba, hBn, hsn⟩
  have hB := hB.trans (hBn.mono hB.size)
  clear hBn hsn
  generalize wa.heap.size = ba at *
  have hn0 : 0 ≤ a0 % 1024 := by omega
  have hn1 : a0 % 1024 < 1024 := by omega
  generalize a0 % 1024 = n at *
  obtain ⟨N, rfl⟩ := Int.eq_ofNat_of_zero_le hn0
  go_wp2_with fail
  go_loopw [6] (fun i wr => ∃ k : Nat, k ≤ N ∧ i = .int .i64 k ∧ Rg wr ba (long x k) ∧ Below w.heap.size w wr) (fun i _ => N - (intOf i).toNat)
  case atStart => exact ⟨0, Nat.zero_le _, rfl, hba, hB⟩
  case round =>
    clear hba hB
    obtain ⟨k, hk, rfl, hba, hB⟩ := hrel
    by_cases hlt : k < N
    · have HS := Lib.hid (long_succ x k)
      go_wp2_with fail
      with_reducible refine (push_any _ _ _ _ hba).mono ?_
      rintro e wd ⟨rfl, hba, kd⟩
      have hB := hB.trans (kd.below hB.size (fun y hy e => by omega))
      clear kd
      go_wp2_with fail
      go_roundw
      case rel => exact ⟨k + 1, by omega, by go_num, by rw [HS.out]; exact hba, hB⟩
      case measure => simp [intOf]; omega
    · obtain rfl : k = N := by omega
      have hln := lastl_length (long x k)
      rw [long_length] at hln
      have hget : ∀ j, j < (lastl (long x k)).length → (lastl (long x k)).getD j 0 = wrap64 (x + ((k : Int) - ((lastl (long x k)).length : Int) + (j : Int)) % 8) := by
        intro j hj
        rw [lastl_get, ← long_get x k _ j (by rw [hln]; split <;> omega) hj, long_length, hln]
        congr 1; split <;> omega
      go_wp2_with fail
      with_reducible refine (list_any _ _ _ hba).mono ?_
      rintro e wg ⟨v1, rfl, hv1, hBn⟩
      have hba := hba.kept (Kept.of_below (F := fun _ => False) hBn) id
      have hB := hB.trans (hBn.mono hB.size)
      clear hBn
      have hlen := len_any _ _ _ hba
      obtain ⟨a1, c1, rfl, hle1, hm1, hs1⟩ := hv1.sl
      unfold maxLen at hm1
      clear hv1
      generalize lastl (long x k) = ys at *
      have HG := Lib.hid hget
      clear hget
      by_cases h8 : k ≤ 8
      · have hl1 : ys.length ≤ k := by rw [hln]; split <;> omega
        have hl2 : k ≤ ys.length := by rw [hln]; split <;> omega
        have hq : ((ys.length : Int) != (k : Int)) = false := by simp; omega
        clear hln
        go_wp2_with fail
        with_reducible refine hlen.mono ?_
        rintro e wh ⟨rfl, rfl⟩
        go_wp2_with fail
        with_reducible refine hlen.mono ?_
        rintro e wh ⟨rfl, rfl⟩
        go_wp2_with fail
        clear hq
        go_loop [42] (fun i => ∃ j : Nat, j ≤ ys.length ∧ i = .int .i64 j) (fun i => ys.length - (intOf i).toNat)
        case atStart => exact ⟨0, Nat.zero_le _, rfl⟩
        case round =>
          obtain ⟨j, hj, rfl⟩ := hrel
          by_cases hlt : j < ys.length
          · obtain ⟨b, off, ha, _, d1⟩ := hs1 j hlt
            subst ha
            rw [HG.out j hlt] at d1
            go_wp2_with fail
            go_round
            case rel => exact ⟨j + 1, by omega, by go_num⟩
            case measure => simp [intOf]; omega
          · go_wp2_with fail
            go_ret
            exact ⟨rfl, hB⟩
      · have hl1 : ys.length ≤ 8 := by rw [hln]; split <;> omega
        have hl2 : 8 ≤ ys.length := by rw [hln]; split <;> omega
        have hq : ((ys.length : Int) != 8) = false := by simp; omega
        clear hln
        go_wp2_with fail
        with_reducible refine hlen.mono ?_
        rintro e wh ⟨rfl, rfl⟩
        go_wp2_with fail
        with_reducible refine hlen.mono ?_
        rintro e wh ⟨rfl, rfl⟩
        go_wp2_with fail
        clear hq
        go_loop [42] (fun i => ∃ j : Nat, j ≤ ys.length ∧ i = .int .i64 j) (fun i => ys.length - (intOf i).toNat)
        case atStart => exact ⟨0, Nat.zero_le _, rfl⟩
        case round =>
          obtain ⟨j, hj, rfl⟩ := hrel
          by_cases hlt : j < ys.length
          · obtain ⟨b, off, ha, _, d1⟩ := hs1 j hlt
            subst ha
            rw [HG.out j hlt] at d1
            go_wp2_with fail
            go_round
            case rel => exact ⟨j + 1, by omega, by go_num⟩
            case measure => simp [intOf]; omega
          · go_wp2_with fail
            go_ret
            exact ⟨rfl, hB⟩
end Go.Proofs.Ytnhbpghllgadaaa
