/- Enough ticks fill a bucket, and no more: the walk. -/
import Derived.Test.YtncejfdpgjdoaaaHead
import Derived.Test.YtncejfdpgjdoaaaArgs
import Derived.Test.YtncejfdpgjdoaaaBits
import Derived.Handy
namespace Go.Proofs.Ytncejfdpgjdoaaa
open Go.RowKit Go.Kpt
set_option linter.unusedVariables false
attribute [local go_sem] i64_and1023

/-- Tokens behind so many that were taken. -/
def left (s t : Int) : Int := if t < s then s - t else 0

theorem left_of {s t : Int} (h : t < s) : left s t = s - t := by unfold left; rw [if_pos h]
theorem left_le {s t : Int} (h : t ≤ s) : left s t = s - t := by unfold left; split <;> omega
theorem left_zero {s t : Int} (h : ¬ t < s) : left s t = 0 := by unfold left; rw [if_neg h]

theorem left_start {s : Int} (h : 0 ≤ s) : left s ((0 : Nat) : Int) = s := by unfold left; split <;> omega

set_option maxRecDepth 100000 in
set_option maxHeartbeats 1600000 in
theorem bucketFills_walk (size refill takes : Int) (w : World)
    (w0 : (Lit.int .i64 size).wf = true) (w1 : (Lit.int .i64 refill).wf = true) (w2 : (Lit.int .i64 takes).wf = true) :
    Calls Try.prog 4 #[.int .i64 size, .int .i64 refill, .int .i64 takes] w fun e w' => e = .returned (.bool true) ∧ Below w.heap.size w w' := by
  go_enter Try.func4, Try.ntmps4
  go_wp2_with fail
  refine (head_any _).mono ?_
  rintro e wa ⟨rfl, hB⟩
  go_wp2_with fail
  refine (new_any _ _ _).mono ?_
  rintro e wb ⟨rfl, hb1, hB1, hs1⟩
  go_wp2_with fail
  refine (lawBound_any _ _).mono ?_
  rintro e wc ⟨rfl, rfl⟩
  go_wp2_with fail
  refine (lawBound_any _ _).mono ?_
  rintro e wc ⟨rfl, rfl⟩
  have bs := bnd_le size
  have br := bnd_le refill
  generalize bnd size = s at *
  generalize bnd refill = r at *
  have hab := hB.size
  have hBb : Below w.heap.size w wb := hB.trans (hB1.mono (by omega))
  clear hs1 hB1
  generalize wa.heap.size = ba at *
  clear hB
  go_wp2_with fail
  go_loopw [10] (fun i wr => ∃ k : Nat, (k : Int) ≤ takes % 1024 ∧ i = .int .i64 k ∧ Bk wr ba s r (left s k) ∧ Below w.heap.size w wr) (fun i _ => 1024 - (intOf i).toNat)
  case atStart => exact ⟨0, by omega, rfl, by rw [left_start bs.1]; exact hb1, hBb⟩
  case round =>
    obtain ⟨k, hk, rfl, hb, hB⟩ := hrel
    clear hb1 hBb
    by_cases hlt : (k : Int) < takes % 1024
    · by_cases hp : (k : Int) < s
      · have e1 := left_of hp
        have e2 : left s ((k + 1 : Nat) : Int) = left s k - 1 := by rw [e1]; unfold left; split <;> omega
        have H2 := Lib.hid e2
        clear e2
        go_wp2_with fail
        refine (take_yes _ _ _ _ _ hb (by omega) (by omega)).mono ?_
        rintro e wd ⟨rfl, hd, kd⟩
        clear e1
        go_wp2_with fail
        go_roundw
        case rel => exact ⟨k + 1, by omega, by go_num, by rw [H2.out]; exact hd, hB.trans (kd.below hB.size (fun x hx e => by omega))⟩
        case measure => simp [intOf]; omega
      · have e1 := left_zero hp
        have e2 : left s ((k + 1 : Nat) : Int) = 0 := left_zero (by omega)
        have H2 := Lib.hid e2
        rw [e1] at hb
        clear e2 e1
        go_wp2_with fail
        refine (take_no _ _ _ _ hb).mono ?_
        rintro e wd ⟨rfl, rfl⟩
        go_wp2_with fail
        go_roundw
        case rel => exact ⟨k + 1, by omega, by go_num, by rw [H2.out]; exact hb, hB⟩
        case measure => simp [intOf]; omega
    · obtain hk' : (k : Int) = takes % 1024 := by omega
      rw [hk'] at hb
      clear hk'
      have ht0 : 0 ≤ takes % 1024 := by omega
      have ht1 : takes % 1024 ≤ 1023 := by omega
      by_cases hp : takes % 1024 ≤ s
      · have hn : ¬ s - takes % 1024 < 0 := by omega
        rw [left_le hp] at hb
        go_wp2_with fail
        refine (tokens_any _ _ _ _ _ hb).mono ?_
        rintro e wd ⟨rfl, rfl⟩
        go_wp2_with fail
        go_loopw [12] (fun i wr => ∃ (k : Nat) (t : Int), k ≤ 1000 ∧ i = .int .i64 k ∧ Bk wr ba s r t ∧ 0 ≤ t ∧ t ≤ s ∧ (r = 0 → t = s - takes % 1024) ∧ (r ≠ 0 → k ≤ t ∨ t = s) ∧ Below w.heap.size w wr) (fun i _ => 1000 - (intOf i).toNat)
        case atStart => exact ⟨0, _, by omega, rfl, hb, by omega, by omega, fun _ => rfl, fun _ => by omega, hB⟩
        case round =>
          obtain ⟨k, t, hk, rfl, hb', ht2, ht3, ht4, ht5, hB'⟩ := hrel
          clear hb hB
          by_cases hlt : k < 1000
          · have Ht4 := Lib.hid ht4
            have Ht5 := Lib.hid ht5
            clear ht4 ht5
            go_wp2_with fail
            refine (tick_any _ _ _ _ _ hb' (by omega) (by omega) (by omega) (by omega)).mono ?_
            rintro e wd ⟨rfl, hd, kd⟩
            go_wp2_with fail
            go_roundw
            case rel => exact ⟨k + 1, _, by omega, by go_num, hd, by split <;> omega, by split <;> omega, fun h => by have := Ht4.out h; split <;> omega, fun h => by have := Ht5.out h; split <;> omega, hB'.trans (kd.below hB'.size (fun x hx e => by omega))⟩
            case measure => simp [intOf]; omega
          · obtain rfl : k = 1000 := by omega
            by_cases hr : r = 0
            · have e1 := ht4 hr
              subst hr e1
              clear ht4 ht5
              go_wp2_with fail
              refine (tokens_any _ _ _ _ _ hb').mono ?_
              rintro e wd ⟨rfl, rfl⟩
              go_wp2_with fail
              go_ret
              exact ⟨rfl, hB'⟩
            · have e1 : t = s := by have := ht5 hr; omega
              subst e1
              clear ht4 ht5
              have hrb : (r == 0) = false := by simp; omega
              go_wp2_with fail
              refine (tokens_any _ _ _ _ _ hb').mono ?_
              rintro e wd ⟨rfl, rfl⟩
              go_wp2_with fail
              go_ret
              exact ⟨rfl, hB'⟩
      · have hn : s - takes % 1024 < 0 := by omega
        rw [left_zero (by omega)] at hb
        go_wp2_with fail
        refine (tokens_any _ _ _ _ _ hb).mono ?_
        rintro e wd ⟨rfl, rfl⟩
        go_wp2_with fail
        go_loopw [12] (fun i wr => ∃ (k : Nat) (t : Int), k ≤ 1000 ∧ i = .int .i64 k ∧ Bk wr ba s r t ∧ 0 ≤ t ∧ t ≤ s ∧ (r = 0 → t = 0) ∧ (r ≠ 0 → k ≤ t ∨ t = s) ∧ Below w.heap.size w wr) (fun i _ => 1000 - (intOf i).toNat)
        case atStart => exact ⟨0, _, by omega, rfl, hb, by omega, by omega, fun _ => rfl, fun _ => by omega, hB⟩
        case round =>
          obtain ⟨k, t, hk, rfl, hb', ht2, ht3, ht4, ht5, hB'⟩ := hrel
          clear hb hB
          by_cases hlt : k < 1000
          · have Ht4 := Lib.hid ht4
            have Ht5 := Lib.hid ht5
            clear ht4 ht5
            go_wp2_with fail
            refine (tick_any _ _ _ _ _ hb' (by omega) (by omega) (by omega) (by omega)).mono ?_
            rintro e wd ⟨rfl, hd, kd⟩
            go_wp2_with fail
            go_roundw
            case rel => exact ⟨k + 1, _, by omega, by go_num, hd, by split <;> omega, by split <;> omega, fun h => by have := Ht4.out h; split <;> omega, fun h => by have := Ht5.out h; split <;> omega, hB'.trans (kd.below hB'.size (fun x hx e => by omega))⟩
            case measure => simp [intOf]; omega
          · obtain rfl : k = 1000 := by omega
            by_cases hr : r = 0
            · have e1 := ht4 hr
              subst hr e1
              clear ht4 ht5
              go_wp2_with fail
              refine (tokens_any _ _ _ _ _ hb').mono ?_
              rintro e wd ⟨rfl, rfl⟩
              go_wp2_with fail
              go_ret
              exact ⟨rfl, hB'⟩
            · have e1 : t = s := by have := ht5 hr; omega
              subst e1
              clear ht4 ht5
              have hrb : (r == 0) = false := by simp; omega
              go_wp2_with fail
              refine (tokens_any _ _ _ _ _ hb').mono ?_
              rintro e wd ⟨rfl, rfl⟩
              go_wp2_with fail
              go_ret
              exact ⟨rfl, hB'⟩
end Go.Proofs.Ytncejfdpgjdoaaa
