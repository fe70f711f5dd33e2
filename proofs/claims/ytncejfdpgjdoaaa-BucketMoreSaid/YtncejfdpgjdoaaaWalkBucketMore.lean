/- With a greater size and refill there are never fewer tokens: the walk. -/
import Derived.Test.YtncejfdpgjdoaaaHead
import Derived.Test.YtncejfdpgjdoaaaArgs
import Derived.Test.YtncejfdpgjdoaaaBits
import Derived.Handy
namespace Go.Proofs.Ytncejfdpgjdoaaa
open Go.RowKit Go.Kpt
set_option linter.unusedVariables false
attribute [local go_sem] i64_and255 i64_and63 i64_and1

set_option maxHeartbeats 1600000 in
theorem bucketMore_walk (size refill more each : Int) (a4 : Option Addr) (cap4 : Nat) (z4 : List (Nat → Int)) (w : World)
    (w0 : (Lit.int .i64 size).wf = true) (w1 : (Lit.int .i64 refill).wf = true) (w2 : (Lit.int .i64 more).wf = true) (w3 : (Lit.int .i64 each).wf = true) (w4 : IsStructs 3 w a4 z4) :
    Calls Try.prog 5 #[.int .i64 size, .int .i64 refill, .int .i64 more, .int .i64 each, .slice a4 z4.length cap4] w fun e w' => e = .returned (.bool true) ∧ Below w.heap.size w w' := by
  have hl := w4.1
  unfold maxLen at hl
  by_cases h100 : 100 < z4.length
  · go_enter Try.func5, Try.ntmps5
    go_wp2_with fail
    refine (head_any _).mono ?_
    rintro e wa ⟨rfl, hB⟩
    go_wp2_with fail
    go_ret
    exact ⟨rfl, hB⟩
  · go_enter Try.func5, Try.ntmps5
    go_wp2_with fail
    refine (head_any _).mono ?_
    rintro e wa ⟨rfl, hB⟩
    go_wp2_with fail
    refine (new_any _ _ _).mono ?_
    rintro e wb ⟨rfl, hb1, hB1, hs1⟩
    go_wp2_with fail
    refine (new_any _ _ _).mono ?_
    rintro e wc ⟨rfl, hc1, hB2, hs2⟩
    go_wp2_with fail
    rw [bnd_id (by omega) (by omega), bnd_id (by omega) (by omega)] at hb1 hc1
    have hab := hB.size
    rw [hs1] at hc1
    generalize hA : wa.heap.size = ba at *
    have hb2 : Bk wc ba (size % 256) (refill % 64) (size % 256) := (hB2.block ba (by omega)).trans hb1
    have hBc : Below w.heap.size w wc := (hB.trans (hB1.mono (by omega))).trans (hB2.mono (by omega))
    clear hb1 hB1 hs1 hB2 hs2 hA hB
    go_loopw [40] (fun i wr => ∃ (k : Nat) (ta tb : Int), k ≤ z4.length ∧ i = .int .i64 k ∧ Bk wr ba (size % 256) (refill % 64) ta ∧ Bk wr (ba + 1) (size % 256 + more % 256) (refill % 64 + each % 64) tb ∧ 0 ≤ ta ∧ ta ≤ tb ∧ tb ≤ size % 256 + more % 256 ∧ ta ≤ size % 256 ∧ Below w.heap.size w wr) (fun i _ => z4.length - (intOf i).toNat)
    case atStart => exact ⟨0, _, _, Nat.zero_le _, rfl, hb2, hc1, by omega, by omega, by omega, by omega, hBc⟩
    case round =>
      obtain ⟨k, ta, tb, hk, rfl, hta, htb, h0, h1, h2, h3, hB⟩ := hrel
      clear hb2 hc1 hBc
      by_cases hlt : k < z4.length
      · obtain ⟨b, off, rfl, hc⟩ := w4.2.2 k hlt
        have c0 : wr.cell? ⟨b, off + k * 3, none⟩ = _ := arg_cell hB (hc 0 (by omega))
        have c1 := arg_cell hB (hc 1 (by omega))
        have c2 := arg_cell hB (hc 2 (by omega))
        clear hc
        generalize z4.getD k (fun _ => 0) = f at *
        by_cases hp : 0 < ta
        · go_wp2_with fail
          · refine (tick_any _ _ _ _ _ (hta.alloc _) (by omega) (by omega) (by omega) (by omega)).mono ?_
            rintro e wd ⟨rfl, hd, kd⟩
            go_wp2_with fail
            refine (tick_any _ _ _ _ _ ((htb.alloc _).kept kd (by omega)) (by omega) (by omega) (by omega) (by omega)).mono ?_
            rintro e we ⟨rfl, he, ke⟩
            go_wp2_with fail
            go_roundw
            case rel => exact ⟨k + 1, _, _, by omega, by go_num, hd.kept ke (by omega), he, by split <;> omega, by split <;> split <;> omega, by split <;> omega, by split <;> omega, (((hB.alloc hB.size _).trans (kd.below (by have := hB.size; simp; omega) (fun x hx e => by omega))).trans (ke.below (Nat.le_trans (by simp; have := hB.size; omega) kd.size) (fun x hx e => by omega)))⟩
            case measure => simp [intOf]; omega
          · refine (take_yes _ _ _ _ _ (hta.alloc _) (by omega) (by omega)).mono ?_
            rintro e wd ⟨rfl, hd, kd⟩
            go_wp2_with fail
            refine (take_yes _ _ _ _ _ ((htb.alloc _).kept kd (by omega)) (by omega) (by omega)).mono ?_
            rintro e we ⟨rfl, he, ke⟩
            go_wp2_with fail
            go_roundw
            case rel => exact ⟨k + 1, _, _, by omega, by go_num, hd.kept ke (by omega), he, by omega, by omega, by omega, by omega, (((hB.alloc hB.size _).trans (kd.below (by have := hB.size; simp; omega) (fun x hx e => by omega))).trans (ke.below (Nat.le_trans (by simp; have := hB.size; omega) kd.size) (fun x hx e => by omega)))⟩
            case measure => simp [intOf]; omega
        · obtain rfl : ta = 0 := by omega
          by_cases hq : 0 < tb
          · go_wp2_with fail
            · refine (tick_any _ _ _ _ _ (hta.alloc _) (by omega) (by omega) (by omega) (by omega)).mono ?_
              rintro e wd ⟨rfl, hd, kd⟩
              go_wp2_with fail
              refine (tick_any _ _ _ _ _ ((htb.alloc _).kept kd (by omega)) (by omega) (by omega) (by omega) (by omega)).mono ?_
              rintro e we ⟨rfl, he, ke⟩
              go_wp2_with fail
              go_roundw
              case rel => exact ⟨k + 1, _, _, by omega, by go_num, hd.kept ke (by omega), he, by split <;> omega, by split <;> split <;> omega, by split <;> omega, by split <;> omega, (((hB.alloc hB.size _).trans (kd.below (by have := hB.size; simp; omega) (fun x hx e => by omega))).trans (ke.below (Nat.le_trans (by simp; have := hB.size; omega) kd.size) (fun x hx e => by omega)))⟩
              case measure => simp [intOf]; omega
            · refine (take_no _ _ _ _ (hta.alloc _)).mono ?_
              rintro e wd ⟨rfl, rfl⟩
              go_wp2_with fail
              refine (take_yes _ _ _ _ _ (htb.alloc _) (by omega) (by omega)).mono ?_
              rintro e we ⟨rfl, he, ke⟩
              go_wp2_with fail
              go_roundw
              case rel => exact ⟨k + 1, _, _, by omega, by go_num, (hta.alloc _).kept ke (by omega), he, by omega, by omega, by omega, by omega, (hB.alloc hB.size _).trans (ke.below (by simp; have := hB.size; omega) (fun x hx e => by omega))⟩
              case measure => simp [intOf]; omega
          · obtain rfl : tb = 0 := by omega
            go_wp2_with fail
            · refine (tick_any _ _ _ _ _ (hta.alloc _) (by omega) (by omega) (by omega) (by omega)).mono ?_
              rintro e wd ⟨rfl, hd, kd⟩
              go_wp2_with fail
              refine (tick_any _ _ _ _ _ ((htb.alloc _).kept kd (by omega)) (by omega) (by omega) (by omega) (by omega)).mono ?_
              rintro e we ⟨rfl, he, ke⟩
              go_wp2_with fail
              go_roundw
              case rel => exact ⟨k + 1, _, _, by omega, by go_num, hd.kept ke (by omega), he, by split <;> omega, by split <;> split <;> omega, by split <;> omega, by split <;> omega, (((hB.alloc hB.size _).trans (kd.below (by have := hB.size; simp; omega) (fun x hx e => by omega))).trans (ke.below (Nat.le_trans (by simp; have := hB.size; omega) kd.size) (fun x hx e => by omega)))⟩
              case measure => simp [intOf]; omega
            · refine (take_no _ _ _ _ (hta.alloc _)).mono ?_
              rintro e wd ⟨rfl, rfl⟩
              go_wp2_with fail
              refine (take_no _ _ _ _ (htb.alloc _)).mono ?_
              rintro e wd ⟨rfl, rfl⟩
              go_wp2_with fail
              go_roundw
              case rel => exact ⟨k + 1, _, _, by omega, by go_num, hta.alloc _, htb.alloc _, by omega, by omega, by omega, by omega, hB.alloc hB.size _⟩
              case measure => simp [intOf]; omega
      · go_wp2_with fail
        refine (tokens_any _ _ _ _ _ hta).mono ?_
        rintro e wd ⟨rfl, rfl⟩
        go_wp2_with fail
        refine (tokens_any _ _ _ _ _ htb).mono ?_
        rintro e wd ⟨rfl, rfl⟩
        go_wp2_with fail
        go_ret
        exact ⟨by simp, hB⟩
end Go.Proofs.Ytncejfdpgjdoaaa
