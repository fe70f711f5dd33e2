/- Whatever numbers: behind each one the last few, the eldest first: the walk. -/
import Derived.Test.YtnhbpghllgadaaaHead
namespace Go.Proofs.Ytnhbpghllgadaaa
open Go.RowKit Go.Kpt RingPure
set_option linter.unusedVariables false

set_option maxHeartbeats 400000 in
theorem last_few (b off n cap : Nat) (w : World) (h : n ≤ 8) (hn : n ≤ cap) : Calls Try.prog 10 #[.slice (some ⟨b, off, none⟩) n cap] w fun e w' => e = .returned (.slice (some ⟨b, off, none⟩) n cap) ∧ w = w' := by
  go_enter Try.func10, Try.ntmps10
  go_wp2
  go_ret
  exact ⟨rfl, rfl⟩

set_option maxHeartbeats 400000 in
theorem last_many (b off n cap : Nat) (w : World) (h : 8 < n) (hn : n ≤ cap) (h2 : n ≤ 200) : Calls Try.prog 10 #[.slice (some ⟨b, off, none⟩) n cap] w fun e w' => e = .returned (.slice (some ⟨b, off + (n - 8), none⟩) 8 (cap - (n - 8))) ∧ w = w' := by
  go_enter Try.func10, Try.ntmps10
  go_wp2
  go_ret
  exact ⟨congrArg (fun m => Ending.returned (.slice (some ⟨b, off + (n - 8), none⟩) m (cap - (n - 8)))) (show n - (n - 8) = 8 by omega), rfl⟩

set_option maxRecDepth 100000 in
set_option maxHeartbeats 1000000 in
theorem ringPushes_walk (a0 : Option Addr) (cap0 : Nat) (z0 : List Int) (w : World) (w0 : IsInts .i64 w a0 z0) (y0 : z0.length ≤ cap0) :
    Calls Try.prog 3 #[.slice a0 z0.length cap0] w fun e w' => e = .returned (.bool true) ∧ Below w.heap.size w w' := by
  have hl0 := w0.1
  unfold maxLen at hl0
  by_cases g0 : 100 < z0.length
  · go_enter Try.func3, Try.ntmps3
    go_wp2_with fail
    refine (head_any _).mono ?_
    rintro e wa ⟨rfl, hB⟩
    go_wp2_with fail
    go_ret
    exact ⟨rfl, hB⟩
  · go_enter Try.func3, Try.ntmps3
    go_wp2_with fail
    refine (head_any _).mono ?_
    rintro e wa ⟨rfl, hB⟩
    have hab := hB.size
    go_wp2_with fail
    refine (new_any _).mono ?_
    rintro e wb ⟨rfl, hba, hBn, hsn⟩
    have hB := hB.trans (hBn.mono hB.size)
    clear hBn hsn
    generalize wa.heap.size = ba at *
    go_wp2_with fail
    go_loopw [17] (fun i wr => ∃ k : Nat, k ≤ z0.length ∧ i = .int .i64 k ∧ Rg wr ba (z0.take k) ∧ Below w.heap.size w wr) (fun i _ => z0.length - (intOf i).toNat)
    case atStart => exact ⟨0, Nat.zero_le _, rfl, by simpa using hba, hB⟩
    case round =>
      clear hba hB
      obtain ⟨k, hk, rfl, hba, hB⟩ := hrel
      by_cases hlt : k < z0.length
      · obtain ⟨b, off, ha, hc⟩ := w0.2.2 k hlt
        subst ha
        have c0 := arg_cell hB hc
        have HC : Hid (∀ j, j < z0.length → w.cell? ⟨b, off + j, none⟩ = some (.int .i64 (z0.getD j 0))) := by
          intro j hj
          obtain ⟨b', off', he, hcj⟩ := w0.2.2 j hj
          cases he
          exact hcj
        clear hc
        have HS := Lib.hid (take_push z0 hlt)
        by_cases h8 : k + 1 ≤ 8
        · generalize hx : z0.getD k 0 = x at *
          clear hx
          go_wp2_with fail
          with_reducible refine (push_any _ _ _ _ hba).mono ?_
          rintro e wd ⟨rfl, hba, kd⟩
          have hB := hB.trans (kd.below hB.size (fun y hy e => by omega))
          clear kd
          rw [← HS.out] at hba
          go_wp2_with fail
          with_reducible refine (last_few _ _ _ _ _ (by omega) (by omega)).mono ?_
          rintro e we ⟨rfl, rfl⟩
          go_wp2_with fail
          with_reducible refine (list_any _ _ _ hba).mono ?_
          rintro e wg ⟨v1, rfl, hv1, hBn⟩
          have hba := hba.kept (Kept.of_below (F := fun _ => False) hBn) id
          have hB := hB.trans (hBn.mono hB.size)
          clear hBn
          have hlen := len_any _ _ _ hba
          have HBA := Lib.hid hba
          obtain ⟨a1, c1, rfl, hle1, hm1, hs1⟩ := hv1.sl
          unfold maxLen at hm1
          clear hv1 hba
          have hln : (lastl (z0.take (k + 1))).length = k + 1 := by rw [lastl_length, List.length_take]; split <;> omega
          have hw : ∀ j, j < (lastl (z0.take (k + 1))).length → wg.cell? ⟨b, off + j, none⟩ = some (.int .i64 ((lastl (z0.take (k + 1))).getD j 0)) := by
            intro j hj
            have hc := HC.out j (by omega)
            rw [lastl_get, List.length_take, show min (k + 1) z0.length - 8 + j = j by omega]
            have e2 : (z0.take (k + 1)).getD j 0 = z0.getD j 0 := by
              rw [List.getD_eq_getElem?_getD, List.getElem?_take, if_pos (by omega), ← List.getD_eq_getElem?_getD]
            rw [e2]
            have h3 := arg_cell hB hc
            rwa [show off + j = off + j by omega] at h3
          have HW := Lib.hid hw
          clear hw
          have hq : (((lastl (z0.take (k + 1))).length : Int) != ((k : Int) + 1)) = false := by simp; omega
          have hl1 : (lastl (z0.take (k + 1))).length ≤ k + 1 := by omega
          have hl2 : k + 1 ≤ (lastl (z0.take (k + 1))).length := by omega
          clear hln
          generalize lastl (z0.take (k + 1)) = ys at *
          go_wp2_with fail
          with_reducible refine hlen.mono ?_
          rintro e wh ⟨rfl, rfl⟩
          go_wp2_with fail
          go_loopw [46] (fun i wr => ∃ j : Nat, j ≤ ys.length ∧ i = .int .i64 j ∧ ∃ nd, wr = wg.drewN nd) (fun i _ => ys.length - (intOf i).toNat)
          case atStart => exact ⟨0, Nat.zero_le _, rfl, 0, rfl⟩
          case round =>
            obtain ⟨j, hj, rfl, nd, rfl⟩ := hrel
            by_cases hjl : j < ys.length
            · obtain ⟨b2, off2, ha, _, d1⟩ := hs1 j hjl
              subst ha
              have d2 := HW.out j hjl
              have hk0 : (0 : Int) ≤ j := by omega
              have hk8 : (j : Int) < (k : Int) + 1 := by omega
              generalize ys.getD j 0 = x at *
              go_wp2_with fail
              go_quiet (fail)
              go_wp2_with fail
              go_roundw
              case rel => exact ⟨j + 1, by omega, by go_num, _, rfl⟩
              case measure => simp [intOf]; omega
            · go_wp2_with fail
              go_roundw
              case rel => exact ⟨k + 1, by omega, by go_num, HBA.out.drewN _, below_drewN hB _⟩
              case measure => simp [intOf]; omega
        · generalize hx : z0.getD k 0 = x at *
          clear hx
          go_wp2_with fail
          with_reducible refine (push_any _ _ _ _ hba).mono ?_
          rintro e wd ⟨rfl, hba, kd⟩
          have hB := hB.trans (kd.below hB.size (fun y hy e => by omega))
          clear kd
          rw [← HS.out] at hba
          go_wp2_with fail
          with_reducible refine (last_many _ _ _ _ _ (by omega) (by omega) (by omega)).mono ?_
          rintro e we ⟨rfl, rfl⟩
          go_wp2_with fail
          with_reducible refine (list_any _ _ _ hba).mono ?_
          rintro e wg ⟨v1, rfl, hv1, hBn⟩
          have hba := hba.kept (Kept.of_below (F := fun _ => False) hBn) id
          have hB := hB.trans (hBn.mono hB.size)
          clear hBn
          have hlen := len_any _ _ _ hba
          have HBA := Lib.hid hba
          obtain ⟨a1, c1, rfl, hle1, hm1, hs1⟩ := hv1.sl
          unfold maxLen at hm1
          clear hv1 hba
          have hln : (lastl (z0.take (k + 1))).length = 8 := by rw [lastl_length, List.length_take]; split <;> omega
          have hw : ∀ j, j < (lastl (z0.take (k + 1))).length → wg.cell? ⟨b, off + (k - 7) + j, none⟩ = some (.int .i64 ((lastl (z0.take (k + 1))).getD j 0)) := by
            intro j hj
            have hc := HC.out (k - 7 + j) (by omega)
            rw [lastl_get, List.length_take, show min (k + 1) z0.length - 8 + j = k - 7 + j by omega]
            have e2 : (z0.take (k + 1)).getD (k - 7 + j) 0 = z0.getD (k - 7 + j) 0 := by
              rw [List.getD_eq_getElem?_getD, List.getElem?_take, if_pos (by omega), ← List.getD_eq_getElem?_getD]
            rw [e2]
            have h3 := arg_cell hB hc
            rwa [show off + (k - 7 + j) = off + (k - 7) + j by omega] at h3
          have HW := Lib.hid hw
          clear hw
          have hq : (((lastl (z0.take (k + 1))).length : Int) != 8) = false := by simp; omega
          have hl1 : (lastl (z0.take (k + 1))).length ≤ 8 := by omega
          have hl2 : 8 ≤ (lastl (z0.take (k + 1))).length := by omega
          clear hln
          generalize lastl (z0.take (k + 1)) = ys at *
          go_wp2_with fail
          with_reducible refine hlen.mono ?_
          rintro e wh ⟨rfl, rfl⟩
          go_wp2_with fail
          go_loopw [46] (fun i wr => ∃ j : Nat, j ≤ ys.length ∧ i = .int .i64 j ∧ ∃ nd, wr = wg.drewN nd) (fun i _ => ys.length - (intOf i).toNat)
          case atStart => exact ⟨0, Nat.zero_le _, rfl, 0, rfl⟩
          case round =>
            obtain ⟨j, hj, rfl, nd, rfl⟩ := hrel
            by_cases hjl : j < ys.length
            · obtain ⟨b2, off2, ha, _, d1⟩ := hs1 j hjl
              subst ha
              have d2 := HW.out j hjl
              have hk0 : (0 : Int) ≤ j := by omega
              have hk8 : (j : Int) < 8 := by omega
              have hk9 : j < 8 := by omega
              generalize ys.getD j 0 = x at *
              go_wp2_with fail
              go_quiet (fail)
              go_wp2_with fail
              go_roundw
              case rel => exact ⟨j + 1, by omega, by go_num, _, rfl⟩
              case measure => simp [intOf]; omega
            · go_wp2_with fail
              go_roundw
              case rel => exact ⟨k + 1, by omega, by go_num, HBA.out.drewN _, below_drewN hB _⟩
              case measure => simp [intOf]; omega
      · go_wp2_with fail
        go_ret
        exact ⟨rfl, hB⟩
end Go.Proofs.Ytnhbpghllgadaaa
