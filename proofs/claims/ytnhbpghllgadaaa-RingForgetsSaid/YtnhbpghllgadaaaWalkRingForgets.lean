/- What came ahead of as many as there may be makes no difference: the walk. -/
import Derived.Test.YtnhbpghllgadaaaHead
namespace Go.Proofs.Ytnhbpghllgadaaa
open Go.RowKit Go.Kpt RingPure
set_option linter.unusedVariables false
attribute [local go_sem] i64_and1023 i64_and7

set_option maxRecDepth 100000 in
set_option maxHeartbeats 1000000 in
theorem ringForgets_walk (a0 : Option Addr) (cap0 : Nat) (z0 : List Int) (a1 : Option Addr) (cap1 : Nat) (z1 : List Int) (a2 : Option Addr) (cap2 : Nat) (z2 : List Int) (w : World)
    (w0 : IsInts .i64 w a0 z0) (y0 : z0.length ≤ cap0) (w1 : IsInts .i64 w a1 z1) (y1 : z1.length ≤ cap1) (w2 : IsInts .i64 w a2 z2) (y2 : z2.length ≤ cap2) :
    Calls Try.prog 4 #[.slice a0 z0.length cap0, .slice a1 z1.length cap1, .slice a2 z2.length cap2] w fun e w' => e = .returned (.bool true) ∧ Below w.heap.size w w' := by
  have hl0 := w0.1
  have hl1 := w1.1
  have hl2 := w2.1
  unfold maxLen at hl0 hl1 hl2
  by_cases g0 : 60 < z0.length
  · go_enter Try.func4, Try.ntmps4
    go_wp2_with fail
    refine (head_any _).mono ?_
    rintro e wa ⟨rfl, hB⟩
    go_wp2_with fail
    go_ret
    exact ⟨rfl, hB⟩
  by_cases g1 : 60 < z1.length
  · go_enter Try.func4, Try.ntmps4
    go_wp2_with fail
    refine (head_any _).mono ?_
    rintro e wa ⟨rfl, hB⟩
    go_wp2_with fail
    go_ret
    exact ⟨rfl, hB⟩
  by_cases g2 : z2.length = 8
  case neg =>
    have hd : ((z2.length : Int) != 8) = true := by simp; omega
    go_enter Try.func4, Try.ntmps4
    go_wp2_with fail
    refine (head_any _).mono ?_
    rintro e wa ⟨rfl, hB⟩
    go_wp2_with fail
    go_ret
    exact ⟨rfl, hB⟩
  have hd : ((z2.length : Int) != 8) = false := by simp; omega
  have G2 := Lib.hid g2
  clear g2
  go_enter Try.func4, Try.ntmps4
  go_wp2_with fail
  refine (head_any _).mono ?_
  rintro e wa ⟨rfl, hB⟩
  have hab := hB.size
  go_wp2_with fail
  refine (new_any _).mono ?_
  rintro e wb ⟨rfl, hba, hBn, hsn⟩
  have hB := hB.trans (hBn.mono hB.size)
  clear hBn
  generalize wa.heap.size = ba at *
  go_wp2_with fail
  refine (new_any _).mono ?_
  rintro e wc ⟨rfl, hbb, hBn, hsm⟩
  have hba := hba.kept (Kept.of_below (F := fun _ => False) hBn) id
  have hB := hB.trans (hBn.mono hB.size)
  have hne : ba < wb.heap.size := by omega
  clear hBn hsn hsm
  generalize wb.heap.size = bb at *
  go_wp2_with fail
  go_loopw [37] (fun i wr => ∃ k : Nat, k ≤ z0.length ∧ i = .int .i64 k ∧ Rg wr ba ([] ++ z0.take k) ∧ Rg wr bb [] ∧ Below w.heap.size w wr) (fun i _ => z0.length - (intOf i).toNat)
  case atStart => exact ⟨0, Nat.zero_le _, rfl, by simpa using hba, hbb, hB⟩
  case round =>
    clear hB hba hbb
    obtain ⟨k, hk, rfl, hba, hbb, hB⟩ := hrel
    by_cases hlt : k < z0.length
    · obtain ⟨b, off, ha, hc⟩ := w0.2.2 k hlt
      subst ha
      have c0 := arg_cell hB hc
      have hs := take_push z0 hlt
      have HS := Lib.hid hs
      clear hc hs
      generalize z0.getD k 0 = x at *
      go_wp2_with fail
      with_reducible refine (push_any _ _ _ _ hba).mono ?_
      rintro e wd0 ⟨rfl, hba, kd⟩
      have hbb := hbb.kept kd (by omega)
      have hB := hB.trans (kd.below hB.size (fun y hy e => by omega))
      clear kd
      go_wp2_with fail
      go_roundw
      case rel => exact ⟨k + 1, by omega, by go_num, by rw [HS.out, ← List.append_assoc]; exact hba, hbb, hB⟩
      case measure => simp [intOf]; omega
    · obtain rfl : k = z0.length := by omega
      rw [List.take_length] at hba
      go_wp2_with fail
      go_loopw [47] (fun i wr => ∃ k : Nat, k ≤ z1.length ∧ i = .int .i64 k ∧ Rg wr bb ([] ++ z1.take k) ∧ Rg wr ba ([] ++ z0) ∧ Below w.heap.size w wr) (fun i _ => z1.length - (intOf i).toNat)
      case atStart => exact ⟨0, Nat.zero_le _, rfl, by simpa using hbb, hba, hB⟩
      case round =>
        clear hB hbb hba
        obtain ⟨k, hk, rfl, hbb, hba, hB⟩ := hrel
        by_cases hlt : k < z1.length
        · obtain ⟨b, off, ha, hc⟩ := w1.2.2 k hlt
          subst ha
          have c0 := arg_cell hB hc
          have hs := take_push z1 hlt
          have HS := Lib.hid hs
          clear hc hs
          generalize z1.getD k 0 = x at *
          go_wp2_with fail
          with_reducible refine (push_any _ _ _ _ hbb).mono ?_
          rintro e we0 ⟨rfl, hbb, kd⟩
          have hba := hba.kept kd (by omega)
          have hB := hB.trans (kd.below hB.size (fun y hy e => by omega))
          clear kd
          go_wp2_with fail
          go_roundw
          case rel => exact ⟨k + 1, by omega, by go_num, by rw [HS.out, ← List.append_assoc]; exact hbb, hba, hB⟩
          case measure => simp [intOf]; omega
        · obtain rfl : k = z1.length := by omega
          rw [List.take_length] at hbb
          go_wp2_with fail
          go_loopw [57] (fun i wr => ∃ k : Nat, k ≤ z2.length ∧ i = .int .i64 k ∧ Rg wr ba (([] ++ z0) ++ z2.take k) ∧ Rg wr bb (([] ++ z1) ++ z2.take k) ∧ Below w.heap.size w wr) (fun i _ => z2.length - (intOf i).toNat)
          case atStart => exact ⟨0, Nat.zero_le _, rfl, by simpa using hba, by simpa using hbb, hB⟩
          case round =>
            clear hB hba hbb
            obtain ⟨k, hk, rfl, hba, hbb, hB⟩ := hrel
            by_cases hlt : k < z2.length
            · obtain ⟨b, off, ha, hc⟩ := w2.2.2 k hlt
              subst ha
              have c0 := arg_cell hB hc
              have hs := take_push z2 hlt
              have HS := Lib.hid hs
              clear hc hs
              generalize z2.getD k 0 = x at *
              go_wp2_with fail
              with_reducible refine (push_any _ _ _ _ hba).mono ?_
              rintro e wf0 ⟨rfl, hba, kd⟩
              have hbb := hbb.kept kd (by omega)
              have hB := hB.trans (kd.below hB.size (fun y hy e => by omega))
              clear kd
              go_wp2_with fail
              with_reducible refine (push_any _ _ _ _ hbb).mono ?_
              rintro e wf1 ⟨rfl, hbb, kd⟩
              have hba := hba.kept kd (by omega)
              have hB := hB.trans (kd.below hB.size (fun y hy e => by omega))
              clear kd
              go_wp2_with fail
              go_roundw
              case rel => exact ⟨k + 1, by omega, by go_num, by rw [HS.out, ← List.append_assoc]; exact hba, by rw [HS.out, ← List.append_assoc]; exact hbb, hB⟩
              case measure => simp [intOf]; omega
            · obtain rfl : k = z2.length := by omega
              rw [List.take_length] at hba
              rw [List.take_length] at hbb
              go_wp2_with fail
              with_reducible refine (list_any _ _ _ hba).mono ?_
              rintro e wg ⟨v1, rfl, hv1, hBn⟩
              have hbb := hbb.kept (Kept.of_below (F := fun _ => False) hBn) id
              have hB := hB.trans (hBn.mono hB.size)
              clear hBn
              rw [lastl_append _ _ G2.out] at hv1
              go_wp2_with fail
              with_reducible refine (list_any _ _ _ hbb).mono ?_
              rintro e wh ⟨v2, rfl, hv2, hBn⟩
              rw [lastl_append _ _ G2.out] at hv2
              have hv1 := hv1.kept (Kept.of_below (F := fun _ => False) hBn) (fun _ _ => id)
              have hB := hB.trans (hBn.mono hB.size)
              clear hBn hba hbb
              rcases hv1.shape with ⟨_, e1⟩ | ⟨g1, cp1, rfl, hg1, hl1', hle1, hm1, hc1⟩
              · have := G2.out; rw [e1] at this; simp at this
              rcases hv2.shape with ⟨_, e1⟩ | ⟨g2, cp2, rfl, hg2, hl2', hle2, hm2, hc2⟩
              · have := G2.out; rw [e1] at this; simp at this
              have HC1 := Lib.hid hc1
              have HC2 := Lib.hid hc2
              clear hc1 hc2 hv1 hv2
              go_wp2_with fail
              go_loopw [82] (fun i wr => ∃ k : Nat, k ≤ z2.length ∧ i = .int .i64 k ∧ ∃ nd, wr = wh.drewN nd) (fun i _ => z2.length - (intOf i).toNat)
              case atStart => exact ⟨0, Nat.zero_le _, rfl, 0, rfl⟩
              case round =>
                obtain ⟨k, hk, rfl, nd, rfl⟩ := hrel
                by_cases hlt : k < z2.length
                · obtain ⟨b, off, ha, hc⟩ := w2.2.2 k hlt
                  subst ha
                  have c0 := arg_cell hB hc
                  have d1 := HC1.out k hlt
                  have d2 := HC2.out k hlt
                  have hk0 : (0 : Int) ≤ k := by omega
                  clear hc
                  generalize z2.getD k 0 = x at *
                  go_wp2_with fail
                  go_quiet (fail)
                  go_wp2_with fail
                  go_roundw
                  case rel => exact ⟨k + 1, by omega, by go_num, _, rfl⟩
                  case measure => simp [intOf]; omega
                · go_wp2_with fail
                  go_ret
                  exact ⟨rfl, below_drewN hB _⟩
end Go.Proofs.Ytnhbpghllgadaaa
