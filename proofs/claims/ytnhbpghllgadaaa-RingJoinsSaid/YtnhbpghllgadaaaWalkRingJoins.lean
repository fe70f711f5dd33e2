/- Numbers that come in two pieces are there as if they came in one: the walk. -/
import Derived.Test.YtnhbpghllgadaaaHead
namespace Go.Proofs.Ytnhbpghllgadaaa
open Go.RowKit Go.Kpt RingPure
set_option linter.unusedVariables false
attribute [local go_sem] i64_and1023 i64_and7

set_option maxRecDepth 100000 in
set_option maxHeartbeats 1000000 in
theorem ringJoins_walk (a0 : Option Addr) (cap0 : Nat) (z0 : List Int) (a1 : Option Addr) (cap1 : Nat) (z1 : List Int) (w : World)
    (w0 : IsInts .i64 w a0 z0) (y0 : z0.length ≤ cap0) (w1 : IsInts .i64 w a1 z1) (y1 : z1.length ≤ cap1) :
    Calls Try.prog 6 #[.slice a0 z0.length cap0, .slice a1 z1.length cap1] w fun e w' => e = .returned (.bool true) ∧ Below w.heap.size w w' := by
  have hl0 := w0.1
  have hl1 := w1.1
  unfold maxLen at hl0 hl1
  by_cases g0 : 60 < z0.length
  · go_enter Try.func6, Try.ntmps6
    go_wp2_with fail
    refine (head_any _).mono ?_
    rintro e wa ⟨rfl, hB⟩
    go_wp2_with fail
    go_ret
    exact ⟨rfl, hB⟩
  by_cases g1 : 60 < z1.length
  · go_enter Try.func6, Try.ntmps6
    go_wp2_with fail
    refine (head_any _).mono ?_
    rintro e wa ⟨rfl, hB⟩
    go_wp2_with fail
    go_ret
    exact ⟨rfl, hB⟩
  go_enter Try.func6, Try.ntmps6
  go_wp2_with fail
  refine (head_any _).mono ?_
  rintro e wa ⟨rfl, hB⟩
  have hab := hB.size
  go_wp2_with fail
  refine (new_any _).mono ?_
  rintro e wb ⟨rfl, hba, hBn, hsn⟩
  have hB := hB.trans (hBn.mono hB.size)
  clear hBn hsn
  generalize wa.heap.size = ba at *
  go_wp2_with fail
  go_loopw [30] (fun i wr => ∃ k : Nat, k ≤ z0.length ∧ i = .int .i64 k ∧ Rg wr ba ([] ++ z0.take k) ∧ Below w.heap.size w wr) (fun i _ => z0.length - (intOf i).toNat)
  case atStart => exact ⟨0, Nat.zero_le _, rfl, by simpa using hba, hB⟩
  case round =>
    clear hB hba
    obtain ⟨k, hk, rfl, hba, hB⟩ := hrel
    by_cases hlt : k < z0.length
    · obtain ⟨b, off, ha, hc⟩ := w0.2.2 k hlt
      subst ha
      have c0 := arg_cell hB hc
      have hs := take_push z0 hlt
      have HS := Lib.hid hs
      clear hc hs
      generalize z0.getD k 0 = x at *
      go_wp2_with fail
      with_reducible refine (push_any _ _ _ _ hba).mono ?_
      rintro e wd0 ⟨rfl, hba, kd⟩
      have hB := hB.trans (kd.below hB.size (fun y hy e => by omega))
      clear kd
      go_wp2_with fail
      go_roundw
      case rel => exact ⟨k + 1, by omega, by go_num, by rw [HS.out, ← List.append_assoc]; exact hba, hB⟩
      case measure => simp [intOf]; omega
    · obtain rfl : k = z0.length := by omega
      rw [List.take_length] at hba
      go_wp2_with fail
      with_reducible refine (list_any _ _ _ hba).mono ?_
      rintro e wg ⟨v1, rfl, hv1, hBn⟩
      have hlt1 := hba.lt
      have hba := hba.kept (Kept.of_below (F := fun _ => False) hBn) id
      have hB := hB.trans (hBn.mono hB.size)
      have hgw := hB.size
      have hwg := hba.lt
      have hxl : (lastl ([] ++ z0)).length ≤ 8 := by rw [lastl_length]; split <;> omega
      obtain ⟨xs, hxs⟩ : ∃ xs, xs = lastl ([] ++ z0) := ⟨_, rfl⟩
      have HX := Lib.hid hxs
      rw [← hxs] at hv1 hxl
      clear hxs
      obtain ⟨av, cv, rfl, hlv, hmv, hsl0⟩ := hv1.sl
      unfold maxLen at hmv
      clear hBn hv1
      go_wp2_with fail
      refine (new_any _).mono ?_
      rintro e wc ⟨rfl, hbb, hBn, hsm⟩
      have hba := hba.kept (Kept.of_below (F := fun _ => False) hBn) id
      have hsl1 := hsl0.kept (Kept.of_below (F := fun x => x = wg.heap.size) hBn) (fun x hx e => by omega)
      have hsl := hsl1.mono (q := fun x => ba < x ∧ x < wg.heap.size) (fun x hx => ⟨by omega, hx.2⟩)
      have hBc := hB.trans (hBn.mono hB.size)
      have hcs := hBn.size
      have hne : ba < wg.heap.size := hwg
      clear hBn hsm hsl0 hsl1 hB
      generalize wg.heap.size = bb at *
      clear hlt1 hwg
      go_wp2_with fail
      go_loopw [43] (fun i wr => ∃ k : Nat, k ≤ xs.length ∧ i = .int .i64 k ∧ Rg wr bb ([] ++ xs.take k) ∧ Rg wr ba ([] ++ z0) ∧ Kept (fun x => x = bb) wc wr) (fun i _ => xs.length - (intOf i).toNat)
      case atStart => exact ⟨0, Nat.zero_le _, rfl, by simpa using hbb, hba, Kept.refl _ _⟩
      case round =>
        clear hbb hba
        obtain ⟨k, hk, rfl, hbb, hba, hQ⟩ := hrel
        by_cases hlt : k < xs.length
        · obtain ⟨b, off, ha, hp, hc⟩ := hsl k hlt
          subst ha
          have c0 := (hQ.cell (p := ⟨b, off + k, none⟩) (block_lt_of_cell hc) (fun e => absurd (show b = bb from e) (by omega))).trans hc
          have hs := take_push xs hlt
          have HS := Lib.hid hs
          clear hc hs
          generalize xs.getD k 0 = x at *
          go_wp2_with fail
          with_reducible refine (push_any _ _ _ _ hbb).mono ?_
          rintro e we0 ⟨rfl, hbb, kd⟩
          have hba := hba.kept kd (by omega)
          have hQ := hQ.trans kd (fun y _ e => by first | exact e | exact .inl e | exact .inr e)
          clear kd
          go_wp2_with fail
          go_roundw
          case rel => exact ⟨k + 1, by omega, by go_num, by rw [HS.out, ← List.append_assoc]; exact hbb, hba, hQ⟩
          case measure => simp [intOf]; omega
        · obtain rfl : k = xs.length := by omega
          rw [List.take_length] at hbb
          have hB := hBc.trans (hQ.below (by have := hBc.size; omega) (fun x hx e => by omega))
          clear hQ hsl hBc
          go_wp2_with fail
          go_loopw [53] (fun i wr => ∃ k : Nat, k ≤ z1.length ∧ i = .int .i64 k ∧ Rg wr ba (([] ++ z0) ++ z1.take k) ∧ Rg wr bb (([] ++ xs) ++ z1.take k) ∧ Below w.heap.size w wr) (fun i _ => z1.length - (intOf i).toNat)
          case atStart => exact ⟨0, Nat.zero_le _, rfl, by simpa using hba, by simpa using hbb, hB⟩
          case round =>
            clear hB hba hbb
            obtain ⟨k, hk, rfl, hba, hbb, hB⟩ := hrel
            by_cases hlt : k < z1.length
            · obtain ⟨b, off, ha, hc⟩ := w1.2.2 k hlt
              subst ha
              have c0 := arg_cell hB hc
              have hs := take_push z1 hlt
              have HS := Lib.hid hs
              clear hc hs
              generalize z1.getD k 0 = x at *
              go_wp2_with fail
              with_reducible refine (push_any _ _ _ _ hba).mono ?_
              rintro e wf0 ⟨rfl, hba, kd⟩
              have hbb := hbb.kept kd (by omega)
              have hB := hB.trans (kd.below hB.size (fun y hy e => by omega))
              clear kd
              go_wp2_with fail
              with_reducible refine (push_any _ _ _ _ hbb).mono ?_
              rintro e wf1 ⟨rfl, hbb, kd⟩
              have hba := hba.kept kd (by omega)
              have hB := hB.trans (kd.below hB.size (fun y hy e => by omega))
              clear kd
              go_wp2_with fail
              go_roundw
              case rel => exact ⟨k + 1, by omega, by go_num, by rw [HS.out, ← List.append_assoc]; exact hba, by rw [HS.out, ← List.append_assoc]; exact hbb, hB⟩
              case measure => simp [intOf]; omega
            · obtain rfl : k = z1.length := by omega
              rw [List.take_length] at hba
              rw [List.take_length] at hbb
              go_wp2_with fail
              with_reducible refine (list_any _ _ _ hba).mono ?_
              rintro e wg ⟨v1, rfl, hv1, hBn⟩
              have hbb := hbb.kept (Kept.of_below (F := fun _ => False) hBn) id
              have hB := hB.trans (hBn.mono hB.size)
              clear hBn
              go_wp2_with fail
              with_reducible refine (list_any _ _ _ hbb).mono ?_
              rintro e wh ⟨v2, rfl, hv2, hBn⟩
              have hv1 := hv1.kept (Kept.of_below (F := fun _ => False) hBn) (fun _ _ => id)
              have hB := hB.trans (hBn.mono hB.size)
              clear hBn hba hbb
              have hj : lastl ([] ++ xs ++ z1) = lastl ([] ++ z0 ++ z1) := by rw [HX.out]; exact lastl_join z0 z1
              rw [hj] at hv2
              clear hj
              generalize lastl ([] ++ z0 ++ z1) = ys at *
              obtain ⟨a1', c1', rfl, hle1, hm1, hs1⟩ := hv1.sl
              obtain ⟨a2', c2', rfl, hle2, hm2, hs2⟩ := hv2.sl
              unfold maxLen at hm1 hm2
              clear hv1 hv2
              go_wp2_with fail
              go_loopw [80] (fun i wr => ∃ k : Nat, k ≤ ys.length ∧ i = .int .i64 k ∧ ∃ nd, wr = wh.drewN nd) (fun i _ => ys.length - (intOf i).toNat)
              case atStart => exact ⟨0, Nat.zero_le _, rfl, 0, rfl⟩
              case round =>
                obtain ⟨k, hk, rfl, nd, rfl⟩ := hrel
                by_cases hlt : k < ys.length
                · obtain ⟨b, off, ha, _, d1⟩ := hs1 k hlt
                  subst ha
                  obtain ⟨b2, off2, ha, _, d2⟩ := hs2 k hlt
                  subst ha
                  have hk0 : (0 : Int) ≤ k := by omega
                  generalize ys.getD k 0 = x at *
                  go_wp2_with fail
                  go_quiet (fail)
                  go_wp2_with fail
                  go_roundw
                  case rel => exact ⟨k + 1, by omega, by go_num, _, rfl⟩
                  case measure => simp [intOf]; omega
                · go_wp2_with fail
                  go_ret
                  exact ⟨rfl, below_drewN hB _⟩
end Go.Proofs.Ytnhbpghllgadaaa
