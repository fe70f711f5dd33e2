/- No call asks more than a few times which value is less: the walk (under way). -/
import Derived.Test.YtbnpipfmeekbdaaCheapB
import Derived.Test.YtbnpipfmeekbdaaBits
namespace Go.Proofs.Ytbnpipfmeekbdaa
open Go.RowKit Go.Kpt HeapPure
set_option linter.unusedVariables false

set_option maxRecDepth 100000 in
set_option maxHeartbeats 6000000 in
theorem heapCheap_walk (a0 a1 a2 : Int) (w : World) (w0 : (Lit.int .i64 a0).wf = true) (w1 : (Lit.int .i64 a1).wf = true) (w2 : (Lit.int .i64 a2).wf = true) :
    Calls Try.prog 6 #[.int .i64 a0, .int .i64 a1, .int .i64 a2] w fun e w' => e = .returned (.bool true) ∧ Below w.heap.size w w' := by
  have m0 := i64_and4095 a0
  have m1 := i64_and4095 a1
  obtain ⟨n, hn⟩ : ∃ n : Nat, a0 % 4096 = (n : Int) := ⟨(a0 % 4096).toNat, by omega⟩
  rw [hn] at m0
  have hn2 : n < 4096 := by omega
  clear hn w0
  go_enter Try.func6, Try.ntmps6
  go_wp2_with fail
  refine (head_any w).mono ?_
  rintro e v1 ⟨rfl, hB1⟩
  go_wp2_with fail
  obtain ⟨cb, hcb⟩ : ∃ cb, v1.heap.size = cb := ⟨_, rfl⟩
  have kA : Below v1.heap.size v1 (v1.alloc (.cells #[.int .i64 0] 43)) := (Below.refl _ _).alloc (Nat.le_refl _) _
  have hC : Cn (v1.alloc (.cells #[.int .i64 0] 43)) v1.heap.size 0 := heap_alloc_new _ _
  have hBA := hB1.trans (kA.mono hB1.size)
  have hcw : w.heap.size ≤ cb := by rw [← hcb]; exact hB1.size
  rw [hcb] at hC ⊢
  generalize v1.alloc (.cells #[.int .i64 0] 43) = v2 at *
  clear kA hB1
  refine (newc_any cb v2).mono ?_
  rintro e v3 ⟨hb, mb, rfl, g1, g2, g3, g4, hp, hB3⟩
  have hcv := lt_of hC
  have hH : HN v3 cb hb cb 0 [] := ⟨v2.heap.size, _, mb, ⟨hp, hC.kept (Kept.of_below (F := fun _ => False) hB3) (fun h => h), by omega, by omega, fun g hg => by cases hg⟩, by omega, g1, g2, Nat.le_refl _⟩
  have hB := hBA.trans (hB3.mono hBA.size)
  clear g1 g2 g3 g4 hp hB3 hC hBA hcv
  go_wp2_with fail
  go_loopw [9] (fun x wr => ∃ (i N : Nat) (l : List (Int × Int)), x = .int .i64 i ∧ i ≤ n ∧ l.length ≤ i ∧ N ≤ 39 * i ∧ HN wr cb hb cb N l ∧ Below w.heap.size w wr) (fun x _ => n - (intOf x).toNat)
  case atStart => exact ⟨0, 0, [], rfl, by omega, by simp, by omega, hH, hB⟩
  case round =>
    clear hH hB
    obtain ⟨i, N, l, rfl, hi, hl, hN, hH, hB⟩ := hrel
    by_cases hin : i < n
    · have j1 : (i : Int) < (n : Int) := by omega
      have m2 := i64_and65535 ((i : Int) * 7919)
      obtain ⟨x, hx⟩ : ∃ x, (i : Int) * 7919 % 65536 = x := ⟨_, rfl⟩
      rw [hx] at m2
      have c0 : wr.cell? ⟨cb, 0, none⟩ = some (.int .i64 N) := cell_of hH.cn
      have s1 := setN cb hb cb N l (i : Int) x (WalkArith.wf_i64 (by omega)) (.inl (by omega)) (by omega) wr hH
      clear hx
      go_wp2_with fail
      refine s1.mono ?_
      clear s1
      rintro e w4 ⟨rfl, N', a1, a2, h4, k4⟩
      have c4 : w4.cell? ⟨cb, 0, none⟩ = some (.int .i64 N') := cell_of h4.cn
      have hB4 := hB.trans (k4.mono hcw)
      have hle : ¬ (N : Int) + 100 < (N' : Int) := by omega
      clear hH hB k4
      go_wp2_with fail
      have hls : (setAt lt l (i : Int) x).length ≤ l.length + 1 := by rw [setAt_length]; split <;> omega
      exact ⟨⟨i + 1, N', _, by go_num, by omega, by omega, by omega, h4, hB4⟩, by simp [intOf]; omega⟩
    · obtain rfl : i = n := by omega
      have c0 : wr.cell? ⟨cb, 0, none⟩ = some (.int .i64 N) := cell_of hH.cn
      have hk1 : (Lit.int .i64 (a1 % 4096)).wf = true := WalkArith.wf_i64 (by omega)
      have s1 := setN cb hb cb N l (a1 % 4096) a2 hk1 (.inl (by omega)) (by omega) wr hH
      have hls : (setAt lt l (a1 % 4096) a2).length ≤ l.length + 1 := by rw [setAt_length]; split <;> omega
      generalize setAt lt l (a1 % 4096) a2 = l2 at *
      generalize a1 % 4096 = K at *
      go_wp2_with fail
      refine s1.mono ?_
      clear s1
      rintro e w4 ⟨rfl, N', b1, b2, h4, k4⟩
      have c4 : w4.cell? ⟨cb, 0, none⟩ = some (.int .i64 N') := cell_of h4.cn
      have hB4 := hB.trans (k4.mono hcw)
      clear hH hB k4 c0
      go_wp2_with fail
      have sg : Calls Try.prog 14 #[.pointer (some ⟨hb, 0, none⟩), .int .i64 a1] w4 fun e w' => (∃ p q, e = .returned (.tuple #[.int .i64 p, .bool q])) ∧ Below w4.heap.size w4 w' := by
        obtain ⟨b, v, mb, h, -⟩ := h4
        exact (getc_any cb b hb v mb l2 a1 w1 w4 h.hp).mono fun e w' ⟨h5, h6⟩ => ⟨⟨_, _, h5⟩, h6⟩
      refine sg.mono ?_
      rintro e w5 ⟨⟨p, q, rfl⟩, k5⟩
      have h5 := h4.below k5
      have hB5 := hB4.trans (k5.mono hB4.size)
      clear sg k5 h4 hB4 c4
      have sm : Calls Try.prog 11 #[.pointer (some ⟨hb, 0, none⟩)] w5 fun e w' => (∃ p q t, e = .returned (.tuple #[.int .i64 p, .int .i64 q, .bool t])) ∧ Below w5.heap.size w5 w' := by
        obtain ⟨b, v, mb, h, -⟩ := h5
        by_cases hp : 0 < l2.length
        · exact (minc_some cb b hb v mb l2 hp w5 h.hp).mono fun e w' ⟨h5, h6⟩ => ⟨⟨_, _, _, h5⟩, h6⟩
        · obtain rfl : l2 = [] := List.eq_nil_of_length_eq_zero (by omega)
          exact (minc_none cb b hb v mb w5 h.hp).mono fun e w' ⟨h5, h6⟩ => ⟨⟨_, _, _, h5⟩, h6⟩
      go_wp2_with fail
      refine sm.mono ?_
      rintro e w6 ⟨⟨p', q', t', rfl⟩, k6⟩
      have h6 := h5.below k6
      have hB6 := hB5.trans (k6.mono hB5.size)
      have c6 : w6.cell? ⟨cb, 0, none⟩ = some (.int .i64 N') := cell_of h6.cn
      have sd := dropN cb hb cb N' l2 K hk1 (by omega) (by omega) w6 h6
      have hle : ¬ (N : Int) + 100 < (N' : Int) := by omega
      clear sm k6 h5 hB5
      go_wp2_with fail
      refine sd.mono ?_
      clear sd
      rintro e w7 ⟨⟨t, rfl⟩, N2, d1, d2, h7, k7⟩
      have c7 : w7.cell? ⟨cb, 0, none⟩ = some (.int .i64 N2) := cell_of h7
      have hB7 := hB6.trans (k7.mono hcw)
      have hle2 : (N2 : Int) ≤ (N' : Int) + 100 := by omega
      go_wp2_with fail
      go_ret
      exact ⟨rfl, hB7⟩
end Go.Proofs.Ytbnpipfmeekbdaa
