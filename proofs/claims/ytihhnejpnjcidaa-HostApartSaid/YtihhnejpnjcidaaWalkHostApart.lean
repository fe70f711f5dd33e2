/- What is taken of one host makes no difference to others: the walk. -/
import Derived.Test.YtihhnejpnjcidaaHead
namespace Go.Proofs.Ytihhnejpnjcidaa
open Go.RowKit Go.Kpt
set_option linter.unusedVariables false
attribute [local go_sem] i64_and4095

theorem took_th (m : Ma) (n : Int) : (took m n).th = m.th := by unfold took; split <;> rfl

set_option maxRecDepth 100000 in
set_option maxHeartbeats 8000000 in
theorem hostApart_walk (a b0 mem : Int) (w : World) (_ : (Lit.int .i64 a).wf = true) (_ : (Lit.int .i64 b0).wf = true) (_ : (Lit.int .i64 mem).wf = true) :
    Calls Try.prog 5 #[.int .i64 a, .int .i64 b0, .int .i64 mem] w fun e w' => e = .returned (.bool true) ∧ Below w.heap.size w w' := by
  have ha : 0 ≤ a % 4096 ∧ a % 4096 < 4096 := ⟨by omega, by omega⟩
  have hb : 0 ≤ b0 % 4096 ∧ b0 % 4096 < 4096 := ⟨by omega, by omega⟩
  have hmm : 0 ≤ mem % 4096 ∧ mem % 4096 < 4096 := ⟨by omega, by omega⟩
  obtain ⟨A0, hA⟩ : ∃ A0, a % 4096 = A0 := ⟨_, rfl⟩
  obtain ⟨B0, hB⟩ : ∃ B0, b0 % 4096 = B0 := ⟨_, rfl⟩
  obtain ⟨M, hM⟩ : ∃ M, mem % 4096 = M := ⟨_, rfl⟩
  rw [hA] at ha
  rw [hB] at hb
  rw [hM] at hmm
  go_enter Try.func5, Try.ntmps5
  go_wp2_with fail
  refine (head_any _).mono ?_
  rintro e v0 ⟨rfl, hB0⟩
  go_wp2_with fail
  clear hA hB hM
  obtain ⟨A, hA⟩ : ∃ A, 1 + A0 = A := ⟨_, rfl⟩
  obtain ⟨B, hB⟩ : ∃ B, 1 + B0 = B := ⟨_, rfl⟩
  rw [hA, hB]
  have hA1 : 1 ≤ A ∧ A ≤ 4096 := by omega
  have hB1 : 1 ≤ B ∧ B ≤ 4096 := by omega
  clear hA hB
  refine (new_any v0).mono ?_
  rintro e w1 ⟨rfl, hw1, hBn, hs1⟩
  have hBw1 : Below w.heap.size w w1 := hB0.trans (hBn.mono hB0.size)
  obtain ⟨b, hb⟩ : ∃ b, v0.heap.size = b := ⟨_, rfl⟩
  have hbw : w.heap.size ≤ b := by have := hB0.size; omega
  rw [hb] at hw1 ⊢
  have hK : ∀ {u u' : World}, Below w.heap.size w u → Kept (fun x => x = b) u u' → Below w.heap.size w u' := fun hB k => hB.trans (k.below hB.size (fun x hx h => by omega))
  clear hs1 hb hBn hB0
  have hB0 : free ⟨true, false, B, 0⟩ = B := by simp [free]
  by_cases hle : M ≤ A
  · have hm : mayTake ⟨true, false, A, 0⟩ M = true := by simp [mayTake]; omega
    have hth3 : ((put (put (put z0 3 ⟨true, false, A, 0⟩) 9 ⟨true, false, B, 0⟩) 3 (took ((put (put z0 3 ⟨true, false, A, 0⟩) 9 ⟨true, false, B, 0⟩) 3) M)) 3).th = true := took_th ⟨true, false, A, 0⟩ M
    have c100 : Calls Try.prog 8 #[.pointer (some ⟨b, 0, none⟩), .int .i64 3, .int .i64 A] w1 fun e w' => e = .returned (.int .i64 0) ∧ Hq w' b (put z0 3 ⟨true, false, A, 0⟩) ∧ Kept (fun x => x = b) w1 w' := add_any b z0 3 (by omega) A (by omega) (by omega) rfl w1 hw1
    go_wp2_with fail
    refine c100.mono ?_
    rintro e w100 ⟨rfl, hw100, kw100⟩
    have hBw100 := hK hBw1 kw100
    clear c100 hw1 hBw1 kw100
    have c101 : Calls Try.prog 8 #[.pointer (some ⟨b, 0, none⟩), .int .i64 9, .int .i64 B] w100 fun e w' => e = .returned (.int .i64 0) ∧ Hq w' b (put (put z0 3 ⟨true, false, A, 0⟩) 9 ⟨true, false, B, 0⟩) ∧ Kept (fun x => x = b) w100 w' := add_any b (put z0 3 ⟨true, false, A, 0⟩) 9 (by omega) B (by omega) (by omega) rfl w100 hw100
    go_wp2_with fail
    refine c101.mono ?_
    rintro e w101 ⟨rfl, hw101, kw101⟩
    have hBw101 := hK hBw100 kw101
    clear c101 hw100 hBw100 kw101
    have c102 : Calls Try.prog 9 #[.pointer (some ⟨b, 0, none⟩), .int .i64 3, .int .i64 M] w101 fun e w' => e = .returned (.bool (mayTake ⟨true, false, A, 0⟩ M)) ∧ Hq w' b (put (put (put z0 3 ⟨true, false, A, 0⟩) 9 ⟨true, false, B, 0⟩) 3 (took ((put (put z0 3 ⟨true, false, A, 0⟩) 9 ⟨true, false, B, 0⟩) 3) M)) ∧ Kept (fun x => x = b) w101 w' := take_any b (put (put z0 3 ⟨true, false, A, 0⟩) 9 ⟨true, false, B, 0⟩) 3 (by omega) (show good ⟨true, false, A, 0⟩ from ⟨by simp, by simp; omega, by simp; omega⟩) M (by omega) w101 hw101
    rw [hm] at c102
    go_wp2_with fail
    refine c102.mono ?_
    rintro e w102 ⟨rfl, hw102, kw102⟩
    have hBw102 := hK hBw101 kw102
    clear c102 hw101 hBw101 kw102
    have c103 : Calls Try.prog 10 #[.pointer (some ⟨b, 0, none⟩), .int .i64 9] w102 fun e w' => e = .returned (.int .i64 B) ∧ ∃ m, w' = w102.drewN m := hB0 ▸ free_any b (put (put (put z0 3 ⟨true, false, A, 0⟩) 9 ⟨true, false, B, 0⟩) 3 (took ((put (put z0 3 ⟨true, false, A, 0⟩) 9 ⟨true, false, B, 0⟩) 3) M)) 9 (by omega) (show good ⟨true, false, B, 0⟩ from ⟨by simp, by simp; omega, by simp; omega⟩) w102 hw102
    go_wp2_with fail
    refine c103.mono ?_
    rintro e w103 ⟨rfl, m, rfl⟩
    have hw103 := hw102.below (below_drewN (Below.refl _ _) m)
    have hBw103 := below_drewN hBw102 m
    clear c103 hw102 hBw102
    generalize w102.drewN m = w103 at *
    have c104 : Calls Try.prog 14 #[.pointer (some ⟨b, 0, none⟩), .int .i64 3] w103 fun e w' => e = .returned (.int .i64 0) ∧ Hq w' b (put (put (put (put z0 3 ⟨true, false, A, 0⟩) 9 ⟨true, false, B, 0⟩) 3 (took ((put (put z0 3 ⟨true, false, A, 0⟩) 9 ⟨true, false, B, 0⟩) 3) M)) 3 ⟨false, false, 0, 0⟩) ∧ Kept (fun x => x = b) w103 w' := fail_any b (put (put (put z0 3 ⟨true, false, A, 0⟩) 9 ⟨true, false, B, 0⟩) 3 (took ((put (put z0 3 ⟨true, false, A, 0⟩) 9 ⟨true, false, B, 0⟩) 3) M)) 3 (by omega) hth3 w103 hw103
    go_wp2_with fail
    refine c104.mono ?_
    rintro e w104 ⟨rfl, hw104, kw104⟩
    have hBw104 := hK hBw103 kw104
    clear c104 hw103 hBw103 kw104
    have c105 : Calls Try.prog 15 #[.pointer (some ⟨b, 0, none⟩), .int .i64 3] w104 fun e w' => e = .returned (.bool false) ∧ w104 = w' := isThere_any b (put (put (put (put z0 3 ⟨true, false, A, 0⟩) 9 ⟨true, false, B, 0⟩) 3 (took ((put (put z0 3 ⟨true, false, A, 0⟩) 9 ⟨true, false, B, 0⟩) 3) M)) 3 ⟨false, false, 0, 0⟩) 3 (by omega) w104 hw104
    go_wp2_with fail
    refine c105.mono ?_
    rintro e w105 ⟨rfl, rfl⟩
    clear c105
    have c106 : Calls Try.prog 10 #[.pointer (some ⟨b, 0, none⟩), .int .i64 3] w104 fun e w' => e = .returned (.int .i64 0) ∧ ∃ m, w' = w104.drewN m := free_any b (put (put (put (put z0 3 ⟨true, false, A, 0⟩) 9 ⟨true, false, B, 0⟩) 3 (took ((put (put z0 3 ⟨true, false, A, 0⟩) 9 ⟨true, false, B, 0⟩) 3) M)) 3 ⟨false, false, 0, 0⟩) 3 (by omega) ⟨Int.le_refl 0, Int.le_refl 0, (by decide : (0 : Int) ≤ 4096)⟩ w104 hw104
    go_wp2_with fail
    refine c106.mono ?_
    rintro e w106 ⟨rfl, m, rfl⟩
    have hw106 := hw104.below (below_drewN (Below.refl _ _) m)
    have hBw106 := below_drewN hBw104 m
    clear c106 hw104 hBw104
    generalize w104.drewN m = w106 at *
    have c107 : Calls Try.prog 9 #[.pointer (some ⟨b, 0, none⟩), .int .i64 3, .int .i64 0] w106 fun e w' => e = .returned (.bool false) ∧ Hq w' b (put (put (put (put (put z0 3 ⟨true, false, A, 0⟩) 9 ⟨true, false, B, 0⟩) 3 (took ((put (put z0 3 ⟨true, false, A, 0⟩) 9 ⟨true, false, B, 0⟩) 3) M)) 3 ⟨false, false, 0, 0⟩) 3 (took ((put (put (put (put z0 3 ⟨true, false, A, 0⟩) 9 ⟨true, false, B, 0⟩) 3 (took ((put (put z0 3 ⟨true, false, A, 0⟩) 9 ⟨true, false, B, 0⟩) 3) M)) 3 ⟨false, false, 0, 0⟩) 3) 0)) ∧ Kept (fun x => x = b) w106 w' := take_any b (put (put (put (put z0 3 ⟨true, false, A, 0⟩) 9 ⟨true, false, B, 0⟩) 3 (took ((put (put z0 3 ⟨true, false, A, 0⟩) 9 ⟨true, false, B, 0⟩) 3) M)) 3 ⟨false, false, 0, 0⟩) 3 (by omega) ⟨Int.le_refl 0, Int.le_refl 0, (by decide : (0 : Int) ≤ 4096)⟩ 0 (by omega) w106 hw106
    go_wp2_with fail
    refine c107.mono ?_
    rintro e w107 ⟨rfl, hw107, kw107⟩
    have hBw107 := hK hBw106 kw107
    clear c107 hw106 hBw106 kw107
    have c108 : Calls Try.prog 11 #[.pointer (some ⟨b, 0, none⟩), .int .i64 3, .int .i64 0] w107 fun e w' => e = .returned (.bool false) ∧ Hq w' b (put (put (put (put (put (put z0 3 ⟨true, false, A, 0⟩) 9 ⟨true, false, B, 0⟩) 3 (took ((put (put z0 3 ⟨true, false, A, 0⟩) 9 ⟨true, false, B, 0⟩) 3) M)) 3 ⟨false, false, 0, 0⟩) 3 (took ((put (put (put (put z0 3 ⟨true, false, A, 0⟩) 9 ⟨true, false, B, 0⟩) 3 (took ((put (put z0 3 ⟨true, false, A, 0⟩) 9 ⟨true, false, B, 0⟩) 3) M)) 3 ⟨false, false, 0, 0⟩) 3) 0)) 3 (gave ((put (put (put (put (put z0 3 ⟨true, false, A, 0⟩) 9 ⟨true, false, B, 0⟩) 3 (took ((put (put z0 3 ⟨true, false, A, 0⟩) 9 ⟨true, false, B, 0⟩) 3) M)) 3 ⟨false, false, 0, 0⟩) 3 (took ((put (put (put (put z0 3 ⟨true, false, A, 0⟩) 9 ⟨true, false, B, 0⟩) 3 (took ((put (put z0 3 ⟨true, false, A, 0⟩) 9 ⟨true, false, B, 0⟩) 3) M)) 3 ⟨false, false, 0, 0⟩) 3) 0)) 3) 0)) ∧ Kept (fun x => x = b) w107 w' := give_any b (put (put (put (put (put z0 3 ⟨true, false, A, 0⟩) 9 ⟨true, false, B, 0⟩) 3 (took ((put (put z0 3 ⟨true, false, A, 0⟩) 9 ⟨true, false, B, 0⟩) 3) M)) 3 ⟨false, false, 0, 0⟩) 3 (took ((put (put (put (put z0 3 ⟨true, false, A, 0⟩) 9 ⟨true, false, B, 0⟩) 3 (took ((put (put z0 3 ⟨true, false, A, 0⟩) 9 ⟨true, false, B, 0⟩) 3) M)) 3 ⟨false, false, 0, 0⟩) 3) 0)) 3 (by omega) ⟨Int.le_refl 0, Int.le_refl 0, (by decide : (0 : Int) ≤ 4096)⟩ 0 (by omega) w107 hw107
    go_wp2_with fail
    refine c108.mono ?_
    rintro e w108 ⟨rfl, hw108, kw108⟩
    have hBw108 := hK hBw107 kw108
    clear c108 hw107 hBw107 kw108
    have c109 : Calls Try.prog 8 #[.pointer (some ⟨b, 0, none⟩), .int .i64 3, .int .i64 B] w108 fun e w' => e = .returned (.int .i64 0) ∧ Hq w' b (put (put (put (put (put (put (put z0 3 ⟨true, false, A, 0⟩) 9 ⟨true, false, B, 0⟩) 3 (took ((put (put z0 3 ⟨true, false, A, 0⟩) 9 ⟨true, false, B, 0⟩) 3) M)) 3 ⟨false, false, 0, 0⟩) 3 (took ((put (put (put (put z0 3 ⟨true, false, A, 0⟩) 9 ⟨true, false, B, 0⟩) 3 (took ((put (put z0 3 ⟨true, false, A, 0⟩) 9 ⟨true, false, B, 0⟩) 3) M)) 3 ⟨false, false, 0, 0⟩) 3) 0)) 3 (gave ((put (put (put (put (put z0 3 ⟨true, false, A, 0⟩) 9 ⟨true, false, B, 0⟩) 3 (took ((put (put z0 3 ⟨true, false, A, 0⟩) 9 ⟨true, false, B, 0⟩) 3) M)) 3 ⟨false, false, 0, 0⟩) 3 (took ((put (put (put (put z0 3 ⟨true, false, A, 0⟩) 9 ⟨true, false, B, 0⟩) 3 (took ((put (put z0 3 ⟨true, false, A, 0⟩) 9 ⟨true, false, B, 0⟩) 3) M)) 3 ⟨false, false, 0, 0⟩) 3) 0)) 3) 0)) 3 ⟨true, false, B, 0⟩) ∧ Kept (fun x => x = b) w108 w' := add_any b (put (put (put (put (put (put z0 3 ⟨true, false, A, 0⟩) 9 ⟨true, false, B, 0⟩) 3 (took ((put (put z0 3 ⟨true, false, A, 0⟩) 9 ⟨true, false, B, 0⟩) 3) M)) 3 ⟨false, false, 0, 0⟩) 3 (took ((put (put (put (put z0 3 ⟨true, false, A, 0⟩) 9 ⟨true, false, B, 0⟩) 3 (took ((put (put z0 3 ⟨true, false, A, 0⟩) 9 ⟨true, false, B, 0⟩) 3) M)) 3 ⟨false, false, 0, 0⟩) 3) 0)) 3 (gave ((put (put (put (put (put z0 3 ⟨true, false, A, 0⟩) 9 ⟨true, false, B, 0⟩) 3 (took ((put (put z0 3 ⟨true, false, A, 0⟩) 9 ⟨true, false, B, 0⟩) 3) M)) 3 ⟨false, false, 0, 0⟩) 3 (took ((put (put (put (put z0 3 ⟨true, false, A, 0⟩) 9 ⟨true, false, B, 0⟩) 3 (took ((put (put z0 3 ⟨true, false, A, 0⟩) 9 ⟨true, false, B, 0⟩) 3) M)) 3 ⟨false, false, 0, 0⟩) 3) 0)) 3) 0)) 3 (by omega) B (by omega) (by omega) rfl w108 hw108
    go_wp2_with fail
    refine c109.mono ?_
    rintro e w109 ⟨rfl, hw109, kw109⟩
    have hBw109 := hK hBw108 kw109
    clear c109 hw108 hBw108 kw109
    have c110 : Calls Try.prog 10 #[.pointer (some ⟨b, 0, none⟩), .int .i64 3] w109 fun e w' => e = .returned (.int .i64 B) ∧ ∃ m, w' = w109.drewN m := hB0 ▸ free_any b (put (put (put (put (put (put (put z0 3 ⟨true, false, A, 0⟩) 9 ⟨true, false, B, 0⟩) 3 (took ((put (put z0 3 ⟨true, false, A, 0⟩) 9 ⟨true, false, B, 0⟩) 3) M)) 3 ⟨false, false, 0, 0⟩) 3 (took ((put (put (put (put z0 3 ⟨true, false, A, 0⟩) 9 ⟨true, false, B, 0⟩) 3 (took ((put (put z0 3 ⟨true, false, A, 0⟩) 9 ⟨true, false, B, 0⟩) 3) M)) 3 ⟨false, false, 0, 0⟩) 3) 0)) 3 (gave ((put (put (put (put (put z0 3 ⟨true, false, A, 0⟩) 9 ⟨true, false, B, 0⟩) 3 (took ((put (put z0 3 ⟨true, false, A, 0⟩) 9 ⟨true, false, B, 0⟩) 3) M)) 3 ⟨false, false, 0, 0⟩) 3 (took ((put (put (put (put z0 3 ⟨true, false, A, 0⟩) 9 ⟨true, false, B, 0⟩) 3 (took ((put (put z0 3 ⟨true, false, A, 0⟩) 9 ⟨true, false, B, 0⟩) 3) M)) 3 ⟨false, false, 0, 0⟩) 3) 0)) 3) 0)) 3 ⟨true, false, B, 0⟩) 3 (by omega) (show good ⟨true, false, B, 0⟩ from ⟨by simp, by simp; omega, by simp; omega⟩) w109 hw109
    go_wp2_with fail
    refine c110.mono ?_
    rintro e w110 ⟨rfl, m, rfl⟩
    have hw110 := hw109.below (below_drewN (Below.refl _ _) m)
    have hBw110 := below_drewN hBw109 m
    clear c110 hw109 hBw109
    generalize w109.drewN m = w110 at *
    have c111 : Calls Try.prog 12 #[.pointer (some ⟨b, 0, none⟩), .int .i64 9] w110 fun e w' => e = .returned (.bool true) ∧ w110 = w' := up_any b (put (put (put (put (put (put (put z0 3 ⟨true, false, A, 0⟩) 9 ⟨true, false, B, 0⟩) 3 (took ((put (put z0 3 ⟨true, false, A, 0⟩) 9 ⟨true, false, B, 0⟩) 3) M)) 3 ⟨false, false, 0, 0⟩) 3 (took ((put (put (put (put z0 3 ⟨true, false, A, 0⟩) 9 ⟨true, false, B, 0⟩) 3 (took ((put (put z0 3 ⟨true, false, A, 0⟩) 9 ⟨true, false, B, 0⟩) 3) M)) 3 ⟨false, false, 0, 0⟩) 3) 0)) 3 (gave ((put (put (put (put (put z0 3 ⟨true, false, A, 0⟩) 9 ⟨true, false, B, 0⟩) 3 (took ((put (put z0 3 ⟨true, false, A, 0⟩) 9 ⟨true, false, B, 0⟩) 3) M)) 3 ⟨false, false, 0, 0⟩) 3 (took ((put (put (put (put z0 3 ⟨true, false, A, 0⟩) 9 ⟨true, false, B, 0⟩) 3 (took ((put (put z0 3 ⟨true, false, A, 0⟩) 9 ⟨true, false, B, 0⟩) 3) M)) 3 ⟨false, false, 0, 0⟩) 3) 0)) 3) 0)) 3 ⟨true, false, B, 0⟩) 9 (by omega) w110 hw110
    go_wp2_with fail
    refine c111.mono ?_
    rintro e w111 ⟨rfl, rfl⟩
    clear c111
    have c112 : Calls Try.prog 10 #[.pointer (some ⟨b, 0, none⟩), .int .i64 9] w110 fun e w' => e = .returned (.int .i64 B) ∧ ∃ m, w' = w110.drewN m := hB0 ▸ free_any b (put (put (put (put (put (put (put z0 3 ⟨true, false, A, 0⟩) 9 ⟨true, false, B, 0⟩) 3 (took ((put (put z0 3 ⟨true, false, A, 0⟩) 9 ⟨true, false, B, 0⟩) 3) M)) 3 ⟨false, false, 0, 0⟩) 3 (took ((put (put (put (put z0 3 ⟨true, false, A, 0⟩) 9 ⟨true, false, B, 0⟩) 3 (took ((put (put z0 3 ⟨true, false, A, 0⟩) 9 ⟨true, false, B, 0⟩) 3) M)) 3 ⟨false, false, 0, 0⟩) 3) 0)) 3 (gave ((put (put (put (put (put z0 3 ⟨true, false, A, 0⟩) 9 ⟨true, false, B, 0⟩) 3 (took ((put (put z0 3 ⟨true, false, A, 0⟩) 9 ⟨true, false, B, 0⟩) 3) M)) 3 ⟨false, false, 0, 0⟩) 3 (took ((put (put (put (put z0 3 ⟨true, false, A, 0⟩) 9 ⟨true, false, B, 0⟩) 3 (took ((put (put z0 3 ⟨true, false, A, 0⟩) 9 ⟨true, false, B, 0⟩) 3) M)) 3 ⟨false, false, 0, 0⟩) 3) 0)) 3) 0)) 3 ⟨true, false, B, 0⟩) 9 (by omega) (show good ⟨true, false, B, 0⟩ from ⟨by simp, by simp; omega, by simp; omega⟩) w110 hw110
    go_wp2_with fail
    refine c112.mono ?_
    rintro e w112 ⟨rfl, m, rfl⟩
    have hw112 := hw110.below (below_drewN (Below.refl _ _) m)
    have hBw112 := below_drewN hBw110 m
    clear c112 hw110 hBw110
    generalize w110.drewN m = w112 at *
    have c113 : Calls Try.prog 16 #[.pointer (some ⟨b, 0, none⟩), .int .i64 3] w112 fun e w' => e = .returned (.int .i64 0) ∧ Hq w' b (put (put (put (put (put (put (put (put z0 3 ⟨true, false, A, 0⟩) 9 ⟨true, false, B, 0⟩) 3 (took ((put (put z0 3 ⟨true, false, A, 0⟩) 9 ⟨true, false, B, 0⟩) 3) M)) 3 ⟨false, false, 0, 0⟩) 3 (took ((put (put (put (put z0 3 ⟨true, false, A, 0⟩) 9 ⟨true, false, B, 0⟩) 3 (took ((put (put z0 3 ⟨true, false, A, 0⟩) 9 ⟨true, false, B, 0⟩) 3) M)) 3 ⟨false, false, 0, 0⟩) 3) 0)) 3 (gave ((put (put (put (put (put z0 3 ⟨true, false, A, 0⟩) 9 ⟨true, false, B, 0⟩) 3 (took ((put (put z0 3 ⟨true, false, A, 0⟩) 9 ⟨true, false, B, 0⟩) 3) M)) 3 ⟨false, false, 0, 0⟩) 3 (took ((put (put (put (put z0 3 ⟨true, false, A, 0⟩) 9 ⟨true, false, B, 0⟩) 3 (took ((put (put z0 3 ⟨true, false, A, 0⟩) 9 ⟨true, false, B, 0⟩) 3) M)) 3 ⟨false, false, 0, 0⟩) 3) 0)) 3) 0)) 3 ⟨true, false, B, 0⟩) 3 (swept { (put (put (put (put (put (put (put z0 3 ⟨true, false, A, 0⟩) 9 ⟨true, false, B, 0⟩) 3 (took ((put (put z0 3 ⟨true, false, A, 0⟩) 9 ⟨true, false, B, 0⟩) 3) M)) 3 ⟨false, false, 0, 0⟩) 3 (took ((put (put (put (put z0 3 ⟨true, false, A, 0⟩) 9 ⟨true, false, B, 0⟩) 3 (took ((put (put z0 3 ⟨true, false, A, 0⟩) 9 ⟨true, false, B, 0⟩) 3) M)) 3 ⟨false, false, 0, 0⟩) 3) 0)) 3 (gave ((put (put (put (put (put z0 3 ⟨true, false, A, 0⟩) 9 ⟨true, false, B, 0⟩) 3 (took ((put (put z0 3 ⟨true, false, A, 0⟩) 9 ⟨true, false, B, 0⟩) 3) M)) 3 ⟨false, false, 0, 0⟩) 3 (took ((put (put (put (put z0 3 ⟨true, false, A, 0⟩) 9 ⟨true, false, B, 0⟩) 3 (took ((put (put z0 3 ⟨true, false, A, 0⟩) 9 ⟨true, false, B, 0⟩) 3) M)) 3 ⟨false, false, 0, 0⟩) 3) 0)) 3) 0)) 3 ⟨true, false, B, 0⟩) 3 with dr := true })) ∧ Kept (fun x => x = b) w112 w' := drain_any b (put (put (put (put (put (put (put z0 3 ⟨true, false, A, 0⟩) 9 ⟨true, false, B, 0⟩) 3 (took ((put (put z0 3 ⟨true, false, A, 0⟩) 9 ⟨true, false, B, 0⟩) 3) M)) 3 ⟨false, false, 0, 0⟩) 3 (took ((put (put (put (put z0 3 ⟨true, false, A, 0⟩) 9 ⟨true, false, B, 0⟩) 3 (took ((put (put z0 3 ⟨true, false, A, 0⟩) 9 ⟨true, false, B, 0⟩) 3) M)) 3 ⟨false, false, 0, 0⟩) 3) 0)) 3 (gave ((put (put (put (put (put z0 3 ⟨true, false, A, 0⟩) 9 ⟨true, false, B, 0⟩) 3 (took ((put (put z0 3 ⟨true, false, A, 0⟩) 9 ⟨true, false, B, 0⟩) 3) M)) 3 ⟨false, false, 0, 0⟩) 3 (took ((put (put (put (put z0 3 ⟨true, false, A, 0⟩) 9 ⟨true, false, B, 0⟩) 3 (took ((put (put z0 3 ⟨true, false, A, 0⟩) 9 ⟨true, false, B, 0⟩) 3) M)) 3 ⟨false, false, 0, 0⟩) 3) 0)) 3) 0)) 3 ⟨true, false, B, 0⟩) 3 (by omega) rfl rfl w112 hw112
    go_wp2_with fail
    refine c113.mono ?_
    rintro e w113 ⟨rfl, hw113, kw113⟩
    have hBw113 := hK hBw112 kw113
    clear c113 hw112 hBw112 kw113
    have c114 : Calls Try.prog 15 #[.pointer (some ⟨b, 0, none⟩), .int .i64 3] w113 fun e w' => e = .returned (.bool false) ∧ w113 = w' := isThere_any b (put (put (put (put (put (put (put (put z0 3 ⟨true, false, A, 0⟩) 9 ⟨true, false, B, 0⟩) 3 (took ((put (put z0 3 ⟨true, false, A, 0⟩) 9 ⟨true, false, B, 0⟩) 3) M)) 3 ⟨false, false, 0, 0⟩) 3 (took ((put (put (put (put z0 3 ⟨true, false, A, 0⟩) 9 ⟨true, false, B, 0⟩) 3 (took ((put (put z0 3 ⟨true, false, A, 0⟩) 9 ⟨true, false, B, 0⟩) 3) M)) 3 ⟨false, false, 0, 0⟩) 3) 0)) 3 (gave ((put (put (put (put (put z0 3 ⟨true, false, A, 0⟩) 9 ⟨true, false, B, 0⟩) 3 (took ((put (put z0 3 ⟨true, false, A, 0⟩) 9 ⟨true, false, B, 0⟩) 3) M)) 3 ⟨false, false, 0, 0⟩) 3 (took ((put (put (put (put z0 3 ⟨true, false, A, 0⟩) 9 ⟨true, false, B, 0⟩) 3 (took ((put (put z0 3 ⟨true, false, A, 0⟩) 9 ⟨true, false, B, 0⟩) 3) M)) 3 ⟨false, false, 0, 0⟩) 3) 0)) 3) 0)) 3 ⟨true, false, B, 0⟩) 3 (swept { (put (put (put (put (put (put (put z0 3 ⟨true, false, A, 0⟩) 9 ⟨true, false, B, 0⟩) 3 (took ((put (put z0 3 ⟨true, false, A, 0⟩) 9 ⟨true, false, B, 0⟩) 3) M)) 3 ⟨false, false, 0, 0⟩) 3 (took ((put (put (put (put z0 3 ⟨true, false, A, 0⟩) 9 ⟨true, false, B, 0⟩) 3 (took ((put (put z0 3 ⟨true, false, A, 0⟩) 9 ⟨true, false, B, 0⟩) 3) M)) 3 ⟨false, false, 0, 0⟩) 3) 0)) 3 (gave ((put (put (put (put (put z0 3 ⟨true, false, A, 0⟩) 9 ⟨true, false, B, 0⟩) 3 (took ((put (put z0 3 ⟨true, false, A, 0⟩) 9 ⟨true, false, B, 0⟩) 3) M)) 3 ⟨false, false, 0, 0⟩) 3 (took ((put (put (put (put z0 3 ⟨true, false, A, 0⟩) 9 ⟨true, false, B, 0⟩) 3 (took ((put (put z0 3 ⟨true, false, A, 0⟩) 9 ⟨true, false, B, 0⟩) 3) M)) 3 ⟨false, false, 0, 0⟩) 3) 0)) 3) 0)) 3 ⟨true, false, B, 0⟩) 3 with dr := true })) 3 (by omega) w113 hw113
    go_wp2_with fail
    refine c114.mono ?_
    rintro e w114 ⟨rfl, rfl⟩
    clear c114
    go_wp2_with fail
    go_ret
    exact ⟨rfl, hBw113⟩
  · have hm : mayTake ⟨true, false, A, 0⟩ M = false := by simp [mayTake]; omega
    have hth3 : ((put (put (put z0 3 ⟨true, false, A, 0⟩) 9 ⟨true, false, B, 0⟩) 3 (took ((put (put z0 3 ⟨true, false, A, 0⟩) 9 ⟨true, false, B, 0⟩) 3) M)) 3).th = true := took_th ⟨true, false, A, 0⟩ M
    have c100 : Calls Try.prog 8 #[.pointer (some ⟨b, 0, none⟩), .int .i64 3, .int .i64 A] w1 fun e w' => e = .returned (.int .i64 0) ∧ Hq w' b (put z0 3 ⟨true, false, A, 0⟩) ∧ Kept (fun x => x = b) w1 w' := add_any b z0 3 (by omega) A (by omega) (by omega) rfl w1 hw1
    go_wp2_with fail
    refine c100.mono ?_
    rintro e w100 ⟨rfl, hw100, kw100⟩
    have hBw100 := hK hBw1 kw100
    clear c100 hw1 hBw1 kw100
    have c101 : Calls Try.prog 8 #[.pointer (some ⟨b, 0, none⟩), .int .i64 9, .int .i64 B] w100 fun e w' => e = .returned (.int .i64 0) ∧ Hq w' b (put (put z0 3 ⟨true, false, A, 0⟩) 9 ⟨true, false, B, 0⟩) ∧ Kept (fun x => x = b) w100 w' := add_any b (put z0 3 ⟨true, false, A, 0⟩) 9 (by omega) B (by omega) (by omega) rfl w100 hw100
    go_wp2_with fail
    refine c101.mono ?_
    rintro e w101 ⟨rfl, hw101, kw101⟩
    have hBw101 := hK hBw100 kw101
    clear c101 hw100 hBw100 kw101
    have c102 : Calls Try.prog 9 #[.pointer (some ⟨b, 0, none⟩), .int .i64 3, .int .i64 M] w101 fun e w' => e = .returned (.bool (mayTake ⟨true, false, A, 0⟩ M)) ∧ Hq w' b (put (put (put z0 3 ⟨true, false, A, 0⟩) 9 ⟨true, false, B, 0⟩) 3 (took ((put (put z0 3 ⟨true, false, A, 0⟩) 9 ⟨true, false, B, 0⟩) 3) M)) ∧ Kept (fun x => x = b) w101 w' := take_any b (put (put z0 3 ⟨true, false, A, 0⟩) 9 ⟨true, false, B, 0⟩) 3 (by omega) (show good ⟨true, false, A, 0⟩ from ⟨by simp, by simp; omega, by simp; omega⟩) M (by omega) w101 hw101
    rw [hm] at c102
    go_wp2_with fail
    refine c102.mono ?_
    rintro e w102 ⟨rfl, hw102, kw102⟩
    have hBw102 := hK hBw101 kw102
    clear c102 hw101 hBw101 kw102
    have c103 : Calls Try.prog 10 #[.pointer (some ⟨b, 0, none⟩), .int .i64 9] w102 fun e w' => e = .returned (.int .i64 B) ∧ ∃ m, w' = w102.drewN m := hB0 ▸ free_any b (put (put (put z0 3 ⟨true, false, A, 0⟩) 9 ⟨true, false, B, 0⟩) 3 (took ((put (put z0 3 ⟨true, false, A, 0⟩) 9 ⟨true, false, B, 0⟩) 3) M)) 9 (by omega) (show good ⟨true, false, B, 0⟩ from ⟨by simp, by simp; omega, by simp; omega⟩) w102 hw102
    go_wp2_with fail
    refine c103.mono ?_
    rintro e w103 ⟨rfl, m, rfl⟩
    have hw103 := hw102.below (below_drewN (Below.refl _ _) m)
    have hBw103 := below_drewN hBw102 m
    clear c103 hw102 hBw102
    generalize w102.drewN m = w103 at *
    have c104 : Calls Try.prog 14 #[.pointer (some ⟨b, 0, none⟩), .int .i64 3] w103 fun e w' => e = .returned (.int .i64 0) ∧ Hq w' b (put (put (put (put z0 3 ⟨true, false, A, 0⟩) 9 ⟨true, false, B, 0⟩) 3 (took ((put (put z0 3 ⟨true, false, A, 0⟩) 9 ⟨true, false, B, 0⟩) 3) M)) 3 ⟨false, false, 0, 0⟩) ∧ Kept (fun x => x = b) w103 w' := fail_any b (put (put (put z0 3 ⟨true, false, A, 0⟩) 9 ⟨true, false, B, 0⟩) 3 (took ((put (put z0 3 ⟨true, false, A, 0⟩) 9 ⟨true, false, B, 0⟩) 3) M)) 3 (by omega) hth3 w103 hw103
    go_wp2_with fail
    refine c104.mono ?_
    rintro e w104 ⟨rfl, hw104, kw104⟩
    have hBw104 := hK hBw103 kw104
    clear c104 hw103 hBw103 kw104
    have c105 : Calls Try.prog 15 #[.pointer (some ⟨b, 0, none⟩), .int .i64 3] w104 fun e w' => e = .returned (.bool false) ∧ w104 = w' := isThere_any b (put (put (put (put z0 3 ⟨true, false, A, 0⟩) 9 ⟨true, false, B, 0⟩) 3 (took ((put (put z0 3 ⟨true, false, A, 0⟩) 9 ⟨true, false, B, 0⟩) 3) M)) 3 ⟨false, false, 0, 0⟩) 3 (by omega) w104 hw104
    go_wp2_with fail
    refine c105.mono ?_
    rintro e w105 ⟨rfl, rfl⟩
    clear c105
    have c106 : Calls Try.prog 10 #[.pointer (some ⟨b, 0, none⟩), .int .i64 3] w104 fun e w' => e = .returned (.int .i64 0) ∧ ∃ m, w' = w104.drewN m := free_any b (put (put (put (put z0 3 ⟨true, false, A, 0⟩) 9 ⟨true, false, B, 0⟩) 3 (took ((put (put z0 3 ⟨true, false, A, 0⟩) 9 ⟨true, false, B, 0⟩) 3) M)) 3 ⟨false, false, 0, 0⟩) 3 (by omega) ⟨Int.le_refl 0, Int.le_refl 0, (by decide : (0 : Int) ≤ 4096)⟩ w104 hw104
    go_wp2_with fail
    refine c106.mono ?_
    rintro e w106 ⟨rfl, m, rfl⟩
    have hw106 := hw104.below (below_drewN (Below.refl _ _) m)
    have hBw106 := below_drewN hBw104 m
    clear c106 hw104 hBw104
    generalize w104.drewN m = w106 at *
    have c107 : Calls Try.prog 9 #[.pointer (some ⟨b, 0, none⟩), .int .i64 3, .int .i64 0] w106 fun e w' => e = .returned (.bool false) ∧ Hq w' b (put (put (put (put (put z0 3 ⟨true, false, A, 0⟩) 9 ⟨true, false, B, 0⟩) 3 (took ((put (put z0 3 ⟨true, false, A, 0⟩) 9 ⟨true, false, B, 0⟩) 3) M)) 3 ⟨false, false, 0, 0⟩) 3 (took ((put (put (put (put z0 3 ⟨true, false, A, 0⟩) 9 ⟨true, false, B, 0⟩) 3 (took ((put (put z0 3 ⟨true, false, A, 0⟩) 9 ⟨true, false, B, 0⟩) 3) M)) 3 ⟨false, false, 0, 0⟩) 3) 0)) ∧ Kept (fun x => x = b) w106 w' := take_any b (put (put (put (put z0 3 ⟨true, false, A, 0⟩) 9 ⟨true, false, B, 0⟩) 3 (took ((put (put z0 3 ⟨true, false, A, 0⟩) 9 ⟨true, false, B, 0⟩) 3) M)) 3 ⟨false, false, 0, 0⟩) 3 (by omega) ⟨Int.le_refl 0, Int.le_refl 0, (by decide : (0 : Int) ≤ 4096)⟩ 0 (by omega) w106 hw106
    go_wp2_with fail
    refine c107.mono ?_
    rintro e w107 ⟨rfl, hw107, kw107⟩
    have hBw107 := hK hBw106 kw107
    clear c107 hw106 hBw106 kw107
    have c108 : Calls Try.prog 11 #[.pointer (some ⟨b, 0, none⟩), .int .i64 3, .int .i64 0] w107 fun e w' => e = .returned (.bool false) ∧ Hq w' b (put (put (put (put (put (put z0 3 ⟨true, false, A, 0⟩) 9 ⟨true, false, B, 0⟩) 3 (took ((put (put z0 3 ⟨true, false, A, 0⟩) 9 ⟨true, false, B, 0⟩) 3) M)) 3 ⟨false, false, 0, 0⟩) 3 (took ((put (put (put (put z0 3 ⟨true, false, A, 0⟩) 9 ⟨true, false, B, 0⟩) 3 (took ((put (put z0 3 ⟨true, false, A, 0⟩) 9 ⟨true, false, B, 0⟩) 3) M)) 3 ⟨false, false, 0, 0⟩) 3) 0)) 3 (gave ((put (put (put (put (put z0 3 ⟨true, false, A, 0⟩) 9 ⟨true, false, B, 0⟩) 3 (took ((put (put z0 3 ⟨true, false, A, 0⟩) 9 ⟨true, false, B, 0⟩) 3) M)) 3 ⟨false, false, 0, 0⟩) 3 (took ((put (put (put (put z0 3 ⟨true, false, A, 0⟩) 9 ⟨true, false, B, 0⟩) 3 (took ((put (put z0 3 ⟨true, false, A, 0⟩) 9 ⟨true, false, B, 0⟩) 3) M)) 3 ⟨false, false, 0, 0⟩) 3) 0)) 3) 0)) ∧ Kept (fun x => x = b) w107 w' := give_any b (put (put (put (put (put z0 3 ⟨true, false, A, 0⟩) 9 ⟨true, false, B, 0⟩) 3 (took ((put (put z0 3 ⟨true, false, A, 0⟩) 9 ⟨true, false, B, 0⟩) 3) M)) 3 ⟨false, false, 0, 0⟩) 3 (took ((put (put (put (put z0 3 ⟨true, false, A, 0⟩) 9 ⟨true, false, B, 0⟩) 3 (took ((put (put z0 3 ⟨true, false, A, 0⟩) 9 ⟨true, false, B, 0⟩) 3) M)) 3 ⟨false, false, 0, 0⟩) 3) 0)) 3 (by omega) ⟨Int.le_refl 0, Int.le_refl 0, (by decide : (0 : Int) ≤ 4096)⟩ 0 (by omega) w107 hw107
    go_wp2_with fail
    refine c108.mono ?_
    rintro e w108 ⟨rfl, hw108, kw108⟩
    have hBw108 := hK hBw107 kw108
    clear c108 hw107 hBw107 kw108
    have c109 : Calls Try.prog 8 #[.pointer (some ⟨b, 0, none⟩), .int .i64 3, .int .i64 B] w108 fun e w' => e = .returned (.int .i64 0) ∧ Hq w' b (put (put (put (put (put (put (put z0 3 ⟨true, false, A, 0⟩) 9 ⟨true, false, B, 0⟩) 3 (took ((put (put z0 3 ⟨true, false, A, 0⟩) 9 ⟨true, false, B, 0⟩) 3) M)) 3 ⟨false, false, 0, 0⟩) 3 (took ((put (put (put (put z0 3 ⟨true, false, A, 0⟩) 9 ⟨true, false, B, 0⟩) 3 (took ((put (put z0 3 ⟨true, false, A, 0⟩) 9 ⟨true, false, B, 0⟩) 3) M)) 3 ⟨false, false, 0, 0⟩) 3) 0)) 3 (gave ((put (put (put (put (put z0 3 ⟨true, false, A, 0⟩) 9 ⟨true, false, B, 0⟩) 3 (took ((put (put z0 3 ⟨true, false, A, 0⟩) 9 ⟨true, false, B, 0⟩) 3) M)) 3 ⟨false, false, 0, 0⟩) 3 (took ((put (put (put (put z0 3 ⟨true, false, A, 0⟩) 9 ⟨true, false, B, 0⟩) 3 (took ((put (put z0 3 ⟨true, false, A, 0⟩) 9 ⟨true, false, B, 0⟩) 3) M)) 3 ⟨false, false, 0, 0⟩) 3) 0)) 3) 0)) 3 ⟨true, false, B, 0⟩) ∧ Kept (fun x => x = b) w108 w' := add_any b (put (put (put (put (put (put z0 3 ⟨true, false, A, 0⟩) 9 ⟨true, false, B, 0⟩) 3 (took ((put (put z0 3 ⟨true, false, A, 0⟩) 9 ⟨true, false, B, 0⟩) 3) M)) 3 ⟨false, false, 0, 0⟩) 3 (took ((put (put (put (put z0 3 ⟨true, false, A, 0⟩) 9 ⟨true, false, B, 0⟩) 3 (took ((put (put z0 3 ⟨true, false, A, 0⟩) 9 ⟨true, false, B, 0⟩) 3) M)) 3 ⟨false, false, 0, 0⟩) 3) 0)) 3 (gave ((put (put (put (put (put z0 3 ⟨true, false, A, 0⟩) 9 ⟨true, false, B, 0⟩) 3 (took ((put (put z0 3 ⟨true, false, A, 0⟩) 9 ⟨true, false, B, 0⟩) 3) M)) 3 ⟨false, false, 0, 0⟩) 3 (took ((put (put (put (put z0 3 ⟨true, false, A, 0⟩) 9 ⟨true, false, B, 0⟩) 3 (took ((put (put z0 3 ⟨true, false, A, 0⟩) 9 ⟨true, false, B, 0⟩) 3) M)) 3 ⟨false, false, 0, 0⟩) 3) 0)) 3) 0)) 3 (by omega) B (by omega) (by omega) rfl w108 hw108
    go_wp2_with fail
    refine c109.mono ?_
    rintro e w109 ⟨rfl, hw109, kw109⟩
    have hBw109 := hK hBw108 kw109
    clear c109 hw108 hBw108 kw109
    have c110 : Calls Try.prog 10 #[.pointer (some ⟨b, 0, none⟩), .int .i64 3] w109 fun e w' => e = .returned (.int .i64 B) ∧ ∃ m, w' = w109.drewN m := hB0 ▸ free_any b (put (put (put (put (put (put (put z0 3 ⟨true, false, A, 0⟩) 9 ⟨true, false, B, 0⟩) 3 (took ((put (put z0 3 ⟨true, false, A, 0⟩) 9 ⟨true, false, B, 0⟩) 3) M)) 3 ⟨false, false, 0, 0⟩) 3 (took ((put (put (put (put z0 3 ⟨true, false, A, 0⟩) 9 ⟨true, false, B, 0⟩) 3 (took ((put (put z0 3 ⟨true, false, A, 0⟩) 9 ⟨true, false, B, 0⟩) 3) M)) 3 ⟨false, false, 0, 0⟩) 3) 0)) 3 (gave ((put (put (put (put (put z0 3 ⟨true, false, A, 0⟩) 9 ⟨true, false, B, 0⟩) 3 (took ((put (put z0 3 ⟨true, false, A, 0⟩) 9 ⟨true, false, B, 0⟩) 3) M)) 3 ⟨false, false, 0, 0⟩) 3 (took ((put (put (put (put z0 3 ⟨true, false, A, 0⟩) 9 ⟨true, false, B, 0⟩) 3 (took ((put (put z0 3 ⟨true, false, A, 0⟩) 9 ⟨true, false, B, 0⟩) 3) M)) 3 ⟨false, false, 0, 0⟩) 3) 0)) 3) 0)) 3 ⟨true, false, B, 0⟩) 3 (by omega) (show good ⟨true, false, B, 0⟩ from ⟨by simp, by simp; omega, by simp; omega⟩) w109 hw109
    go_wp2_with fail
    refine c110.mono ?_
    rintro e w110 ⟨rfl, m, rfl⟩
    have hw110 := hw109.below (below_drewN (Below.refl _ _) m)
    have hBw110 := below_drewN hBw109 m
    clear c110 hw109 hBw109
    generalize w109.drewN m = w110 at *
    have c111 : Calls Try.prog 12 #[.pointer (some ⟨b, 0, none⟩), .int .i64 9] w110 fun e w' => e = .returned (.bool true) ∧ w110 = w' := up_any b (put (put (put (put (put (put (put z0 3 ⟨true, false, A, 0⟩) 9 ⟨true, false, B, 0⟩) 3 (took ((put (put z0 3 ⟨true, false, A, 0⟩) 9 ⟨true, false, B, 0⟩) 3) M)) 3 ⟨false, false, 0, 0⟩) 3 (took ((put (put (put (put z0 3 ⟨true, false, A, 0⟩) 9 ⟨true, false, B, 0⟩) 3 (took ((put (put z0 3 ⟨true, false, A, 0⟩) 9 ⟨true, false, B, 0⟩) 3) M)) 3 ⟨false, false, 0, 0⟩) 3) 0)) 3 (gave ((put (put (put (put (put z0 3 ⟨true, false, A, 0⟩) 9 ⟨true, false, B, 0⟩) 3 (took ((put (put z0 3 ⟨true, false, A, 0⟩) 9 ⟨true, false, B, 0⟩) 3) M)) 3 ⟨false, false, 0, 0⟩) 3 (took ((put (put (put (put z0 3 ⟨true, false, A, 0⟩) 9 ⟨true, false, B, 0⟩) 3 (took ((put (put z0 3 ⟨true, false, A, 0⟩) 9 ⟨true, false, B, 0⟩) 3) M)) 3 ⟨false, false, 0, 0⟩) 3) 0)) 3) 0)) 3 ⟨true, false, B, 0⟩) 9 (by omega) w110 hw110
    go_wp2_with fail
    refine c111.mono ?_
    rintro e w111 ⟨rfl, rfl⟩
    clear c111
    have c112 : Calls Try.prog 10 #[.pointer (some ⟨b, 0, none⟩), .int .i64 9] w110 fun e w' => e = .returned (.int .i64 B) ∧ ∃ m, w' = w110.drewN m := hB0 ▸ free_any b (put (put (put (put (put (put (put z0 3 ⟨true, false, A, 0⟩) 9 ⟨true, false, B, 0⟩) 3 (took ((put (put z0 3 ⟨true, false, A, 0⟩) 9 ⟨true, false, B, 0⟩) 3) M)) 3 ⟨false, false, 0, 0⟩) 3 (took ((put (put (put (put z0 3 ⟨true, false, A, 0⟩) 9 ⟨true, false, B, 0⟩) 3 (took ((put (put z0 3 ⟨true, false, A, 0⟩) 9 ⟨true, false, B, 0⟩) 3) M)) 3 ⟨false, false, 0, 0⟩) 3) 0)) 3 (gave ((put (put (put (put (put z0 3 ⟨true, false, A, 0⟩) 9 ⟨true, false, B, 0⟩) 3 (took ((put (put z0 3 ⟨true, false, A, 0⟩) 9 ⟨true, false, B, 0⟩) 3) M)) 3 ⟨false, false, 0, 0⟩) 3 (took ((put (put (put (put z0 3 ⟨true, false, A, 0⟩) 9 ⟨true, false, B, 0⟩) 3 (took ((put (put z0 3 ⟨true, false, A, 0⟩) 9 ⟨true, false, B, 0⟩) 3) M)) 3 ⟨false, false, 0, 0⟩) 3) 0)) 3) 0)) 3 ⟨true, false, B, 0⟩) 9 (by omega) (show good ⟨true, false, B, 0⟩ from ⟨by simp, by simp; omega, by simp; omega⟩) w110 hw110
    go_wp2_with fail
    refine c112.mono ?_
    rintro e w112 ⟨rfl, m, rfl⟩
    have hw112 := hw110.below (below_drewN (Below.refl _ _) m)
    have hBw112 := below_drewN hBw110 m
    clear c112 hw110 hBw110
    generalize w110.drewN m = w112 at *
    have c113 : Calls Try.prog 16 #[.pointer (some ⟨b, 0, none⟩), .int .i64 3] w112 fun e w' => e = .returned (.int .i64 0) ∧ Hq w' b (put (put (put (put (put (put (put (put z0 3 ⟨true, false, A, 0⟩) 9 ⟨true, false, B, 0⟩) 3 (took ((put (put z0 3 ⟨true, false, A, 0⟩) 9 ⟨true, false, B, 0⟩) 3) M)) 3 ⟨false, false, 0, 0⟩) 3 (took ((put (put (put (put z0 3 ⟨true, false, A, 0⟩) 9 ⟨true, false, B, 0⟩) 3 (took ((put (put z0 3 ⟨true, false, A, 0⟩) 9 ⟨true, false, B, 0⟩) 3) M)) 3 ⟨false, false, 0, 0⟩) 3) 0)) 3 (gave ((put (put (put (put (put z0 3 ⟨true, false, A, 0⟩) 9 ⟨true, false, B, 0⟩) 3 (took ((put (put z0 3 ⟨true, false, A, 0⟩) 9 ⟨true, false, B, 0⟩) 3) M)) 3 ⟨false, false, 0, 0⟩) 3 (took ((put (put (put (put z0 3 ⟨true, false, A, 0⟩) 9 ⟨true, false, B, 0⟩) 3 (took ((put (put z0 3 ⟨true, false, A, 0⟩) 9 ⟨true, false, B, 0⟩) 3) M)) 3 ⟨false, false, 0, 0⟩) 3) 0)) 3) 0)) 3 ⟨true, false, B, 0⟩) 3 (swept { (put (put (put (put (put (put (put z0 3 ⟨true, false, A, 0⟩) 9 ⟨true, false, B, 0⟩) 3 (took ((put (put z0 3 ⟨true, false, A, 0⟩) 9 ⟨true, false, B, 0⟩) 3) M)) 3 ⟨false, false, 0, 0⟩) 3 (took ((put (put (put (put z0 3 ⟨true, false, A, 0⟩) 9 ⟨true, false, B, 0⟩) 3 (took ((put (put z0 3 ⟨true, false, A, 0⟩) 9 ⟨true, false, B, 0⟩) 3) M)) 3 ⟨false, false, 0, 0⟩) 3) 0)) 3 (gave ((put (put (put (put (put z0 3 ⟨true, false, A, 0⟩) 9 ⟨true, false, B, 0⟩) 3 (took ((put (put z0 3 ⟨true, false, A, 0⟩) 9 ⟨true, false, B, 0⟩) 3) M)) 3 ⟨false, false, 0, 0⟩) 3 (took ((put (put (put (put z0 3 ⟨true, false, A, 0⟩) 9 ⟨true, false, B, 0⟩) 3 (took ((put (put z0 3 ⟨true, false, A, 0⟩) 9 ⟨true, false, B, 0⟩) 3) M)) 3 ⟨false, false, 0, 0⟩) 3) 0)) 3) 0)) 3 ⟨true, false, B, 0⟩) 3 with dr := true })) ∧ Kept (fun x => x = b) w112 w' := drain_any b (put (put (put (put (put (put (put z0 3 ⟨true, false, A, 0⟩) 9 ⟨true, false, B, 0⟩) 3 (took ((put (put z0 3 ⟨true, false, A, 0⟩) 9 ⟨true, false, B, 0⟩) 3) M)) 3 ⟨false, false, 0, 0⟩) 3 (took ((put (put (put (put z0 3 ⟨true, false, A, 0⟩) 9 ⟨true, false, B, 0⟩) 3 (took ((put (put z0 3 ⟨true, false, A, 0⟩) 9 ⟨true, false, B, 0⟩) 3) M)) 3 ⟨false, false, 0, 0⟩) 3) 0)) 3 (gave ((put (put (put (put (put z0 3 ⟨true, false, A, 0⟩) 9 ⟨true, false, B, 0⟩) 3 (took ((put (put z0 3 ⟨true, false, A, 0⟩) 9 ⟨true, false, B, 0⟩) 3) M)) 3 ⟨false, false, 0, 0⟩) 3 (took ((put (put (put (put z0 3 ⟨true, false, A, 0⟩) 9 ⟨true, false, B, 0⟩) 3 (took ((put (put z0 3 ⟨true, false, A, 0⟩) 9 ⟨true, false, B, 0⟩) 3) M)) 3 ⟨false, false, 0, 0⟩) 3) 0)) 3) 0)) 3 ⟨true, false, B, 0⟩) 3 (by omega) rfl rfl w112 hw112
    go_wp2_with fail
    refine c113.mono ?_
    rintro e w113 ⟨rfl, hw113, kw113⟩
    have hBw113 := hK hBw112 kw113
    clear c113 hw112 hBw112 kw113
    have c114 : Calls Try.prog 15 #[.pointer (some ⟨b, 0, none⟩), .int .i64 3] w113 fun e w' => e = .returned (.bool false) ∧ w113 = w' := isThere_any b (put (put (put (put (put (put (put (put z0 3 ⟨true, false, A, 0⟩) 9 ⟨true, false, B, 0⟩) 3 (took ((put (put z0 3 ⟨true, false, A, 0⟩) 9 ⟨true, false, B, 0⟩) 3) M)) 3 ⟨false, false, 0, 0⟩) 3 (took ((put (put (put (put z0 3 ⟨true, false, A, 0⟩) 9 ⟨true, false, B, 0⟩) 3 (took ((put (put z0 3 ⟨true, false, A, 0⟩) 9 ⟨true, false, B, 0⟩) 3) M)) 3 ⟨false, false, 0, 0⟩) 3) 0)) 3 (gave ((put (put (put (put (put z0 3 ⟨true, false, A, 0⟩) 9 ⟨true, false, B, 0⟩) 3 (took ((put (put z0 3 ⟨true, false, A, 0⟩) 9 ⟨true, false, B, 0⟩) 3) M)) 3 ⟨false, false, 0, 0⟩) 3 (took ((put (put (put (put z0 3 ⟨true, false, A, 0⟩) 9 ⟨true, false, B, 0⟩) 3 (took ((put (put z0 3 ⟨true, false, A, 0⟩) 9 ⟨true, false, B, 0⟩) 3) M)) 3 ⟨false, false, 0, 0⟩) 3) 0)) 3) 0)) 3 ⟨true, false, B, 0⟩) 3 (swept { (put (put (put (put (put (put (put z0 3 ⟨true, false, A, 0⟩) 9 ⟨true, false, B, 0⟩) 3 (took ((put (put z0 3 ⟨true, false, A, 0⟩) 9 ⟨true, false, B, 0⟩) 3) M)) 3 ⟨false, false, 0, 0⟩) 3 (took ((put (put (put (put z0 3 ⟨true, false, A, 0⟩) 9 ⟨true, false, B, 0⟩) 3 (took ((put (put z0 3 ⟨true, false, A, 0⟩) 9 ⟨true, false, B, 0⟩) 3) M)) 3 ⟨false, false, 0, 0⟩) 3) 0)) 3 (gave ((put (put (put (put (put z0 3 ⟨true, false, A, 0⟩) 9 ⟨true, false, B, 0⟩) 3 (took ((put (put z0 3 ⟨true, false, A, 0⟩) 9 ⟨true, false, B, 0⟩) 3) M)) 3 ⟨false, false, 0, 0⟩) 3 (took ((put (put (put (put z0 3 ⟨true, false, A, 0⟩) 9 ⟨true, false, B, 0⟩) 3 (took ((put (put z0 3 ⟨true, false, A, 0⟩) 9 ⟨true, false, B, 0⟩) 3) M)) 3 ⟨false, false, 0, 0⟩) 3) 0)) 3) 0)) 3 ⟨true, false, B, 0⟩) 3 with dr := true })) 3 (by omega) w113 hw113
    go_wp2_with fail
    refine c114.mono ?_
    rintro e w114 ⟨rfl, rfl⟩
    clear c114
    go_wp2_with fail
    go_ret
    exact ⟨rfl, hBw113⟩
end Go.Proofs.Ytihhnejpnjcidaa
