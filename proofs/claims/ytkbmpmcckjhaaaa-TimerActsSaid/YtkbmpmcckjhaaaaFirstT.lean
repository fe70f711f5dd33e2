/- Of what is set the one that comes first: the law's own look over a map. -/
import Derived.Test.YtkbmpmcckjhaaaaTurnsP
import Derived.Deep.RegionHeld3
import Derived.BigQuiet
namespace Go.Proofs.Ytkbmpmcckjhaaaa
open Go.RowKit Go.Kpt HeapPure
set_option linter.unusedVariables false

set_option maxRecDepth 100000 in
set_option maxHeartbeats 2000000 in
theorem ahead_any (a b : Ke) (x y : Int) (w : World) :
    Calls Try.prog 22 #[kv a, kv b, .int .i64 x, .int .i64 y] w fun e w' => e = .returned (.bool (lt ⟨x, a.1, a.2⟩ ⟨y, b.1, b.2⟩)) ∧ Below w.heap.size w w' := by
  have hA : Kb (w.alloc (.cells #[.int .i64 a.1, .int .i64 a.2] 29)) w.heap.size a := heap_alloc_new _ _
  have kA : Below w.heap.size w (w.alloc (.cells #[.int .i64 a.1, .int .i64 a.2] 29)) := (Below.refl _ _).alloc (Nat.le_refl _) _
  obtain ⟨w1, hw1⟩ : ∃ w1, w.alloc (.cells #[.int .i64 a.1, .int .i64 a.2] 29) = w1 := ⟨_, rfl⟩
  rw [hw1] at hA kA
  have hB : Kb (w1.alloc (.cells #[.int .i64 b.1, .int .i64 b.2] 29)) w1.heap.size b := heap_alloc_new _ _
  have kB : Below w1.heap.size w1 (w1.alloc (.cells #[.int .i64 b.1, .int .i64 b.2] 29)) := (Below.refl _ _).alloc (Nat.le_refl _) _
  obtain ⟨w2, hw2⟩ : ∃ w2, w1.alloc (.cells #[.int .i64 b.1, .int .i64 b.2] 29) = w2 := ⟨_, rfl⟩
  rw [hw2] at hB kB
  have hA2 := hA.kept (Kept.of_below (F := fun _ => False) kB) (fun h => h)
  have hfin := kA.trans (kB.mono kA.size)
  obtain ⟨a0, a1⟩ := hA2.cells
  obtain ⟨b0, b1⟩ := hB.cells
  have hR : ∀ R, (R = true ↔ (x < y ∨ (x = y ∧ (a.1 < b.1 ∨ (a.1 = b.1 ∧ a.2 < b.2))))) → lt ⟨x, a.1, a.2⟩ ⟨y, b.1, b.2⟩ = R := fun R h => by
    have h2 := lt_iff ⟨x, a.1, a.2⟩ ⟨y, b.1, b.2⟩
    dsimp only at h2
    rw [← h] at h2
    cases hr : R <;> cases hl : lt ⟨x, a.1, a.2⟩ ⟨y, b.1, b.2⟩ <;> simp_all
  clear hA kA hB kB hA2
  obtain ⟨a1', a2'⟩ := a
  obtain ⟨b1', b2'⟩ := b
  dsimp only at *
  generalize lt ⟨x, a1', a2'⟩ ⟨y, b1', b2'⟩ = T at *
  by_cases h1 : x = y
  · by_cases h2 : a1' = b1'
    · by_cases h3 : a2' < b2'
      · have := hR true (by simp; omega)
        subst this
        subst h1 h2
        clear hR
        go_enter Try.func22, Try.ntmps22
        go_wp2_with fail
        go_ret
        exact ⟨rfl, hfin⟩
      · have := hR false (by simp; omega)
        subst this
        subst h1 h2
        clear hR
        go_enter Try.func22, Try.ntmps22
        go_wp2_with fail
        go_ret
        exact ⟨rfl, hfin⟩
    · by_cases h3 : a1' < b1'
      · have := hR true (by simp; omega)
        subst this
        subst h1
        clear hR
        go_enter Try.func22, Try.ntmps22
        go_wp2_with fail
        go_ret
        exact ⟨rfl, hfin⟩
      · have := hR false (by simp; omega)
        subst this
        subst h1
        clear hR
        go_enter Try.func22, Try.ntmps22
        go_wp2_with fail
        go_ret
        exact ⟨rfl, hfin⟩
  · by_cases h3 : x < y
    · have := hR true (by simp; omega)
      subst this
      clear hR
      go_enter Try.func22, Try.ntmps22
      go_wp2_with fail
      go_ret
      exact ⟨rfl, hfin⟩
    · have := hR false (by simp; omega)
      subst this
      clear hR
      go_enter Try.func22, Try.ntmps22
      go_wp2_with fail
      go_ret
      exact ⟨rfl, hfin⟩
end Go.Proofs.Ytkbmpmcckjhaaaa
