/- The document's example. -/
import Derived.Test.YtihhnejpnjcidaaFit
namespace Go.Proofs.Ytihhnejpnjcidaa
open Go.RowKit Go.Kpt
set_option linter.unusedVariables false

def z0 : Nat → Ma := fun _ => ⟨false, false, 0, 0⟩
def e1 : Nat → Ma := put z0 0 ⟨true, false, 8, 0⟩
def e2 : Nat → Ma := put e1 1 ⟨true, false, 4, 0⟩
def e3 : Nat → Ma := put e2 1 (took (e2 1) 3)
def e4 : Nat → Ma := put e3 1 (swept { e3 1 with dr := true })
def e5 : Nat → Ma := put e4 1 (gave (e4 1) 3)
theorem good_e2 (h : Nat) : good (e2 h) := by simp only [e2, e1, put, z0]; split <;> (try split) <;> simp [good]
theorem fit_e2 : fitK e2 3 32 = some 1 := by decide +kernel

set_option maxRecDepth 100000 in
set_option maxHeartbeats 4000000 in
theorem head_any (w : World) : Calls Try.prog 6 #[] w fun e w' => e = .returned (.bool true) ∧ Below w.heap.size w w' := by
  go_enter Try.func6, Try.ntmps6
  go_wp2_with fail
  refine (new_any w).mono ?_
  rintro e w1 ⟨rfl, h1, hB1, hs1⟩
  obtain ⟨b, hb⟩ : ∃ b, w.heap.size = b := ⟨_, rfl⟩
  have hbw : w.heap.size ≤ b := by omega
  have hB1' := hB1
  rw [hb] at h1 ⊢
  have hK : ∀ {u u' : World}, Below w.heap.size w u → Kept (fun x => x = b) u u' → Below w.heap.size w u' := fun hB k => hB.trans (k.below hB.size (fun x hx h => by omega))
  have c1 : Calls Try.prog 8 #[.pointer (some ⟨b, 0, none⟩), .int .i64 0, .int .i64 8] w1 fun e w' => e = .returned (.int .i64 0) ∧ Hq w' b e1 ∧ Kept (fun x => x = b) w1 w' := add_any b z0 0 (by omega) 8 (by omega) (by omega) rfl w1 h1
  clear hs1 hB1' hb
  go_wp2_with fail
  refine c1.mono ?_
  rintro e w2 ⟨rfl, h2, k2⟩
  have hB2 := hK hB1 k2
  have c2 : Calls Try.prog 8 #[.pointer (some ⟨b, 0, none⟩), .int .i64 1, .int .i64 4] w2 fun e w' => e = .returned (.int .i64 0) ∧ Hq w' b e2 ∧ Kept (fun x => x = b) w2 w' := add_any b e1 1 (by omega) 4 (by omega) (by omega) rfl w2 h2
  clear c1 h1 hB1 k2
  go_wp2_with fail
  refine c2.mono ?_
  rintro e w3 ⟨rfl, h3, k3⟩
  have hB3 := hK hB2 k3
  have c3 := fit_any b e2 (fun h _ => good_e2 h) 3 (by omega) w3 h3
  rw [fit_e2] at c3
  have c3 : Calls Try.prog 13 #[.pointer (some ⟨b, 0, none⟩), .int .i64 3] w3 fun e w' => e = .returned (.tuple #[.int .i64 1, .bool true]) ∧ Hq w' b e2 ∧ Below w3.heap.size w3 w' := c3
  clear c2 h2 hB2 k3
  go_wp2_with fail
  refine c3.mono ?_
  rintro e w4 ⟨rfl, h4, k4⟩
  have hB4 := hB3.trans (k4.mono hB3.size)
  have c4 : Calls Try.prog 9 #[.pointer (some ⟨b, 0, none⟩), .int .i64 1, .int .i64 3] w4 fun e w' => e = .returned (.bool true) ∧ Hq w' b e3 ∧ Kept (fun x => x = b) w4 w' := take_any b e2 1 (by omega) (good_e2 1) 3 (by omega) w4 h4
  clear c3 h3 hB3 k4
  go_wp2_with fail
  refine c4.mono ?_
  rintro e w5 ⟨rfl, h5, k5⟩
  have hB5 := hK hB4 k5
  have c5 : Calls Try.prog 10 #[.pointer (some ⟨b, 0, none⟩), .int .i64 1] w5 fun e w' => e = .returned (.int .i64 1) ∧ ∃ m, w' = w5.drewN m := free_any b e3 1 (by omega) (by decide) w5 h5
  clear c4 h4 hB4 k5
  go_wp2_with fail
  refine c5.mono ?_
  rintro e w5' ⟨rfl, m, rfl⟩
  have h6 := h5.below (below_drewN (Below.refl _ _) m)
  have hB6 := below_drewN hB5 m
  clear c5 h5 hB5
  generalize w5.drewN m = w6 at *
  have c6 : Calls Try.prog 16 #[.pointer (some ⟨b, 0, none⟩), .int .i64 1] w6 fun e w' => e = .returned (.int .i64 0) ∧ Hq w' b e4 ∧ Kept (fun x => x = b) w6 w' := drain_any b e3 1 (by omega) rfl rfl w6 h6
  go_wp2_with fail
  refine c6.mono ?_
  rintro e w7 ⟨rfl, h7, k7⟩
  have hB7 := hK hB6 k7
  have c7 : Calls Try.prog 15 #[.pointer (some ⟨b, 0, none⟩), .int .i64 1] w7 fun e w' => e = .returned (.bool true) ∧ w7 = w' := isThere_any b e4 1 (by omega) w7 h7
  clear c6 h6 hB6 k7
  go_wp2_with fail
  refine c7.mono ?_
  rintro e w8 ⟨rfl, rfl⟩
  have c8 : Calls Try.prog 11 #[.pointer (some ⟨b, 0, none⟩), .int .i64 1, .int .i64 3] w7 fun e w' => e = .returned (.bool true) ∧ Hq w' b e5 ∧ Kept (fun x => x = b) w7 w' := give_any b e4 1 (by omega) (by decide) 3 (by omega) w7 h7
  clear c7
  go_wp2_with fail
  refine c8.mono ?_
  rintro e w9 ⟨rfl, h9, k9⟩
  have hB9 := hK hB7 k9
  have c9 : Calls Try.prog 15 #[.pointer (some ⟨b, 0, none⟩), .int .i64 1] w9 fun e w' => e = .returned (.bool false) ∧ w9 = w' := isThere_any b e5 1 (by omega) w9 h9
  clear c8 h7 hB7 k9
  go_wp2_with fail
  refine c9.mono ?_
  rintro e w10 ⟨rfl, rfl⟩
  go_wp2_with fail
  go_ret
  exact ⟨rfl, hB9⟩
end Go.Proofs.Ytihhnejpnjcidaa
