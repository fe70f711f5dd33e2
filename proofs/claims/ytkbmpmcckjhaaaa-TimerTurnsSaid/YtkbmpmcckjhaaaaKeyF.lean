/- The key of number i: a closure over the keys. And Next of one of two sets. -/
import Derived.Test.YtkbmpmcckjhaaaaTurnsP
import Derived.Test.YtkbmpmcckjhaaaaBits
namespace Go.Proofs.Ytkbmpmcckjhaaaa
open Go.RowKit Go.Kpt HeapPure
set_option linter.unusedVariables false

/-- Key number i. -/
def kf (K : List Int) (i : Nat) : Ke := (K.getD i 0 % 2, K.getD i 0 % 256)
theorem kf_ok (K : List Int) (i : Nat) : kok (kf K i) := ⟨WalkArith.wf_i64 (by show -9223372036854775808 ≤ K.getD i 0 % 2 ∧ K.getD i 0 % 2 ≤ 9223372036854775807; omega), WalkArith.wf_i64 (by show -9223372036854775808 ≤ K.getD i 0 % 256 ∧ K.getD i 0 % 256 ≤ 9223372036854775807; omega)⟩

set_option maxRecDepth 100000 in
set_option maxHeartbeats 2000000 in
theorem key_any (b bk off n cap0 i : Nat) (x : Int) (hi : i < n) (w : World) (hb : w.heap[b]? = some (.cells #[.slice (some ⟨bk, off, none⟩) n cap0] 22 (0, 0))) (hc : w.cell? ⟨bk, off + i, none⟩ = some (.int .i64 x)) :
    Calls Try.prog 11 #[.int .i64 i, .pointer (some ⟨b, 0, none⟩)] w fun e w' => e = .returned (kv (x % 2, x % 256)) ∧ Below w.heap.size w w' := by
  have hR : Kb (w.alloc (.cells #[.int .i64 0, .int .i64 0] 29)) w.heap.size (0, 0) := heap_alloc_new _ _
  have kA : Below w.heap.size w (w.alloc (.cells #[.int .i64 0, .int .i64 0] 29)) := (Below.refl _ _).alloc (Nat.le_refl _) _
  have q0 : (w.alloc (.cells #[.int .i64 0, .int .i64 0] 29)).cell? ⟨b, 0, none⟩ = some (.slice (some ⟨bk, off, none⟩) n cap0) := ((Kept.of_below (F := fun _ => False) kA).cell (lt_of hb) (fun h => h)).trans (cell_of hb)
  have q1 := ((Kept.of_below (F := fun _ => False) kA).cell (p := ⟨bk, off + i, none⟩) (block_lt_of_cell hc) (fun h => h)).trans hc
  obtain ⟨w1, hw1⟩ : ∃ w1, w.alloc (.cells #[.int .i64 0, .int .i64 0] 29) = w1 := ⟨_, rfl⟩
  rw [hw1] at hR kA q0 q1
  obtain ⟨b0, b1⟩ := hR.cells
  obtain ⟨f0, f1⟩ := hR.free
  have m1 := i64_and1 x
  have m2 := i64_and255 x
  obtain ⟨k1, hk1⟩ : ∃ k1, x % 2 = k1 := ⟨_, rfl⟩
  obtain ⟨k2, hk2⟩ : ∃ k2, x % 256 = k2 := ⟨_, rfl⟩
  rw [hk1] at m1
  rw [hk2] at m2
  rw [hk1, hk2]
  clear hk1 hk2 hb hc
  have ek : Kb ((set2 w1 w.heap.size (k1, k2)).drew) w.heap.size (k1, k2) := set2_kb hR (k1, k2)
  have eB : Below w.heap.size w ((set2 w1 w.heap.size (k1, k2)).drew) := kA.trans ((set2_kept w1 w.heap.size (k1, k2)).drew.below kA.size (fun x hx h => by omega))
  have j1 : (i : Int) < (n : Int) := by omega
  clear hR kA
  go_enter Try.func11, Try.ntmps11
  go_wp2_with fail
  go_region
  all_goals (go_wp2_with fail)
  all_goals change bodyPost _ _ _ _ _ (set2 w1 w.heap.size (k1, k2)).drew
  all_goals generalize (set2 w1 w.heap.size (k1, k2)).drew = w6 at *
  all_goals clear b0 b1 f0 f1
  all_goals obtain ⟨b0, b1⟩ := ek.cells
  all_goals refine bodyPost_ret (by simp [results, Try.results11, go_sem, b0, b1]; try rfl) rfl ?_
  all_goals exact ⟨rfl, eB⟩
theorem t2_next (base a b : Nat) (l m : List (Ke × Tm)) (now : Int) (hl : 0 < l.length) (hn : (vv l 0).at_ ≤ now) (Q : Nat → Prop) (w : World) (h : T2 w base a b l m Q) :
    Calls Try.prog 12 #[.pointer (some ⟨a, 0, none⟩), .int .i64 now] w fun e w' => e = .returned (.tuple #[kv (kk l 0), .bool true]) ∧ T2 w' base a b (drop lt l (kk l 0)) m Q ∧ Below base w w' ∧ Same Q w w' := by
  refine (T2.op (R := fun e _ X l' => e = .returned (.tuple #[kv (kk l 0), .bool true]) ∧ l' = drop lt l (kk l 0)) h fun Q' hX => (next_some base a l now hl hn Q' w hX).mono ?_).mono ?_
  · rintro e w' ⟨rfl, h1, h2, h3⟩
    exact ⟨fun _ => False, _, ⟨rfl, rfl⟩, h1.less (fun x hx => hx.elim id False.elim), fun x hx => hx.elim, h2, h3⟩
  · rintro e w' ⟨X, l', ⟨rfl, rfl⟩, h1, h2, h3⟩
    exact ⟨rfl, h1.less (fun x hx => .inl hx), h2, h3⟩
end Go.Proofs.Ytkbmpmcckjhaaaa
