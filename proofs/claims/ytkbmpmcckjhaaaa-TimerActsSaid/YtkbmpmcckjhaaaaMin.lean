/- What a heap's functions do: Min. -/
import Derived.Test.YtkbmpmcckjhaaaaOps
namespace Go.Proofs.Ytkbmpmcckjhaaaa
open Go.RowKit Go.Kpt HeapPure
set_option linter.unusedVariables false

set_option maxHeartbeats 2000000 in
theorem min_none (base hb : Nat) (v : Value) (mb : Nat) (w : World) (h : Hp w base hb fv17 v mb []) :
    Calls Try.prog 20 #[.pointer (some ⟨hb, 0, none⟩)] w fun e w' => e = .returned (.tuple #[kv (0, 0), .agg #[.int .i64 0, .int .i64 0, .int .i64 0], .bool false]) ∧ Below w.heap.size w w' := by
  have hA : Kb (w.alloc (.cells #[.int .i64 0, .int .i64 0] 29)) w.heap.size (0, 0) := heap_alloc_new _ _
  have k1 : Kept (fun _ => False) w (w.alloc (.cells #[.int .i64 0, .int .i64 0] 29)) := (Kept.refl _ w).alloc _
  have hz1 : w.heap.size < (w.alloc (.cells #[.int .i64 0, .int .i64 0] 29)).heap.size := by simp
  obtain ⟨w1, hw1⟩ : ∃ w1, w.alloc (.cells #[.int .i64 0, .int .i64 0] 29) = w1 := ⟨_, rfl⟩
  rw [hw1] at hA k1 hz1
  have hM : Mb (w1.alloc (.cells #[.int .i64 0, .int .i64 0, .int .i64 0] 51)) w1.heap.size 0 0 0 := heap_alloc_new _ _
  have k2' : Kept (fun _ => False) w1 (w1.alloc (.cells #[.int .i64 0, .int .i64 0, .int .i64 0] 51)) := (Kept.refl _ w1).alloc _
  have hz2 : w1.heap.size < (w1.alloc (.cells #[.int .i64 0, .int .i64 0, .int .i64 0] 51)).heap.size := by simp
  obtain ⟨w2, hw2⟩ : ∃ w2, w1.alloc (.cells #[.int .i64 0, .int .i64 0, .int .i64 0] 51) = w2 := ⟨_, rfl⟩
  rw [hw2] at hM k2' hz2
  have k2 := k1.trans k2' (fun _ _ h => h)
  have hA2 := hA.kept k2' (fun h => h)
  have hblk := (k2.block hb (lt_of h.blk) (fun h => h)).trans h.blk
  have hN : (w2.alloc (.cells #[.int .i64 0, .int .i64 0, .int .i64 0, .int .i64 0, .int .i64 0] 70)).heap[w2.heap.size]? = some (.cells #[.int .i64 0, .int .i64 0, .int .i64 0, .int .i64 0, .int .i64 0] 70 (0, 0)) := heap_alloc_new _ _
  have k3' : Kept (fun _ => False) w2 (w2.alloc (.cells #[.int .i64 0, .int .i64 0, .int .i64 0, .int .i64 0, .int .i64 0] 70)) := (Kept.refl _ w2).alloc _
  obtain ⟨w3, hw3⟩ : ∃ w3, w2.alloc (.cells #[.int .i64 0, .int .i64 0, .int .i64 0, .int .i64 0, .int .i64 0] 70) = w3 := ⟨_, rfl⟩
  rw [hw3] at hN k3'
  have k3 := k2.trans k3' (fun _ _ h => h)
  have hA3 := hA2.kept k3' (fun h => h)
  have hM3 := hM.kept k3' (fun h => h)
  obtain ⟨a0, a1⟩ := hA3.cells
  obtain ⟨d0, d1⟩ := hA3.free
  obtain ⟨b0, b1, b2⟩ := hM3.cells
  obtain ⟨f0, f1, f2⟩ := hM3.free
  have n0 : w3.cell? ⟨w2.heap.size, 0, none⟩ = some (.int .i64 0) := cell_of hN
  have n1 : w3.cell? ⟨w2.heap.size, 1, none⟩ = some (.int .i64 0) := cell_of hN
  have n2 : w3.cell? ⟨w2.heap.size, 2, none⟩ = some (.int .i64 0) := cell_of hN
  have n3 : w3.cell? ⟨w2.heap.size, 3, none⟩ = some (.int .i64 0) := cell_of hN
  have n4 : w3.cell? ⟨w2.heap.size, 4, none⟩ = some (.int .i64 0) := cell_of hN
  have hne1 : w.heap.size ≠ w1.heap.size := by omega
  have hsh : v = .slice none 0 0 ∨ ∃ g cap, v = .slice (some ⟨g, 0, none⟩) 0 cap := by
    rcases h.own.shape with ⟨rfl, -⟩ | ⟨g, cap, rfl, -⟩
    · exact .inl rfl
    · exact .inr ⟨g, cap, rfl⟩
  have ea6 : Kb (set3 (set2 w3 w.heap.size (0, 0)) w1.heap.size 0 0 0).drew w.heap.size (0, 0) := (set2_kb hA3 (0, 0)).kept ((set3_kept _ w1.heap.size 0 0 0).drew) hne1
  have eb6 : Mb (set3 (set2 w3 w.heap.size (0, 0)) w1.heap.size 0 0 0).drew w1.heap.size 0 0 0 := set3_mb (hM3.kept (set2_kept w3 w.heap.size (0, 0)) (Ne.symm hne1)) 0 0 0
  have k6 : Kept (fun x => x = w.heap.size ∨ x = w1.heap.size) w3 (set3 (set2 w3 w.heap.size (0, 0)) w1.heap.size 0 0 0).drew := ((set2_kept w3 w.heap.size (0, 0)).mono (fun _ _ h => .inl h)).trans ((set3_kept _ w1.heap.size 0 0 0).drew) (fun _ _ h => .inr h)
  have hB6 : Below w.heap.size w (set3 (set2 w3 w.heap.size (0, 0)) w1.heap.size 0 0 0).drew := (k3.trans k6 (G := fun x => x = w.heap.size ∨ x = w1.heap.size) (F := fun _ => False) (fun x hx h => by omega)).below (Nat.le_refl _) (fun _ _ h => h)
  clear hA k1 hz1 hz2 hN hA2 k2 k2' k3' h k3 k6 hM hA3 hM3
  rcases hsh with rfl | ⟨g, cap, rfl⟩
  all_goals
    have q1 := cell_of (j := 1) hblk
    simp at q1
    clear hblk
    go_enter Try.func20, Try.ntmps20
    go_wp2_with fail
    go_region
    all_goals (go_wp2_with fail)
    all_goals change bodyPost _ _ _ _ _ (set3 (set2 w3 w.heap.size (0, 0)) w1.heap.size 0 0 0).drew
    all_goals generalize (set3 (set2 w3 w.heap.size (0, 0)) w1.heap.size 0 0 0).drew = w6 at *
    all_goals clear a0 a1 d0 d1 b0 b1 b2 f0 f1 f2
    all_goals obtain ⟨a0, a1⟩ := ea6.cells
    all_goals obtain ⟨b0, b1, b2⟩ := eb6.cells
    all_goals refine bodyPost_ret (by simp [results, Try.results20, go_sem, a0, a1, b0, b1, b2]; try rfl) rfl ?_
    all_goals exact ⟨rfl, hB6⟩

set_option maxHeartbeats 2000000 in
theorem min_some (base hb : Nat) (v : Value) (mb : Nat) (l : List (Ke × Tm)) (hl : 0 < l.length) (w : World) (h : Hp w base hb fv17 v mb l) :
    Calls Try.prog 20 #[.pointer (some ⟨hb, 0, none⟩)] w fun e w' => e = .returned (.tuple #[kv (kk l 0), mv (vv l 0), .bool true]) ∧ Below w.heap.size w w' := by
  have hA : Kb (w.alloc (.cells #[.int .i64 0, .int .i64 0] 29)) w.heap.size (0, 0) := heap_alloc_new _ _
  have k1 : Kept (fun _ => False) w (w.alloc (.cells #[.int .i64 0, .int .i64 0] 29)) := (Kept.refl _ w).alloc _
  have hz1 : w.heap.size < (w.alloc (.cells #[.int .i64 0, .int .i64 0] 29)).heap.size := by simp
  obtain ⟨w1, hw1⟩ : ∃ w1, w.alloc (.cells #[.int .i64 0, .int .i64 0] 29) = w1 := ⟨_, rfl⟩
  rw [hw1] at hA k1 hz1
  have hM : Mb (w1.alloc (.cells #[.int .i64 0, .int .i64 0, .int .i64 0] 51)) w1.heap.size 0 0 0 := heap_alloc_new _ _
  have k2' : Kept (fun _ => False) w1 (w1.alloc (.cells #[.int .i64 0, .int .i64 0, .int .i64 0] 51)) := (Kept.refl _ w1).alloc _
  obtain ⟨w2, hw2⟩ : ∃ w2, w1.alloc (.cells #[.int .i64 0, .int .i64 0, .int .i64 0] 51) = w2 := ⟨_, rfl⟩
  rw [hw2] at hM k2'
  have k2 := k1.trans k2' (fun _ _ h => h)
  have hA2 := hA.kept k2' (fun h => h)
  have h2 := h.kept k2 (fun h => h) (fun h => h) (fun _ _ h => h)
  have hgl := h.own.lt
  rcases h2.own.shape with ⟨-, rfl⟩ | ⟨g, cap, rfl, hg1, hg2, hlc, hcm, -, hcl⟩
  · simp at hl
  have hgw : g < w.heap.size := (hgl g rfl).2
  have q1 : w2.cell? ⟨hb, 1, none⟩ = some (.slice (some ⟨g, 0, none⟩) l.length cap) := cell_of h2.blk
  obtain ⟨c0, c1, c2, c3, c4⟩ := hcl 0 hl
  simp only [Nat.zero_mul, Nat.zero_add] at c0 c1 c2 c3 c4
  have hlen : (0 : Int) < (l.length : Int) := by omega
  have hne : ((l.length : Int) == 0) = false := beq_eq_false_iff_ne.2 (by omega)
  have e0 : kk l 0 = (l.getD 0 default).1 := rfl
  have e1 : vv l 0 = (l.getD 0 default).2 := rfl
  rw [← e0] at c0 c1
  rw [← e1] at c2 c3 c4
  obtain ⟨a0, a1⟩ := hA2.cells
  obtain ⟨d0, d1⟩ := hA2.free
  obtain ⟨b0, b1, b2⟩ := hM.cells
  obtain ⟨f0, f1, f2⟩ := hM.free
  have hga : g ≠ w.heap.size := by omega
  have hgb : g ≠ w1.heap.size := by omega
  have hhl := lt_of h.blk
  have hha : hb ≠ w.heap.size := by omega
  have hhb : hb ≠ w1.heap.size := by omega
  have hne1 : w.heap.size ≠ w1.heap.size := by omega
  generalize kk l 0 = a at *
  obtain ⟨m, hm⟩ : ∃ m, vv l 0 = m := ⟨_, rfl⟩
  rw [hm] at c2 c3 c4 ⊢
  have ea6 : Kb (set3 (set2 w2 w.heap.size a) w1.heap.size m.at_ m.kd m.id).drew w.heap.size a := (set2_kb hA2 a).kept ((set3_kept _ w1.heap.size m.at_ m.kd m.id).drew) hne1
  have eb6 : Mb (set3 (set2 w2 w.heap.size a) w1.heap.size m.at_ m.kd m.id).drew w1.heap.size m.at_ m.kd m.id := set3_mb (hM.kept (set2_kept w2 w.heap.size a) (Ne.symm hne1)) m.at_ m.kd m.id
  have k6 : Kept (fun x => x = w.heap.size ∨ x = w1.heap.size) w2 (set3 (set2 w2 w.heap.size a) w1.heap.size m.at_ m.kd m.id).drew := ((set2_kept w2 w.heap.size a).mono (fun _ _ h => .inl h)).trans ((set3_kept _ w1.heap.size m.at_ m.kd m.id).drew) (fun _ _ h => .inr h)
  have hB6 : Below w.heap.size w (set3 (set2 w2 w.heap.size a) w1.heap.size m.at_ m.kd m.id).drew := (k2.trans k6 (G := fun x => x = w.heap.size ∨ x = w1.heap.size) (F := fun _ => False) (fun x hx h => by omega)).below (Nat.le_refl _) (fun _ _ h => h)
  clear e0 e1 hcl h h2 hA hA2 hM k1 k2 k2' k6 hm hgl hz1
  go_enter Try.func20, Try.ntmps20
  go_wp2_with fail
  go_region
  all_goals (go_wp2_with fail)
  all_goals change bodyPost _ _ _ _ _ (set3 (set2 w2 w.heap.size a) w1.heap.size m.at_ m.kd m.id).drew
  all_goals generalize (set3 (set2 w2 w.heap.size a) w1.heap.size m.at_ m.kd m.id).drew = w6 at *
  all_goals clear a0 a1 d0 d1 b0 b1 b2 f0 f1 f2
  all_goals obtain ⟨a0, a1⟩ := ea6.cells
  all_goals obtain ⟨b0, b1, b2⟩ := eb6.cells
  all_goals refine bodyPost_ret (by simp [results, Try.results20, go_sem, a0, a1, b0, b1, b2]; try rfl) rfl ?_
  all_goals exact ⟨rfl, hB6⟩
end Go.Proofs.Ytkbmpmcckjhaaaa
