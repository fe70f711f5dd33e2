/- What a heap's functions do: Min, Get. -/
import Derived.Test.YtamifcgljockaaaOps
namespace Go.Proofs.Ytamifcgljockaaa
open Go.RowKit Go.Kpt HeapPure
set_option linter.unusedVariables false

set_option maxHeartbeats 2000000 in
theorem min_some (base hb : Nat) (v : Value) (mb : Nat) (l : List (Int × Mk)) (hl : 0 < l.length) (w : World) (h : Hp w base hb fv20 v mb l) :
    Calls Try.prog 23 #[.pointer (some ⟨hb, 0, none⟩)] w fun e w' => e = .returned (.tuple #[.int .i64 (kk l 0), mv (vv l 0), .bool true]) ∧ Below w.heap.size w w' := by
  have hM : Mb (w.alloc (.cells #[.int .u64 0, .int .u64 0, .int .i64 0] 50)) w.heap.size 0 0 0 := heap_alloc_new _ _
  have k1 : Kept (fun _ => False) w (w.alloc (.cells #[.int .u64 0, .int .u64 0, .int .i64 0] 50)) := (Kept.refl _ w).alloc _
  obtain ⟨w1, hw1⟩ : ∃ w1, w.alloc (.cells #[.int .u64 0, .int .u64 0, .int .i64 0] 50) = w1 := ⟨_, rfl⟩
  rw [hw1] at hM k1
  have h1 := h.kept k1 (fun h => h) (fun h => h) (fun _ _ h => h)
  rcases h1.own.shape with ⟨-, rfl⟩ | ⟨g, cap, rfl, hg1, hg2, hlc, hcm, -, hcl⟩
  · simp at hl
  have q1 : w1.cell? ⟨hb, 1, none⟩ = some (.slice (some ⟨g, 0, none⟩) l.length cap) := cell_of h1.blk
  obtain ⟨c0, c1, c2, c3⟩ := hcl 0 hl
  simp only [Nat.zero_mul, Nat.zero_add] at c0 c1 c2 c3
  have hlen : (0 : Int) < (l.length : Int) := by omega
  have hne : ((l.length : Int) == 0) = false := beq_eq_false_iff_ne.2 (by omega)
  have e0 : kk l 0 = (l.getD 0 default).1 := rfl
  have e1 : vv l 0 = (l.getD 0 default).2 := rfl
  rw [← e0] at c0
  rw [← e1] at c1 c2 c3
  obtain ⟨b0, b1, b2⟩ := hM.cells
  obtain ⟨f0, f1, f2⟩ := hM.free
  have hgb : g ≠ w.heap.size := by
    intro e
    have hm : w1.cell? ⟨g, 0, none⟩ = some (.int .u64 0) := by rw [e]; exact b0
    rw [c0] at hm
    cases hm
  generalize kk l 0 = a at *
  obtain ⟨m, hm⟩ : ∃ m, vv l 0 = m := ⟨_, rfl⟩
  rw [hm] at c1 c2 c3 ⊢
  have ev6 : Mb (set3 w1 w.heap.size m.n m.d m.id).drew w.heap.size m.n m.d m.id := (set3_mb hM m.n m.d m.id).drew
  have k6 : Kept (fun x => x = w.heap.size) w1 (set3 w1 w.heap.size m.n m.d m.id).drew := (set3_kept w1 w.heap.size m.n m.d m.id).drew
  have hB6 : Below w.heap.size w (set3 w1 w.heap.size m.n m.d m.id).drew := (k1.trans k6 (G := fun x => x = w.heap.size) (F := fun _ => False) (fun x hx h => by omega)).below (Nat.le_refl _) (fun _ _ h => h)
  clear e0 e1 hcl h h1 hM k1 k6 hm
  go_enter Try.func23, Try.ntmps23
  go_wp2_with fail
  go_region
  all_goals (go_wp2_with fail)
  all_goals change bodyPost _ _ _ _ _ (set3 w1 w.heap.size m.n m.d m.id).drew
  all_goals generalize (set3 w1 w.heap.size m.n m.d m.id).drew = w6 at *
  all_goals clear b0 b1 b2 f0 f1 f2
  all_goals obtain ⟨b0, b1, b2⟩ := ev6.cells
  all_goals refine bodyPost_ret (by simp [results, Try.results23, go_sem, b0, b1, b2]; try rfl) rfl ?_
  all_goals exact ⟨rfl, hB6⟩

/-- A worth that may not be there. -/
def gv : Option Mk → Value
  | none => .agg #[.int .u64 0, .int .u64 0, .int .i64 0]
  | some m => mv m

set_option maxHeartbeats 2000000 in
theorem get_any (base hb : Nat) (v : Value) (mb : Nat) (l : List (Int × Mk)) (k : Int) (hk : (Lit.int .i64 k).wf = true) (w : World) (h : Hp w base hb fv20 v mb l) :
    Calls Try.prog 27 #[.pointer (some ⟨hb, 0, none⟩), .int .i64 k] w fun e w' => e = .returned (.tuple #[gv (HeapPure.get l k), .bool (HeapPure.get l k).isSome]) ∧ Below w.heap.size w w' := by
  have hM : Mb (w.alloc (.cells #[.int .u64 0, .int .u64 0, .int .i64 0] 50)) w.heap.size 0 0 0 := heap_alloc_new _ _
  have k1 : Kept (fun _ => False) w (w.alloc (.cells #[.int .u64 0, .int .u64 0, .int .i64 0] 50)) := (Kept.refl _ w).alloc _
  obtain ⟨w1, hw1⟩ : ∃ w1, w.alloc (.cells #[.int .u64 0, .int .u64 0, .int .i64 0] 50) = w1 := ⟨_, rfl⟩
  rw [hw1] at hM k1
  have h1 := h.kept k1 (fun h => h) (fun h => h) (fun _ _ h => h)
  have q1 : w1.cell? ⟨hb, 1, none⟩ = some v := cell_of h1.blk
  have q2 : w1.cell? ⟨hb, 2, none⟩ = some (.map (some mb)) := cell_of h1.blk
  cases e : idx l k with
  | none =>
    have hm : mi l k = none := by unfold mi; rw [e]; rfl
    have hg : HeapPure.get l k = none := by unfold HeapPure.get; rw [e]; rfl
    rw [hg]
    have hM2 : Mb (w1.alloc (.cells #[.int .u64 0, .int .u64 0, .int .i64 0] 50)) w.heap.size 0 0 0 := hM.kept ((Kept.refl (fun _ => False) w1).alloc _) (fun h => h)
    have hN : Mb (w1.alloc (.cells #[.int .u64 0, .int .u64 0, .int .i64 0] 50)) w1.heap.size 0 0 0 := heap_alloc_new _ _
    have k2 : Kept (fun _ => False) w (w1.alloc (.cells #[.int .u64 0, .int .u64 0, .int .i64 0] 50)) := k1.alloc _
    obtain ⟨w2, hw2⟩ : ∃ w2, w1.alloc (.cells #[.int .u64 0, .int .u64 0, .int .i64 0] 50) = w2 := ⟨_, rfl⟩
    rw [hw2] at hN hM2 k2
    obtain ⟨b0, b1, b2⟩ := hM2.cells
    obtain ⟨f0, f1, f2⟩ := hM2.free
    obtain ⟨n0, n1, n2⟩ := hN.cells
    have ev6 := set3_mb hM2 0 0 0
    have k6 := set3_kept w2 w.heap.size 0 0 0
    have hB6 : Below w.heap.size w (set3 w2 w.heap.size 0 0 0) := (k2.trans k6 (G := fun x => x = w.heap.size) (F := fun _ => False) (fun x hx h => by omega)).below (Nat.le_refl _) (fun _ _ h => h)
    have hmp := h1.mp
    clear hM hM2 hN k1 k2 k6
    go_enter Try.func27, Try.ntmps27
    go_wp2_with (at_lookup; refine wpList_mp_look _ rfl _ _ rfl Try.underlying3 Try.underlying60 Try.underlying3 (zeroI _) mb l.length (mi l) rfl hmp k rfl hk ?_; rw [hm])
    go_wp2_with fail
    change bodyPost _ _ _ _ _ (set3 w2 w.heap.size 0 0 0)
    generalize set3 w2 w.heap.size 0 0 0 = w6 at *
    clear b0 b1 b2 f0 f1 f2
    obtain ⟨b0, b1, b2⟩ := ev6.cells
    refine bodyPost_ret (by simp [results, Try.results27, go_sem, b0, b1, b2]; try rfl) rfl ?_
    exact ⟨rfl, hB6⟩
  | some i =>
    obtain ⟨hi, hik⟩ := idx_some e
    have hm : mi l k = some (i : Int) := by unfold mi; rw [e]; rfl
    have hg : HeapPure.get l k = some (vv l i) := by unfold HeapPure.get; rw [e]; rfl
    rw [hg]
    rcases h1.own.shape with ⟨-, rfl⟩ | ⟨g, cap, rfl, hg1, hg2, hlc, hcm, -, hcl⟩
    · simp at hi
    obtain ⟨-, c1, c2, c3⟩ := hcl i hi
    rw [← vv_getD] at c1 c2 c3
    obtain ⟨m, hmm⟩ : ∃ m, vv l i = m := ⟨_, rfl⟩
    rw [hmm] at c1 c2 c3 ⊢
    have hi' : (i : Int) < (l.length : Int) := by omega
    obtain ⟨b0, b1, b2⟩ := hM.cells
    obtain ⟨f0, f1, f2⟩ := hM.free
    have ev6 := set3_mb hM m.n m.d m.id
    have k6 := set3_kept w1 w.heap.size m.n m.d m.id
    have hB6 : Below w.heap.size w (set3 w1 w.heap.size m.n m.d m.id) := (k1.trans k6 (G := fun x => x = w.heap.size) (F := fun _ => False) (fun x hx h => by omega)).below (Nat.le_refl _) (fun _ _ h => h)
    have hmp := h1.mp
    clear hcl hM k1 k6 hmm
    go_enter Try.func27, Try.ntmps27
    go_wp2_with (at_lookup; refine wpList_mp_look _ rfl _ _ rfl Try.underlying3 Try.underlying60 Try.underlying3 (zeroI _) mb l.length (mi l) rfl hmp k rfl hk ?_; rw [hm])
    go_wp2_with fail
    change bodyPost _ _ _ _ _ (set3 w1 w.heap.size m.n m.d m.id)
    generalize set3 w1 w.heap.size m.n m.d m.id = w6 at *
    clear b0 b1 b2 f0 f1 f2
    obtain ⟨b0, b1, b2⟩ := ev6.cells
    refine bodyPost_ret (by simp [results, Try.results27, go_sem, b0, b1, b2]; try rfl) rfl ?_
    exact ⟨rfl, hB6⟩
end Go.Proofs.Ytamifcgljockaaa
