/- What a heap's functions do: Get. -/
import Derived.Test.YtkbmpmcckjhaaaaMin
namespace Go.Proofs.Ytkbmpmcckjhaaaa
open Go.RowKit Go.Kpt HeapPure
set_option linter.unusedVariables false

/-- 'v, ok := at[k]' as the run has it. -/
theorem ki_run {w : World} {mb c : Nat} {m : Ke → Option Int} (h : Gm keyY intE w mb c m) (k : Ke) (hk : kok k) :
    (Instr.lookup 61 (.map (some mb)) (.agg #[.int .i64 k.1, .int .i64 k.2]) true).run Try.prog w = .ok (.tuple #[.int .i64 ((m k).getD 0), .bool (m k).isSome]) w :=
  h.look_ok Try.underlying61 (0 : Int) (by kernel_rfl) k hk

/-- A time that may not be there. -/
def gv : Option Tm → Value
  | none => .agg #[.int .i64 0, .int .i64 0, .int .i64 0]
  | some m => mv m

set_option maxHeartbeats 2000000 in
theorem get_any (base hb : Nat) (v : Value) (mb : Nat) (l : List (Ke × Tm)) (k : Ke) (hk : kok k) (w : World) (h : Hp w base hb fv17 v mb l) :
    Calls Try.prog 23 #[.pointer (some ⟨hb, 0, none⟩), kv k] w fun e w' => e = .returned (.tuple #[gv (HeapPure.get l k), .bool (HeapPure.get l k).isSome]) ∧ Below w.heap.size w w' := by
  have hA : Kb (w.alloc (.cells #[.int .i64 k.1, .int .i64 k.2] 29)) w.heap.size k := heap_alloc_new _ _
  have k0 : Kept (fun _ => False) w (w.alloc (.cells #[.int .i64 k.1, .int .i64 k.2] 29)) := (Kept.refl _ w).alloc _
  have hz : w.heap.size < (w.alloc (.cells #[.int .i64 k.1, .int .i64 k.2] 29)).heap.size := by simp
  obtain ⟨w0, hw0⟩ : ∃ w1, w.alloc (.cells #[.int .i64 k.1, .int .i64 k.2] 29) = w1 := ⟨_, rfl⟩
  rw [hw0] at hA k0 hz
  have hM : Mb (w0.alloc (.cells #[.int .i64 0, .int .i64 0, .int .i64 0] 51)) w0.heap.size 0 0 0 := heap_alloc_new _ _
  have k0' : Kept (fun _ => False) w0 (w0.alloc (.cells #[.int .i64 0, .int .i64 0, .int .i64 0] 51)) := (Kept.refl _ w0).alloc _
  obtain ⟨w1, hw1⟩ : ∃ w1, w0.alloc (.cells #[.int .i64 0, .int .i64 0, .int .i64 0] 51) = w1 := ⟨_, rfl⟩
  rw [hw1] at hM k0'
  have k1 := k0.trans k0' (fun _ _ h => h)
  have hA1 := hA.kept k0' (fun h => h)
  have h1 := h.kept k1 (fun h => h) (fun h => h) (fun _ _ h => h)
  have q1 : w1.cell? ⟨hb, 1, none⟩ = some v := cell_of h1.blk
  have q2 : w1.cell? ⟨hb, 2, none⟩ = some (.map (some mb)) := cell_of h1.blk
  obtain ⟨a0, a1⟩ := hA1.cells
  have hlk := fun n => ki_run (h1.mp.kept (F := fun _ => False) ((Kept.refl _ w1).drewN n) (fun h => h)) k hk
  have hD := fun n => (Kept.refl (fun _ => False) w1).drewN n
  cases e : idx l k with
  | none =>
    have hm : mi l k = none := by unfold mi; rw [e]; rfl
    have hg : HeapPure.get l k = none := by unfold HeapPure.get; rw [e]; rfl
    rw [hg]
    rw [hm] at hlk
    go_enter Try.func23, Try.ntmps23
    go_wp2_with fail
    go_quiet (fail)
    have kD := hD nq
    have hMD := hM.kept kD (fun h => h)
    have kD2 := k1.trans kD (fun _ _ h => h)
    generalize w1.drewN nq = wd at *
    have hM2 : Mb (wd.alloc (.cells #[.int .i64 0, .int .i64 0, .int .i64 0] 51)) w0.heap.size 0 0 0 := hMD.kept ((Kept.refl (fun _ => False) wd).alloc _) (fun h => h)
    have hN : Mb (wd.alloc (.cells #[.int .i64 0, .int .i64 0, .int .i64 0] 51)) wd.heap.size 0 0 0 := heap_alloc_new _ _
    have k2 : Kept (fun _ => False) w (wd.alloc (.cells #[.int .i64 0, .int .i64 0, .int .i64 0] 51)) := kD2.alloc _
    obtain ⟨w2, hw2⟩ : ∃ w2, wd.alloc (.cells #[.int .i64 0, .int .i64 0, .int .i64 0] 51) = w2 := ⟨_, rfl⟩
    rw [hw2] at hN hM2 k2
    obtain ⟨b0, b1, b2⟩ := hM2.cells
    obtain ⟨f0, f1, f2⟩ := hM2.free
    obtain ⟨n0, n1, n2⟩ := hN.cells
    have ev6 := set3_mb hM2 0 0 0
    have k6 := set3_kept w2 w0.heap.size 0 0 0
    have hB6 : Below w.heap.size w (set3 w2 w0.heap.size 0 0 0) := (k2.trans k6 (G := fun x => x = w0.heap.size) (F := fun _ => False) (fun x hx h => by omega)).below (Nat.le_refl _) (fun _ _ h => h)
    clear hM hM2 hN k1 k2 k6 hlk hD kD kD2 hMD h h1 hA hA1 k0 k0'
    go_wp2_with fail
    change bodyPost _ _ _ _ _ (set3 w2 w0.heap.size 0 0 0)
    generalize set3 w2 w0.heap.size 0 0 0 = w6 at *
    clear b0 b1 b2 f0 f1 f2
    obtain ⟨b0, b1, b2⟩ := ev6.cells
    refine bodyPost_ret (by simp [results, Try.results23, go_sem, b0, b1, b2]; try rfl) rfl ?_
    exact ⟨rfl, hB6⟩
  | some i =>
    obtain ⟨hi, hik⟩ := idx_some e
    have hm : mi l k = some (i : Int) := by unfold mi; rw [e]; rfl
    have hg : HeapPure.get l k = some (vv l i) := by unfold HeapPure.get; rw [e]; rfl
    rw [hg]
    rw [hm] at hlk
    rcases h1.own.shape with ⟨-, rfl⟩ | ⟨g, cap, rfl, hg1, hg2, hlc, hcm, -, hcl⟩
    · simp at hi
    obtain ⟨-, -, c1, c2, c3⟩ := hcl i hi
    rw [← vv_getD] at c1 c2 c3
    obtain ⟨m, hmm⟩ : ∃ m, vv l i = m := ⟨_, rfl⟩
    rw [hmm] at c1 c2 c3 ⊢
    have hi' : (i : Int) < (l.length : Int) := by omega
    clear hcl hmm
    go_enter Try.func23, Try.ntmps23
    go_wp2_with fail
    go_quiet (fail)
    have kD := hD nq
    have hMD := hM.kept kD (fun h => h)
    have kD2 := k1.trans kD (fun _ _ h => h)
    have kc := fun (q : Addr) (u : Value) (hq : w1.cell? q = some u) => (kD.cell (block_lt_of_cell hq) (fun h => h)).trans hq
    have q1 := kc _ _ q1
    have c1 := kc _ _ c1
    have c2 := kc _ _ c2
    have c3 := kc _ _ c3
    clear hlk kc hD
    generalize w1.drewN nq = wd at *
    obtain ⟨b0, b1, b2⟩ := hMD.cells
    obtain ⟨f0, f1, f2⟩ := hMD.free
    have ev6 := set3_mb hMD m.at_ m.kd m.id
    have k6 := set3_kept wd w0.heap.size m.at_ m.kd m.id
    have hB6 : Below w.heap.size w (set3 wd w0.heap.size m.at_ m.kd m.id) := (kD2.trans k6 (G := fun x => x = w0.heap.size) (F := fun _ => False) (fun x hx h => by omega)).below (Nat.le_refl _) (fun _ _ h => h)
    clear hM k1 k6 kD kD2 hMD h h1 hA hA1 k0 k0'
    go_wp2_with fail
    change bodyPost _ _ _ _ _ (set3 wd w0.heap.size m.at_ m.kd m.id)
    generalize set3 wd w0.heap.size m.at_ m.kd m.id = w6 at *
    clear b0 b1 b2 f0 f1 f2
    obtain ⟨b0, b1, b2⟩ := ev6.cells
    refine bodyPost_ret (by simp [results, Try.results23, go_sem, b0, b1, b2]; try rfl) rfl ?_
    exact ⟨rfl, hB6⟩
end Go.Proofs.Ytkbmpmcckjhaaaa
