/- What a cache's functions do: Worth, Evict. -/
import Derived.Test.YtamifcgljockaaaCache2
namespace Go.Proofs.Ytamifcgljockaaa
open Go.RowKit Go.Kpt HeapPure RatioPure
set_option linter.unusedVariables false

/-- A ratio in its block. -/
def Rb (w : World) (b n d : Nat) : Prop := w.heap[b]? = some (.cells #[.int .u64 n, .int .u64 d] 34 (0, 0))
def set2 (w : World) (b n d : Nat) : World := (w.setCell ⟨b, 0, none⟩ (.int .u64 n)).setCell ⟨b, 1, none⟩ (.int .u64 d)
theorem set2_rb {w : World} {b n d : Nat} (h : Rb w b n d) (n' d' : Nat) : Rb (set2 w b n' d') b n' d' := set_same (i := 1) _ (set_same (i := 0) _ h)
theorem set2_kept (w : World) (b n d : Nat) : Kept (fun x => x = b) w (set2 w b n d) := (Kept.set1 w b 0 _).trans (Kept.set1 _ b 1 _) (fun _ _ h => h)
/-- What is read of a worth that may not be there. -/
def wn : Option Mk → Nat
  | none => 0
  | some m => m.n
def wd : Option Mk → Nat
  | none => 0
  | some m => m.d
def wi : Option Mk → Int
  | none => 0
  | some m => m.id
theorem gv_eq (o : Option Mk) : gv o = .agg #[.int .u64 (wn o), .int .u64 (wd o), .int .i64 (wi o)] := by cases o <;> rfl

set_option maxRecDepth 100000 in
set_option maxHeartbeats 2000000 in
theorem worth_any (base cb : Nat) (l : List (Int × Mk)) (c : Nat) (k : Int) (hk : (Lit.int .i64 k).wf = true) (w : World) (h : WB w base cb l c) :
    Calls Try.prog 13 #[.pointer (some ⟨cb, 0, none⟩), .int .i64 k] w fun e w' => e = .returned (.tuple #[.agg #[.int .u64 (wn (HeapPure.get l k)), .int .u64 (wd (HeapPure.get l k))], .bool (HeapPure.get l k).isSome]) ∧ Below w.heap.size w w' := by
  obtain ⟨hb, v, mb, h⟩ := h
  have hM : Rb (w.alloc (.cells #[.int .u64 0, .int .u64 0] 34)) w.heap.size 0 0 := heap_alloc_new _ _
  have hB0 : Below w.heap.size w (w.alloc (.cells #[.int .u64 0, .int .u64 0] 34)) := (Below.refl _ _).alloc (Nat.le_refl _) _
  have hz0 : w.heap.size < (w.alloc (.cells #[.int .u64 0, .int .u64 0] 34)).heap.size := by simp
  obtain ⟨w1, hw1⟩ : ∃ w1, w.alloc (.cells #[.int .u64 0, .int .u64 0] 34) = w1 := ⟨_, rfl⟩
  rw [hw1] at hM hB0 hz0
  have h1 := h.below hB0
  have q0 : w1.cell? ⟨cb, 0, none⟩ = some (.pointer (some ⟨hb, 0, none⟩)) := cell_of h1.blk
  have hget := get_any base hb v mb l k hk w1 h1.hp
  rw [gv_eq] at hget
  generalize HeapPure.get l k = o at *
  generalize wn o = n at *
  generalize wd o = d at *
  generalize wi o = i at *
  generalize o.isSome = s at *
  clear h h1
  go_enter Try.func13, Try.ntmps13
  go_wp2_with fail
  refine hget.mono ?_
  clear hget hw1
  rintro e w2 ⟨rfl, hB2⟩
  have hM2 : Rb w2 w.heap.size 0 0 := (Kept.of_below (F := fun _ => False) hB2).block _ (lt_of hM) (fun h => h) |>.trans hM
  have hM3 : Rb (w2.alloc (.cells #[.int .u64 n, .int .u64 d, .int .i64 i] 50)) w.heap.size 0 0 := (Below.heap_alloc w2 _ _ (lt_of hM2)).trans hM2
  have hN : Mb (w2.alloc (.cells #[.int .u64 n, .int .u64 d, .int .i64 i] 50)) w2.heap.size n d i := heap_alloc_new _ _
  have hB3 : Below w.heap.size w (w2.alloc (.cells #[.int .u64 n, .int .u64 d, .int .i64 i] 50)) := (hB0.trans (hB2.mono (by omega))).alloc (by have := hB2.size; omega) _
  obtain ⟨w3, hw3⟩ : ∃ w3, w2.alloc (.cells #[.int .u64 n, .int .u64 d, .int .i64 i] 50) = w3 := ⟨_, rfl⟩
  rw [hw3] at hM3 hN hB3
  obtain ⟨n0, n1, n2⟩ := hN.cells
  have b0 : w3.cell? ⟨w.heap.size, 0, none⟩ = some (.int .u64 (0 : Nat)) := cell_of hM3
  have b1 : w3.cell? ⟨w.heap.size, 1, none⟩ = some (.int .u64 (0 : Nat)) := cell_of hM3
  have f0 : w3.frozen? ⟨w.heap.size, 0, none⟩ = false := frozen_of hM3
  have f1 : w3.frozen? ⟨w.heap.size, 1, none⟩ = false := frozen_of hM3
  have ev := set2_rb hM3 n d
  have hB4 : Below w.heap.size w (set2 w3 w.heap.size n d) := hB3.trans ((set2_kept w3 w.heap.size n d).below hB3.size (by intro x hx h; omega))
  clear hM hM2 hM3 hN hB0 hB2 hB3
  go_wp2_with fail
  change bodyPost _ _ _ _ _ (set2 w3 w.heap.size n d)
  generalize set2 w3 w.heap.size n d = w6 at *
  clear b0 b1 f0 f1
  have b0 : w6.cell? ⟨w.heap.size, 0, none⟩ = some (.int .u64 n) := cell_of ev
  have b1 : w6.cell? ⟨w.heap.size, 1, none⟩ = some (.int .u64 d) := cell_of ev
  refine bodyPost_ret (by simp [results, Try.results13, go_sem, b0, b1]; try rfl) rfl ?_
  exact ⟨rfl, hB4⟩
end Go.Proofs.Ytamifcgljockaaa
