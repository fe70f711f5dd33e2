/- What a heap's functions do: Set, Get, Drop, Min, Len, New. -/
import Derived.Test.YtamifcgljockaaaDown
namespace Go.Proofs.Ytamifcgljockaaa
open Go.RowKit Go.Kpt HeapPure
set_option linter.unusedVariables false

theorem Try.info71 : (Try.prog.info? 71).map (fun i => (i.zero, i.size, i.bytes)) = some (some (.agg #[.int .i64 0, .int .u64 0, .int .u64 0, .int .i64 0]), 4, 32) := by kernel_rfl

theorem idx_ext {l l' : List (Int × Mk)} (hI : Inj l) (hI' : Inj l') {x : Int} (h : ∀ n : Nat, (∃ v : Mk, l'[n]? = some (x, v)) ↔ (∃ v : Mk, l[n]? = some (x, v))) : idx l' x = idx l x := by
  cases e : idx l x with
  | none =>
    cases e2 : idx l' x with
    | none => rfl
    | some n =>
      obtain ⟨v, hv⟩ := (h n).1 ⟨_, (idx_some e2).2⟩
      exact absurd hv (idx_none e n v)
  | some n =>
    obtain ⟨v, hv⟩ := (h n).2 ⟨_, (idx_some e).2⟩
    exact idx_of hI' hv
theorem mi_set {l : List (Int × Mk)} (hI : Inj l) {i : Nat} {k : Int} {v : Mk} (h : idx l k = some i) : mi (l.set i (k, v)) = mi l := by
  funext x
  unfold mi
  congr 1
  obtain ⟨hi, hk⟩ := idx_some h
  refine idx_ext hI (set_inj hI h) fun n => ?_
  rw [List.getElem?_set]
  by_cases e : i = n
  · subst e
    rw [if_pos rfl, if_pos hi, hk]
    constructor <;> rintro ⟨u, hu⟩ <;> cases hu <;> exact ⟨_, rfl⟩
  · rw [if_neg e]
theorem mi_append {l : List (Int × Mk)} (hI : Inj l) {k : Int} {v : Mk} (h : idx l k = none) : mi (l ++ [(k, v)]) = mput (mi l) k l.length := by
  funext x
  unfold mi mput
  have hA := append_inj hI (v := v) h
  by_cases e : x = k
  · subst e
    rw [if_pos rfl, idx_of (v := v) hA (i := l.length) (by simp)]
    rfl
  · rw [if_neg e]
    congr 1
    refine idx_ext hI hA fun n => ?_
    rw [List.getElem?_append]
    split
    · exact Iff.rfl
    · rename_i hn
      rw [List.getElem?_eq_none (by omega : l.length ≤ n)]
      constructor
      · rintro ⟨u, hu⟩
        rw [List.getElem?_singleton] at hu
        split at hu
        · cases hu; exact absurd rfl e
        · cases hu
      · rintro ⟨u, hu⟩; cases hu
theorem mi_cut {l : List (Int × Mk)} (hI : Inj l) {i : Nat} {k : Int} (h : idx l k = some i) : mdel (mi (swp l i (l.length - 1))) k = mi (cut l i) := by
  obtain ⟨hi, hk⟩ := idx_some h
  funext x
  unfold mi mdel
  have hS := swp_inj hI hi (show l.length - 1 < l.length by omega)
  have hC := cut_inj hI hi
  by_cases e : x = k
  · subst e
    rw [if_pos rfl]
    cases e2 : idx (cut l i) x with
    | none => rfl
    | some n =>
      have := (cut_has hI h x _).1 ⟨n, (idx_some e2).2⟩
      exact absurd rfl this.1
  · rw [if_neg e]
    show Option.map _ (idx (swp l i (l.length - 1)) x) = Option.map _ (idx (cut l i) x)
    congr 1
    refine (idx_ext hS hC fun n => ?_).symm
    rw [get_cut l hi, get_swp l hi (by omega)]
    by_cases h1 : n < l.length - 1
    · rw [if_pos h1, if_neg (by omega : ¬ n = l.length - 1)]
    · rw [if_neg h1]
      by_cases h2 : n = l.length - 1
      · rw [if_pos h2, hk]
        constructor
        · rintro ⟨u, hu⟩; cases hu
        · rintro ⟨u, hu⟩; cases hu; exact absurd rfl e
      · rw [if_neg h2, if_neg (by omega), List.getElem?_eq_none (by omega)]

theorem cut_wf {l : List (Int × Mk)} {i : Nat} (hi : i < l.length) (h : ∀ x ∈ l, (Lit.int .i64 x.1).wf = true) : ∀ x ∈ cut l i, (Lit.int .i64 x.1).wf = true := by
  intro x hx
  obtain ⟨n, hn⟩ := List.mem_iff_getElem?.1 hx
  rw [get_cut l hi] at hn
  split at hn
  · split at hn
    · exact h _ (List.mem_of_getElem? hn)
    · exact h _ (List.mem_of_getElem? hn)
  · cases hn

set_option maxHeartbeats 1000000 in
theorem new_any (w : World) :
    Calls Try.prog 19 #[fv20] w fun e w' => ∃ hb mb, e = .returned (.pointer (some ⟨hb, 0, none⟩)) ∧ w.heap.size ≤ hb ∧ w.heap.size ≤ mb ∧ hb < w'.heap.size ∧ mb < w'.heap.size ∧ Hp w' w.heap.size hb fv20 (.slice none 0 0) mb [] ∧ Below w.heap.size w w' := by
  have hmm := @run_makeMap Try.prog
  have hmade : Mp Try.prog 3 3 (w.alloc (.map #[] 0)) w.heap.size 0 (fun _ => none) := Mp.made w
  go_enter Try.func19, Try.ntmps19
  go_wp2_with fail
  go_ret
  refine ⟨_, w.heap.size, rfl, by simp, Nat.le_refl _, by simp, by simp; omega, ⟨by simpa using heap_alloc_new (w.alloc (.map #[] 0)) (.cells #[fv20, .slice none 0 0, .map (some w.heap.size)] 63), OwnQ.nil _ _ _, hmade.below ((Below.refl _ _).alloc (Nat.le_refl _) _), Inj.nil, by simp, by simp⟩, by go_grown⟩

set_option maxHeartbeats 1000000 in
theorem len_any (base hb : Nat) (v : Value) (mb : Nat) (l : List (Int × Mk)) (w : World) (h : Hp w base hb fv20 v mb l) :
    Calls Try.prog 26 #[.pointer (some ⟨hb, 0, none⟩)] w fun e w' => e = .returned (.int .i64 l.length) ∧ w = w' := by
  rcases h.own.shape with ⟨rfl, rfl⟩ | ⟨g, cap, rfl, hg1, hg2, hlc, hcm, -, -⟩
  · have q1 : w.cell? ⟨hb, 1, none⟩ = some (.slice none 0 0) := cell_of h.blk
    go_enter Try.func26, Try.ntmps26
    go_wp2_with fail
    go_ret
    exact ⟨rfl, rfl⟩
  · have q1 : w.cell? ⟨hb, 1, none⟩ = some (.slice (some ⟨g, 0, none⟩) l.length cap) := cell_of h.blk
    go_enter Try.func26, Try.ntmps26
    go_wp2_with fail
    go_ret
    exact ⟨rfl, rfl⟩

/-- A mark in its block. -/
def Mb (w : World) (b n d : Nat) (id : Int) : Prop := w.heap[b]? = some (.cells #[.int .u64 n, .int .u64 d, .int .i64 id] 50 (0, 0))
theorem Mb.cells {w : World} {b n d : Nat} {id : Int} (h : Mb w b n d id) : w.cell? ⟨b, 0, none⟩ = some (.int .u64 n) ∧ w.cell? ⟨b, 1, none⟩ = some (.int .u64 d) ∧ w.cell? ⟨b, 2, none⟩ = some (.int .i64 id) := ⟨cell_of h, cell_of h, cell_of h⟩
theorem Mb.free {w : World} {b n d : Nat} {id : Int} (h : Mb w b n d id) : w.frozen? ⟨b, 0, none⟩ = false ∧ w.frozen? ⟨b, 1, none⟩ = false ∧ w.frozen? ⟨b, 2, none⟩ = false := ⟨frozen_of h, frozen_of h, frozen_of h⟩
theorem Mb.kept {F : Nat → Prop} {w w' : World} {b n d : Nat} {id : Int} (h : Mb w b n d id) (k : Kept F w w') (hF : ¬ F b) : Mb w' b n d id := (k.block b (lt_of h) hF).trans h
theorem Mb.drew {w : World} {b n d : Nat} {id : Int} (h : Mb w b n d id) : Mb w.drew b n d id := h
/-- A mark's cells, stored one by one. -/
def set3 (w : World) (b n d : Nat) (id : Int) : World := ((w.setCell ⟨b, 0, none⟩ (.int .u64 n)).setCell ⟨b, 1, none⟩ (.int .u64 d)).setCell ⟨b, 2, none⟩ (.int .i64 id)
theorem set3_mb {w : World} {b n d : Nat} {id : Int} (h : Mb w b n d id) (n' d' : Nat) (id' : Int) : Mb (set3 w b n' d' id') b n' d' id' := set_same (i := 2) _ (set_same (i := 1) _ (set_same (i := 0) _ h))
theorem set3_kept (w : World) (b n d : Nat) (id : Int) : Kept (fun x => x = b) w (set3 w b n d id) := ((Kept.set1 w b 0 _).trans (Kept.set1 _ b 1 _) (fun _ _ h => h)).trans (Kept.set1 _ b 2 _) (fun _ _ h => h)

set_option maxHeartbeats 2000000 in
theorem min_none (base hb : Nat) (v : Value) (mb : Nat) (w : World) (h : Hp w base hb fv20 v mb []) :
    Calls Try.prog 23 #[.pointer (some ⟨hb, 0, none⟩)] w fun e w' => e = .returned (.tuple #[.int .i64 0, .agg #[.int .u64 0, .int .u64 0, .int .i64 0], .bool false]) ∧ Below w.heap.size w w' := by
  have hM : Mb (w.alloc (.cells #[.int .u64 0, .int .u64 0, .int .i64 0] 50)) w.heap.size 0 0 0 := heap_alloc_new _ _
  have k1 : Kept (fun _ => False) w (w.alloc (.cells #[.int .u64 0, .int .u64 0, .int .i64 0] 50)) := (Kept.refl _ w).alloc _
  have hz1 : w.heap.size < (w.alloc (.cells #[.int .u64 0, .int .u64 0, .int .i64 0] 50)).heap.size := by simp
  obtain ⟨w1, hw1⟩ : ∃ w1, w.alloc (.cells #[.int .u64 0, .int .u64 0, .int .i64 0] 50) = w1 := ⟨_, rfl⟩
  rw [hw1] at hM k1 hz1
  have hblk := (k1.block hb (lt_of h.blk) (fun h => h)).trans h.blk
  have hN : (w1.alloc (.cells #[.int .i64 0, .int .u64 0, .int .u64 0, .int .i64 0] 71)).heap[w1.heap.size]? = some (.cells #[.int .i64 0, .int .u64 0, .int .u64 0, .int .i64 0] 71 (0, 0)) := heap_alloc_new _ _
  have hM2 : Mb (w1.alloc (.cells #[.int .i64 0, .int .u64 0, .int .u64 0, .int .i64 0] 71)) w.heap.size 0 0 0 := hM.kept ((Kept.refl (fun _ => False) w1).alloc _) (fun h => h)
  have k2 : Kept (fun _ => False) w (w1.alloc (.cells #[.int .i64 0, .int .u64 0, .int .u64 0, .int .i64 0] 71)) := k1.alloc _
  obtain ⟨w2, hw2⟩ : ∃ w2, w1.alloc (.cells #[.int .i64 0, .int .u64 0, .int .u64 0, .int .i64 0] 71) = w2 := ⟨_, rfl⟩
  rw [hw2] at hN hM2 k2
  obtain ⟨b0, b1, b2⟩ := hM2.cells
  obtain ⟨f0, f1, f2⟩ := hM2.free
  have n0 : w2.cell? ⟨w1.heap.size, 0, none⟩ = some (.int .i64 0) := cell_of hN
  have n1 : w2.cell? ⟨w1.heap.size, 1, none⟩ = some (.int .u64 0) := cell_of hN
  have n2 : w2.cell? ⟨w1.heap.size, 2, none⟩ = some (.int .u64 0) := cell_of hN
  have n3 : w2.cell? ⟨w1.heap.size, 3, none⟩ = some (.int .i64 0) := cell_of hN
  have ev6 : Mb (set3 w2 w.heap.size 0 0 0).drew w.heap.size 0 0 0 := (set3_mb hM2 0 0 0).drew
  have k6 : Kept (fun x => x = w.heap.size) w2 (set3 w2 w.heap.size 0 0 0).drew := (set3_kept w2 w.heap.size 0 0 0).drew
  have hB6 : Below w.heap.size w (set3 w2 w.heap.size 0 0 0).drew := (k2.trans k6 (G := fun x => x = w.heap.size) (F := fun _ => False) (fun x hx h => by omega)).below (Nat.le_refl _) (fun _ _ h => h)
  have hne : w.heap.size ≠ w1.heap.size := by omega
  have hsh : v = .slice none 0 0 ∨ ∃ g cap, v = .slice (some ⟨g, 0, none⟩) 0 cap := by
    rcases h.own.shape with ⟨rfl, -⟩ | ⟨g, cap, rfl, -⟩
    · exact .inl rfl
    · exact .inr ⟨g, cap, rfl⟩
  clear hM k1 hz1 hN hM2 k2 k6 h
  rcases hsh with rfl | ⟨g, cap, rfl⟩
  all_goals
    have q1 := cell_of (j := 1) hblk
    simp at q1
    clear hblk
    go_enter Try.func23, Try.ntmps23
    go_wp2_with fail
    go_region
    all_goals (go_wp2_with fail)
    all_goals change bodyPost _ _ _ _ _ (set3 w2 w.heap.size 0 0 0).drew
    all_goals generalize (set3 w2 w.heap.size 0 0 0).drew = w6 at *
    all_goals clear b0 b1 b2 f0 f1 f2
    all_goals obtain ⟨b0, b1, b2⟩ := ev6.cells
    all_goals refine bodyPost_ret (by simp [results, Try.results23, go_sem, b0, b1, b2]; try rfl) rfl ?_
    all_goals exact ⟨rfl, hB6⟩
end Go.Proofs.Ytamifcgljockaaa
