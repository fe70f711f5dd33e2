/- What a heap's functions do: Set, Get, Drop, Min, Len, New. -/
import Derived.Test.YtkbmpmcckjhaaaaDown
namespace Go.Proofs.Ytkbmpmcckjhaaaa
open Go.RowKit Go.Kpt HeapPure
set_option linter.unusedVariables false

theorem Try.info70 : (Try.prog.info? 70).map (fun i => (i.zero, i.size, i.bytes)) = some (some (.agg #[.int .i64 0, .int .i64 0, .int .i64 0, .int .i64 0, .int .i64 0]), 5, 40) := by kernel_rfl

theorem idx_ext {l l' : List (Ke × Tm)} (hI : Inj l) (hI' : Inj l') {x : Ke} (h : ∀ n : Nat, (∃ v : Tm, l'[n]? = some (x, v)) ↔ (∃ v : Tm, l[n]? = some (x, v))) : idx l' x = idx l x := by
  cases e : idx l x with
  | none =>
    cases e2 : idx l' x with
    | none => rfl
    | some n =>
      obtain ⟨v, hv⟩ := (h n).1 ⟨_, (idx_some e2).2⟩
      exact absurd hv (idx_none e n v)
  | some n =>
    obtain ⟨v, hv⟩ := (h n).2 ⟨_, (idx_some e).2⟩
    exact idx_of hI' hv
theorem mi_set {l : List (Ke × Tm)} (hI : Inj l) {i : Nat} {k : Ke} {v : Tm} (h : idx l k = some i) : mi (l.set i (k, v)) = mi l := by
  funext x
  unfold mi
  congr 1
  obtain ⟨hi, hk⟩ := idx_some h
  refine idx_ext hI (set_inj hI h) fun n => ?_
  rw [List.getElem?_set]
  by_cases e : i = n
  · subst e
    rw [if_pos rfl, if_pos hi, hk]
    constructor <;> rintro ⟨u, hu⟩ <;> cases hu <;> exact ⟨_, rfl⟩
  · rw [if_neg e]
theorem mi_append {l : List (Ke × Tm)} (hI : Inj l) {k : Ke} {v : Tm} (h : idx l k = none) : mi (l ++ [(k, v)]) = gput (mi l) k l.length := by
  funext x
  unfold mi gput
  have hA := append_inj hI (v := v) h
  by_cases e : x = k
  · subst e
    rw [if_pos rfl, idx_of (v := v) hA (i := l.length) (by simp)]
    rfl
  · rw [if_neg e]
    congr 1
    refine idx_ext hI hA fun n => ?_
    rw [List.getElem?_append]
    split
    · exact Iff.rfl
    · rename_i hn
      rw [List.getElem?_eq_none (by omega : l.length ≤ n)]
      constructor
      · rintro ⟨u, hu⟩
        rw [List.getElem?_singleton] at hu
        split at hu
        · cases hu; exact absurd rfl e
        · cases hu
      · rintro ⟨u, hu⟩; cases hu
theorem mi_cut {l : List (Ke × Tm)} (hI : Inj l) {i : Nat} {k : Ke} (h : idx l k = some i) : gdel (mi (swp l i (l.length - 1))) k = mi (cut l i) := by
  obtain ⟨hi, hk⟩ := idx_some h
  funext x
  unfold mi gdel
  have hS := swp_inj hI hi (show l.length - 1 < l.length by omega)
  have hC := cut_inj hI hi
  by_cases e : x = k
  · subst e
    rw [if_pos rfl]
    cases e2 : idx (cut l i) x with
    | none => rfl
    | some n =>
      have := (cut_has hI h x _).1 ⟨n, (idx_some e2).2⟩
      exact absurd rfl this.1
  · rw [if_neg e]
    show Option.map _ (idx (swp l i (l.length - 1)) x) = Option.map _ (idx (cut l i) x)
    congr 1
    refine (idx_ext hS hC fun n => ?_).symm
    rw [get_cut l hi, get_swp l hi (by omega)]
    by_cases h1 : n < l.length - 1
    · rw [if_pos h1, if_neg (by omega : ¬ n = l.length - 1)]
    · rw [if_neg h1]
      by_cases h2 : n = l.length - 1
      · rw [if_pos h2, hk]
        constructor
        · rintro ⟨u, hu⟩; cases hu
        · rintro ⟨u, hu⟩; cases hu; exact absurd rfl e
      · rw [if_neg h2, if_neg (by omega), List.getElem?_eq_none (by omega)]

theorem cut_wf {l : List (Ke × Tm)} {i : Nat} (hi : i < l.length) (h : ∀ x ∈ l, kok x.1) : ∀ x ∈ cut l i, kok x.1 := by
  intro x hx
  obtain ⟨n, hn⟩ := List.mem_iff_getElem?.1 hx
  rw [get_cut l hi] at hn
  split at hn
  · split at hn
    · exact h _ (List.mem_of_getElem? hn)
    · exact h _ (List.mem_of_getElem? hn)
  · cases hn

set_option maxHeartbeats 1000000 in
theorem new_any (w : World) :
    Calls Try.prog 16 #[fv17] w fun e w' => ∃ hb mb, e = .returned (.pointer (some ⟨hb, 0, none⟩)) ∧ w.heap.size ≤ hb ∧ w.heap.size ≤ mb ∧ hb < w'.heap.size ∧ mb < w'.heap.size ∧ Hp w' w.heap.size hb fv17 (.slice none 0 0) mb [] ∧ Below w.heap.size w w' := by
  have hmm := @run_makeMap Try.prog
  have hmade : Gm keyY intE (w.alloc (.map #[] 0)) w.heap.size 0 (fun _ => none) := Gm.made keyY intE w
  go_enter Try.func16, Try.ntmps16
  go_wp2_with fail
  go_ret
  refine ⟨_, w.heap.size, rfl, by simp, Nat.le_refl _, by simp, by simp; omega, ⟨by simpa using heap_alloc_new (w.alloc (.map #[] 0)) (.cells #[fv17, .slice none 0 0, .map (some w.heap.size)] 64), OwnQ.nil _ _ _, hmade.below ((Below.refl _ _).alloc (Nat.le_refl _) _), Inj.nil, by simp, by simp⟩, by go_grown⟩

set_option maxHeartbeats 1000000 in
theorem len_any (base hb : Nat) (v : Value) (mb : Nat) (l : List (Ke × Tm)) (w : World) (h : Hp w base hb fv17 v mb l) :
    Calls Try.prog 19 #[.pointer (some ⟨hb, 0, none⟩)] w fun e w' => e = .returned (.int .i64 l.length) ∧ w = w' := by
  rcases h.own.shape with ⟨rfl, rfl⟩ | ⟨g, cap, rfl, hg1, hg2, hlc, hcm, -, -⟩
  · have q1 : w.cell? ⟨hb, 1, none⟩ = some (.slice none 0 0) := cell_of h.blk
    go_enter Try.func19, Try.ntmps19
    go_wp2_with fail
    go_ret
    exact ⟨rfl, rfl⟩
  · have q1 : w.cell? ⟨hb, 1, none⟩ = some (.slice (some ⟨g, 0, none⟩) l.length cap) := cell_of h.blk
    go_enter Try.func19, Try.ntmps19
    go_wp2_with fail
    go_ret
    exact ⟨rfl, rfl⟩

/-- A time in its block. -/
def Mb (w : World) (b : Nat) (n d id : Int) : Prop := w.heap[b]? = some (.cells #[.int .i64 n, .int .i64 d, .int .i64 id] 51 (0, 0))
theorem Mb.cells {w : World} {b : Nat} {n d id : Int} (h : Mb w b n d id) : w.cell? ⟨b, 0, none⟩ = some (.int .i64 n) ∧ w.cell? ⟨b, 1, none⟩ = some (.int .i64 d) ∧ w.cell? ⟨b, 2, none⟩ = some (.int .i64 id) := ⟨cell_of h, cell_of h, cell_of h⟩
theorem Mb.free {w : World} {b : Nat} {n d id : Int} (h : Mb w b n d id) : w.frozen? ⟨b, 0, none⟩ = false ∧ w.frozen? ⟨b, 1, none⟩ = false ∧ w.frozen? ⟨b, 2, none⟩ = false := ⟨frozen_of h, frozen_of h, frozen_of h⟩
theorem Mb.kept {F : Nat → Prop} {w w' : World} {b : Nat} {n d id : Int} (h : Mb w b n d id) (k : Kept F w w') (hF : ¬ F b) : Mb w' b n d id := (k.block b (lt_of h) hF).trans h
/-- A time's cells, stored one by one. -/
def set3 (w : World) (b : Nat) (n d id : Int) : World := ((w.setCell ⟨b, 0, none⟩ (.int .i64 n)).setCell ⟨b, 1, none⟩ (.int .i64 d)).setCell ⟨b, 2, none⟩ (.int .i64 id)
theorem set3_mb {w : World} {b : Nat} {n d id : Int} (h : Mb w b n d id) (n' d' id' : Int) : Mb (set3 w b n' d' id') b n' d' id' := set_same (i := 2) _ (set_same (i := 1) _ (set_same (i := 0) _ h))
theorem set3_kept (w : World) (b : Nat) (n d id : Int) : Kept (fun x => x = b) w (set3 w b n d id) := ((Kept.set1 w b 0 _).trans (Kept.set1 _ b 1 _) (fun _ _ h => h)).trans (Kept.set1 _ b 2 _) (fun _ _ h => h)
/-- A key in its block. -/
def Kb (w : World) (b : Nat) (k : Ke) : Prop := w.heap[b]? = some (.cells #[.int .i64 k.1, .int .i64 k.2] 29 (0, 0))
theorem Kb.cells {w : World} {b : Nat} {k : Ke} (h : Kb w b k) : w.cell? ⟨b, 0, none⟩ = some (.int .i64 k.1) ∧ w.cell? ⟨b, 1, none⟩ = some (.int .i64 k.2) := ⟨cell_of h, cell_of h⟩
theorem Kb.free {w : World} {b : Nat} {k : Ke} (h : Kb w b k) : w.frozen? ⟨b, 0, none⟩ = false ∧ w.frozen? ⟨b, 1, none⟩ = false := ⟨frozen_of h, frozen_of h⟩
theorem Kb.kept {F : Nat → Prop} {w w' : World} {b : Nat} {k : Ke} (h : Kb w b k) (hk : Kept F w w') (hF : ¬ F b) : Kb w' b k := (hk.block b (lt_of h) hF).trans h
def set2 (w : World) (b : Nat) (k : Ke) : World := (w.setCell ⟨b, 0, none⟩ (.int .i64 k.1)).setCell ⟨b, 1, none⟩ (.int .i64 k.2)
theorem set2_kb {w : World} {b : Nat} {k : Ke} (h : Kb w b k) (k' : Ke) : Kb (set2 w b k') b k' := set_same (i := 1) _ (set_same (i := 0) _ h)
theorem set2_kept (w : World) (b : Nat) (k : Ke) : Kept (fun x => x = b) w (set2 w b k) := (Kept.set1 w b 0 _).trans (Kept.set1 _ b 1 _) (fun _ _ h => h)
end Go.Proofs.Ytkbmpmcckjhaaaa
