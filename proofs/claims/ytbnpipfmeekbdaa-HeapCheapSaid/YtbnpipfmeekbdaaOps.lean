/- What a heap's functions do: Set, Get, Drop, Min, Len, New. -/
import Derived.Test.YtbnpipfmeekbdaaDown
namespace Go.Proofs.Ytbnpipfmeekbdaa
open Go.RowKit Go.Kpt HeapPure
set_option linter.unusedVariables false

theorem Try.info49 : (Try.prog.info? 49).map (fun i => (i.zero, i.size, i.bytes)) = some (some (.agg #[.int .i64 0, .int .i64 0]), 2, 16) := by kernel_rfl

theorem idx_ext {l l' : List (Int × Int)} (hI : Inj l) (hI' : Inj l') {x : Int} (h : ∀ n : Nat, (∃ v : Int, l'[n]? = some (x, v)) ↔ (∃ v : Int, l[n]? = some (x, v))) : idx l' x = idx l x := by
  cases e : idx l x with
  | none =>
    cases e2 : idx l' x with
    | none => rfl
    | some n =>
      obtain ⟨v, hv⟩ := (h n).1 ⟨_, (idx_some e2).2⟩
      exact absurd hv (idx_none e n v)
  | some n =>
    obtain ⟨v, hv⟩ := (h n).2 ⟨_, (idx_some e).2⟩
    exact idx_of hI' hv
theorem mi_set {l : List (Int × Int)} (hI : Inj l) {i : Nat} {k v : Int} (h : idx l k = some i) : mi (l.set i (k, v)) = mi l := by
  funext x
  unfold mi
  congr 1
  obtain ⟨hi, hk⟩ := idx_some h
  refine idx_ext hI (set_inj hI h) fun n => ?_
  rw [List.getElem?_set]
  by_cases e : i = n
  · subst e
    rw [if_pos rfl, if_pos hi, hk]
    constructor <;> rintro ⟨u, hu⟩ <;> cases hu <;> exact ⟨_, rfl⟩
  · rw [if_neg e]
theorem mi_append {l : List (Int × Int)} (hI : Inj l) {k v : Int} (h : idx l k = none) : mi (l ++ [(k, v)]) = mput (mi l) k l.length := by
  funext x
  unfold mi mput
  have hA := append_inj hI (v := v) h
  by_cases e : x = k
  · subst e
    rw [if_pos rfl, idx_of (v := v) hA (i := l.length) (by simp)]
    rfl
  · rw [if_neg e]
    congr 1
    refine idx_ext hI hA fun n => ?_
    rw [List.getElem?_append]
    split
    · exact Iff.rfl
    · rename_i hn
      rw [List.getElem?_eq_none (by omega : l.length ≤ n)]
      constructor
      · rintro ⟨u, hu⟩
        rw [List.getElem?_singleton] at hu
        split at hu
        · cases hu; exact absurd rfl e
        · cases hu
      · rintro ⟨u, hu⟩; cases hu
theorem mi_cut {l : List (Int × Int)} (hI : Inj l) {i : Nat} {k : Int} (h : idx l k = some i) : mdel (mi (swp l i (l.length - 1))) k = mi (cut l i) := by
  obtain ⟨hi, hk⟩ := idx_some h
  funext x
  unfold mi mdel
  have hS := swp_inj hI hi (show l.length - 1 < l.length by omega)
  have hC := cut_inj hI hi
  by_cases e : x = k
  · subst e
    rw [if_pos rfl]
    cases e2 : idx (cut l i) x with
    | none => rfl
    | some n =>
      have := (cut_has hI h x _).1 ⟨n, (idx_some e2).2⟩
      exact absurd rfl this.1
  · rw [if_neg e]
    show Option.map _ (idx (swp l i (l.length - 1)) x) = Option.map _ (idx (cut l i) x)
    congr 1
    refine (idx_ext hS hC fun n => ?_).symm
    rw [get_cut l hi, get_swp l hi (by omega)]
    by_cases h1 : n < l.length - 1
    · rw [if_pos h1, if_neg (by omega : ¬ n = l.length - 1)]
    · rw [if_neg h1]
      by_cases h2 : n = l.length - 1
      · rw [if_pos h2, hk]
        constructor
        · rintro ⟨u, hu⟩; cases hu
        · rintro ⟨u, hu⟩; cases hu; exact absurd rfl e
      · rw [if_neg h2, if_neg (by omega), List.getElem?_eq_none (by omega)]

theorem cut_wf {l : List (Int × Int)} {i : Nat} (hi : i < l.length) (h : ∀ x ∈ l, (Lit.int .i64 x.1).wf = true) : ∀ x ∈ cut l i, (Lit.int .i64 x.1).wf = true := by
  intro x hx
  obtain ⟨n, hn⟩ := List.mem_iff_getElem?.1 hx
  rw [get_cut l hi] at hn
  split at hn
  · split at hn
    · exact h _ (List.mem_of_getElem? hn)
    · exact h _ (List.mem_of_getElem? hn)
  · cases hn

set_option maxHeartbeats 1000000 in
theorem new_any (w : World) :
    Calls Try.prog 8 #[fv9] w fun e w' => ∃ hb mb, e = .returned (.pointer (some ⟨hb, 0, none⟩)) ∧ w.heap.size ≤ hb ∧ w.heap.size ≤ mb ∧ hb < w'.heap.size ∧ mb < w'.heap.size ∧ Hp w' w.heap.size hb fv9 (.slice none 0 0) mb [] ∧ Below w.heap.size w w' := by
  have hmm := @run_makeMap Try.prog
  have hmade : Mp Try.prog 3 3 (w.alloc (.map #[] 0)) w.heap.size 0 (fun _ => none) := Mp.made w
  go_enter Try.func8, Try.ntmps8
  go_wp2_with fail
  go_ret
  refine ⟨_, w.heap.size, rfl, by simp, Nat.le_refl _, by simp, by simp; omega, ⟨by simpa using heap_alloc_new (w.alloc (.map #[] 0)) (.cells #[fv9, .slice none 0 0, .map (some w.heap.size)] 47), OwnP.nil _ _ _, hmade.below ((Below.refl _ _).alloc (Nat.le_refl _) _), Inj.nil, by simp, by simp⟩, by go_grown⟩

set_option maxHeartbeats 1000000 in
theorem len_any (base hb : Nat) (v : Value) (mb : Nat) (l : List (Int × Int)) (w : World) (h : Hp w base hb fv9 v mb l) :
    Calls Try.prog 13 #[.pointer (some ⟨hb, 0, none⟩)] w fun e w' => e = .returned (.int .i64 l.length) ∧ w = w' := by
  rcases h.own.shape with ⟨rfl, rfl⟩ | ⟨g, cap, rfl, hg1, hg2, hlc, hcm, -, -⟩
  · have q1 : w.cell? ⟨hb, 1, none⟩ = some (.slice none 0 0) := cell_of h.blk
    go_enter Try.func13, Try.ntmps13
    go_wp2_with fail
    go_ret
    exact ⟨rfl, rfl⟩
  · have q1 : w.cell? ⟨hb, 1, none⟩ = some (.slice (some ⟨g, 0, none⟩) l.length cap) := cell_of h.blk
    go_enter Try.func13, Try.ntmps13
    go_wp2_with fail
    go_ret
    exact ⟨rfl, rfl⟩

set_option maxHeartbeats 2000000 in
theorem min_none (base hb : Nat) (v : Value) (mb : Nat) (w : World) (h : Hp w base hb fv9 v mb []) :
    Calls Try.prog 11 #[.pointer (some ⟨hb, 0, none⟩)] w fun e w' => e = .returned (.tuple #[.int .i64 0, .int .i64 0, .bool false]) ∧ Below w.heap.size w w' := by
  rcases h.own.shape with ⟨rfl, -⟩ | ⟨g, cap, rfl, hg1, hg2, hlc, hcm, -, -⟩
  · have q1 : w.cell? ⟨hb, 1, none⟩ = some (.slice none 0 0) := cell_of h.blk
    go_enter Try.func11, Try.ntmps11
    go_wp2_with fail
    go_quiet (fail)
    go_wp2_with fail
    go_returns
    exact ⟨rfl, below_drewN (by first | exact Below.refl _ _ | go_grown) _⟩
  · have q1 : w.cell? ⟨hb, 1, none⟩ = some (.slice (some ⟨g, 0, none⟩) 0 cap) := cell_of h.blk
    go_enter Try.func11, Try.ntmps11
    go_wp2_with fail
    go_quiet (fail)
    go_wp2_with fail
    go_returns
    exact ⟨rfl, below_drewN (by first | exact Below.refl _ _ | go_grown) _⟩

set_option maxHeartbeats 2000000 in
theorem min_some (base hb : Nat) (v : Value) (mb : Nat) (l : List (Int × Int)) (hl : 0 < l.length) (w : World) (h : Hp w base hb fv9 v mb l) :
    Calls Try.prog 11 #[.pointer (some ⟨hb, 0, none⟩)] w fun e w' => e = .returned (.tuple #[.int .i64 (kk l 0), .int .i64 (vv l 0), .bool true]) ∧ Below w.heap.size w w' := by
  rcases h.own.shape with ⟨-, rfl⟩ | ⟨g, cap, rfl, hg1, hg2, hlc, hcm, -, hcl⟩
  · simp at hl
  · have q1 : w.cell? ⟨hb, 1, none⟩ = some (.slice (some ⟨g, 0, none⟩) l.length cap) := cell_of h.blk
    obtain ⟨c0, c1⟩ := hcl 0 hl
    rw [show 0 * 2 = 0 from rfl] at c0
    rw [show 0 * 2 + 1 = 1 from rfl] at c1
    have hlen : (0 : Int) < (l.length : Int) := by omega
    have hne : ((l.length : Int) == 0) = false := beq_eq_false_iff_ne.2 (by omega)
    have e0 : kk l 0 = (l.getD 0 (0, 0)).1 := rfl
    have e1 : vv l 0 = (l.getD 0 (0, 0)).2 := rfl
    rw [← e0] at c0
    rw [← e1] at c1
    generalize kk l 0 = a at *
    generalize vv l 0 = b at *
    clear e0 e1 hcl h
    go_enter Try.func11, Try.ntmps11
    go_wp2_with fail
    go_quiet (fail)
    go_wp2_with fail
    go_returns
    exact ⟨rfl, below_drewN (by first | exact Below.refl _ _ | go_grown) _⟩

set_option maxHeartbeats 2000000 in
theorem get_any (base hb : Nat) (v : Value) (mb : Nat) (l : List (Int × Int)) (k : Int) (hk : (Lit.int .i64 k).wf = true) (w : World) (h : Hp w base hb fv9 v mb l) :
    Calls Try.prog 14 #[.pointer (some ⟨hb, 0, none⟩), .int .i64 k] w fun e w' => e = .returned (.tuple #[.int .i64 ((HeapPure.get l k).getD 0), .bool (HeapPure.get l k).isSome]) ∧ Below w.heap.size w w' := by
  have q1 : w.cell? ⟨hb, 1, none⟩ = some v := cell_of h.blk
  have q2 : w.cell? ⟨hb, 2, none⟩ = some (.map (some mb)) := cell_of h.blk
  cases e : idx l k with
  | none =>
    have hm : mi l k = none := by unfold mi; rw [e]; rfl
    have hg : HeapPure.get l k = none := by unfold HeapPure.get; rw [e]; rfl
    rw [hg]
    go_enter Try.func14, Try.ntmps14
    go_wp2_with (at_lookup; refine wpList_mp_look _ rfl _ _ rfl Try.underlying3 Try.underlying35 Try.underlying3 (zeroI _) mb l.length (mi l) rfl h.mp k rfl hk ?_; rw [hm])
    go_wp2_with fail
    go_returns
    exact ⟨rfl, Below.refl _ _⟩
  | some i =>
    obtain ⟨hi, hik⟩ := idx_some e
    have hm : mi l k = some (i : Int) := by unfold mi; rw [e]; rfl
    have hg : HeapPure.get l k = some (vv l i) := by unfold HeapPure.get; rw [e]; rfl
    rw [hg]
    rcases h.own.shape with ⟨-, rfl⟩ | ⟨g, cap, rfl, hg1, hg2, hlc, hcm, -, hcl⟩
    · simp at hi
    have c1 := (hcl i hi).2
    rw [← vv_getD] at c1
    generalize vv l i = a at *
    have hi' : (i : Int) < (l.length : Int) := by omega
    clear hcl
    go_enter Try.func14, Try.ntmps14
    go_wp2_with (at_lookup; refine wpList_mp_look _ rfl _ _ rfl Try.underlying3 Try.underlying35 Try.underlying3 (zeroI _) mb l.length (mi l) rfl h.mp k rfl hk ?_; rw [hm])
    go_wp2_with fail
    go_returns
    exact ⟨rfl, Below.refl _ _⟩
end Go.Proofs.Ytbnpipfmeekbdaa
