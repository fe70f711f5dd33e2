/- A heap behind one pointer; the document's example. -/
import Derived.Test.YtbnpipfmeekbdaaDrop
namespace Go.Proofs.Ytbnpipfmeekbdaa
open Go.RowKit Go.Kpt HeapPure
set_option linter.unusedVariables false

/-- A heap, all of it from block base on. -/
def HB (w : World) (base hb : Nat) (l : List (Int × Int)) : Prop := ∃ v mb, Hp w base hb fv9 v mb l ∧ base ≤ hb ∧ base ≤ mb
theorem HB.len {w : World} {base hb : Nat} {l : List (Int × Int)} (h : HB w base hb l) : l.length ≤ 100000 := by obtain ⟨v, mb, h, -⟩ := h; exact h.len
theorem HB.below {w w' : World} {base hb : Nat} {l : List (Int × Int)} (h : HB w base hb l) (k : Below w.heap.size w w') : HB w' base hb l := by
  obtain ⟨v, mb, h, h1⟩ := h
  exact ⟨v, mb, h.kept (Kept.of_below (F := fun _ => False) k) (fun h => h) (fun h => h) (fun _ _ h => h), h1⟩
theorem HB.size {w : World} {base hb : Nat} {l : List (Int × Int)} (h : HB w base hb l) : base ≤ w.heap.size := by
  obtain ⟨v, mb, h, h1, -⟩ := h
  have := lt_of h.blk
  omega
theorem own_below {w w' : World} {base hb mb : Nat} {v : Value} {l : List (Int × Int)} (hH : Hp w base hb fv9 v mb l) (h1 : base ≤ hb) (h2 : base ≤ mb) (k : Kept (fun y => y = hb ∨ own mb v y) w w') : Below base w w' :=
  k.below (by have := lt_of hH.blk; omega) fun x hx hF => by
    rcases hF with h | h | h
    · omega
    · omega
    · have := (hH.own.lt x h.symm).1; omega

theorem setB (base hb : Nat) (l : List (Int × Int)) (k x : Int) (hk : (Lit.int .i64 k).wf = true) (hl : l.length + 1 ≤ 100000) (w : World) (h : HB w base hb l) :
    Calls Try.prog 10 #[.pointer (some ⟨hb, 0, none⟩), .int .i64 k, .int .i64 x] w fun e w' => e = .returned (.tuple #[]) ∧ HB w' base hb (setAt lt l k x) ∧ Below base w w' := by
  have hsz := h.size
  obtain ⟨v, mb, h, h1, h2⟩ := h
  cases e : idx l k with
  | none => exact (set_new base hb v mb l k x hk hl e w hsz h).mono fun e w' ⟨h3, v', h4, h5, _⟩ => ⟨h3, ⟨v', mb, h4, h1, h2⟩, own_below h h1 h2 h5⟩
  | some i => exact (set_there base hb v mb l k x hk i e w h).mono fun e w' ⟨h3, h4, h5⟩ => ⟨h3, ⟨v, mb, h4, h1, h2⟩, own_below h h1 h2 h5⟩
theorem dropB (base hb : Nat) (l : List (Int × Int)) (k : Int) (hk : (Lit.int .i64 k).wf = true) (hg : (HeapPure.get l k).isSome = true) (w : World) (h : HB w base hb l) :
    Calls Try.prog 12 #[.pointer (some ⟨hb, 0, none⟩), .int .i64 k] w fun e w' => e = .returned (.bool true) ∧ HB w' base hb (drop lt l k) ∧ Below base w w' := by
  obtain ⟨v, mb, h, h1, h2⟩ := h
  rw [get_isSome] at hg
  obtain ⟨i, e⟩ := Option.isSome_iff_exists.1 hg
  exact (drop_some base hb v mb l k hk i e w h).mono fun e w' ⟨h3, v', h4, h5, _⟩ => ⟨h3, ⟨v', mb, h4, h1, h2⟩, own_below h h1 h2 h5⟩
theorem minB (base hb : Nat) (l : List (Int × Int)) (hl : 0 < l.length) (w : World) (h : HB w base hb l) :
    Calls Try.prog 11 #[.pointer (some ⟨hb, 0, none⟩)] w fun e w' => e = .returned (.tuple #[.int .i64 (kk l 0), .int .i64 (vv l 0), .bool true]) ∧ HB w' base hb l ∧ Below base w w' := by
  have hsz := h.size
  have hh := h
  obtain ⟨v, mb, h, h1, h2⟩ := h
  exact (min_some base hb v mb l hl w h).mono fun e w' ⟨h3, h4⟩ => ⟨h3, hh.below h4, h4.mono hsz⟩
theorem minB0 (base hb : Nat) (w : World) (h : HB w base hb []) :
    Calls Try.prog 11 #[.pointer (some ⟨hb, 0, none⟩)] w fun e w' => e = .returned (.tuple #[.int .i64 0, .int .i64 0, .bool false]) ∧ HB w' base hb [] ∧ Below base w w' := by
  have hsz := h.size
  have hh := h
  obtain ⟨v, mb, h, h1, h2⟩ := h
  exact (min_none base hb v mb w h).mono fun e w' ⟨h3, h4⟩ => ⟨h3, hh.below h4, h4.mono hsz⟩
theorem lenB (base hb : Nat) (l : List (Int × Int)) (w : World) (h : HB w base hb l) :
    Calls Try.prog 13 #[.pointer (some ⟨hb, 0, none⟩)] w fun e w' => e = .returned (.int .i64 l.length) ∧ w = w' := by
  obtain ⟨v, mb, h, h1, h2⟩ := h
  exact len_any base hb v mb l w h
theorem newB (w : World) :
    Calls Try.prog 8 #[fv9] w fun e w' => ∃ hb, e = .returned (.pointer (some ⟨hb, 0, none⟩)) ∧ HB w' w.heap.size hb [] ∧ Below w.heap.size w w' :=
  (new_any w).mono fun e w' ⟨hb, mb, h1, h2, h3, h4, h5, h6, h7⟩ => ⟨hb, h1, ⟨_, mb, h6, h2, h3⟩, h7⟩

/-- What stands at a heap's head. -/
theorem min_spec {l : List (Int × Int)} (h : HeapPure.Good lt l) (hl : 0 < l.length) : HeapPure.get l (kk l 0) = some (vv l 0) ∧ ∀ k v, HeapPure.get l k = some v → vv l 0 ≤ v := by
  refine ⟨(get_eq_some h.inj).2 ⟨0, ?_⟩, fun k v hg => ?_⟩
  · rw [getElem_of hl]; rfl
  · obtain ⟨i, hi⟩ := (get_eq_some h.inj).1 hg
    have hil : i < l.length := (List.getElem?_eq_some_iff.1 hi).1
    have := heaped_min ord_lt h.heaped i hil
    rw [getElem_of hil] at hi
    have hv : vv l i = v := by rw [vv_getD, Option.some.inj hi]
    rw [hv] at this
    simp [lt] at this
    exact this

def a1 : List (Int × Int) := setAt lt [] 1 5
def a2 : List (Int × Int) := setAt lt a1 2 3
def a3 : List (Int × Int) := setAt lt a2 1 2
theorem ga1 : HeapPure.Good lt a1 := setAt_good ord_lt HeapPure.Good.nil 1 5
theorem ga2 : HeapPure.Good lt a2 := setAt_good ord_lt ga1 2 3
theorem ga3 : HeapPure.Good lt a3 := setAt_good ord_lt ga2 1 2
theorem get_nil (k : Int) : HeapPure.get ([] : List (Int × Int)) k = none := rfl
theorem get_a3 (k : Int) : HeapPure.get a3 k = if k = 1 then some 2 else if k = 2 then some 3 else none := by
  unfold a3
  rw [setAt_get ord_lt ga2]
  by_cases h : k = 1
  · rw [if_pos h, if_pos h]
  · rw [if_neg h, if_neg h]
    unfold a2
    rw [setAt_get ord_lt ga1]
    by_cases h2 : k = 2
    · rw [if_pos h2, if_pos h2]
    · rw [if_neg h2, if_neg h2]
      unfold a1
      rw [setAt_get ord_lt HeapPure.Good.nil, if_neg h, get_nil]
theorem len_a1 : a1.length = 1 := by
  unfold a1
  rw [setAt_length]; rfl
theorem len_a2 : a2.length = 2 := by
  unfold a2
  rw [setAt_length, ← get_isSome]
  have : HeapPure.get a1 2 = none := by unfold a1; rw [setAt_get ord_lt HeapPure.Good.nil, if_neg (by decide), get_nil]
  rw [this, len_a1]; rfl
theorem len_a3 : a3.length = 2 := by
  unfold a3
  rw [setAt_length, ← get_isSome]
  have : HeapPure.get a2 1 = some 5 := by unfold a2; rw [setAt_get ord_lt ga1, if_neg (by decide)]; unfold a1; rw [setAt_get ord_lt HeapPure.Good.nil, if_pos rfl]
  rw [this, len_a2]; rfl
theorem min_a3 : kk a3 0 = 1 ∧ vv a3 0 = 2 := by
  obtain ⟨h1, h2⟩ := min_spec ga3 (by rw [len_a3]; omega)
  have h3 := h2 1 2 (by rw [get_a3, if_pos rfl])
  rw [get_a3] at h1
  by_cases e : kk a3 0 = 1
  · rw [if_pos e] at h1
    exact ⟨e, (Option.some.inj h1).symm⟩
  · rw [if_neg e] at h1
    by_cases e2 : kk a3 0 = 2
    · rw [if_pos e2] at h1
      have := Option.some.inj h1
      omega
    · rw [if_neg e2] at h1; cases h1

set_option maxRecDepth 100000 in
set_option maxHeartbeats 4000000 in
theorem head_any (w : World) : Calls Try.prog 7 #[] w fun e w' => e = .returned (.bool true) ∧ Below w.heap.size w w' := by
  go_enter Try.func7, Try.ntmps7
  go_wp2_with fail
  refine (newB w).mono ?_
  rintro e w1 ⟨hb, rfl, h1, hB1⟩
  go_wp2_with fail
  refine (setB _ hb [] 1 5 (by decide) (by simp) w1 h1).mono ?_
  rintro e w2 ⟨rfl, h2, k2⟩
  go_wp2_with fail
  refine (setB _ hb a1 2 3 (by decide) (by rw [len_a1]; omega) w2 h2).mono ?_
  rintro e w3 ⟨rfl, h3, k3⟩
  go_wp2_with fail
  refine (setB _ hb a2 1 2 (by decide) (by rw [len_a2]; omega) w3 h3).mono ?_
  rintro e w4 ⟨rfl, h4, k4⟩
  have hm := minB _ hb a3 (by rw [len_a3]; omega) w4 h4
  rw [min_a3.1, min_a3.2] at hm
  go_wp2_with fail
  refine hm.mono ?_
  rintro e w5 ⟨rfl, h5, k5⟩
  have hl := lenB _ hb a3 w5 h5
  rw [len_a3] at hl
  have hl : Calls Try.prog 13 #[.pointer (some ⟨hb, 0, none⟩)] w5 fun e w' => e = .returned (.int .i64 2) ∧ w5 = w' := hl
  clear hm
  go_wp2_with fail
  refine hl.mono ?_
  rintro e w6 ⟨rfl, rfl⟩
  go_wp2_with fail
  go_ret
  exact ⟨rfl, hB1.trans (k2.trans (k3.trans (k4.trans k5)))⟩
end Go.Proofs.Ytbnpipfmeekbdaa
