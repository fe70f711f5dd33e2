/- Slices of items (a key of two ints, and its time) that a call itself makes and appends to. -/
import Derived.Test.YtkbmpmcckjhaaaaOrder3
import Derived.Test.YtkbmpmcckjhaaaaOwn
import Derived.Laws.OwnMore
namespace Go.Proofs.Ytkbmpmcckjhaaaa
open Go.RowKit Go.Kpt HeapPure
set_option linter.unusedVariables false

def q5 (x : Ke × Tm) : List Value := [.int .i64 x.1.1, .int .i64 x.1.2, .int .i64 x.2.at_, .int .i64 x.2.kd, .int .i64 x.2.id]
def qcells (l : List (Ke × Tm)) : List Value := l.flatMap q5
theorem qcells_cons (x : Ke × Tm) (l : List (Ke × Tm)) : qcells (x :: l) = .int .i64 x.1.1 :: .int .i64 x.1.2 :: .int .i64 x.2.at_ :: .int .i64 x.2.kd :: .int .i64 x.2.id :: qcells l := rfl
theorem qcells_length (l : List (Ke × Tm)) : (qcells l).length = l.length * 5 := by
  induction l with
  | nil => rfl
  | cons x l ih => rw [qcells_cons]; simp [ih]; omega
theorem qcells_append (l k : List (Ke × Tm)) : qcells (l ++ k) = qcells l ++ qcells k := by simp [qcells]
theorem qcells_get (l : List (Ke × Tm)) : ∀ j, j < l.length → (qcells l)[j * 5]? = some (.int .i64 (l.getD j default).1.1) ∧ (qcells l)[j * 5 + 1]? = some (.int .i64 (l.getD j default).1.2) ∧ (qcells l)[j * 5 + 2]? = some (.int .i64 (l.getD j default).2.at_) ∧ (qcells l)[j * 5 + 3]? = some (.int .i64 (l.getD j default).2.kd) ∧ (qcells l)[j * 5 + 4]? = some (.int .i64 (l.getD j default).2.id) := by
  induction l with
  | nil => intro j h; simp at h
  | cons x l ih =>
    intro j h
    rw [qcells_cons]
    cases j with
    | zero => simp
    | succ j =>
      have := ih j (by simpa using h)
      rw [show (j + 1) * 5 = j * 5 + 1 + 1 + 1 + 1 + 1 by omega, show j * 5 + 1 + 1 + 1 + 1 + 1 + 1 = (j * 5 + 1) + 1 + 1 + 1 + 1 + 1 by omega, show j * 5 + 1 + 1 + 1 + 1 + 1 + 2 = (j * 5 + 2) + 1 + 1 + 1 + 1 + 1 by omega, show j * 5 + 1 + 1 + 1 + 1 + 1 + 3 = (j * 5 + 3) + 1 + 1 + 1 + 1 + 1 by omega, show j * 5 + 1 + 1 + 1 + 1 + 1 + 4 = (j * 5 + 4) + 1 + 1 + 1 + 1 + 1 by omega]
      simp only [List.getElem?_cons_succ]
      simpa using this
theorem qcells_set (l : List (Ke × Tm)) : ∀ (j : Nat) (x : Ke × Tm), j < l.length → (((((qcells l).set (j * 5) (.int .i64 x.1.1)).set (j * 5 + 1) (.int .i64 x.1.2)).set (j * 5 + 2) (.int .i64 x.2.at_)).set (j * 5 + 3) (.int .i64 x.2.kd)).set (j * 5 + 4) (.int .i64 x.2.id) = qcells (l.set j x) := by
  induction l with
  | nil => intro j x h; simp at h
  | cons y l ih =>
    intro j x h
    cases j with
    | zero => simp [qcells_cons]
    | succ j =>
      rw [qcells_cons, show (j + 1) * 5 = j * 5 + 1 + 1 + 1 + 1 + 1 by omega, show j * 5 + 1 + 1 + 1 + 1 + 1 + 1 = (j * 5 + 1) + 1 + 1 + 1 + 1 + 1 by omega, show j * 5 + 1 + 1 + 1 + 1 + 1 + 2 = (j * 5 + 2) + 1 + 1 + 1 + 1 + 1 by omega, show j * 5 + 1 + 1 + 1 + 1 + 1 + 3 = (j * 5 + 3) + 1 + 1 + 1 + 1 + 1 by omega, show j * 5 + 1 + 1 + 1 + 1 + 1 + 4 = (j * 5 + 4) + 1 + 1 + 1 + 1 + 1 by omega]
      simp only [List.set_cons_succ, qcells_cons]
      rw [ih j x (by simpa using h)]
theorem qcells_setV (l : List (Ke × Tm)) (j : Nat) (v : Tm) (h : j < l.length) : (((qcells l).set (j * 5 + 2) (.int .i64 v.at_)).set (j * 5 + 3) (.int .i64 v.kd)).set (j * 5 + 4) (.int .i64 v.id) = qcells (l.set j ((l.getD j default).1, v)) := by
  rw [← qcells_set l j _ h]
  congr 3
  refine List.ext_getElem? fun i => ?_
  have hl := qcells_length l
  obtain ⟨g0, g1, -⟩ := qcells_get l j h
  rw [List.getElem?_set, List.getElem?_set, List.length_set]
  by_cases e1 : j * 5 + 1 = i
  · subst e1
    rw [if_pos rfl, if_pos (by omega), g1]
  · rw [if_neg e1]
    by_cases e : j * 5 = i
    · subst e
      rw [if_pos rfl, if_pos (by omega), g0]
    · rw [if_neg e]
theorem qcells_take (l : List (Ke × Tm)) (n : Nat) : (qcells l).take (n * 5) = qcells (l.take n) := by
  induction l generalizing n with
  | nil => simp [qcells]
  | cons x l ih =>
    cases n with
    | zero => simp [qcells]
    | succ n =>
      rw [qcells_cons, show (n + 1) * 5 = n * 5 + 1 + 1 + 1 + 1 + 1 by omega]
      simp only [List.take_succ_cons, qcells_cons, ih]

/-- v is a slice of the call's own, from block base on, that reads as these items. -/
def OwnQ (w : World) (base : Nat) (e : TypeId) (v : Value) (l : List (Ke × Tm)) : Prop := w.ownsRow base e 5 v l.length (qcells l)

section
variable {w w' : World} {base : Nat} {e : TypeId} {v : Value} {l : List (Ke × Tm)}

theorem OwnQ.shape (h : OwnQ w base e v l) : (v = .slice none 0 0 ∧ l = []) ∨
    ∃ g cap, v = .slice (some ⟨g, 0, none⟩) l.length cap ∧ base ≤ g ∧ g < w.heap.size ∧ l.length ≤ cap ∧ cap ≤ maxLen ∧ (∀ j, w.frozen? ⟨g, j, none⟩ = false) ∧
      ∀ j, j < l.length → w.cell? ⟨g, j * 5, none⟩ = some (.int .i64 (l.getD j default).1.1) ∧ w.cell? ⟨g, j * 5 + 1, none⟩ = some (.int .i64 (l.getD j default).1.2) ∧ w.cell? ⟨g, j * 5 + 2, none⟩ = some (.int .i64 (l.getD j default).2.at_) ∧ w.cell? ⟨g, j * 5 + 3, none⟩ = some (.int .i64 (l.getD j default).2.kd) ∧ w.cell? ⟨g, j * 5 + 4, none⟩ = some (.int .i64 (l.getD j default).2.id) := by
  have h' := h
  unfold OwnQ at h'
  rcases h'.2 with ⟨h1, h2⟩ | ⟨g, cap, cur, rfl, hb, hg, hl, hm, hs, ht⟩
  · exact .inl ⟨h1, List.length_eq_zero_iff.1 h2⟩
  · refine .inr ⟨g, cap, rfl, hb, lt_of hg, hl, hm, fun j => frozen_of hg, fun j hj => ?_⟩
    have key : ∀ i, i < l.length * 5 → w.cell? ⟨g, i, none⟩ = (qcells l)[i]? := fun i hi => by
      rw [cell_of hg, ← ht, List.getElem?_take]
      rw [if_pos hi]
      simp
    obtain ⟨h0, h1, h2, h3, h4⟩ := qcells_get l j hj
    exact ⟨(key _ (by omega)).trans h0, (key _ (by omega)).trans h1, (key _ (by omega)).trans h2, (key _ (by omega)).trans h3, (key _ (by omega)).trans h4⟩
theorem OwnQ.lt (h : OwnQ w base e v l) : ∀ g, v.ownBlock = some g → base ≤ g ∧ g < w.heap.size := World.ownsRow.lt h
theorem OwnQ.kept {F : Nat → Prop} (h : OwnQ w base e v l) (hk : Kept F w w') (hF : ∀ g, v.ownBlock = some g → ¬ F g) : OwnQ w' base e v l := by
  refine ⟨h.1, ?_⟩
  rcases h.2 with h1 | ⟨g, cap, cur, rfl, hb, hg, hr⟩
  · exact .inl h1
  · exact .inr ⟨g, cap, cur, rfl, hb, (hk.block g (lt_of hg) (hF g rfl)).trans hg, hr⟩
theorem OwnQ.below (h : OwnQ w base e v l) (hk : Below w.heap.size w w') : OwnQ w' base e v l := h.kept (Kept.of_below (F := fun _ => False) hk) (fun _ _ h => h)
theorem OwnQ.alloc (h : OwnQ w base e v l) (o : Obj) : OwnQ (w.alloc o) base e v l := World.ownsRow.alloc h o
theorem OwnQ.nil (w : World) (base : Nat) (e : TypeId) : OwnQ w base e (.slice none 0 0) [] := World.ownsRow_nil w base e 5
/-- A cell stored into a slice of the call's own, whatever its cells. -/
theorem row_store {s n cap g : Nat} {raw : List Value} (h : w.ownsRow base e s (.slice (some ⟨g, 0, none⟩) n cap) n raw) (i : Nat) (u : Value) : (w.setCell ⟨g, i, none⟩ u).ownsRow base e s (.slice (some ⟨g, 0, none⟩) n cap) n (raw.set i u) := by
  refine ⟨by rw [List.length_set]; exact h.1, ?_⟩
  rcases h.2 with ⟨h1, _⟩ | ⟨g', cap', cur, h1, hb, hg, hle, hm, hs, ht⟩
  · cases h1
  · cases h1
    refine .inr ⟨g, cap, cur.setIfInBounds i u, rfl, hb, set_same u hg, hle, hm, by simpa using hs, ?_⟩
    rw [Array.toList_setIfInBounds, ← ht, List.take_set]
theorem OwnQ.len {g n cap : Nat} (h : OwnQ w base e (.slice (some ⟨g, 0, none⟩) n cap) l) : n = l.length := by
  rcases h.2 with ⟨h1, _⟩ | ⟨g', cap', cur, h1, _⟩ <;> cases h1; rfl
theorem OwnQ.set5 {g n cap : Nat} (h : OwnQ w base e (.slice (some ⟨g, 0, none⟩) n cap) l) (j : Nat) (hj : j < l.length) (x : Ke × Tm) :
    OwnQ (((((w.setCell ⟨g, j * 5, none⟩ (.int .i64 x.1.1)).setCell ⟨g, j * 5 + 1, none⟩ (.int .i64 x.1.2)).setCell ⟨g, j * 5 + 2, none⟩ (.int .i64 x.2.at_)).setCell ⟨g, j * 5 + 3, none⟩ (.int .i64 x.2.kd)).setCell ⟨g, j * 5 + 4, none⟩ (.int .i64 x.2.id)) base e (.slice (some ⟨g, 0, none⟩) n cap) (l.set j x) := by
  obtain rfl := h.len
  have := row_store (row_store (row_store (row_store (row_store h (j * 5) (.int .i64 x.1.1)) (j * 5 + 1) (.int .i64 x.1.2)) (j * 5 + 2) (.int .i64 x.2.at_)) (j * 5 + 3) (.int .i64 x.2.kd)) (j * 5 + 4) (.int .i64 x.2.id)
  rw [qcells_set l j x hj] at this
  unfold OwnQ
  rw [List.length_set]
  exact this
theorem OwnQ.setV {g n cap : Nat} (h : OwnQ w base e (.slice (some ⟨g, 0, none⟩) n cap) l) (j : Nat) (hj : j < l.length) (v : Tm) :
    OwnQ (((w.setCell ⟨g, j * 5 + 2, none⟩ (.int .i64 v.at_)).setCell ⟨g, j * 5 + 3, none⟩ (.int .i64 v.kd)).setCell ⟨g, j * 5 + 4, none⟩ (.int .i64 v.id)) base e (.slice (some ⟨g, 0, none⟩) n cap) (l.set j ((l.getD j default).1, v)) := by
  obtain rfl := h.len
  have := row_store (row_store (row_store h (j * 5 + 2) (.int .i64 v.at_)) (j * 5 + 3) (.int .i64 v.kd)) (j * 5 + 4) (.int .i64 v.id)
  rw [qcells_setV l j v hj] at this
  unfold OwnQ
  rw [List.length_set]
  exact this
/-- Cut off at its end. -/
theorem OwnQ.cut {g n cap m : Nat} (h : OwnQ w base e (.slice (some ⟨g, 0, none⟩) n cap) l) (hm : m ≤ l.length) : OwnQ w base e (.slice (some ⟨g, 0, none⟩) m cap) (l.take m) := by
  have hlen : (l.take m).length = m := by simp; omega
  refine ⟨by rw [qcells_length], ?_⟩
  rcases h.2 with ⟨h1, _⟩ | ⟨g', cap', cur, h1, hb, hg, hle, hmx, hs, ht⟩
  · cases h1
  · cases h1
    refine .inr ⟨g, cap, cur, by rw [hlen], hb, hg, by omega, hmx, hs, ?_⟩
    rw [hlen, ← qcells_take, ← ht, List.take_take]
    congr 1
    omega
end
end Go.Proofs.Ytkbmpmcckjhaaaa
