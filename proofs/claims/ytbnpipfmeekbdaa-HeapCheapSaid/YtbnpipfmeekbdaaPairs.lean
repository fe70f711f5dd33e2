/- Slices of pairs of ints (structs of two int fields) that a call itself makes and appends to. -/
import Derived.Test.YtbnpipfmeekbdaaOwn
import Derived.Laws.OwnMore
set_option linter.unusedVariables false
namespace Go.Kpt
open Go.RowKit

def pcells (l : List (Int × Int)) : List Value := l.flatMap fun x => [.int .i64 x.1, .int .i64 x.2]
theorem pcells_length (l : List (Int × Int)) : (pcells l).length = l.length * 2 := by
  induction l with
  | nil => rfl
  | cons x l ih => show ([Value.int .i64 x.1, .int .i64 x.2] ++ pcells l).length = _; simp [ih]; omega
theorem pcells_cons (x : Int × Int) (l : List (Int × Int)) : pcells (x :: l) = .int .i64 x.1 :: .int .i64 x.2 :: pcells l := rfl
theorem pcells_append (l k : List (Int × Int)) : pcells (l ++ k) = pcells l ++ pcells k := by simp [pcells]
theorem pcells_get (l : List (Int × Int)) : ∀ j, (pcells l)[j * 2]? = (l[j]?).map (fun x => Value.int .i64 x.1) ∧ (pcells l)[j * 2 + 1]? = (l[j]?).map (fun x => Value.int .i64 x.2) := by
  induction l with
  | nil => intro j; simp [pcells]
  | cons x l ih =>
    intro j
    rw [pcells_cons]
    cases j with
    | zero => simp
    | succ j =>
      rw [show (j + 1) * 2 = j * 2 + 1 + 1 by omega, show j * 2 + 1 + 1 + 1 = (j * 2 + 1) + 1 + 1 by omega]
      simp only [List.getElem?_cons_succ]
      exact ih j
theorem pcells_set1 (l : List (Int × Int)) : ∀ (j : Nat) (v : Int), j < l.length → (pcells l).set (j * 2 + 1) (.int .i64 v) = pcells (l.set j ((l.getD j (0, 0)).1, v)) := by
  induction l with
  | nil => intro j v h; simp at h
  | cons x l ih =>
    intro j v h
    cases j with
    | zero => simp [pcells_cons]
    | succ j =>
      rw [pcells_cons, show (j + 1) * 2 + 1 = (j * 2 + 1) + 1 + 1 by omega]
      simp only [List.set_cons_succ, pcells_cons]
      rw [ih j v (by simpa using h)]
      simp
theorem pcells_set0 (l : List (Int × Int)) : ∀ (j : Nat) (v : Int), j < l.length → (pcells l).set (j * 2) (.int .i64 v) = pcells (l.set j (v, (l.getD j (0, 0)).2)) := by
  induction l with
  | nil => intro j v h; simp at h
  | cons x l ih =>
    intro j v h
    cases j with
    | zero => simp [pcells_cons]
    | succ j =>
      rw [pcells_cons, show (j + 1) * 2 = (j * 2) + 1 + 1 by omega]
      simp only [List.set_cons_succ, pcells_cons]
      rw [ih j v (by simpa using h)]
      simp
theorem pcells_take (l : List (Int × Int)) (n : Nat) : (pcells l).take (n * 2) = pcells (l.take n) := by
  induction l generalizing n with
  | nil => simp [pcells]
  | cons x l ih =>
    cases n with
    | zero => simp [pcells]
    | succ n =>
      rw [pcells_cons, show (n + 1) * 2 = n * 2 + 1 + 1 by omega]
      simp only [List.take_succ_cons, pcells_cons, ih]

/-- v is a slice of the call's own, from block base on, that reads as these pairs. -/
def OwnP (w : World) (base : Nat) (e : TypeId) (v : Value) (l : List (Int × Int)) : Prop := w.ownsRow base e 2 v l.length (pcells l)

section
variable {w w' : World} {base : Nat} {e : TypeId} {v : Value} {l : List (Int × Int)}

theorem OwnP.shape (h : OwnP w base e v l) : (v = .slice none 0 0 ∧ l = []) ∨
    ∃ g cap, v = .slice (some ⟨g, 0, none⟩) l.length cap ∧ base ≤ g ∧ g < w.heap.size ∧ l.length ≤ cap ∧ cap ≤ maxLen ∧ (∀ j, w.frozen? ⟨g, j, none⟩ = false) ∧
      ∀ j, j < l.length → w.cell? ⟨g, j * 2, none⟩ = some (.int .i64 (l.getD j (0, 0)).1) ∧ w.cell? ⟨g, j * 2 + 1, none⟩ = some (.int .i64 (l.getD j (0, 0)).2) := by
  have h' := h
  unfold OwnP at h'
  rcases h'.2 with ⟨h1, h2⟩ | ⟨g, cap, cur, rfl, hb, hg, hl, hm, hs, ht⟩
  · exact .inl ⟨h1, List.length_eq_zero_iff.1 h2⟩
  · refine .inr ⟨g, cap, rfl, hb, lt_of hg, hl, hm, fun j => frozen_of hg, fun j hj => ?_⟩
    have key : ∀ i, i < l.length * 2 → w.cell? ⟨g, i, none⟩ = (pcells l)[i]? := fun i hi => by
      rw [cell_of hg, ← ht, List.getElem?_take]
      rw [if_pos hi]
      simp
    have hp := pcells_get l j
    rw [key _ (by omega), key _ (by omega), hp.1, hp.2]
    simp [List.getD_eq_getElem?_getD, hj]
theorem OwnP.lt (h : OwnP w base e v l) : ∀ g, v.ownBlock = some g → base ≤ g ∧ g < w.heap.size := World.ownsRow.lt h
theorem OwnP.kept {F : Nat → Prop} (h : OwnP w base e v l) (hk : Kept F w w') (hF : ∀ g, v.ownBlock = some g → ¬ F g) : OwnP w' base e v l := by
  refine ⟨h.1, ?_⟩
  rcases h.2 with h1 | ⟨g, cap, cur, rfl, hb, hg, hr⟩
  · exact .inl h1
  · exact .inr ⟨g, cap, cur, rfl, hb, (hk.block g (lt_of hg) (hF g rfl)).trans hg, hr⟩
theorem OwnP.below (h : OwnP w base e v l) (hk : Below w.heap.size w w') : OwnP w' base e v l := h.kept (Kept.of_below (F := fun _ => False) hk) (fun _ _ h => h)
theorem OwnP.alloc (h : OwnP w base e v l) (o : Obj) : OwnP (w.alloc o) base e v l := World.ownsRow.alloc h o
theorem OwnP.nil (w : World) (base : Nat) (e : TypeId) : OwnP w base e (.slice none 0 0) [] := World.ownsRow_nil w base e 2

theorem OwnP.store {g n cap : Nat} (h : OwnP w base e (.slice (some ⟨g, 0, none⟩) n cap) l) (i : Nat) (u : Value) {l' : List (Int × Int)} (hl : l'.length = l.length) (hc : (pcells l).set i u = pcells l') : OwnP (w.setCell ⟨g, i, none⟩ u) base e (.slice (some ⟨g, 0, none⟩) n cap) l' := by
  refine ⟨by rw [pcells_length], ?_⟩
  rcases h.2 with ⟨h1, _⟩ | ⟨g', cap', cur, h1, hb, hg, hle, hm, hs, ht⟩
  · cases h1
  · cases h1
    refine .inr ⟨g, cap, cur.setIfInBounds i u, by rw [hl], hb, set_same u hg, by rw [hl]; exact hle, hm, by simpa using hs, ?_⟩
    rw [hl, Array.toList_setIfInBounds, ← hc, ← ht, List.take_set]
theorem OwnP.len {g n cap : Nat} (h : OwnP w base e (.slice (some ⟨g, 0, none⟩) n cap) l) : n = l.length := by
  rcases h.2 with ⟨h1, _⟩ | ⟨g', cap', cur, h1, _⟩ <;> cases h1; rfl
theorem OwnP.set0 {g n cap : Nat} (h : OwnP w base e (.slice (some ⟨g, 0, none⟩) n cap) l) (j : Nat) (hj : j < l.length) (a : Int) : OwnP (w.setCell ⟨g, j * 2, none⟩ (.int .i64 a)) base e (.slice (some ⟨g, 0, none⟩) n cap) (l.set j (a, (l.getD j (0, 0)).2)) :=
  h.store (j * 2) _ (by simp) (pcells_set0 l j a hj)
theorem OwnP.set1 {g n cap : Nat} (h : OwnP w base e (.slice (some ⟨g, 0, none⟩) n cap) l) (j : Nat) (hj : j < l.length) (a : Int) : OwnP (w.setCell ⟨g, j * 2 + 1, none⟩ (.int .i64 a)) base e (.slice (some ⟨g, 0, none⟩) n cap) (l.set j ((l.getD j (0, 0)).1, a)) :=
  h.store (j * 2 + 1) _ (by simp) (pcells_set1 l j a hj)
theorem OwnP.set2 {g n cap : Nat} (h : OwnP w base e (.slice (some ⟨g, 0, none⟩) n cap) l) (j : Nat) (hj : j < l.length) (a b : Int) : OwnP ((w.setCell ⟨g, j * 2, none⟩ (.int .i64 a)).setCell ⟨g, j * 2 + 1, none⟩ (.int .i64 b)) base e (.slice (some ⟨g, 0, none⟩) n cap) (l.set j (a, b)) := by
  have h1 := (h.set0 j hj a).set1 j (by simpa using hj) b
  rw [List.set_set] at h1
  simpa [List.getD_eq_getElem?_getD, hj] using h1
/-- Cut off at its end. -/
theorem OwnP.cut {g n cap m : Nat} (h : OwnP w base e (.slice (some ⟨g, 0, none⟩) n cap) l) (hm : m ≤ l.length) : OwnP w base e (.slice (some ⟨g, 0, none⟩) m cap) (l.take m) := by
  have hlen : (l.take m).length = m := by simp; omega
  refine ⟨by rw [pcells_length], ?_⟩
  rcases h.2 with ⟨h1, _⟩ | ⟨g', cap', cur, h1, hb, hg, hle, hmx, hs, ht⟩
  · cases h1
  · cases h1
    refine .inr ⟨g, cap, cur, by rw [hlen], hb, hg, by omega, hmx, hs, ?_⟩
    rw [hlen, ← pcells_take, ← ht, List.take_take]
    congr 1
    omega
end
end Go.Kpt
