/- Slices of numbers that a call itself makes and appends to. -/
import Derived.Test.YtbnpipfmeekbdaaKept
import Derived.Maps.AppendAt
namespace Go.Kpt
open Go.RowKit

/-- v is a slice of the call's own, from block base on, that reads as these numbers. -/
def OwnI (w : World) (base : Nat) (e : TypeId) (k : IntKind) (v : Value) (xs : List Int) : Prop := w.ownsRow base e 1 v xs.length (xs.map (Value.int k))

theorem Kept.of_grown {w w' : World} {row : Option Nat} (h : w.grownBy w' row) : Kept (fun x => some x = row) w w' := ⟨h.os, h.tape, h.output, h.size, h.block⟩

theorem Kept.grown {F : Nat → Prop} {w w' : World} {row : Option Nat} (h : Kept F w w') (hF : ∀ x, x < w.heap.size → F x → some x = row) : w.grownBy w' row :=
  ⟨h.os, h.tape, h.output, h.size, fun k hk hne => h.block k hk (fun hf => hne (hF k hk hf))⟩

section
variable {w w' : World} {base : Nat} {e : TypeId} {k : IntKind} {v : Value} {xs : List Int}

theorem OwnI.shape (h : OwnI w base e k v xs) : (v = .slice none 0 0 ∧ xs = []) ∨
    ∃ g cap, v = .slice (some ⟨g, 0, none⟩) xs.length cap ∧ base ≤ g ∧ g < w.heap.size ∧ xs.length ≤ cap ∧ cap ≤ maxLen ∧ ∀ j, j < xs.length → w.cell? ⟨g, j, none⟩ = some (.int k (xs.getD j 0)) := by
  have h' := h
  unfold OwnI at h'
  rcases h'.2 with ⟨h1, h2⟩ | ⟨g, cap, cur, rfl, hb, hg, hl, hm, hs, ht⟩
  · exact .inl ⟨h1, List.length_eq_zero_iff.1 h2⟩
  · refine .inr ⟨g, cap, rfl, hb, lt_of hg, hl, hm, fun j hj => ?_⟩
    rw [h'.cellAt j (by omega)]
    simp [hj]

theorem OwnI.lt (h : OwnI w base e k v xs) : ∀ g, v.ownBlock = some g → base ≤ g ∧ g < w.heap.size := World.ownsRow.lt h

theorem OwnI.kept {F : Nat → Prop} (h : OwnI w base e k v xs) (hk : Kept F w w') (hF : ∀ g, v.ownBlock = some g → ¬ F g) : OwnI w' base e k v xs := by
  refine ⟨h.1, ?_⟩
  rcases h.2 with h1 | ⟨g, cap, cur, rfl, hb, hg, hr⟩
  · exact .inl h1
  · exact .inr ⟨g, cap, cur, rfl, hb, (hk.block g (lt_of hg) (hF g rfl)).trans hg, hr⟩

theorem OwnI.alloc (h : OwnI w base e k v xs) (o : Obj) : OwnI (w.alloc o) base e k v xs := World.ownsRow.alloc h o

theorem OwnI.mono {base' : Nat} (h : OwnI w base e k v xs) (hb : base' ≤ base) : OwnI w base' e k v xs := by
  refine ⟨h.1, ?_⟩
  rcases h.2 with h1 | ⟨g, cap, cur, h0, hb', hr⟩
  · exact .inl h1
  · exact .inr ⟨g, cap, cur, h0, Nat.le_trans hb hb', hr⟩

theorem OwnI.nil (w : World) (base : Nat) (e : TypeId) (k : IntKind) : OwnI w base e k (.slice none 0 0) [] := World.ownsRow_nil w base e 1

/-- An empty slice that is written out. -/
theorem OwnI.empty (w : World) (base : Nat) (e : TypeId) (k : IntKind) (hb : base ≤ w.heap.size) : OwnI (w.alloc (.cells #[] e)) base e k (.slice (some ⟨w.heap.size, 0, none⟩) 0 0) [] :=
  ⟨rfl, .inr ⟨w.heap.size, 0, #[], rfl, hb, heap_alloc_new _ _, Nat.le_refl _, by unfold maxLen; omega, rfl, rfl⟩⟩

/-- Behind an append of one number. -/
theorem OwnI.snoc {x : Int} {v' : Value} (h : w'.ownsRow base e 1 v' (xs.length + 1) (xs.map (Value.int k) ++ [.int k x])) : OwnI w' base e k v' (xs ++ [x]) := by
  unfold OwnI; simpa using h

/-- Where a slice's numbers stand; of its address nothing is told but that, and in which blocks. -/
def Sl (k : IntKind) (w : World) (p : Nat → Prop) (a : Option Addr) (zs : List Int) : Prop :=
  ∀ i, i < zs.length → ∃ b off, a = some ⟨b, off, none⟩ ∧ p b ∧ w.cell? ⟨b, off + i, none⟩ = some (.int k (zs.getD i 0))

theorem OwnI.sl (h : OwnI w base e k v xs) : ∃ a cap, v = .slice a xs.length cap ∧ xs.length ≤ cap ∧ cap ≤ maxLen ∧ Sl k w (fun x => base ≤ x ∧ x < w.heap.size) a xs := by
  rcases h.shape with ⟨rfl, rfl⟩ | ⟨g, cap, rfl, hb, hg, hl, hm, hc⟩
  · exact ⟨none, 0, rfl, Nat.le_refl _, by unfold maxLen; omega, fun i hi => by simp at hi⟩
  · exact ⟨some ⟨g, 0, none⟩, cap, rfl, hl, hm, fun i hi => ⟨g, 0, rfl, ⟨hb, hg⟩, by rw [Nat.zero_add]; exact hc i hi⟩⟩

theorem Sl.kept {p F : Nat → Prop} {a : Option Addr} {zs : List Int} (h : Sl k w p a zs) (hk : Kept F w w') (hF : ∀ x, p x → ¬ F x) : Sl k w' p a zs := by
  intro i hi
  obtain ⟨b, off, ha, hb, hc⟩ := h i hi
  exact ⟨b, off, ha, hb, (hk.cell (p := ⟨b, off + i, none⟩) (block_lt_of_cell hc) (hF b hb)).trans hc⟩

theorem Sl.mono {p q : Nat → Prop} {a : Option Addr} {zs : List Int} (h : Sl k w p a zs) (hq : ∀ x, p x → q x) : Sl k w q a zs := by
  intro i hi
  obtain ⟨b, off, ha, hb, hc⟩ := h i hi
  exact ⟨b, off, ha, hq b hb, hc⟩

end
end Go.Kpt
