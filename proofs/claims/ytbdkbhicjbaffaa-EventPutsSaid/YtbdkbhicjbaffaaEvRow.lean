/- Slices of events that a call itself makes and appends to. -/
import Derived.Test.YtbdkbhicjbaffaaEvEq
namespace Go.Proofs.Ytbdkbhicjbaffaa
open Go.RowKit Go.Kpt WirePure
set_option linter.unusedVariables false

def ecells (l : List Evt) : List Value := l.flatMap fun f => (evc f).toList
theorem ecells_cons (f : Evt) (l : List Evt) : ecells (f :: l) = (evc f).toList ++ ecells l := rfl
theorem ecells_append (l k : List Evt) : ecells (l ++ k) = ecells l ++ ecells k := by simp [ecells]
theorem ecells_length (l : List Evt) : (ecells l).length = l.length * 10 := by
  induction l with
  | nil => rfl
  | cons f l ih => rw [ecells_cons, List.length_append, ih, List.length_cons, show (evc f).toList.length = 10 from rfl]; omega
theorem ecells_get (l : List Evt) : ∀ (i : Nat) (j : Fin 10), i < l.length → (ecells l)[i * 10 + j.val]? = some (.int .i64 (l.getD i noev j)) := by
  induction l with
  | nil => intro i j h; simp at h
  | cons f l ih =>
    intro i j h
    rw [ecells_cons]
    cases i with
    | zero =>
      rw [List.getElem?_append_left (by have := j.isLt; simp [evc])]
      have := evc_get f j
      simpa using this
    | succ i =>
      rw [List.getElem?_append_right (by rw [show (evc f).toList.length = 10 from rfl]; omega)]
      rw [show (i + 1) * 10 + j.val - (evc f).toList.length = i * 10 + j.val by rw [show (evc f).toList.length = 10 from rfl]; omega]
      rw [ih i j (by simpa using h)]
      simp

/-- v is a slice of the call's own, from block base on, that reads as these events. -/
def OwnE (w : World) (base : Nat) (v : Value) (l : List Evt) : Prop := w.ownsRow base 24 10 v l.length (ecells l)

/-- Where a slice's events stand. -/
def SE (w : World) (p : Nat → Prop) (a : Option Addr) (l : List Evt) : Prop :=
  ∀ i, i < l.length → ∃ b off, a = some ⟨b, off, none⟩ ∧ p b ∧ ∀ j : Fin 10, w.cell? ⟨b, off + (i * 10 + j.val), none⟩ = some (.int .i64 (l.getD i noev j))

section
variable {w w' : World} {base : Nat} {v : Value} {l : List Evt}

theorem OwnE.shape (h : OwnE w base v l) : (v = .slice none 0 0 ∧ l = []) ∨
    ∃ g cap, v = .slice (some ⟨g, 0, none⟩) l.length cap ∧ base ≤ g ∧ g < w.heap.size ∧ l.length ≤ cap ∧ cap ≤ maxLen ∧
      ∀ i, i < l.length → ∀ j : Fin 10, w.cell? ⟨g, i * 10 + j.val, none⟩ = some (.int .i64 (l.getD i noev j)) := by
  have h' := h
  unfold OwnE at h'
  rcases h'.2 with ⟨h1, h2⟩ | ⟨g, cap, cur, rfl, hb, hg, hl, hm, hs, ht⟩
  · exact .inl ⟨h1, List.length_eq_zero_iff.1 h2⟩
  · refine .inr ⟨g, cap, rfl, hb, lt_of hg, hl, hm, fun i hi j => ?_⟩
    have hj := j.isLt
    rw [cell_of hg, ← ecells_get l i j hi, ← ht, List.getElem?_take, if_pos (by omega)]
    simp
theorem OwnE.lt (h : OwnE w base v l) : ∀ g, v.ownBlock = some g → base ≤ g ∧ g < w.heap.size := World.ownsRow.lt h
theorem OwnE.kept {F : Nat → Prop} (h : OwnE w base v l) (hk : Kept F w w') (hF : ∀ g, v.ownBlock = some g → ¬ F g) : OwnE w' base v l := by
  refine ⟨h.1, ?_⟩
  rcases h.2 with h1 | ⟨g, cap, cur, rfl, hb, hg, hr⟩
  · exact .inl h1
  · exact .inr ⟨g, cap, cur, rfl, hb, (hk.block g (lt_of hg) (hF g rfl)).trans hg, hr⟩
theorem OwnE.below (h : OwnE w base v l) (hk : Below w.heap.size w w') : OwnE w' base v l := h.kept (Kept.of_below (F := fun _ => False) hk) (fun _ _ h => h)
theorem OwnE.alloc (h : OwnE w base v l) (o : Obj) : OwnE (w.alloc o) base v l := World.ownsRow.alloc h o
theorem OwnE.nil (w : World) (base : Nat) : OwnE w base (.slice none 0 0) [] := World.ownsRow_nil w base 24 10
theorem OwnE.mono {base' : Nat} (h : OwnE w base v l) (hb : base' ≤ base) : OwnE w base' v l := by
  refine ⟨h.1, ?_⟩
  rcases h.2 with h1 | ⟨g, cap, cur, h0, hb', hr⟩
  · exact .inl h1
  · exact .inr ⟨g, cap, cur, h0, Nat.le_trans hb hb', hr⟩
theorem OwnE.se (h : OwnE w base v l) : ∃ a cap, v = .slice a l.length cap ∧ l.length ≤ cap ∧ cap ≤ maxLen ∧ SE w (fun x => base ≤ x ∧ x < w.heap.size) a l := by
  rcases h.shape with ⟨rfl, rfl⟩ | ⟨g, cap, rfl, hb, hg, hl, hm, hc⟩
  · exact ⟨none, 0, rfl, Nat.le_refl _, by unfold maxLen; omega, fun i hi => by simp at hi⟩
  · exact ⟨some ⟨g, 0, none⟩, cap, rfl, hl, hm, fun i hi => ⟨g, 0, rfl, ⟨hb, hg⟩, fun j => by rw [Nat.zero_add]; exact hc i hi j⟩⟩
theorem SE.kept {p F : Nat → Prop} {a : Option Addr} (h : SE w p a l) (hk : Kept F w w') (hF : ∀ x, p x → ¬ F x) : SE w' p a l := by
  intro i hi
  obtain ⟨b, off, ha, hb, hc⟩ := h i hi
  exact ⟨b, off, ha, hb, fun j => (hk.cell (p := ⟨b, off + (i * 10 + j.val), none⟩) (block_lt_of_cell (hc j)) (hF b hb)).trans (hc j)⟩
theorem SE.mono {p q : Nat → Prop} {a : Option Addr} (h : SE w p a l) (hq : ∀ x, p x → q x) : SE w q a l := by
  intro i hi
  obtain ⟨b, off, ha, hb, hc⟩ := h i hi
  exact ⟨b, off, ha, hq b hb, hc⟩
end

theorem Try.info24 : (Try.prog.info? 24).map (fun i => (i.zero, i.size, i.bytes)) = some (some (.agg (evc noev)), 10, 80) := by kernel_rfl

/-- At the operation: one event behind a slice of the call's own. -/
theorem wpList_append_ev {ops : Array Oper} {rest : List Oper} {o : Oper} {a : Act} {w : World} {Q : Exit → Act → World → Prop} (hgd : o.guard = none) (s x : Operand)
    (ho : o.op = .call { callee := .builtin .append, args := #[s, x], argTypes := #[34, 34] })
    (base : Nat) (v : Value) (l : List Evt) (hs : a.eval s = v) (hown : OwnE w base v l) (b c : Nat) (f : Evt) (hx : a.eval x = .slice (some ⟨b, 0, none⟩) 1 c) (hev : Ev w b f)
    (hl : l.length ≤ 1000000) (hbase : base ≤ w.heap.size)
    (h : ∀ v' w', OwnE w' base v' (l ++ [f]) → w.grownBy w' v.ownBlock → (v'.ownBlock = v.ownBlock ∨ v'.ownBlock = some w.heap.size) → wpList Try.prog ops Q rest (a.put o.dst v') w') :
    wpList Try.prog ops Q (o :: rest) a w := by
  obtain ⟨i0, hi, hz0, hz1, hz2⟩ := info_parts Try.info24
  refine wpList_append_own_at w hgd s x 34 ho base 24 i0 (.agg (evc noev)) 10 80 Try.underlying34 hi hz0 hz1 hz2 rfl (by omega) v l.length (ecells l) hs hown ⟨b, 0, none⟩ 1 c (evc f).toList hx rfl (fun j u hj => ?_) (by intro u hu; simp [evc] at hu; rcases hu with rfl | rfl | rfl | rfl | rfl | rfl | rfl | rfl | rfl | rfl <;> rfl) (by unfold maxLen; omega) (by omega) hbase ?_
  · have hplain : (⟨b, 0, none⟩ : Addr).add j = ⟨b, j, none⟩ := by unfold Addr.add; split <;> simp_all
    rw [hplain]
    exact (cell_of hev).trans (by simpa using hj)
  · intro v' w' h1 h2 _ h4
    refine h v' w' ?_ h2 h4
    unfold OwnE
    rw [ecells_append, List.length_append]
    simpa [ecells] using h1
end Go.Proofs.Ytbdkbhicjbaffaa
