/- A heap beside a model map; what is done to one leaves the other, and blocks of the acts. -/
import Derived.Test.YtbnpipfmeekbdaaTwo
namespace Go.Proofs.Ytbnpipfmeekbdaa
open Go.RowKit Go.Kpt HeapPure
set_option linter.unusedVariables false

/-- A guarded operation whose guard lets it: as the bare one. -/
theorem wpList_unguard {P : Program} {ops : Array Oper} {rest : List Oper} {o : Oper} {a : Act} {w : World} {Q : Exit → Act → World → Prop} (hw : Region.wanted o (yielded ops a.tmps) = true) (h : wpList P ops Q ({ o with guard := none } :: rest) a w) : wpList P ops Q (o :: rest) a w := by
  unfold wpList at h ⊢
  rw [if_pos hw]
  rw [if_pos (by simp [Region.wanted])] at h
  exact h

/-- Blocks that hold an act stay as they are. -/
def Acted (w w' : World) : Prop := ∀ (b : Nat) (cs : Array Value), w.heap[b]? = some (Obj.cells cs 37 (0, 0)) → w'.heap[b]? = some (Obj.cells cs 37 (0, 0))
theorem Acted.trans {a b c : World} (h : Acted a b) (k : Acted b c) : Acted a c := fun x cs hx => k x cs (h x cs hx)
theorem Acted.refl (w : World) : Acted w w := fun _ _ h => h
theorem Acted.below {w w' : World} (k : Below w.heap.size w w') : Acted w w' := fun b cs h => (k.block b (lt_of h)).trans h
theorem Acted.kept {F : Nat → Prop} {w w' : World} (k : Kept F w w') (hF : ∀ (b : Nat) (cs : Array Value), w.heap[b]? = some (Obj.cells cs 37 (0, 0)) → ¬ F b) : Acted w w' := fun b cs h => (k.block b (lt_of h) (hF b cs h)).trans h

/-- A heap of l and a map that holds what l' does, all from block base on. -/
def HM (w : World) (base a ma : Nat) (l l' : List (Int × Int)) : Prop :=
  ∃ v mb, Hp w base a fv9 v mb l ∧ Mp Try.prog 3 3 w ma l'.length (HeapPure.get l') ∧ base ≤ a ∧ base ≤ mb ∧ base ≤ ma ∧ mb ≠ ma
section
variable {w w' : World} {base a ma : Nat} {l l' : List (Int × Int)}
theorem HM.size (h : HM w base a ma l l') : base ≤ w.heap.size := by
  obtain ⟨v, mb, h1, h2, h3, -⟩ := h
  have := lt_of h1.blk
  omega
theorem HM.mp (h : HM w base a ma l l') : Mp Try.prog 3 3 w ma l'.length (HeapPure.get l') := by obtain ⟨v, mb, h1, h2, -⟩ := h; exact h2
theorem HM.wf (h : HM w base a ma l l') (h0 : 0 < l.length) : (Lit.int .i64 (kk l 0)).wf = true := by
  obtain ⟨v, mb, h1, -⟩ := h
  exact h1.wf _ (List.mem_of_getElem? (getElem_of h0))
theorem HM.below (h : HM w base a ma l l') (k : Below w.heap.size w w') : HM w' base a ma l l' := by
  obtain ⟨v, mb, h1, h2, h3⟩ := h
  have hk := Kept.of_below (F := fun _ => False) k
  exact ⟨v, mb, h1.kept hk (fun h => h) (fun h => h) (fun _ _ h => h), h2.kept hk (fun h => h), h3⟩
theorem own_cells {v : Value} {mb : Nat} (h : Hp w base a fv9 v mb l) (g : Nat) (hg : v.ownBlock = some g) : ∃ cur, w.heap[g]? = some (.cells cur 49 (0, 0)) := by
  rcases h.own.2 with ⟨e, -⟩ | ⟨g', cap, cur, e, -, hg', -⟩
  · rw [e] at hg; cases hg
  · rw [e] at hg; cases hg; exact ⟨cur, hg'⟩
theorem map_cells {P : Program} {kt et : TypeId} {c : Nat} {m : Int → Option Int} (h : Mp P kt et w ma c m) {cs : Array Value} {t : TypeId} (hb : w.heap[ma]? = some (.cells cs t (0, 0))) : False := by
  obtain ⟨D, ⟨es, clock, hm, -⟩, -⟩ := h
  rw [hm] at hb; cases hb
/-- The heap's own blocks hold no act. -/
theorem own_act {v : Value} {mb : Nat} (h : Hp w base a fv9 v mb l) (b : Nat) (cs : Array Value) (hb : w.heap[b]? = some (.cells cs 37 (0, 0))) : ¬ (b = a ∨ own mb v b) := by
  rintro (e | e | e)
  · rw [e, h.blk] at hb; cases hb
  · rw [e] at hb; exact map_cells h.mp hb
  · obtain ⟨cur, hc⟩ := own_cells h b e.symm
    rw [hc] at hb; cases hb
theorem own_map {v : Value} {mb : Nat} {P : Program} {kt et : TypeId} {c : Nat} {m : Int → Option Int} (h : Hp w base a fv9 v mb l) (h2 : Mp P kt et w ma c m) (hne : mb ≠ ma) : ¬ (ma = a ∨ own mb v ma) := by
  rintro (e | e | e)
  · rw [e] at h2; exact map_cells h2 h.blk
  · exact hne e.symm
  · obtain ⟨cur, hc⟩ := own_cells h ma e.symm
    exact map_cells h2 hc

theorem setM (base a ma : Nat) (l l' : List (Int × Int)) (k x : Int) (hk : (Lit.int .i64 k).wf = true) (hl : l.length + 1 ≤ 100000) (w : World) (h : HM w base a ma l l') :
    Calls Try.prog 10 #[.pointer (some ⟨a, 0, none⟩), .int .i64 k, .int .i64 x] w fun e w' => e = .returned (.tuple #[]) ∧ HM w' base a ma (setAt lt l k x) l' ∧ Below base w w' ∧ Acted w w' := by
  have hsz := h.size
  obtain ⟨v, mb, h1, h2, h3, h4, h5, h6⟩ := h
  exact (set_any base a v mb l k x hk hl w hsz h1).mono fun e w' ⟨q1, v', q2, q3, q4⟩ => ⟨q1, ⟨v', mb, q2, h2.kept q3 (own_map h1 h2 h6), h3, h4, h5, h6⟩, own_below h1 h3 h4 q3, Acted.kept q3 (own_act h1)⟩
theorem dropM (base a ma : Nat) (l l' : List (Int × Int)) (k : Int) (hk : (Lit.int .i64 k).wf = true) (w : World) (h : HM w base a ma l l') :
    Calls Try.prog 12 #[.pointer (some ⟨a, 0, none⟩), .int .i64 k] w fun e w' => e = .returned (.bool (HeapPure.get l k).isSome) ∧ HM w' base a ma (drop lt l k) l' ∧ Below base w w' ∧ Acted w w' := by
  have hsz := h.size
  obtain ⟨v, mb, h1, h2, h3, h4, h5, h6⟩ := h
  exact (drop_any base a v mb l k hk w h1).mono fun e w' ⟨q1, v', q2, q3, q4⟩ => ⟨q1, ⟨v', mb, q2, h2.kept q3 (own_map h1 h2 h6), h3, h4, h5, h6⟩, own_below h1 h3 h4 q3, Acted.kept q3 (own_act h1)⟩
theorem minM (base a ma : Nat) (l l' : List (Int × Int)) (hl : 0 < l.length) (w : World) (h : HM w base a ma l l') :
    Calls Try.prog 11 #[.pointer (some ⟨a, 0, none⟩)] w fun e w' => e = .returned (.tuple #[.int .i64 (kk l 0), .int .i64 (vv l 0), .bool true]) ∧ HM w' base a ma l l' ∧ Below base w w' ∧ Acted w w' := by
  have hsz := h.size
  have hh := h
  obtain ⟨v, mb, h1, -⟩ := h
  exact (min_some base a v mb l hl w h1).mono fun e w' ⟨q1, q2⟩ => ⟨q1, hh.below q2, q2.mono hsz, Acted.below q2⟩
theorem minM0 (base a ma : Nat) (l' : List (Int × Int)) (w : World) (h : HM w base a ma [] l') :
    Calls Try.prog 11 #[.pointer (some ⟨a, 0, none⟩)] w fun e w' => e = .returned (.tuple #[.int .i64 0, .int .i64 0, .bool false]) ∧ HM w' base a ma [] l' ∧ Below base w w' ∧ Acted w w' := by
  have hsz := h.size
  have hh := h
  obtain ⟨v, mb, h1, -⟩ := h
  exact (min_none base a v mb w h1).mono fun e w' ⟨q1, q2⟩ => ⟨q1, hh.below q2, q2.mono hsz, Acted.below q2⟩
theorem lenM (base a ma : Nat) (l l' : List (Int × Int)) (w : World) (h : HM w base a ma l l') :
    Calls Try.prog 13 #[.pointer (some ⟨a, 0, none⟩)] w fun e w' => e = .returned (.int .i64 l.length) ∧ w = w' := by
  obtain ⟨v, mb, h1, -⟩ := h
  exact len_any base a v mb l w h1
theorem getM (base a ma : Nat) (l l' : List (Int × Int)) (k : Int) (hk : (Lit.int .i64 k).wf = true) (w : World) (h : HM w base a ma l l') :
    Calls Try.prog 14 #[.pointer (some ⟨a, 0, none⟩), .int .i64 k] w fun e w' => e = .returned (.tuple #[.int .i64 ((HeapPure.get l k).getD 0), .bool (HeapPure.get l k).isSome]) ∧ HM w' base a ma l l' ∧ Below base w w' ∧ Acted w w' := by
  have hsz := h.size
  have hh := h
  obtain ⟨v, mb, h1, -⟩ := h
  exact (get_any base a v mb l k hk w h1).mono fun e w' ⟨q1, q2⟩ => ⟨q1, hh.below q2, q2.mono hsz, Acted.below q2⟩
theorem get_put (hg : HeapPure.Good lt l') (k v : Int) : mput (HeapPure.get l') k v = HeapPure.get (setAt lt l' k v) := by
  funext x
  rw [setAt_get ord_lt hg]
  rfl
theorem get_del (hg : HeapPure.Good lt l') (k : Int) : mdel (HeapPure.get l') k = HeapPure.get (drop lt l' k) := by
  funext x
  rw [drop_get ord_lt hg]
  rfl
theorem HM.put {k v : Int} (h : HM w base a ma l l') (hg : HeapPure.Good lt l') (hm : Mp Try.prog 3 3 w' ma (if (HeapPure.get l' k).isSome then l'.length else l'.length + 1) (mput (HeapPure.get l') k v)) (hk : Kept (fun x => x = ma) w w') :
    HM w' base a ma l (setAt lt l' k v) ∧ Below base w w' ∧ Acted w w' := by
  have hsz := h.size
  obtain ⟨v', mb, h1, h2, h3, h4, h5, h6⟩ := h
  have ho := own_map h1 h2 h6
  refine ⟨⟨v', mb, h1.kept hk (fun e => ho (.inl e.symm)) (fun e => h6 e) (fun g hg e => ho (by subst e; exact .inr (.inr hg.symm))), ?_, h3, h4, h5, h6⟩, hk.below hsz (fun x hx e => by omega), Acted.kept hk (fun b cs hb e => by subst e; exact map_cells h2 hb)⟩
  rw [← get_put hg, setAt_length, ← get_isSome]
  exact hm
theorem HM.del {k : Int} (h : HM w base a ma l l') (hg : HeapPure.Good lt l') (hm : Mp Try.prog 3 3 w' ma (if (HeapPure.get l' k).isSome then l'.length - 1 else l'.length) (mdel (HeapPure.get l') k)) (hk : Kept (fun x => x = ma) w w') :
    HM w' base a ma l (drop lt l' k) ∧ Below base w w' ∧ Acted w w' := by
  have hsz := h.size
  obtain ⟨v', mb, h1, h2, h3, h4, h5, h6⟩ := h
  have ho := own_map h1 h2 h6
  refine ⟨⟨v', mb, h1.kept hk (fun e => ho (.inl e.symm)) (fun e => h6 e) (fun g hg e => ho (by subst e; exact .inr (.inr hg.symm))), ?_, h3, h4, h5, h6⟩, hk.below hsz (fun x hx e => by omega), Acted.kept hk (fun b cs hb e => by subst e; exact map_cells h2 hb)⟩
  rw [← get_del hg, drop_length, ← get_isSome]
  exact hm
/-- A map beside the heap. -/
theorem HB.beside (h : HB w base a l) : HM (w.alloc (.map #[] 0)) base a w.heap.size l [] ∧ Below base w (w.alloc (.map #[] 0)) := by
  have hsz := h.size
  obtain ⟨v, mb, h1, h2, h3⟩ := h
  have hb : Below w.heap.size w (w.alloc (.map #[] 0)) := (Below.refl _ _).alloc (Nat.le_refl _) _
  have hk := Kept.of_below (F := fun _ => False) hb
  refine ⟨⟨v, mb, h1.kept hk (fun h => h) (fun h => h) (fun _ _ h => h), Mp.made w, h2, h3, hsz, ?_⟩, hb.mono hsz⟩
  have := h1.mp.lt; omega
end
end Go.Proofs.Ytbnpipfmeekbdaa
