/- A set of times, and the law's map beside it. -/
import Derived.Test.YtkbmpmcckjhaaaaFirst2
namespace Go.Proofs.Ytkbmpmcckjhaaaa
open Go.RowKit Go.Kpt HeapPure
set_option linter.unusedVariables false

theorem mo_set {l : List (Ke × Tm)} (G : HeapPure.Good lt l) (k : Ke) (x : Tm) : mo (setAt lt l k x) = gput (mo l) k x.at_ := by
  funext j
  unfold mo gput
  rw [setAt_get ord_lt G]
  by_cases e : j = k
  · rw [if_pos e, if_pos e]; rfl
  · rw [if_neg e, if_neg e]
theorem mo_drop {l : List (Ke × Tm)} (G : HeapPure.Good lt l) (k : Ke) : mo (drop lt l k) = gdel (mo l) k := by
  funext j
  unfold mo gdel
  rw [drop_get ord_lt G]
  by_cases e : j = k
  · rw [if_pos e, if_pos e]; rfl
  · rw [if_neg e, if_neg e]
theorem mo_val (l : List (Ke × Tm)) (k : Ke) : (mo l k).getD 0 = ga (HeapPure.get l k) := by unfold mo; cases HeapPure.get l k <;> rfl
theorem named_set {l : List (Ke × Tm)} (G : HeapPure.Good lt l) (h : Named l) (k : Ke) (at_ : Int) (hk : kok k) : Named (setAt lt l k ⟨at_, k.1, k.2⟩) := fun j v hj => by
  rw [setAt_get ord_lt G] at hj
  by_cases e : j = k
  · rw [if_pos e] at hj; cases hj; subst e; exact ⟨rfl, rfl, hk⟩
  · rw [if_neg e] at hj; exact h j v hj
theorem named_drop {l : List (Ke × Tm)} (G : HeapPure.Good lt l) (h : Named l) (k : Ke) : Named (drop lt l k) := fun j v hj => h j v (sub_drop G _ _ _ hj)
theorem named_after {l : List (Ke × Tm)} (G : HeapPure.Good lt l) (h : Named l) : ∀ n, n ≤ l.length → Named (after n l)
  | 0, _ => h
  | n + 1, hn => named_drop (after_good G n (by omega)).1 (named_after G h n (by omega)) _
theorem Named.nil : Named [] := fun k v h => by cases h
theorem drop_le (l : List (Ke × Tm)) (k : Ke) : (drop lt l k).length ≤ l.length := by rw [drop_length]; split <;> omega

/-- The map, as the law has it. -/
def Ma (w : World) (mb : Nat) (l : List (Ke × Tm)) : Prop := Gm keyY intE w mb l.length (mo l)
theorem Ma.below {w w' : World} {mb : Nat} {l : List (Ke × Tm)} (h : Ma w mb l) (k : Below w.heap.size w w') : Ma w' mb l := Gm.below h k
theorem Ma.same {w w' : World} {mb : Nat} {l : List (Ke × Tm)} (h : Ma w mb l) (k : w'.heap[mb]? = w.heap[mb]?) : Ma w' mb l := Gm.same h k
theorem Ma.drop {w : World} {mb : Nat} {l : List (Ke × Tm)} (G : HeapPure.Good lt l) (k : Ke) (h : Gm keyY intE w mb (if (mo l k).isSome then l.length - 1 else l.length) (gdel (mo l) k)) : Ma w mb (HeapPure.drop lt l k) := by
  unfold Ma
  rw [mo_drop G, drop_length, ← get_isSome]
  rw [mo_isSome] at h
  exact h
theorem Ma.set {w : World} {mb : Nat} {l : List (Ke × Tm)} (G : HeapPure.Good lt l) (k : Ke) (x : Tm) (h : Gm keyY intE w mb (if (mo l k).isSome then l.length else l.length + 1) (gput (mo l) k x.at_)) : Ma w mb (setAt lt l k x) := by
  unfold Ma
  rw [mo_set G, setAt_length, ← get_isSome]
  rw [mo_isSome] at h
  exact h

structure AM (w : World) (base cb mb : Nat) (l : List (Ke × Tm)) : Prop where
  tx : TX w base cb l (fun x => x = mb)
  ma : Ma w mb l
theorem AM.below {w w' : World} {base cb mb : Nat} {l : List (Ke × Tm)} (h : AM w base cb mb l) (k : Below w.heap.size w w') : AM w' base cb mb l := ⟨h.tx.below k, h.ma.below k⟩

section
variable {ops : Array Oper} {rest : List Oper} {o : Oper} {a : Act} {Q : Exit → Act → World → Prop}
theorem wpList_ma_look (w : World) (hg : o.guard = none) (x y : Operand) (hop : o.op = Op.lookup 40 x y true) (mb : Nat) (l : List (Ke × Tm)) (hm : a.eval x = .map (some mb)) (h : Ma w mb l) (k : Ke) (hx : a.eval y = .agg #[.int .i64 k.1, .int .i64 k.2]) (hw : kok k)
    (hK : wpList Try.prog ops Q rest (a.put o.dst (.tuple #[.int .i64 (ga (HeapPure.get l k)), .bool (HeapPure.get l k).isSome])) w) : wpList Try.prog ops Q (o :: rest) a w := by
  refine wpList_gm_look (Y := keyY) (E := intE) (et := 2) w hg x y hop Try.underlying40 0 (Try.zero2 w) mb l.length (mo l) hm h k hx hw ?_
  rw [mo_val, mo_isSome]
  exact hK
theorem wpList_ma_put (w : World) (hg : o.guard = none) (x y z : Operand) (hop : o.op = Op.mapUpdate 40 x y z) (mb : Nat) (l : List (Ke × Tm)) (G : HeapPure.Good lt l) (hm : a.eval x = .map (some mb)) (h : Ma w mb l) (hc : l.length < maxLen) (k : Ke) (v : Tm) (hx : a.eval y = .agg #[.int .i64 k.1, .int .i64 k.2]) (hz : a.eval z = .int .i64 v.at_) (hw : kok k)
    (hK : ∀ w', Ma w' mb (setAt lt l k v) → Kept (fun x => x = mb) w w' → wpList Try.prog ops Q rest (a.put o.dst undef) w') : wpList Try.prog ops Q (o :: rest) a w :=
  wpList_gm_put (Y := keyY) (E := intE) (et := 2) w hg x y z hop Try.underlying40 mb l.length (mo l) hm h hc k v.at_ hx hz hw fun w' h1 h2 => hK w' (Ma.set G k v h1) h2
theorem wpList_ma_del (w : World) (hg : o.guard = none) (x y : Operand) (hop : o.op = Op.call { callee := Callee.builtin Builtin.delete, args := #[x, y], argTypes := #[40, 29] }) (mb : Nat) (l : List (Ke × Tm)) (G : HeapPure.Good lt l) (hm : a.eval x = .map (some mb)) (h : Ma w mb l) (k : Ke) (hx : a.eval y = .agg #[.int .i64 k.1, .int .i64 k.2]) (hw : kok k)
    (hK : ∀ w', Ma w' mb (HeapPure.drop lt l k) → Kept (fun x => x = mb) w w' → wpList Try.prog ops Q rest (a.put o.dst (.tuple #[])) w') : wpList Try.prog ops Q (o :: rest) a w :=
  wpList_gm_del (Y := keyY) (E := intE) (et := 2) w hg x y hop Try.underlying40 mb l.length (mo l) hm h k hx hw fun w' h1 h2 => hK w' (Ma.drop G k h1) h2
theorem Ma.look {w : World} {mb : Nat} {l : List (Ke × Tm)} (h : Ma w mb l) (k : Ke) (hw : kok k) : (Instr.lookup 40 (.map (some mb)) (.agg #[.int .i64 k.1, .int .i64 k.2]) false).run Try.prog w = .ok (.int .i64 (ga (HeapPure.get l k))) w := by
  have e3 := Gm.look (t := 40) (et := 2) h Try.underlying40 0 (Try.zero2 w) k hw
  rw [mo_val] at e3
  exact e3
theorem Ma.len {w : World} {mb : Nat} {l : List (Ke × Tm)} (h : Ma w mb l) (ty : TypeId) : (Builtin.len_ #[40] ty #[.map (some mb)]).run Try.prog w = .ok (.int .i64 l.length) w :=
  Gm.len_run (et := 2) h Try.underlying40 ty
end
theorem tx_due (base cb : Nat) (l : List (Ke × Tm)) (now : Int) (G : HeapPure.Good lt l) (hle : l.length ≤ 100000) (Q : Nat → Prop) (w : World) (h : TX w base cb l Q) :
    Calls Try.prog 9 #[.pointer (some ⟨cb, 0, none⟩), .int .i64 now] w fun e w' => ∃ v n, e = .returned v ∧ n ≤ l.length ∧ ¬ Dues (after n l) now ∧ (∀ i, i < n → Dues (after i l) now) ∧ OwnP w' w.heap.size 29 v (pops n l) ∧ TX w' base cb (after n l) (fun x => Q x ∨ some x = v.ownBlock) ∧ Below base w w' ∧ Same Q w w' := by
  refine (due_any base cb l now G hle Q w h).mono ?_
  rintro e w' ⟨v, ks, l', rfl, h1, h2, h3, h4, h5, h6, h7, h8⟩
  obtain ⟨e1, e2, e3⟩ := steps_n h1
  rw [e2] at h2 h6
  exact ⟨v, ks.length, rfl, by omega, h2, e3, by rw [← e1]; exact h5, h6, h7, h8⟩
theorem pops_get (l : List (Ke × Tm)) : ∀ n i, i < n → (pops n l).getD i (0, 0) = kk (after i l) 0
  | 0, i, h => by omega
  | n + 1, i, h => by
    show (pops n l ++ [kk (after n l) 0]).getD i (0, 0) = _
    have hl := pops_length n l
    rw [List.getD_eq_getElem?_getD]
    by_cases e : i < n
    · rw [List.getElem?_append_left (by omega), ← List.getD_eq_getElem?_getD]
      exact pops_get l n i e
    · obtain rfl : i = n := by omega
      rw [List.getElem?_append_right (by omega), hl, Nat.sub_self]
      rfl
end Go.Proofs.Ytkbmpmcckjhaaaa
