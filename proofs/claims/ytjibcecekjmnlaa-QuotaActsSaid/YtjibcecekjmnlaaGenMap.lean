/- A map from ints to values of any kind that a call owns, told by a plain function; and a range over it. -/
import Derived.Test.YtjibcecekjmnlaaKept
import Derived.Maps.OwnSet
import Derived.Maps.OwnOps
import Derived.Maps.RangeWalk
set_option linter.unusedVariables false
namespace Go.Kpt
open Go.RowKit Go.Maps

theorem Kept.of_grown1 {b : Nat} {w w' : World} (h : w.grownBy w' (some b)) : Kept (fun x => x = b) w w' :=
  ⟨h.os, h.tape, h.output, h.size, fun x hx hF => h.block x hx (fun e => hF (by cases e; rfl))⟩
theorem Below.of_grown0 {w w' : World} (h : w.grownBy w' none) : Below w.heap.size w w' :=
  ⟨h.os, h.tape, h.output, h.size, fun x hx => h.block x hx (fun e => by cases e)⟩

/-- How a kind of elements lies in memory. -/
structure El (α : Type) where
  val : α → Value
  rd : Value → Option α
  rd_val : ∀ x, rd (val x) = some x
  val_rd : ∀ v x, rd v = some x → v = val x
  dat : α → DataW Unit
  inj : ∀ x y, dat x = dat y → x = y

variable {α : Type}
def El.R (E : El α) (v : Value) : Option (DataW Unit × List MemPlace) := (E.rd v).map fun x => (E.dat x, [])
theorem El.R_val (E : El α) (x : α) : E.R (E.val x) = some (E.dat x, []) := by unfold El.R; rw [E.rd_val]; rfl
theorem El.R_inv (E : El α) {v : Value} {y : DataW Unit × List MemPlace} (h : E.R v = some y) : ∃ x, v = E.val x ∧ y = (E.dat x, []) := by
  unfold El.R at h
  cases e : E.rd v with
  | none => rw [e] at h; cases h
  | some x => rw [e] at h; exact ⟨x, E.val_rd v x e, by cases h; rfl⟩

/-- What a datum says of a map. -/
structure Tells (E : El α) (D : DataW Unit) (c : Nat) (m : Int → Option α) : Prop where
  size : Maps.size D = c
  has : ∀ k, Maps.has D (.int .i64 k) = (m k).isSome
  at_ : ∀ k x, m k = some x → ∀ zd, D.atKey (.int .i64 k) zd = E.dat x

/-- Block mb is a map with c entries, from ints to elements, as m tells. -/
def Gm (E : El α) (P : Program) (kt : TypeId) (w : World) (mb c : Nat) (m : Int → Option α) : Prop := ∃ D, w.ownsMap P kt E.R mb c D ∧ Tells E D c m

/-- One key turned. -/
def gput (m : Int → Option α) (k : Int) (v : α) : Int → Option α := fun x => if x = k then some v else m x
def gdel (m : Int → Option α) (k : Int) : Int → Option α := fun x => if x = k then none else m x

theorem gkey (k : Int) : WideAt.IsKeyLit (.int .i64 k) := by simp [WideAt.IsKeyLit]
theorem gkey_ne {k k' : Int} (h : k ≠ k') : (Lit.int .i64 k) ≠ .int .i64 k' := fun e => h (by cases e; rfl)
theorem gkey_same (k k' : Int) : (Lit.int .i64 k).sameKey (.int .i64 k') = decide (k = k') := by
  by_cases h : k = k'
  · subst h; rw [WideAt.sameKey_self (gkey k)]; simp
  · rw [Maps.sameKey_ne (gkey_ne h)]; simp [h]

theorem has_of_ownsMap {P : Program} {kt : TypeId} {w : World} {mb c : Nat} {R : Value → Option (DataW Unit × List MemPlace)} {D : DataW Unit} (hk : P.underlying kt = some (.int .i64)) (h : w.ownsMap P kt R mb c D) (hs : Maps.size D = c) {w' : World} {n : Nat} {D' : DataW Unit} (h' : w'.ownsMap P kt R mb n D') : w'.ownsMap P kt R mb (Maps.size D') D' := by
  obtain ⟨es, clock, hb, F, hle, hD⟩ := h'
  exact ⟨es, clock, hb, F, by rw [hD, Maps.size_eq, length_read]; exact Nat.le_refl _, hD⟩

section
variable {E : El α} {P : Program} {kt et t : TypeId} {w : World} {mb c : Nat} {m : Int → Option α}

theorem Gm.lt (h : Gm E P kt w mb c m) : mb < w.heap.size := by obtain ⟨D, h, -⟩ := h; exact h.lt
theorem Gm.kept {F : Nat → Prop} {w' : World} (h : Gm E P kt w mb c m) (k : Kept F w w') (hF : ¬ F mb) : Gm E P kt w' mb c m := by
  obtain ⟨D, ⟨es, clock, hb, h1⟩, h2⟩ := h
  exact ⟨D, ⟨es, clock, (k.block mb (lt_of hb) hF).trans hb, h1⟩, h2⟩
theorem Gm.below {w' : World} (h : Gm E P kt w mb c m) (k : Below w.heap.size w w') : Gm E P kt w' mb c m := h.kept (Kept.of_below (F := fun _ => False) k) (fun h => h)
theorem Gm.same {w' : World} (h : Gm E P kt w mb c m) (k : w'.heap[mb]? = w.heap[mb]?) : Gm E P kt w' mb c m := by
  obtain ⟨D, ⟨es, clock, hb, h1⟩, h2⟩ := h
  exact ⟨D, ⟨es, clock, k.trans hb, h1⟩, h2⟩
theorem Gm.made (E : El α) (P : Program) (kt : TypeId) (w : World) : Gm E P kt (w.alloc (.map #[] 0)) w.heap.size 0 (fun _ => none) :=
  ⟨.map [], World.ownsMap_made _ _ _ _, ⟨rfl, fun k => rfl, fun k i h => by cases h⟩⟩

theorem Tells.value {D : DataW Unit} (h : Tells E D c m) (k : Int) (z : α) : D.atKey (.int .i64 k) (E.dat z) = E.dat ((m k).getD z) := by
  cases e : m k with
  | none =>
    have h4 := h.has k
    rw [e] at h4
    rw [Maps.atKey_of_not_has h4]; rfl
  | some x => rw [h.at_ k x e]; rfl

/-- 'm[k]' as the run has it. -/
theorem Gm.look (h : Gm E P kt w mb c m) (hk : P.underlying kt = some (.int .i64)) (ht : P.underlying t = some (.map kt et)) (z : α) (hz : (zeroValue et).run P w = .ok (E.val z) w) (k : Int) (hw : (Lit.int .i64 k).wf = true) :
    (Instr.lookup t (.map (some mb)) (.int .i64 k) false).run P w = .ok (E.val ((m k).getD z)) w := by
  obtain ⟨D, h1, h2⟩ := h
  obtain ⟨v, ps, hrun, hv⟩ := h1.lookup (int_keyed hk) ht hz (E.R_val z) (keyOf_int_mk hk hw)
  obtain ⟨x, rfl, e⟩ := E.R_inv hv
  have e1 := congrArg Prod.fst e
  simp only at e1
  rw [h2.value k z] at e1
  rw [hrun, E.inj _ _ e1]
theorem Gm.look_ok (h : Gm E P kt w mb c m) (hk : P.underlying kt = some (.int .i64)) (ht : P.underlying t = some (.map kt et)) (z : α) (hz : (zeroValue et).run P w = .ok (E.val z) w) (k : Int) (hw : (Lit.int .i64 k).wf = true) :
    (Instr.lookup t (.map (some mb)) (.int .i64 k) true).run P w = .ok (.tuple #[E.val ((m k).getD z), .bool (m k).isSome]) w := by
  obtain ⟨D, h1, h2⟩ := h
  obtain ⟨v, ps, hrun, hv⟩ := h1.look_ok (int_keyed hk) ht hz (E.R_val z) (keyOf_int_mk hk hw)
  obtain ⟨x, rfl, e⟩ := E.R_inv hv
  have e1 := congrArg Prod.fst e
  simp only at e1
  rw [h2.value k z] at e1
  rw [hrun, E.inj _ _ e1, h2.has]

theorem Tells.put {D : DataW Unit} (h : Tells E D c m) (ht : Tidy D) (k : Int) (v : α) : Tells E (D.put (.int .i64 k) (E.dat v)) (if (m k).isSome then c else c + 1) (gput m k v) := by
  have hsz := Maps.size_put (k := .int .i64 k) ht (E.dat v)
  rw [h.has, h.size] at hsz
  refine ⟨hsz, fun x => ?_, fun x y hy zd => ?_⟩ <;> unfold gput at *
  · by_cases e : x = k
    · subst e; rw [if_pos rfl, Maps.has_put_same ht.isMap (gkey x)]; rfl
    · rw [if_neg e, Maps.has_put_other (gkey_ne e)]; exact h.has x
  · by_cases e : x = k
    · subst e; rw [if_pos rfl] at hy; cases hy; exact Maps.atKey_put_same ht.isMap (gkey x) _ _
    · rw [if_neg e] at hy; rw [Maps.atKey_put_other (gkey_ne e)]; exact h.at_ x y hy zd
theorem Tells.del {D : DataW Unit} (h : Tells E D c m) (ht : Tidy D) (k : Int) : Tells E (D.del (.int .i64 k)) (if (m k).isSome then c - 1 else c) (gdel m k) := by
  have hsz := Maps.size_del (k := .int .i64 k) ht
  rw [h.has, h.size] at hsz
  refine ⟨?_, fun x => ?_, fun x y hy zd => ?_⟩
  · cases hh : (m k).isSome <;> rw [hh] at hsz <;> simp at hsz ⊢ <;> omega
  · unfold gdel
    by_cases e : x = k
    · subst e; rw [if_pos rfl, Maps.has_del_same]; rfl
    · rw [if_neg e, Maps.has_del_other (gkey_ne e)]; exact h.has x
  · unfold gdel at hy
    by_cases e : x = k
    · rw [if_pos e] at hy; cases hy
    · rw [if_neg e] at hy; rw [Maps.atKey_del_other (gkey_ne e)]; exact h.at_ x y hy zd

variable {ops : Array Oper} {rest : List Oper} {o : Oper} {a : Act} {Q : Exit → Act → World → Prop}

/-- 'v, ok := m[k]'. -/
theorem wpList_gm_look (w : World) (hg : o.guard = none) (x y : Operand) (hop : o.op = Op.lookup t x y true) (hk : P.underlying kt = some (.int .i64)) (ht : P.underlying t = some (.map kt et))
    (z : α) (hz : (zeroValue et).run P w = .ok (E.val z) w) (mb c : Nat) (m : Int → Option α) (hm : a.eval x = .map (some mb)) (h : Gm E P kt w mb c m) (k : Int) (hx : a.eval y = .int .i64 k) (hw : (Lit.int .i64 k).wf = true)
    (hK : wpList P ops Q rest (a.put o.dst (.tuple #[E.val ((m k).getD z), .bool (m k).isSome])) w) : wpList P ops Q (o :: rest) a w := by
  refine wpList_plain hg fun K' hK' => ?_
  have hrun := h.look_ok hk ht z hz k hw
  unfold Oper.wp
  simp [execOp, hop, hm, hx, hrun, Result.andThen]
  exact hK' _ _ hK
/-- 'm[k]'. -/
theorem wpList_gm_get (w : World) (hg : o.guard = none) (x y : Operand) (hop : o.op = Op.lookup t x y false) (hk : P.underlying kt = some (.int .i64)) (ht : P.underlying t = some (.map kt et))
    (z : α) (hz : (zeroValue et).run P w = .ok (E.val z) w) (mb c : Nat) (m : Int → Option α) (hm : a.eval x = .map (some mb)) (h : Gm E P kt w mb c m) (k : Int) (hx : a.eval y = .int .i64 k) (hw : (Lit.int .i64 k).wf = true)
    (hK : wpList P ops Q rest (a.put o.dst (E.val ((m k).getD z))) w) : wpList P ops Q (o :: rest) a w := by
  refine wpList_plain hg fun K' hK' => ?_
  have hrun := h.look hk ht z hz k hw
  unfold Oper.wp
  simp [execOp, hop, hm, hx, hrun, Result.andThen]
  exact hK' _ _ hK
/-- 'm[k] = v'. -/
theorem wpList_gm_put (w : World) (hg : o.guard = none) (x y z : Operand) (hop : o.op = Op.mapUpdate t x y z) (hk : P.underlying kt = some (.int .i64)) (ht : P.underlying t = some (.map kt et))
    (mb c : Nat) (m : Int → Option α) (hm : a.eval x = .map (some mb)) (h : Gm E P kt w mb c m) (hc : c < maxLen) (k : Int) (v : α) (hx : a.eval y = .int .i64 k) (hz : a.eval z = E.val v) (hw : (Lit.int .i64 k).wf = true)
    (hK : ∀ w', Gm E P kt w' mb (if (m k).isSome then c else c + 1) (gput m k v) → Kept (fun x => x = mb) w w' → wpList P ops Q rest (a.put o.dst undef) w') : wpList P ops Q (o :: rest) a w := by
  obtain ⟨D, h1, h2⟩ := h
  refine wpList_mapUpdate_own w hg x y z t hop kt et (int_keyed hk) ht E.R mb c D hm h1 hc (.int .i64 k) _ (.int .i64 k) hx hz (keyOf_int_mk hk hw) (E.dat v) [] (E.R_val v) fun w' hn hg' => ?_
  have h3 := h2.put (h1.tidy (int_keyed hk)) k v
  refine hK w' ⟨_, ?_, h3⟩ (Kept.of_grown1 hg')
  have h4 := has_of_ownsMap hk h1 h2.size hn
  rw [h3.size] at h4
  exact h4
/-- 'delete(m, k)'. -/
theorem wpList_gm_del (w : World) (hg : o.guard = none) (x y : Operand) (hop : o.op = Op.call { callee := Callee.builtin Builtin.delete, args := #[x, y], argTypes := #[t, kt] }) (hk : P.underlying kt = some (.int .i64)) (ht : P.underlying t = some (.map kt et))
    (mb c : Nat) (m : Int → Option α) (hm : a.eval x = .map (some mb)) (h : Gm E P kt w mb c m) (k : Int) (hx : a.eval y = .int .i64 k) (hw : (Lit.int .i64 k).wf = true)
    (hK : ∀ w', Gm E P kt w' mb (if (m k).isSome then c - 1 else c) (gdel m k) → Kept (fun x => x = mb) w w' → wpList P ops Q rest (a.put o.dst (.tuple #[])) w') : wpList P ops Q (o :: rest) a w := by
  obtain ⟨D, h1, h2⟩ := h
  refine wpList_delete_own w hg x y t kt hop et (int_keyed hk) ht E.R mb c D hm h1 (.int .i64 k) (.int .i64 k) hx (keyOf_int_mk hk hw) fun w' hn hg' => ?_
  have h3 := h2.del (h1.tidy (int_keyed hk)) k
  refine hK w' ⟨_, ?_, h3⟩ (Kept.of_grown1 hg'.grown)
  have h4 := has_of_ownsMap hk h1 h2.size hn
  rw [h3.size] at h4
  exact h4
/-- 'len(m)'. -/
theorem wpList_gm_len (w : World) (hg : o.guard = none) (x : Operand) (hop : o.op = Op.call { callee := Callee.builtin Builtin.len, args := #[x], argTypes := #[t] }) (ht : P.underlying t = some (.map kt et))
    (mb c : Nat) (m : Int → Option α) (hm : a.eval x = .map (some mb)) (h : Gm E P kt w mb c m)
    (hK : wpList P ops Q rest (a.put o.dst (.int .i64 c)) w) : wpList P ops Q (o :: rest) a w := by
  obtain ⟨D, h1, h2⟩ := h
  refine wpList_len_own w hg x t hop kt et ht E.R mb c D hm h1 ?_
  rw [h2.size]
  exact hK

/-- A range over the map is under way: block r; 'left' tells which keys are still to come, cnt how many. -/
def Gr (E : El α) (P : Program) (kt : TypeId) (w : World) (mb r c : Nat) (m : Int → Option α) (left : Int → Bool) (cnt : Nat) : Prop :=
  ∃ D leftL, w.ranges P kt E.R mb r c D leftL cnt ∧ Tells E D c m ∧ ∀ k, left k = leftL (.int .i64 k)

theorem Gr.owns {r cnt : Nat} {left : Int → Bool} (h : Gr E P kt w mb r c m left cnt) : Gm E P kt w mb c m := by
  obtain ⟨D, leftL, h1, h2, -⟩ := h
  exact ⟨D, h1.owns, h2⟩
theorem Gr.left_eq {r cnt : Nat} {left : Int → Bool} (h : Gr E P kt w mb r c m left cnt) : w.rangeLeft mb r = cnt := by
  obtain ⟨D, leftL, h1, -⟩ := h
  exact h1.left_eq
theorem Gr.lt {r cnt : Nat} {left : Int → Bool} (h : Gr E P kt w mb r c m left cnt) : r < w.heap.size := by
  obtain ⟨D, leftL, h1, -⟩ := h
  exact h1.lt
theorem Gr.kept {F : Nat → Prop} {w' : World} {r cnt : Nat} {left : Int → Bool} (h : Gr E P kt w mb r c m left cnt) (k : Kept F w w') (hF : ¬ F mb) (hr : ¬ F r) : Gr E P kt w' mb r c m left cnt := by
  obtain ⟨D, leftL, ⟨es, clock, since, seen, c0, hb, F1, hs, hD, hi, rest⟩, h2, h3⟩ := h
  exact ⟨D, leftL, ⟨es, clock, since, seen, c0, (k.block mb (lt_of hb) hF).trans hb, F1, hs, hD, (k.block r (lt_of hi) hr).trans hi, rest⟩, h2, h3⟩
theorem Gr.same {w' : World} {r cnt : Nat} {left : Int → Bool} (h : Gr E P kt w mb r c m left cnt) (k : w'.heap[mb]? = w.heap[mb]?) (k2 : w'.heap[r]? = w.heap[r]?) : Gr E P kt w' mb r c m left cnt := by
  obtain ⟨D, leftL, ⟨es, clock, since, seen, c0, hb, F1, hs, hD, hi, rest⟩, h2, h3⟩ := h
  exact ⟨D, leftL, ⟨es, clock, since, seen, c0, k.trans hb, F1, hs, hD, k2.trans hi, rest⟩, h2, h3⟩
theorem Gr.below {w' : World} {r cnt : Nat} {left : Int → Bool} (h : Gr E P kt w mb r c m left cnt) (k : Below w.heap.size w w') : Gr E P kt w' mb r c m left cnt := h.kept (Kept.of_below (F := fun _ => False) k) (fun h => h) (fun h => h)

/-- 'range m'. -/
theorem wpList_gm_range (w : World) (hg : o.guard = none) (x : Operand) (hop : o.op = Op.range t x) (hk : P.underlying kt = some (.int .i64)) (ht : P.underlying t = some (.map kt et))
    (mb c : Nat) (m : Int → Option α) (hm : a.eval x = .map (some mb)) (h : Gm E P kt w mb c m)
    (hK : ∀ w', Gr E P kt w' mb w.heap.size c m (fun k => (m k).isSome) c → Below w.heap.size w w' → w'.heap.size = w.heap.size + 1 → wpList P ops Q rest (a.put o.dst (.pointer (some ⟨w.heap.size, 0, none⟩))) w') : wpList P ops Q (o :: rest) a w := by
  obtain ⟨D, h1, h2⟩ := h
  refine wpList_range_own w hg x t hop kt et (int_keyed hk) ht E.R mb c D hm h1 fun w' hr hg' hs => ?_
  rw [h2.size] at hr
  exact hK w' ⟨D, _, hr, h2, fun k => (h2.has k).symm⟩ (Below.of_grown0 hg') hs

/-- The step of a range. -/
theorem wpList_gm_next (w : World) (hg : o.guard = none) (it : Operand) (hop : o.op = Op.next it false) (hk : P.underlying kt = some (.int .i64))
    (mb r c : Nat) (m : Int → Option α) (left : Int → Bool) (cnt : Nat) (hit : a.eval it = .pointer (some ⟨r, 0, none⟩)) (h : Gr E P kt w mb r c m left cnt)
    (hDone : cnt = 0 → (∀ k, left k = false) → wpList P ops Q rest (a.put o.dst (.tuple #[.bool false])) w)
    (hMore : ∀ (k : Int) (x : α) (w' : World) (cnt' : Nat), (Lit.int .i64 k).wf = true → left k = true → m k = some x → Gr E P kt w' mb r c m (fun z => left z && !decide (z = k)) cnt' → cnt' < cnt →
      Kept (fun b => b = r) w w' → w'.heap.size = w.heap.size → (Instr.entry (.pointer (some ⟨r, 0, none⟩))).run P w' = .ok (.tuple #[.int .i64 k, E.val x]) w' → wpList P ops Q rest (a.put o.dst (.tuple #[.bool true, .int .i64 k, E.val x])) w') :
    wpList P ops Q (o :: rest) a w := by
  obtain ⟨D, leftL, h1, h2, h3⟩ := h
  refine wpList_next_ranges w hg it hop kt (int_keyed hk) E.R (Value.int .i64) E.val (fun key kl hkey => by obtain ⟨x, rfl, _⟩ := Maps.keyOf_int_inv hk hkey; exact ⟨x, rfl⟩) (fun v y hv => by obtain ⟨c, rfl, _⟩ := E.R_inv hv; exact ⟨c, rfl⟩)
    mb r c D leftL cnt hit h1 (fun hc hl => hDone hc (fun k => by rw [h3]; exact hl _)) (fun k x kl y w' cnt' hkey hlk hv hat hrg hlt hgr hsz hen => ?_)
  obtain ⟨k', ek, rfl, hwk⟩ := Maps.keyOf_int_inv hk hkey
  cases ek
  obtain ⟨x', ex, rfl⟩ := E.R_inv hv
  have exx : x = x' := by
    have h5 := E.rd_val x
    rw [ex, E.rd_val] at h5
    exact (Option.some.inj h5).symm
  subst exx
  have hh : (m k).isSome = true := by rw [← h2.has]; exact Maps.has_true_of_atKey hat
  obtain ⟨u, hu⟩ := Option.isSome_iff_exists.1 hh
  have he : u = x := E.inj _ _ ((h2.at_ k u hu (E.dat x)).symm.trans (hat _))
  refine hMore k x w' cnt' hwk (by rw [h3]; exact hlk) (by rw [hu, he]) ⟨D, _, hrg, h2, fun z => ?_⟩ hlt (Kept.of_grown1 hgr) hsz hen
  show (left z && !decide (z = k)) = _
  rw [h3, gkey_same]
end
end Go.Kpt
