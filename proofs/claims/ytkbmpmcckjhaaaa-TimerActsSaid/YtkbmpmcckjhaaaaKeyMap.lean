/- A map from keys of any kind to values of any kind that a call owns, told by a plain function; and a range over it. -/
import Derived.Test.YtkbmpmcckjhaaaaKept
import Derived.Maps.OwnSet
import Derived.Maps.OwnOps
import Derived.Maps.RangeWalk
set_option linter.unusedVariables false
namespace Go.Kpt
open Go.RowKit Go.Maps

theorem Kept.of_grown1 {b : Nat} {w w' : World} (h : w.grownBy w' (some b)) : Kept (fun x => x = b) w w' :=
  ⟨h.os, h.tape, h.output, h.size, fun x hx hF => h.block x hx (fun e => hF (by cases e; rfl))⟩
theorem Below.of_grown0 {w w' : World} (h : w.grownBy w' none) : Below w.heap.size w w' :=
  ⟨h.os, h.tape, h.output, h.size, fun x hx => h.block x hx (fun e => by cases e)⟩

/-- How a kind of elements lies in memory. -/
structure El (α : Type) where
  val : α → Value
  rd : Value → Option α
  rd_val : ∀ x, rd (val x) = some x
  val_rd : ∀ v x, rd v = some x → v = val x
  dat : α → DataW Unit
  inj : ∀ x y, dat x = dat y → x = y

/-- How a kind of keys lies in memory, and reads. -/
structure Ky (P : Program) (kt : TypeId) (κ : Type) where
  keyed : Maps.Keyed P kt
  val : κ → Value
  lit : κ → Lit
  ok : κ → Prop
  of : ∀ k, ok k → keyOf P kt (val k) = some (lit k)
  inv : ∀ v l, keyOf P kt v = some l → ∃ k, ok k ∧ v = val k ∧ l = lit k
  inj : ∀ a b, val a = val b → a = b

variable {α : Type}
def El.R (E : El α) (v : Value) : Option (DataW Unit × List MemPlace) := (E.rd v).map fun x => (E.dat x, [])
theorem El.R_val (E : El α) (x : α) : E.R (E.val x) = some (E.dat x, []) := by unfold El.R; rw [E.rd_val]; rfl
theorem El.R_inv (E : El α) {v : Value} {y : DataW Unit × List MemPlace} (h : E.R v = some y) : ∃ x, v = E.val x ∧ y = (E.dat x, []) := by
  unfold El.R at h
  cases e : E.rd v with
  | none => rw [e] at h; cases h
  | some x => rw [e] at h; exact ⟨x, E.val_rd v x e, by cases h; rfl⟩

section
variable {P : Program} {kt : TypeId} {κ : Type} (Y : Ky P kt κ)
theorem Ky.isKey {k : κ} (h : Y.ok k) : WideAt.IsKeyLit (Y.lit k) := Y.keyed.key (Y.of k h)
theorem Ky.lit_inj {a b : κ} (ha : Y.ok a) (hb : Y.ok b) (h : Y.lit a = Y.lit b) : a = b := Y.inj _ _ (Y.keyed.inj (Y.of a ha) (by rw [h]; exact Y.of b hb))
theorem Ky.ne {a b : κ} (ha : Y.ok a) (hb : Y.ok b) (h : a ≠ b) : Y.lit a ≠ Y.lit b := fun e => h (Y.lit_inj ha hb e)
theorem Ky.same [DecidableEq κ] {a b : κ} (ha : Y.ok a) (hb : Y.ok b) : (Y.lit a).sameKey (Y.lit b) = decide (a = b) := by
  by_cases h : a = b
  · subst h; rw [WideAt.sameKey_self (Y.isKey ha)]; simp
  · rw [Maps.sameKey_ne (Y.ne ha hb h)]; simp [h]
end

/-- What a datum says of a map. -/
structure Tells {P : Program} {kt : TypeId} {κ : Type} (Y : Ky P kt κ) (E : El α) (D : DataW Unit) (c : Nat) (m : κ → Option α) : Prop where
  size : Maps.size D = c
  has : ∀ k, Y.ok k → Maps.has D (Y.lit k) = (m k).isSome
  at_ : ∀ k x, Y.ok k → m k = some x → ∀ zd, D.atKey (Y.lit k) zd = E.dat x

/-- Block mb is a map with c entries, from keys to elements, as m tells. -/
def Gm {P : Program} {kt : TypeId} {κ : Type} (Y : Ky P kt κ) (E : El α) (w : World) (mb c : Nat) (m : κ → Option α) : Prop := ∃ D, w.ownsMap P kt E.R mb c D ∧ Tells Y E D c m

/-- One key turned. -/
def gput {κ : Type} [DecidableEq κ] (m : κ → Option α) (k : κ) (v : α) : κ → Option α := fun x => if x = k then some v else m x
def gdel {κ : Type} [DecidableEq κ] (m : κ → Option α) (k : κ) : κ → Option α := fun x => if x = k then none else m x

theorem own_size {P : Program} {kt : TypeId} {R : Value → Option (DataW Unit × List MemPlace)} {w' : World} {mb n : Nat} {D' : DataW Unit} (h' : w'.ownsMap P kt R mb n D') : w'.ownsMap P kt R mb (Maps.size D') D' := by
  obtain ⟨es, clock, hb, F, hle, hD⟩ := h'
  exact ⟨es, clock, hb, F, by rw [hD, Maps.size_eq, length_read]; exact Nat.le_refl _, hD⟩

section
variable {P : Program} {kt : TypeId} {κ : Type} {Y : Ky P kt κ} {E : El α} {et t : TypeId} {w : World} {mb c : Nat} {m : κ → Option α}

theorem Gm.lt (h : Gm Y E w mb c m) : mb < w.heap.size := by obtain ⟨D, h, -⟩ := h; exact h.lt
theorem Gm.kept {F : Nat → Prop} {w' : World} (h : Gm Y E w mb c m) (k : Kept F w w') (hF : ¬ F mb) : Gm Y E w' mb c m := by
  obtain ⟨D, ⟨es, clock, hb, h1⟩, h2⟩ := h
  exact ⟨D, ⟨es, clock, (k.block mb (lt_of hb) hF).trans hb, h1⟩, h2⟩
theorem Gm.below {w' : World} (h : Gm Y E w mb c m) (k : Below w.heap.size w w') : Gm Y E w' mb c m := h.kept (Kept.of_below (F := fun _ => False) k) (fun h => h)
theorem Gm.same {w' : World} (h : Gm Y E w mb c m) (k : w'.heap[mb]? = w.heap[mb]?) : Gm Y E w' mb c m := by
  obtain ⟨D, ⟨es, clock, hb, h1⟩, h2⟩ := h
  exact ⟨D, ⟨es, clock, k.trans hb, h1⟩, h2⟩
theorem Gm.made (Y : Ky P kt κ) (E : El α) (w : World) : Gm Y E (w.alloc (.map #[] 0)) w.heap.size 0 (fun _ => none) :=
  ⟨.map [], World.ownsMap_made _ _ _ _, ⟨rfl, fun k _ => rfl, fun k i _ h => by cases h⟩⟩

theorem Tells.value {D : DataW Unit} (h : Tells Y E D c m) (k : κ) (hw : Y.ok k) (z : α) : D.atKey (Y.lit k) (E.dat z) = E.dat ((m k).getD z) := by
  cases e : m k with
  | none =>
    have h4 := h.has k hw
    rw [e] at h4
    rw [Maps.atKey_of_not_has h4]; rfl
  | some x => rw [h.at_ k x hw e]; rfl

/-- 'm[k]' as the run has it. -/
theorem Gm.look (h : Gm Y E w mb c m) (ht : P.underlying t = some (.map kt et)) (z : α) (hz : (zeroValue et).run P w = .ok (E.val z) w) (k : κ) (hw : Y.ok k) :
    (Instr.lookup t (.map (some mb)) (Y.val k) false).run P w = .ok (E.val ((m k).getD z)) w := by
  obtain ⟨D, h1, h2⟩ := h
  obtain ⟨v, ps, hrun, hv⟩ := h1.lookup Y.keyed ht hz (E.R_val z) (Y.of k hw)
  obtain ⟨x, rfl, e⟩ := E.R_inv hv
  have e1 := congrArg Prod.fst e
  simp only at e1
  rw [h2.value k hw z] at e1
  rw [hrun, E.inj _ _ e1]
theorem Gm.look_ok (h : Gm Y E w mb c m) (ht : P.underlying t = some (.map kt et)) (z : α) (hz : (zeroValue et).run P w = .ok (E.val z) w) (k : κ) (hw : Y.ok k) :
    (Instr.lookup t (.map (some mb)) (Y.val k) true).run P w = .ok (.tuple #[E.val ((m k).getD z), .bool (m k).isSome]) w := by
  obtain ⟨D, h1, h2⟩ := h
  obtain ⟨v, ps, hrun, hv⟩ := h1.look_ok Y.keyed ht hz (E.R_val z) (Y.of k hw)
  obtain ⟨x, rfl, e⟩ := E.R_inv hv
  have e1 := congrArg Prod.fst e
  simp only at e1
  rw [h2.value k hw z] at e1
  rw [hrun, E.inj _ _ e1, h2.has k hw]
theorem Gm.len_run (h : Gm Y E w mb c m) (ht : P.underlying t = some (.map kt et)) (ty : TypeId) : (Builtin.len_ #[t] ty #[.map (some mb)]).run P w = .ok (.int .i64 c) w := by
  obtain ⟨D, h1, h2⟩ := h
  rw [h1.len ht ty, h2.size]

theorem Tells.put [DecidableEq κ] {D : DataW Unit} (h : Tells Y E D c m) (ht : Tidy D) (k : κ) (hw : Y.ok k) (v : α) : Tells Y E (D.put (Y.lit k) (E.dat v)) (if (m k).isSome then c else c + 1) (gput m k v) := by
  have hsz := Maps.size_put (k := Y.lit k) ht (E.dat v)
  rw [h.has k hw, h.size] at hsz
  refine ⟨hsz, fun x hx => ?_, fun x y hx hy zd => ?_⟩ <;> unfold gput at *
  · by_cases e : x = k
    · subst e; rw [if_pos rfl, Maps.has_put_same ht.isMap (Y.isKey hw)]; rfl
    · rw [if_neg e, Maps.has_put_other (Y.ne hx hw e)]; exact h.has x hx
  · by_cases e : x = k
    · subst e; rw [if_pos rfl] at hy; cases hy; exact Maps.atKey_put_same ht.isMap (Y.isKey hw) _ _
    · rw [if_neg e] at hy; rw [Maps.atKey_put_other (Y.ne hx hw e)]; exact h.at_ x y hx hy zd
theorem Tells.del [DecidableEq κ] {D : DataW Unit} (h : Tells Y E D c m) (ht : Tidy D) (k : κ) (hw : Y.ok k) : Tells Y E (D.del (Y.lit k)) (if (m k).isSome then c - 1 else c) (gdel m k) := by
  have hsz := Maps.size_del (k := Y.lit k) ht
  rw [h.has k hw, h.size] at hsz
  refine ⟨?_, fun x hx => ?_, fun x y hx hy zd => ?_⟩
  · cases hh : (m k).isSome <;> rw [hh] at hsz <;> simp at hsz ⊢ <;> omega
  · unfold gdel
    by_cases e : x = k
    · subst e; rw [if_pos rfl, Maps.has_del_same]; rfl
    · rw [if_neg e, Maps.has_del_other (Y.ne hx hw e)]; exact h.has x hx
  · unfold gdel at hy
    by_cases e : x = k
    · rw [if_pos e] at hy; cases hy
    · rw [if_neg e] at hy; rw [Maps.atKey_del_other (Y.ne hx hw e)]; exact h.at_ x y hx hy zd

variable {ops : Array Oper} {rest : List Oper} {o : Oper} {a : Act} {Q : Exit → Act → World → Prop}

/-- 'v, ok := m[k]'. -/
theorem wpList_gm_look (w : World) (hg : o.guard = none) (x y : Operand) (hop : o.op = Op.lookup t x y true) (ht : P.underlying t = some (.map kt et))
    (z : α) (hz : (zeroValue et).run P w = .ok (E.val z) w) (mb c : Nat) (m : κ → Option α) (hm : a.eval x = .map (some mb)) (h : Gm Y E w mb c m) (k : κ) (hx : a.eval y = Y.val k) (hw : Y.ok k)
    (hK : wpList P ops Q rest (a.put o.dst (.tuple #[E.val ((m k).getD z), .bool (m k).isSome])) w) : wpList P ops Q (o :: rest) a w := by
  refine wpList_plain hg fun K' hK' => ?_
  have hrun := h.look_ok ht z hz k hw
  unfold Oper.wp
  simp [execOp, hop, hm, hx, hrun, Result.andThen]
  exact hK' _ _ hK
/-- 'm[k]'. -/
theorem wpList_gm_get (w : World) (hg : o.guard = none) (x y : Operand) (hop : o.op = Op.lookup t x y false) (ht : P.underlying t = some (.map kt et))
    (z : α) (hz : (zeroValue et).run P w = .ok (E.val z) w) (mb c : Nat) (m : κ → Option α) (hm : a.eval x = .map (some mb)) (h : Gm Y E w mb c m) (k : κ) (hx : a.eval y = Y.val k) (hw : Y.ok k)
    (hK : wpList P ops Q rest (a.put o.dst (E.val ((m k).getD z))) w) : wpList P ops Q (o :: rest) a w := by
  refine wpList_plain hg fun K' hK' => ?_
  have hrun := h.look ht z hz k hw
  unfold Oper.wp
  simp [execOp, hop, hm, hx, hrun, Result.andThen]
  exact hK' _ _ hK
/-- A map behind a store. -/
theorem gm_put [DecidableEq κ] {w' : World} {n : Nat} {D : DataW Unit} (h1 : w.ownsMap P kt E.R mb c D) (h2 : Tells Y E D c m) (k : κ) (hw : Y.ok k) (v : α) (hn : w'.ownsMap P kt E.R mb n (D.put (Y.lit k) (E.dat v))) : Gm Y E w' mb (if (m k).isSome then c else c + 1) (gput m k v) := by
  have h3 := h2.put (h1.tidy Y.keyed) k hw v
  refine ⟨_, ?_, h3⟩
  have h4 := own_size hn
  rw [h3.size] at h4
  exact h4
/-- 'm[k] = v'. -/
theorem wpList_gm_put [DecidableEq κ] (w : World) (hg : o.guard = none) (x y z : Operand) (hop : o.op = Op.mapUpdate t x y z) (ht : P.underlying t = some (.map kt et))
    (mb c : Nat) (m : κ → Option α) (hm : a.eval x = .map (some mb)) (h : Gm Y E w mb c m) (hc : c < maxLen) (k : κ) (v : α) (hx : a.eval y = Y.val k) (hz : a.eval z = E.val v) (hw : Y.ok k)
    (hK : ∀ w', Gm Y E w' mb (if (m k).isSome then c else c + 1) (gput m k v) → Kept (fun x => x = mb) w w' → wpList P ops Q rest (a.put o.dst undef) w') : wpList P ops Q (o :: rest) a w := by
  obtain ⟨D, h1, h2⟩ := h
  refine wpList_mapUpdate_own w hg x y z t hop kt et Y.keyed ht E.R mb c D hm h1 hc (Y.val k) _ (Y.lit k) hx hz (Y.of k hw) (E.dat v) [] (E.R_val v) fun w' hn hg' => ?_
  exact hK w' (gm_put h1 h2 k hw v hn) (Kept.of_grown1 hg')
/-- 'delete(m, k)'. -/
theorem wpList_gm_del [DecidableEq κ] (w : World) (hg : o.guard = none) (x y : Operand) (hop : o.op = Op.call { callee := Callee.builtin Builtin.delete, args := #[x, y], argTypes := #[t, kt] }) (ht : P.underlying t = some (.map kt et))
    (mb c : Nat) (m : κ → Option α) (hm : a.eval x = .map (some mb)) (h : Gm Y E w mb c m) (k : κ) (hx : a.eval y = Y.val k) (hw : Y.ok k)
    (hK : ∀ w', Gm Y E w' mb (if (m k).isSome then c - 1 else c) (gdel m k) → Kept (fun x => x = mb) w w' → wpList P ops Q rest (a.put o.dst (.tuple #[])) w') : wpList P ops Q (o :: rest) a w := by
  obtain ⟨D, h1, h2⟩ := h
  refine wpList_delete_own w hg x y t kt hop et Y.keyed ht E.R mb c D hm h1 (Y.val k) (Y.lit k) hx (Y.of k hw) fun w' hn hg' => ?_
  have h3 := h2.del (h1.tidy Y.keyed) k hw
  refine hK w' ⟨_, ?_, h3⟩ (Kept.of_grown1 hg'.grown)
  have h4 := own_size hn
  rw [h3.size] at h4
  exact h4
/-- 'len(m)'. -/
theorem wpList_gm_len (w : World) (hg : o.guard = none) (x : Operand) (hop : o.op = Op.call { callee := Callee.builtin Builtin.len, args := #[x], argTypes := #[t] }) (ht : P.underlying t = some (.map kt et))
    (mb c : Nat) (m : κ → Option α) (hm : a.eval x = .map (some mb)) (h : Gm Y E w mb c m)
    (hK : wpList P ops Q rest (a.put o.dst (.int .i64 c)) w) : wpList P ops Q (o :: rest) a w := by
  obtain ⟨D, h1, h2⟩ := h
  refine wpList_len_own w hg x t hop kt et ht E.R mb c D hm h1 ?_
  rw [h2.size]
  exact hK

/-- A range over the map is under way: block r; 'left' tells which keys are still to come, cnt how many. -/
def Gr {P : Program} {kt : TypeId} {κ : Type} (Y : Ky P kt κ) (E : El α) (w : World) (mb r c : Nat) (m : κ → Option α) (left : κ → Bool) (cnt : Nat) : Prop :=
  ∃ D leftL, w.ranges P kt E.R mb r c D leftL cnt ∧ Tells Y E D c m ∧ ∀ k, Y.ok k → left k = leftL (Y.lit k)

theorem Gr.owns {r cnt : Nat} {left : κ → Bool} (h : Gr Y E w mb r c m left cnt) : Gm Y E w mb c m := by
  obtain ⟨D, leftL, h1, h2, -⟩ := h
  exact ⟨D, h1.owns, h2⟩
theorem Gr.left_eq {r cnt : Nat} {left : κ → Bool} (h : Gr Y E w mb r c m left cnt) : w.rangeLeft mb r = cnt := by
  obtain ⟨D, leftL, h1, -⟩ := h
  exact h1.left_eq
theorem Gr.lt {r cnt : Nat} {left : κ → Bool} (h : Gr Y E w mb r c m left cnt) : r < w.heap.size := by
  obtain ⟨D, leftL, h1, -⟩ := h
  exact h1.lt
theorem Gr.kept {F : Nat → Prop} {w' : World} {r cnt : Nat} {left : κ → Bool} (h : Gr Y E w mb r c m left cnt) (k : Kept F w w') (hF : ¬ F mb) (hr : ¬ F r) : Gr Y E w' mb r c m left cnt := by
  obtain ⟨D, leftL, ⟨es, clock, since, seen, c0, hb, F1, hs, hD, hi, rest⟩, h2, h3⟩ := h
  exact ⟨D, leftL, ⟨es, clock, since, seen, c0, (k.block mb (lt_of hb) hF).trans hb, F1, hs, hD, (k.block r (lt_of hi) hr).trans hi, rest⟩, h2, h3⟩
theorem Gr.same {w' : World} {r cnt : Nat} {left : κ → Bool} (h : Gr Y E w mb r c m left cnt) (k : w'.heap[mb]? = w.heap[mb]?) (k2 : w'.heap[r]? = w.heap[r]?) : Gr Y E w' mb r c m left cnt := by
  obtain ⟨D, leftL, ⟨es, clock, since, seen, c0, hb, F1, hs, hD, hi, rest⟩, h2, h3⟩ := h
  exact ⟨D, leftL, ⟨es, clock, since, seen, c0, k.trans hb, F1, hs, hD, k2.trans hi, rest⟩, h2, h3⟩
theorem Gr.below {w' : World} {r cnt : Nat} {left : κ → Bool} (h : Gr Y E w mb r c m left cnt) (k : Below w.heap.size w w') : Gr Y E w' mb r c m left cnt := h.kept (Kept.of_below (F := fun _ => False) k) (fun h => h) (fun h => h)

/-- 'range m'. -/
theorem wpList_gm_range (w : World) (hg : o.guard = none) (x : Operand) (hop : o.op = Op.range t x) (ht : P.underlying t = some (.map kt et))
    (mb c : Nat) (m : κ → Option α) (hm : a.eval x = .map (some mb)) (h : Gm Y E w mb c m)
    (hK : ∀ w', Gr Y E w' mb w.heap.size c m (fun k => (m k).isSome) c → Below w.heap.size w w' → w'.heap.size = w.heap.size + 1 → wpList P ops Q rest (a.put o.dst (.pointer (some ⟨w.heap.size, 0, none⟩))) w') : wpList P ops Q (o :: rest) a w := by
  obtain ⟨D, h1, h2⟩ := h
  refine wpList_range_own w hg x t hop kt et Y.keyed ht E.R mb c D hm h1 fun w' hr hg' hs => ?_
  rw [h2.size] at hr
  exact hK w' ⟨D, _, hr, h2, fun k hk => (h2.has k hk).symm⟩ (Below.of_grown0 hg') hs

/-- The step of a range. -/
theorem wpList_gm_next [DecidableEq κ] (w : World) (hg : o.guard = none) (it : Operand) (hop : o.op = Op.next it false)
    (mb r c : Nat) (m : κ → Option α) (left : κ → Bool) (cnt : Nat) (hit : a.eval it = .pointer (some ⟨r, 0, none⟩)) (h : Gr Y E w mb r c m left cnt)
    (hDone : cnt = 0 → (∀ k, Y.ok k → left k = false) → wpList P ops Q rest (a.put o.dst (.tuple #[.bool false])) w)
    (hMore : ∀ (k : κ) (x : α) (w' : World) (cnt' : Nat), Y.ok k → left k = true → m k = some x → Gr Y E w' mb r c m (fun z => left z && !decide (z = k)) cnt' → cnt' < cnt →
      Kept (fun b => b = r) w w' → w'.heap.size = w.heap.size → (Instr.entry (.pointer (some ⟨r, 0, none⟩))).run P w' = .ok (.tuple #[Y.val k, E.val x]) w' → wpList P ops Q rest (a.put o.dst (.tuple #[.bool true, Y.val k, E.val x])) w') :
    wpList P ops Q (o :: rest) a w := by
  obtain ⟨D, leftL, h1, h2, h3⟩ := h
  refine wpList_next_ranges w hg it hop kt Y.keyed E.R Y.val E.val (fun key kl hkey => by obtain ⟨x, _, rfl, _⟩ := Y.inv _ _ hkey; exact ⟨x, rfl⟩) (fun v y hv => by obtain ⟨c, rfl, _⟩ := E.R_inv hv; exact ⟨c, rfl⟩)
    mb r c D leftL cnt hit h1 (fun hc hl => hDone hc (fun k hk => by rw [h3 k hk]; exact hl _)) (fun k x kl y w' cnt' hkey hlk hv hat hrg hlt hgr hsz hen => ?_)
  obtain ⟨k', hok, ek, rfl⟩ := Y.inv _ _ hkey
  have ekk := Y.inj _ _ ek
  subst ekk
  obtain ⟨x', ex, rfl⟩ := E.R_inv hv
  have exx : x = x' := by
    have h5 := E.rd_val x
    rw [ex, E.rd_val] at h5
    exact (Option.some.inj h5).symm
  subst exx
  have hh : (m k).isSome = true := by rw [← h2.has k hok]; exact Maps.has_true_of_atKey hat
  obtain ⟨u, hu⟩ := Option.isSome_iff_exists.1 hh
  have he : u = x := E.inj _ _ ((h2.at_ k u hok hu (E.dat x)).symm.trans (hat _))
  refine hMore k x w' cnt' hok (by rw [h3 k hok]; exact hlk) (by rw [hu, he]) ⟨D, _, hrg, h2, fun z hz => ?_⟩ hlt (Kept.of_grown1 hgr) hsz hen
  show (left z && !decide (z = k)) = _
  rw [h3 z hz, Y.same hz hok]
end
end Go.Kpt
