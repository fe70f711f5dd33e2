/- A map from ints to ints that a call owns, told by a plain function. -/
import Derived.Test.YtbnpipfmeekbdaaOwn
import Derived.Maps.OwnSet
import Derived.Maps.OwnOps
set_option linter.unusedVariables false
namespace Go.Kpt
open Go.RowKit Go.Maps

/-- Block mb is a map with c entries, from ints to ints, as m tells. -/
def Mp (P : Program) (kt et : TypeId) (w : World) (mb c : Nat) (m : Int → Option Int) : Prop :=
  ∃ D : DataW Unit, w.ownsMap P kt (plainElem P et) mb c D ∧ Maps.size D = c ∧
    ∀ k, Maps.has D (.int .i64 k) = (m k).isSome ∧ ∀ i, m k = some i → D.atKey (.int .i64 k) (.lit (.int .i64 0)) = .lit (.int .i64 i)

/-- One key turned. -/
def mput (m : Int → Option Int) (k v : Int) : Int → Option Int := fun x => if x = k then some v else m x
def mdel (m : Int → Option Int) (k : Int) : Int → Option Int := fun x => if x = k then none else m x

section
variable {P : Program} {kt et t : TypeId} {w : World} {mb c : Nat} {m : Int → Option Int}

theorem Mp.lt (h : Mp P kt et w mb c m) : mb < w.heap.size := by obtain ⟨D, h, -⟩ := h; exact h.lt
theorem Mp.kept {F : Nat → Prop} {w' : World} (h : Mp P kt et w mb c m) (k : Kept F w w') (hF : ¬ F mb) : Mp P kt et w' mb c m := by
  obtain ⟨D, ⟨es, clock, hb, h1⟩, h2⟩ := h
  exact ⟨D, ⟨es, clock, (k.block mb (lt_of hb) hF).trans hb, h1⟩, h2⟩
theorem Mp.below {w' : World} (h : Mp P kt et w mb c m) (k : Below w.heap.size w w') : Mp P kt et w' mb c m := h.kept (Kept.of_below (F := fun _ => False) k) (fun h => h)
theorem Mp.made (w : World) : Mp P kt et (w.alloc (.map #[] 0)) w.heap.size 0 (fun _ => none) :=
  ⟨.map [], World.ownsMap_made _ _ _ _, rfl, fun k => ⟨rfl, fun i h => by cases h⟩⟩
theorem isKey (k : Int) : WideAt.IsKeyLit (.int .i64 k) := by simp [WideAt.IsKeyLit]
theorem key_ne {k k' : Int} (h : k ≠ k') : (Lit.int .i64 k) ≠ .int .i64 k' := fun e => h (by cases e; rfl)

variable {ops : Array Oper} {rest : List Oper} {o : Oper} {a : Act} {Q : Exit → Act → World → Prop}

/-- What a key reads as. -/
theorem Mp.value (h : Mp P kt et w mb c m) : ∃ D : DataW Unit, w.ownsMap P kt (plainElem P et) mb c D ∧ ∀ k v, D.atKey (.int .i64 k) (.lit (.int .i64 0)) = .lit (.int .i64 v) → v = (m k).getD 0 ∧ Maps.has D (.int .i64 k) = (m k).isSome := by
  obtain ⟨D, h1, h2, h3⟩ := h
  refine ⟨D, h1, fun k v hv => ⟨?_, (h3 k).1⟩⟩
  cases hm : m k with
  | none =>
    have h4 := (h3 k).1
    rw [hm] at h4
    rw [Maps.atKey_of_not_has h4] at hv
    cases hv; rfl
  | some i =>
    rw [(h3 k).2 i hm] at hv
    cases hv; rfl

/-- 'v, ok := m[k]'. -/
theorem wpList_mp_look (w : World) (hg : o.guard = none) (x y : Operand) (hop : o.op = Op.lookup t x y true) (hk : P.underlying kt = some (.int .i64)) (ht : P.underlying t = some (.map kt et)) (he : P.underlying et = some (.int .i64))
    (hz : (zeroValue et).run P w = .ok (.int .i64 0) w) (mb c : Nat) (m : Int → Option Int) (hm : a.eval x = .map (some mb)) (h : Mp P kt et w mb c m) (k : Int) (hx : a.eval y = .int .i64 k) (hw : (Lit.int .i64 k).wf = true)
    (hK : wpList P ops Q rest (a.put o.dst (.tuple #[.int .i64 ((m k).getD 0), .bool (m k).isSome])) w) : wpList P ops Q (o :: rest) a w := by
  obtain ⟨D, h1, h2⟩ := h.value
  refine wpList_lookup_own_ok_int w hg x y t hop kt et .i64 (int_keyed hk) ht he hz mb c D hm h1 (.int .i64 k) (.int .i64 k) hx (keyOf_int_mk hk hw) fun v hat hwc => ?_
  obtain ⟨e1, e2⟩ := h2 k v hat
  rw [e2, e1]
  exact hK

/-- 'm[k]'. -/
theorem wpList_mp_get (w : World) (hg : o.guard = none) (x y : Operand) (hop : o.op = Op.lookup t x y false) (hk : P.underlying kt = some (.int .i64)) (ht : P.underlying t = some (.map kt et)) (he : P.underlying et = some (.int .i64))
    (hz : (zeroValue et).run P w = .ok (.int .i64 0) w) (mb c : Nat) (m : Int → Option Int) (hm : a.eval x = .map (some mb)) (h : Mp P kt et w mb c m) (k : Int) (hx : a.eval y = .int .i64 k) (hw : (Lit.int .i64 k).wf = true)
    (hK : wpList P ops Q rest (a.put o.dst (.int .i64 ((m k).getD 0))) w) : wpList P ops Q (o :: rest) a w := by
  obtain ⟨D, h1, h2⟩ := h.value
  refine wpList_lookup_own_int w hg x y t hop kt et .i64 (int_keyed hk) ht he hz mb c D hm h1 (.int .i64 k) (.int .i64 k) hx (keyOf_int_mk hk hw) fun v hat hwc => ?_
  obtain ⟨e1, e2⟩ := h2 k v hat
  rw [e1]
  exact hK

/-- A map behind a store. -/
theorem mp_put {w' : World} {n : Nat} {D : DataW Unit} (hk : P.underlying kt = some (.int .i64)) (h1 : w.ownsMap P kt (plainElem P et) mb c D) (h2 : Maps.size D = c)
    (h3 : ∀ k, Maps.has D (.int .i64 k) = (m k).isSome ∧ ∀ i, m k = some i → D.atKey (.int .i64 k) (.lit (.int .i64 0)) = .lit (.int .i64 i)) (k v : Int)
    (hn : w'.ownsMap P kt (plainElem P et) mb n (D.put (.int .i64 k) (.lit (.int .i64 v)))) : Mp P kt et w' mb (if (m k).isSome then c else c + 1) (mput m k v) := by
  have htidy := h1.tidy (int_keyed hk)
  have hsz := Maps.size_put (k := .int .i64 k) htidy (.lit (.int .i64 v))
  rw [(h3 k).1, h2] at hsz
  refine ⟨_, ?_, hsz, fun x => ?_⟩
  · obtain ⟨es, clock, hb, hf, hle, hD⟩ := hn
    refine ⟨es, clock, hb, hf, ?_, hD⟩
    rw [← hsz, hD, Maps.size_eq, length_read]
    exact Nat.le_refl _
  · unfold mput
    by_cases e : x = k
    · subst e
      rw [if_pos rfl, Maps.has_put_same htidy.isMap (isKey x), Maps.atKey_put_same htidy.isMap (isKey x)]
      exact ⟨rfl, fun i h => by cases h; rfl⟩
    · rw [if_neg e, Maps.has_put_other (key_ne e), Maps.atKey_put_other (key_ne e)]
      exact h3 x

/-- 'm[k] = v'. -/
theorem wpList_mp_put (w : World) (hg : o.guard = none) (x y z : Operand) (hop : o.op = Op.mapUpdate t x y z) (hk : P.underlying kt = some (.int .i64)) (ht : P.underlying t = some (.map kt et)) (he : P.underlying et = some (.int .i64))
    (mb c : Nat) (m : Int → Option Int) (hm : a.eval x = .map (some mb)) (h : Mp P kt et w mb c m) (hc : c < maxLen) (k v : Int) (hx : a.eval y = .int .i64 k) (hz : a.eval z = .int .i64 v) (hw : (Lit.int .i64 k).wf = true) (hv : (Lit.int .i64 v).wf = true)
    (hK : ∀ w', Mp P kt et w' mb (if (m k).isSome then c else c + 1) (mput m k v) → Kept (fun x => x = mb) w w' → wpList P ops Q rest (a.put o.dst undef) w') : wpList P ops Q (o :: rest) a w := by
  obtain ⟨D, h1, h2, h3⟩ := h
  refine wpList_mapUpdate_own w hg x y z t hop kt et (int_keyed hk) ht (plainElem P et) mb c D hm h1 hc (.int .i64 k) (.int .i64 v) (.int .i64 k) hx hz (keyOf_int_mk hk hw) (.lit (.int .i64 v)) [] (plainElem_int he hv) fun w' hn hg' => ?_
  exact hK w' (mp_put hk h1 h2 h3 k v hn) ((Kept.of_grown hg').mono fun x _ h => by cases h; rfl)

/-- 'delete(m, k)'. -/
theorem wpList_mp_del (w : World) (hg : o.guard = none) (x y : Operand) (hop : o.op = Op.call { callee := Callee.builtin Builtin.delete, args := #[x, y], argTypes := #[t, kt] }) (hk : P.underlying kt = some (.int .i64)) (ht : P.underlying t = some (.map kt et))
    (mb c : Nat) (m : Int → Option Int) (hm : a.eval x = .map (some mb)) (h : Mp P kt et w mb c m) (k : Int) (hx : a.eval y = .int .i64 k) (hw : (Lit.int .i64 k).wf = true)
    (hK : ∀ w', Mp P kt et w' mb (if (m k).isSome then c - 1 else c) (mdel m k) → Kept (fun x => x = mb) w w' → wpList P ops Q rest (a.put o.dst (.tuple #[])) w') : wpList P ops Q (o :: rest) a w := by
  obtain ⟨D, h1, h2, h3⟩ := h
  refine wpList_delete_own w hg x y t kt hop et (int_keyed hk) ht (plainElem P et) mb c D hm h1 (.int .i64 k) (.int .i64 k) hx (keyOf_int_mk hk hw) fun w' hn hg' => ?_
  have hg' := hg'.grown
  have htidy := h1.tidy (int_keyed hk)
  have hsz := Maps.size_del (k := .int .i64 k) htidy
  rw [(h3 k).1, h2] at hsz
  have hsz' : Maps.size (D.del (.int .i64 k)) = if (m k).isSome then c - 1 else c := by
    cases hh : (m k).isSome <;> rw [hh] at hsz <;> simp at hsz ⊢ <;> omega
  refine hK w' ⟨_, ?_, hsz', fun x => ?_⟩ ((Kept.of_grown hg').mono fun x _ h => by cases h; rfl)
  · obtain ⟨es, clock, hb, hf, hle, hD⟩ := hn
    refine ⟨es, clock, hb, hf, ?_, hD⟩
    rw [← hsz', hD, Maps.size_eq, length_read]
    exact Nat.le_refl _
  · unfold mdel
    by_cases e : x = k
    · subst e
      rw [if_pos rfl, Maps.has_del_same]
      exact ⟨rfl, fun i h => by cases h⟩
    · rw [if_neg e, Maps.has_del_other (key_ne e), Maps.atKey_del_other (key_ne e)]
      exact h3 x

/-- 'len(m)'. -/
theorem wpList_mp_len (w : World) (hg : o.guard = none) (x : Operand) (hop : o.op = Op.call { callee := Callee.builtin Builtin.len, args := #[x], argTypes := #[t] }) (ht : P.underlying t = some (.map kt et))
    (mb c : Nat) (m : Int → Option Int) (hm : a.eval x = .map (some mb)) (h : Mp P kt et w mb c m)
    (hK : wpList P ops Q rest (a.put o.dst (.int .i64 c)) w) : wpList P ops Q (o :: rest) a w := by
  obtain ⟨D, h1, h2, h3⟩ := h
  refine wpList_len_own w hg x t hop kt et ht (plainElem P et) mb c D hm h1 ?_
  rw [h2]
  exact hK
end
end Go.Kpt
