/- append(s, x...): a slice of the call's own, behind it all of another one, nil or not. -/
import Derived.Test.YtkbmpmcckjhaaaaOwn
import Derived.Laws.OwnMore
set_option linter.unusedVariables false
namespace Go.Kpt
open Go.RowKit

section
variable {P : Program}

theorem run_append_none (w : World) (base : Nat) (t ty e : TypeId) (i : TypeInfo) (size : Nat) (ht : P.underlying t = some (.slice e)) (hi : P.info? e = some i) (hsize : i.size = size)
    (v : Value) (n : Nat) (xs : List Value) (hown : w.ownsRow base e size v n xs) (c : Nat) :
    (Builtin.append_ #[t, t] ty #[v, .slice none 0 c]).run P w = .ok v w := by
  rcases hown.2 with ⟨rfl, rfl⟩ | ⟨g, cap, cur, rfl, _, _, hnc, _⟩
  · simp [Builtin.append_, run_underlying ht, sizeOf, typeInfo, hi, Builtin.lenOf, Builtin.firstCells]
  · simp [Builtin.append_, run_underlying ht, sizeOf, typeInfo, hi, Builtin.lenOf, Builtin.firstCells, hnc, storeCells]

/-- At the operation: one-cell numbers behind a slice of the call's own. -/
theorem wpList_append_ints {ops : Array Oper} {rest : List Oper} {o : Oper} {a : Act} {w : World} {Q : Exit → Act → World → Prop} (hgd : o.guard = none) (s x : Operand) (t : TypeId)
    (ho : o.op = .call { callee := .builtin .append, args := #[s, x], argTypes := #[t, t] })
    (base : Nat) (e : TypeId) (k : IntKind) (i : TypeInfo) (z : Value) (bytes : Nat) (ht : P.underlying t = some (.slice e)) (hi : P.info? e = some i) (hz : i.zero = some z)
    (hsize : i.size = 1) (hby : i.bytes = bytes) (hzs : z.cells.size = 1)
    (v : Value) (xs : List Int) (hs : a.eval s = v) (hown : OwnI w base e k v xs)
    (ad : Option Addr) (c : Nat) (zs : List Int) (p : Nat → Prop) (hx : a.eval x = .slice ad zs.length c) (hsl : Sl k w p ad zs)
    (h63 : xs.length + zs.length ≤ maxLen) (hbytes : (xs.length + zs.length) * bytes ≤ 140737488355328) (hbase : base ≤ w.heap.size)
    (h : ∀ v' w', OwnI w' base e k v' (xs ++ zs) → w.grownBy w' v.ownBlock → (v'.ownBlock = v.ownBlock ∨ v'.ownBlock = some w.heap.size) → wpList P ops Q rest (a.put o.dst v') w') :
    wpList P ops Q (o :: rest) a w := by
  have hone : ∀ u ∈ zs.map (Value.int k), u.oneCell' = true := by intro u hu; obtain ⟨n, _, rfl⟩ := List.mem_map.1 hu; rfl
  rcases Nat.eq_zero_or_pos zs.length with h0 | h0
  · obtain rfl := List.eq_nil_of_length_eq_zero h0
    cases ad with
    | none =>
      refine wpList_plain hgd fun K hK => ?_
      have hr := run_append_none (P := P) w base t o.type e i 1 ht hi hsize v xs.length (xs.map (Value.int k)) hown c
      unfold Oper.wp execOp
      simp only [ho, resolve, invoke, builtin, Sem.run_bind, Sem.run_pure, Result.andThen_ok, List.map_toArray, List.map_cons, List.map_nil, hs, hx, List.length_nil, hr]
      exact hK _ _ (h v w (by simpa using hown) ⟨rfl, rfl, rfl, Nat.le_refl _, fun _ _ _ => rfl⟩ (.inl rfl))
    | some ad =>
      refine wpList_append_own_at w hgd s x t ho base e i z 1 bytes ht hi hz hsize hby hzs (by omega) v xs.length (xs.map (Value.int k)) hs hown ad 0 c [] hx rfl (fun j u hj => by simp at hj) (by simp) (by simpa using h63) (by simpa using hbytes) hbase ?_
      intro v' w' h1 h2 _ h4
      exact h v' w' (by unfold OwnI; simpa using h1) h2 h4
  · obtain ⟨b, off, rfl, _, _⟩ := hsl 0 h0
    refine wpList_append_own_at w hgd s x t ho base e i z 1 bytes ht hi hz hsize hby hzs (by omega) v xs.length (xs.map (Value.int k)) hs hown ⟨b, off, none⟩ zs.length c (zs.map (Value.int k)) hx (by simp) (fun j u hj => ?_) hone h63 hbytes hbase ?_
    · have hjl : j < zs.length := by have := (List.getElem?_eq_some_iff.1 hj).1; simpa using this
      obtain ⟨b', off', e', _, hc⟩ := hsl j hjl
      cases e'
      have hplain : (⟨b, off, none⟩ : Addr).add j = ⟨b, off + j, none⟩ := by unfold Addr.add; split <;> simp_all
      rw [hplain, hc]
      simp [hjl] at hj
      rw [← hj]
      simp [List.getD_eq_getElem?_getD, hjl]
    · intro v' w' h1 h2 _ h4
      exact h v' w' (by unfold OwnI; simpa using h1) h2 h4
end

/-- A store into a slice of the call's own. -/
theorem OwnI.stored {w : World} {base : Nat} {e : TypeId} {k : IntKind} {g n cap : Nat} {xs : List Int} (h : OwnI w base e k (.slice (some ⟨g, 0, none⟩) n cap) xs) (j : Nat) (x : Int) :
    OwnI (w.setCell ⟨g, j, none⟩ (.int k x)) base e k (.slice (some ⟨g, 0, none⟩) n cap) (xs.set j x) := by
  have hn : n = xs.length := by rcases h.2 with ⟨h1, _⟩ | ⟨g', c', cur, h1, _⟩ <;> cases h1 <;> rfl
  subst hn
  have := World.ownsRow.stored h j (.int k x)
  unfold OwnI
  simpa [List.map_set] using this.1


/-- One number that was just laid in a block of its own. -/
theorem Sl.one (w : World) (k : IntKind) (x : Int) (t : TypeId) : Sl k (w.alloc (.cells #[.int k x] t)) (fun _ => True) (some ⟨w.heap.size, 0, none⟩) [x] := by
  intro i hi
  obtain rfl : i = 0 := by simpa using hi
  exact ⟨_, _, rfl, trivial, by rw [cell_of (heap_alloc_new _ _)]; rfl⟩
end Go.Kpt
