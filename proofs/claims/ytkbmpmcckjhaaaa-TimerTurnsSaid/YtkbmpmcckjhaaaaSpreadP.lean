/- append(s, x...) for slices of keys, both of the call's own. -/
import Derived.Test.YtkbmpmcckjhaaaaHeadT
import Derived.Test.YtkbmpmcckjhaaaaSpread
import Derived.Test.YtkbmpmcckjhaaaaArgs
import Derived.Test.YtkbmpmcckjhaaaaBits
namespace Go.Proofs.Ytkbmpmcckjhaaaa
open Go.RowKit Go.Kpt HeapPure
set_option linter.unusedVariables false

theorem wpList_append_pairs {ops : Array Oper} {rest : List Oper} {o : Oper} {a : Act} {w : World} {Q : Exit → Act → World → Prop} (hgd : o.guard = none) (s x : Operand)
    (ho : o.op = .call { callee := .builtin .append, args := #[s, x], argTypes := #[31, 31] }) (base base' : Nat)
    (v : Value) (xs : List Ke) (hs : a.eval s = v) (hown : OwnP w base 29 v xs) (u : Value) (zs : List Ke) (hx : a.eval x = u) (hsl : OwnP w base' 29 u zs)
    (h63 : xs.length + zs.length ≤ 100000) (hbase : base ≤ w.heap.size)
    (h : ∀ v' w', OwnP w' base 29 v' (xs ++ zs) → w.grownBy w' v.ownBlock → (v'.ownBlock = v.ownBlock ∨ v'.ownBlock = some w.heap.size) → wpList Try.prog ops Q rest (a.put o.dst v') w') :
    wpList Try.prog ops Q (o :: rest) a w := by
  obtain ⟨i0, hi, iz0, iz1, iz2⟩ := info_parts Try.info29
  have hfin : ∀ v' w', w'.ownsRow base 29 2 v' (xs.length + zs.length) (pcells xs ++ pcells zs) → OwnP w' base 29 v' (xs ++ zs) := fun v' w' h => by
    unfold OwnP
    rw [pcells_append, List.length_append]
    exact h
  rcases hsl.shape with ⟨rfl, rfl⟩ | ⟨g, cap, rfl, hg1, hg2, hlc, hcm, -, -⟩
  · refine wpList_plain hgd fun K hK => ?_
    have hr := run_append_none (P := Try.prog) w base 31 o.type 29 i0 2 Try.underlying31 hi iz1 v xs.length (pcells xs) hown 0
    unfold Oper.wp execOp
    simp only [ho, resolve, invoke, builtin, Sem.run_bind, Sem.run_pure, Result.andThen_ok, List.map_toArray, List.map_cons, List.map_nil, hs, hx, hr]
    exact hK _ _ (h v w (by simpa using hown) ⟨rfl, rfl, rfl, Nat.le_refl _, fun _ _ _ => rfl⟩ (.inl rfl))
  · refine wpList_append_own_at w hgd s x 31 ho base 29 i0 (.agg #[.int .i64 0, .int .i64 0]) 2 16 Try.underlying31 hi iz0 iz1 iz2 rfl (by decide) v xs.length (pcells xs) hs hown ⟨g, 0, none⟩ zs.length cap (pcells zs) hx (pcells_length zs) (fun j y hj => ?_) (fun y hy => ?_) (by unfold maxLen; omega) (by omega) hbase ?_
    · have hplain : (⟨g, 0, none⟩ : Addr).add j = ⟨g, j, none⟩ := by unfold Addr.add; split <;> simp_all
      have hjl : j < zs.length * 2 := by have := (List.getElem?_eq_some_iff.1 hj).1; rw [pcells_length] at this; exact this
      rw [hplain]
      exact (row_cell hsl j hjl).1.trans hj
    · unfold pcells at hy
      rw [List.mem_flatMap] at hy
      obtain ⟨z, _, hz⟩ := hy
      simp at hz
      rcases hz with rfl | rfl <;> rfl
    · intro v' w' h1 h2 _ h4
      exact h v' w' (hfin v' w' h1) h2 h4

/-- What holds of all that is there holds of what is left. -/
theorem after_all {P : Ke → Tm → Prop} {l : List (Ke × Tm)} (G : HeapPure.Good lt l) (h : ∀ k v, HeapPure.get l k = some v → P k v) : ∀ n, n ≤ l.length → ∀ k v, HeapPure.get (after n l) k = some v → P k v
  | 0, _ => h
  | n + 1, hn => fun k v hk => by
    have hk' : HeapPure.get (drop lt (after n l) (kk (after n l) 0)) k = some v := hk
    rw [drop_get ord_lt (after_good G n (by omega)).1] at hk'
    by_cases e : k = kk (after n l) 0
    · rw [if_pos e] at hk'; cases hk'
    · rw [if_neg e] at hk'
      exact after_all G h n (by omega) k v hk'
/-- If all are due, none is left. -/
theorem all_due {l : List (Ke × Tm)} {now : Int} (G : HeapPure.Good lt l) (h : ∀ k v, HeapPure.get l k = some v → v.at_ ≤ now) {n : Nat} (hn : n ≤ l.length) (hs : ¬ Dues (after n l) now) : n = l.length := by
  obtain ⟨g1, g2⟩ := after_good G n hn
  by_cases e : 0 < (after n l).length
  · exact absurd ⟨e, after_all G h n hn _ _ (min_spec g1 e).1⟩ hs
  · omega
end Go.Proofs.Ytkbmpmcckjhaaaa
