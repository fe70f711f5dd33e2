/- Keys of two ints: how they lie in memory, and read; and what the maps of this package hold. -/
import Derived.Test.YtkbmpmcckjhaaaaRows
import Derived.Test.YtkbmpmcckjhaaaaKeyMapPut2
import Derived.DeepKeys4
namespace Go.Proofs.Ytkbmpmcckjhaaaa
open Go.RowKit Go.Kpt Go.Maps
set_option linter.unusedVariables false

abbrev Ke := Int × Int
theorem klaid : laidOutB Try.prog = true := by kernel_rfl
theorem kcells : Try.prog.cellsOf 29 = 2 := by kernel_rfl
theorem kcells3 : Try.prog.cellsOf 3 = 1 := by kernel_rfl
theorem krow : (29 : TypeId) < Try.prog.types.size := of_decide_eq_true (by kernel_rfl)
theorem ktype : Try.prog.keyType 29 = true := by kernel_rfl
theorem kdepth : ∃ d, Try.prog.types.size + 1 = d + 2 := ⟨Try.prog.types.size - 1, by have h : 29 < Try.prog.types.size := krow; omega⟩
theorem kwide : (match Try.prog.underlying 29 with | some (.array _ _) | some (.struct _) => true | _ => false) = true := by rw [Try.underlying29]
theorem klaw : WideMaps.KeyLaw Try.prog 29 := deep_law_laid klaid (m := 2) (by omega) krow (by kernel_rfl) kwide

abbrev kv (k : Ke) : Value := .agg #[.int .i64 k.1, .int .i64 k.2]
def kl (k : Ke) : Lit := .string (keyBytes [.int .i64 k.1, .int .i64 k.2])
def kok (k : Ke) : Prop := (Lit.int .i64 k.1).wf = true ∧ (Lit.int .i64 k.2).wf = true
instance (k : Ke) : Decidable (kok k) := by unfold kok; exact inferInstance
theorem kformed (a b : Value) : (Value.agg #[a, b]).formed Try.prog 29 = true := by simp [Value.formed, Try.underlying29, kcells]
theorem klits (d : Nat) (a b : Int) (ha : (Lit.int .i64 a).wf = true) (hb : (Lit.int .i64 b).wf = true) : Try.prog.keyLits (d + 2) 29 [.int .i64 a, .int .i64 b] = some [.int .i64 a, .int .i64 b] := by
  simp [Program.keyLits, Try.underlying29, Try.underlying3, kcells, kcells3, ha, hb]
theorem kof (k : Ke) (h : kok k) : keyOf Try.prog 29 (kv k) = some (kl k) := by
  obtain ⟨d, hd⟩ := kdepth
  unfold keyOf kv
  rw [Try.underlying29]
  simp only [ktype, kformed, Bool.and_self, if_true, hd]
  rw [show (Value.agg #[Value.int .i64 k.1, Value.int .i64 k.2]).cells.toList = [.int .i64 k.1, .int .i64 k.2] from rfl, klits d k.1 k.2 h.1 h.2]
  rfl
theorem klits1 (d : Nat) (v : Value) (x : List Lit) (h : Try.prog.keyLits (d + 1) 3 [v] = some x) : ∃ a, v = .int .i64 a ∧ (Lit.int .i64 a).wf = true ∧ x = [.int .i64 a] := by
  cases v <;> simp [Program.keyLits, Try.underlying3] at h
  obtain ⟨⟨rfl, h1⟩, rfl⟩ := h
  exact ⟨_, rfl, h1, rfl⟩
theorem kinv (v : Value) (l : Lit) (h : keyOf Try.prog 29 v = some l) : ∃ k, kok k ∧ v = kv k ∧ l = kl k := by
  obtain ⟨d, hd⟩ := kdepth
  unfold keyOf at h
  rw [Try.underlying29] at h
  simp only [ktype, Bool.true_and, hd] at h
  split at h
  · rename_i hf
    simp [Value.formed, Try.underlying29, kcells] at hf
    cases v <;> simp at hf
    rename_i cs
    obtain ⟨ls⟩ := cs
    match ls, hf with
    | [x, y], _ =>
      rw [show (Value.agg #[x, y]).cells.toList = [x, y] from rfl] at h
      simp [Program.keyLits, Try.underlying29, Try.underlying3, kcells, kcells3] at h
      cases x <;> simp at h
      rename_i q1 n1 _
      by_cases h1 : q1 = IntKind.i64 ∧ (Lit.int IntKind.i64 n1).wf = true
      · rw [if_pos h1] at h
        cases y <;> simp at h
        rename_i q2 n2 _
        by_cases h2 : q2 = IntKind.i64 ∧ (Lit.int IntKind.i64 n2).wf = true
        · rw [if_pos h2] at h
          simp at h
          obtain ⟨rfl, w1⟩ := h1
          obtain ⟨rfl, w2⟩ := h2
          exact ⟨(n1, n2), ⟨w1, w2⟩, rfl, h.symm⟩
        · rw [if_neg h2] at h
          simp at h
      · rw [if_neg h1] at h
        simp at h
  · cases h
def keyY : Ky Try.prog 29 Ke := ⟨Keyed.of_law klaw, kv, kl, kok, kof, kinv, fun a b h => by
  obtain ⟨a1, a2⟩ := a
  obtain ⟨b1, b2⟩ := b
  simp [kv] at h
  rw [h.1, h.2]⟩
/-- Ints as a map's elements. -/
def intRd (v : Value) : Option Int := match v with | .int .i64 a => some a | _ => none
def intE : El Int := ⟨Value.int .i64, intRd, fun _ => rfl, fun v x h => by
  cases v <;> simp [intRd] at h
  rename_i k a
  cases k <;> simp at h
  rw [h], fun a => .lit (.int .i64 a), fun x y h => by simpa using h⟩

/-! ### a heap's own map, from keys to places -/
section
variable {t : TypeId} {mb c : Nat} {m : Ke → Option Int} {ops : Array Oper} {rest : List Oper} {o : Oper} {a : Act} {Q : Exit → Act → World → Prop}
theorem wpList_ki_look (w : World) (hg : o.guard = none) (x y : Operand) (hop : o.op = Op.lookup 61 x y true) (mb c : Nat) (m : Ke → Option Int) (hm : a.eval x = .map (some mb)) (h : Gm keyY intE w mb c m) (k : Ke) (hx : a.eval y = kv k) (hw : kok k)
    (hK : wpList Try.prog ops Q rest (a.put o.dst (.tuple #[.int .i64 ((m k).getD 0), .bool (m k).isSome])) w) : wpList Try.prog ops Q (o :: rest) a w :=
  wpList_gm_look (Y := keyY) (E := intE) (et := 3) w hg x y hop Try.underlying61 0 (by kernel_rfl) mb c m hm h k hx hw hK
theorem wpList_ki_put (w : World) (hg : o.guard = none) (x y z : Operand) (hop : o.op = Op.mapUpdate 61 x y z) (mb c : Nat) (m : Ke → Option Int) (hm : a.eval x = .map (some mb)) (h : Gm keyY intE w mb c m) (hc : c < maxLen) (k : Ke) (v : Int) (hx : a.eval y = kv k) (hz : a.eval z = .int .i64 v) (hw : kok k)
    (hK : ∀ w', Gm keyY intE w' mb (if (m k).isSome then c else c + 1) (gput m k v) → Kept (fun x => x = mb) w w' → wpList Try.prog ops Q rest (a.put o.dst undef) w') : wpList Try.prog ops Q (o :: rest) a w :=
  wpList_gm_put (Y := keyY) (E := intE) (et := 3) w hg x y z hop Try.underlying61 mb c m hm h hc k v hx hz hw hK
theorem wpList_ki_del (w : World) (hg : o.guard = none) (x y : Operand) (hop : o.op = Op.call { callee := Callee.builtin Builtin.delete, args := #[x, y], argTypes := #[61, 29] }) (mb c : Nat) (m : Ke → Option Int) (hm : a.eval x = .map (some mb)) (h : Gm keyY intE w mb c m) (k : Ke) (hx : a.eval y = kv k) (hw : kok k)
    (hK : ∀ w', Gm keyY intE w' mb (if (m k).isSome then c - 1 else c) (gdel m k) → Kept (fun x => x = mb) w w' → wpList Try.prog ops Q rest (a.put o.dst (.tuple #[])) w') : wpList Try.prog ops Q (o :: rest) a w :=
  wpList_gm_del (Y := keyY) (E := intE) (et := 3) w hg x y hop Try.underlying61 mb c m hm h k hx hw hK
theorem ki_two {w : World} (h : Gm keyY intE w mb c m) (hc : c < maxLen) (k1 k2 : Ke) (v1 v2 : Int) (hw1 : kok k1) (hw2 : kok k2) (h1 : (m k1).isSome = true) (h2 : (m k2).isSome = true) :
    ∃ (x1 x2 x3 : Value) (s1 s2 : Nat) (w1 w2 : World),
      (Instr.mapEntry 61 (.map (some mb)) (kv k1)).run Try.prog w = .ok (.tuple #[x1, .int .i64 s1]) w ∧
      (Instr.mapEntry 61 (.map (some mb)) (kv k2)).run Try.prog w = .ok (.tuple #[x2, .int .i64 s2]) w ∧
      (Instr.entryStore 61 (.map (some mb)) (.int .i64 s1) (.int .i64 v1)).run Try.prog w = .ok () w1 ∧
      (Instr.mapEntry 61 (.map (some mb)) (kv k2)).run Try.prog w1 = .ok (.tuple #[x3, .int .i64 s2]) w1 ∧
      (Instr.entryStore 61 (.map (some mb)) (.int .i64 s2) (.int .i64 v2)).run Try.prog w1 = .ok () w2 ∧
      Gm keyY intE w2 mb c (gput (gput m k1 v1) k2 v2) ∧ Kept (fun x => x = mb) w w1 ∧ Kept (fun x => x = mb) w w2 :=
  gm_two h Try.underlying61 0 (fun w => by kernel_rfl) hc k1 k2 v1 v2 hw1 hw2 h1 h2
end
end Go.Proofs.Ytkbmpmcckjhaaaa
