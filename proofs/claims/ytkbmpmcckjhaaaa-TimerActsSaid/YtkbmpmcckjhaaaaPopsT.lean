/- Taking the first one out, again and again; keys compared; two sets of times side by side. -/
import Derived.Test.YtkbmpmcckjhaaaaDueT
import Derived.Laws.StructEq
namespace Go.Proofs.Ytkbmpmcckjhaaaa
open Go.RowKit Go.Kpt HeapPure
set_option linter.unusedVariables false

def after : Nat → List (Ke × Tm) → List (Ke × Tm)
  | 0, l => l
  | n + 1, l => drop lt (after n l) (kk (after n l) 0)
def pops : Nat → List (Ke × Tm) → List Ke
  | 0, _ => []
  | n + 1, l => pops n l ++ [kk (after n l) 0]
theorem pops_length (n : Nat) (l : List (Ke × Tm)) : (pops n l).length = n := by
  induction n with
  | zero => rfl
  | succ n ih => show (pops n l ++ [kk (after n l) 0]).length = n + 1; simp [ih]
theorem after_add (i : Nat) (l : List (Ke × Tm)) : ∀ j, after (i + j) l = after j (after i l) ∧ pops (i + j) l = pops i l ++ pops j (after i l)
  | 0 => ⟨rfl, by show pops i l = pops i l ++ []; simp⟩
  | j + 1 => by
    obtain ⟨h1, h2⟩ := after_add i l j
    refine ⟨?_, ?_⟩
    · show drop lt (after (i + j) l) (kk (after (i + j) l) 0) = drop lt (after j (after i l)) (kk (after j (after i l)) 0)
      rw [h1]
    · show pops (i + j) l ++ [kk (after (i + j) l) 0] = pops i l ++ (pops j (after i l) ++ [kk (after j (after i l)) 0])
      rw [h1, h2, List.append_assoc]
theorem steps_n {now : Int} {l l' : List (Ke × Tm)} {ks : List Ke} (h : Steps now l ks l') : ks = pops ks.length l ∧ l' = after ks.length l ∧ ∀ i, i < ks.length → Dues (after i l) now := by
  induction h with
  | nil => exact ⟨rfl, rfl, fun i hi => by simp at hi⟩
  | snoc h hd ih =>
    obtain ⟨h1, h2, h3⟩ := ih
    rename_i ks
    rw [List.length_append, List.length_singleton]
    refine ⟨?_, ?_, fun i hi => ?_⟩
    · show _ = pops ks.length _ ++ [kk (after ks.length _) 0]
      rw [← h2, ← h1]
    · show _ = drop lt (after ks.length _) (kk (after ks.length _) 0)
      rw [← h2]
    · by_cases e : i < ks.length
      · exact h3 i e
      · obtain rfl : i = ks.length := by omega
        rw [← h2]; exact hd
theorem after_good {l : List (Ke × Tm)} (G : HeapPure.Good lt l) : ∀ n, n ≤ l.length → HeapPure.Good lt (after n l) ∧ (after n l).length + n = l.length
  | 0, _ => ⟨G, rfl⟩
  | n + 1, h => by
    obtain ⟨h1, h2⟩ := after_good G n (by omega)
    obtain ⟨h3, h4⟩ := drop_first h1 (by omega)
    exact ⟨h3, by show (drop lt (after n l) (kk (after n l) 0)).length + (n + 1) = l.length; omega⟩

/-! ### keys compared -/
theorem step_ke (xs ys : Array Value) (fd : Field) (fs : List Field) (a b : Int) (w : World) (hn : fd.name ≠ "_") (ht : Try.prog.underlying fd.type = some (.int .i64)) (ha : xs[fd.offset]? = some (.int .i64 a)) (hb : ys[fd.offset]? = some (.int .i64 b)) :
    (Op.eqFields 9999 xs ys (fd :: fs)).run Try.prog w = if a = b then (Op.eqFields 9999 xs ys fs).run Try.prog w else .ok false w := by
  have p1 : (part fd.type xs fd.offset).run Try.prog w = .ok (.int .i64 a) w := by simp [part, isAgg, run_underlying ht, ha]
  have p2 : (part fd.type ys fd.offset).run Try.prog w = .ok (.int .i64 b) w := by simp [part, isAgg, run_underlying ht, hb]
  have p3 := run_equalIn_int (P := Try.prog) w 9998 fd.type .i64 .i64 a b ht
  simp only [Op.eqFields, hn, ne_eq, not_false_eq_true, if_true, Sem.run_bind, p1, p2, p3, Result.andThen_ok]
  by_cases h : a = b
  · subst h; simp
  · simp [h]
theorem eqIn_ke (a b : Ke) (w : World) : (Op.equalIn 10000 29 (kv a) (kv b)).run Try.prog w = .ok (decide (a = b)) w := by
  have hs : Try.prog.stoodInHeld 29 = false := by kernel_rfl
  have hu := Try.underlying29
  rw [run_equalIn_struct (P := Try.prog) w 9999 29 _ _ (by unfold Program.fieldsOf; rw [hu]) hs]
  unfold Program.fieldsOf
  rw [hu]
  dsimp only
  rw [step_ke _ _ _ _ a.1 b.1 w (by simp) Try.underlying3 rfl rfl, step_ke _ _ _ _ a.2 b.2 w (by simp) Try.underlying3 rfl rfl]
  obtain ⟨a1, a2⟩ := a
  obtain ⟨b1, b2⟩ := b
  by_cases h1 : a1 = b1
  · by_cases h2 : a2 = b2
    · subst h1 h2; simp [Op.eqFields]
    · simp [h1, h2]
  · simp [h1]
theorem eql_ke (a b : Ke) (w : World) : (binOp .eql 29 (.agg #[.int .i64 a.1, .int .i64 a.2]) (.agg #[.int .i64 b.1, .int .i64 b.2])).run Try.prog w = .ok (.bool (decide (a = b))) w := by
  rw [run_eql_struct, eqIn_ke]; rfl
theorem neq_ke (a b : Ke) (w : World) : (binOp .neq 29 (.agg #[.int .i64 a.1, .int .i64 a.2]) (.agg #[.int .i64 b.1, .int .i64 b.2])).run Try.prog w = .ok (.bool (!decide (a = b))) w := by
  rw [run_neq_struct, eqIn_ke]; rfl
theorem guard_ke (op : BinOp) (x y : Operand) (xs ys : Array Value) (w : World) : (eqGuard op 29 x y (.agg xs) (.agg ys)).run Try.prog w = .ok () w := run_eqGuard_agg (P := Try.prog) w op 29 x y xs ys (by kernel_rfl)

/-! ### two sets of times -/
/-- Two sets of times, and blocks that are neither's. -/
def T2 (w : World) (base a b : Nat) (l m : List (Ke × Tm)) (Q : Nat → Prop) : Prop :=
  ∃ ha va ma hb vb mb, Tc w base a ha va ma l ∧ Tc w base b hb vb mb m ∧ (∀ x, Q x → x < w.heap.size ∧ ¬ Foot a ha ma va x ∧ ¬ Foot b hb mb vb x) ∧ ∀ x, Foot a ha ma va x → ¬ Foot b hb mb vb x
theorem T2.symm {w : World} {base a b : Nat} {l m : List (Ke × Tm)} {Q : Nat → Prop} (h : T2 w base a b l m Q) : T2 w base b a m l Q := by
  obtain ⟨ha, va, ma, hb, vb, mb, h1, h2, h3, h4⟩ := h
  exact ⟨hb, vb, mb, ha, va, ma, h2, h1, fun x hx => ⟨(h3 x hx).1, (h3 x hx).2.2, (h3 x hx).2.1⟩, fun x hx hy => h4 x hy hx⟩
theorem T2.left {w : World} {base a b : Nat} {l m : List (Ke × Tm)} {Q : Nat → Prop} (h : T2 w base a b l m Q) : TX w base a l Q := by
  obtain ⟨ha, va, ma, hb, vb, mb, h1, h2, h3, h4⟩ := h
  exact ⟨ha, va, ma, h1, fun x hx => ⟨(h3 x hx).1, (h3 x hx).2.1⟩⟩
theorem T2.below {w w' : World} {base a b : Nat} {l m : List (Ke × Tm)} {Q : Nat → Prop} (h : T2 w base a b l m Q) (k : Below w.heap.size w w') : T2 w' base a b l m Q := by
  obtain ⟨ha, va, ma, hb, vb, mb, h1, h2, h3, h4⟩ := h
  exact ⟨ha, va, ma, hb, vb, mb, h1.kept (Kept.of_below (F := fun _ => False) k) (fun _ _ h => h), h2.kept (Kept.of_below (F := fun _ => False) k) (fun _ _ h => h), fun x hx => ⟨Nat.lt_of_lt_of_le (h3 x hx).1 k.size, (h3 x hx).2⟩, h4⟩
theorem T2.same {w w' : World} {base a b : Nat} {l m : List (Ke × Tm)} {Q : Nat → Prop} (h : T2 w base a b l m Q) (k : Below w.heap.size w w') : Same Q w w' := h.left.same k
theorem T2.sz {w : World} {base a b : Nat} {l m : List (Ke × Tm)} {Q : Nat → Prop} (h : T2 w base a b l m Q) : base ≤ w.heap.size := h.left.sz
theorem T2.turn {w w' : World} {base a b : Nat} {l m : List (Ke × Tm)} {Q Q' : Nat → Prop} (h : T2 w base a b l m Q) (k : Kept Q w w') (hQ : ∀ x, Q' x → Q x ∨ (w.heap.size ≤ x ∧ x < w'.heap.size)) : T2 w' base a b l m Q' := by
  obtain ⟨ha, va, ma, hb, vb, mb, h1, h2, h3, h4⟩ := h
  refine ⟨ha, va, ma, hb, vb, mb, h1.kept k (fun x hx hh => (h3 x hh).2.1 hx), h2.kept k (fun x hx hh => (h3 x hh).2.2 hx), fun x hx => ?_, h4⟩
  rcases hQ x hx with h5 | h5
  · exact ⟨Nat.lt_of_lt_of_le (h3 x h5).1 k.size, (h3 x h5).2⟩
  · exact ⟨h5.2, fun e => by have := (h1.lt e).1; omega, fun e => by have := (h2.lt e).1; omega⟩
theorem T2.less {w : World} {base a b : Nat} {l m : List (Ke × Tm)} {Q Q' : Nat → Prop} (h : T2 w base a b l m Q) (hQ : ∀ x, Q' x → Q x) : T2 w base a b l m Q' := by
  obtain ⟨ha, va, ma, hb, vb, mb, h1, h2, h3, h4⟩ := h
  exact ⟨ha, va, ma, hb, vb, mb, h1, h2, fun x hx => h3 x (hQ x hx), h4⟩
/-- What is done to one leaves the other. X: blocks that are new to the law. -/
theorem T2.op {w : World} {base a b f : Nat} {args : Array Value} {l m : List (Ke × Tm)} {Q : Nat → Prop} {R : Ending → World → (Nat → Prop) → List (Ke × Tm) → Prop} (h : T2 w base a b l m Q)
    (C : ∀ Q', TX w base a l Q' → Calls Try.prog f args w fun e w' => ∃ X l', R e w' X l' ∧ TX w' base a l' (fun x => Q' x ∨ X x) ∧ (∀ x, X x → w.heap.size ≤ x) ∧ Below base w w' ∧ Same Q' w w') :
    Calls Try.prog f args w fun e w' => ∃ X l', R e w' X l' ∧ T2 w' base a b l' m (fun x => Q x ∨ X x) ∧ Below base w w' ∧ Same Q w w' := by
  obtain ⟨ha, va, ma, hb, vb, mb, h1, h2, h3, h4⟩ := h
  refine (C (fun x => Q x ∨ Foot b hb mb vb x) ⟨ha, va, ma, h1, fun x hx => ?_⟩).mono ?_
  · rcases hx with hx | hx
    · exact ⟨(h3 x hx).1, (h3 x hx).2.1⟩
    · exact ⟨(h2.lt hx).1, fun hy => h4 x hy hx⟩
  · rintro e w' ⟨X, l', hR, ⟨ha', va', ma', h1', hq'⟩, hX, hB, hS⟩
    have hsz := hB.size
    refine ⟨X, l', hR, ⟨ha', va', ma', hb, vb, mb, h1', ?_, fun x hx => ?_, fun x hx hy => (hq' x (.inl (.inr hy))).2 hx⟩, hB, fun x hx => hS x (.inl hx)⟩
    · have k : Kept (fun x => ¬ Foot b hb mb vb x) w w' := ⟨hB.os, hB.tape, hB.output, hB.size, fun x hx hF => hS x (.inr (Classical.not_not.1 hF))⟩
      exact h2.kept k (fun x hx hh => hh hx)
    · rcases hx with hx | hx
      · exact ⟨Nat.lt_of_lt_of_le (h3 x hx).1 hsz, (hq' x (.inl (.inl hx))).2, (h3 x hx).2.2⟩
      · refine ⟨(hq' x (.inr hx)).1, (hq' x (.inr hx)).2, fun hy => ?_⟩
        have := hX x hx
        have := (h2.lt hy).1
        omega
/-- A second set of times is made. -/
theorem T2.of_new {w w' : World} {base a b : Nat} {l : List (Ke × Tm)} {Q : Nat → Prop} (h : TX w base a l Q) (k : Below w.heap.size w w') (h2 : TX w' w.heap.size b [] (fun _ => False)) : T2 w' base a b l [] Q := by
  obtain ⟨ha, va, ma, h1, hq⟩ := h
  obtain ⟨hb, vb, mb, h2, -⟩ := h2
  have hs := h1.sz
  refine ⟨ha, va, ma, hb, vb, mb, h1.kept (Kept.of_below (F := fun _ => False) k) (fun _ _ h => h), ⟨h2.blk, ?_, by have := h2.cb; omega, by have := h2.hb; omega, by have := h2.mb; omega, by have := h2.sz; omega⟩, fun x hx => ⟨Nat.lt_of_lt_of_le (hq x hx).1 k.size, (hq x hx).2, fun hf => by have := (h2.lt hf).2; have := (hq x hx).1; omega⟩, fun x hx hf => by have := (h1.lt hx).1; have := (h2.lt hf).2; omega⟩
  refine ⟨h2.hp.blk, ?_, h2.hp.mp, h2.hp.inj, h2.hp.wf, h2.hp.len⟩
  refine ⟨h2.hp.own.1, ?_⟩
  rcases h2.hp.own.2 with h5 | ⟨g, cap, cur, h5, h6, h7⟩
  · exact .inl h5
  · exact .inr ⟨g, cap, cur, h5, by omega, h7⟩
end Go.Proofs.Ytkbmpmcckjhaaaa
