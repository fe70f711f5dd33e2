/- Two events that are compared. -/
import Derived.Test.YtbdkbhicjbaffaaParts
import Derived.Laws.StructEq
namespace Go.Proofs.Ytbdkbhicjbaffaa
open Go.RowKit Go.Kpt WirePure
set_option linter.unusedVariables false

theorem evt_ext (f g : Evt) : f = g ↔ (f 0 = g 0 ∧ f 1 = g 1 ∧ f 2 = g 2 ∧ f 3 = g 3 ∧ f 4 = g 4 ∧ f 5 = g 5 ∧ f 6 = g 6 ∧ f 7 = g 7 ∧ f 8 = g 8 ∧ f 9 = g 9) := by
  constructor
  · rintro rfl; simp
  · rintro ⟨h0, h1, h2, h3, h4, h5, h6, h7, h8, h9⟩
    funext j
    exact fin10 (P := fun j => f j = g j) j h0 h1 h2 h3 h4 h5 h6 h7 h8 h9

theorem step_ev (xs ys : Array Value) (fd : Field) (fs : List Field) (a b : Int) (w : World) (hn : fd.name ≠ "_") (ht : Try.prog.underlying fd.type = some (.int .i64)) (ha : xs[fd.offset]? = some (.int .i64 a)) (hb : ys[fd.offset]? = some (.int .i64 b)) :
    (Op.eqFields 9999 xs ys (fd :: fs)).run Try.prog w = if a = b then (Op.eqFields 9999 xs ys fs).run Try.prog w else .ok false w := by
  have p1 : (part fd.type xs fd.offset).run Try.prog w = .ok (.int .i64 a) w := by simp [part, isAgg, run_underlying ht, ha]
  have p2 : (part fd.type ys fd.offset).run Try.prog w = .ok (.int .i64 b) w := by simp [part, isAgg, run_underlying ht, hb]
  have p3 := run_equalIn_int (P := Try.prog) w 9998 fd.type .i64 .i64 a b ht
  simp only [Op.eqFields, hn, ne_eq, not_false_eq_true, if_true, Sem.run_bind, p1, p2, p3, Result.andThen_ok]
  by_cases h : a = b
  · subst h; simp
  · simp [h]

theorem eqIn_ev (f g : Evt) (w : World) : (Op.equalIn 10000 24 (.agg (evc f)) (.agg (evc g))).run Try.prog w = .ok (decide (f = g)) w := by
  have hs : Try.prog.stoodInHeld 24 = false := by kernel_rfl
  have hu := Try.underlying24
  rw [run_equalIn_struct (P := Try.prog) w 9999 24 (evc f) (evc g) (by unfold Program.fieldsOf; rw [hu]) hs]
  unfold Program.fieldsOf
  rw [hu]
  dsimp only
  rw [step_ev _ _ _ _ (f 0) (g 0) w (by simp) Try.underlying22 rfl rfl, step_ev _ _ _ _ (f 1) (g 1) w (by simp) Try.underlying3 rfl rfl, step_ev _ _ _ _ (f 2) (g 2) w (by simp) Try.underlying3 rfl rfl, step_ev _ _ _ _ (f 3) (g 3) w (by simp) Try.underlying3 rfl rfl, step_ev _ _ _ _ (f 4) (g 4) w (by simp) Try.underlying3 rfl rfl, step_ev _ _ _ _ (f 5) (g 5) w (by simp) Try.underlying3 rfl rfl, step_ev _ _ _ _ (f 6) (g 6) w (by simp) Try.underlying3 rfl rfl, step_ev _ _ _ _ (f 7) (g 7) w (by simp) Try.underlying3 rfl rfl, step_ev _ _ _ _ (f 8) (g 8) w (by simp) Try.underlying3 rfl rfl, step_ev _ _ _ _ (f 9) (g 9) w (by simp) Try.underlying3 rfl rfl]
  have he := evt_ext f g
  by_cases h : f = g
  · have h2 := he.1 h
    rw [decide_eq_true h]
    simp [h2, Op.eqFields]
  · rw [decide_eq_false h]
    have h2 : ¬ _ := fun hh => h (he.2 hh)
    repeat' split
    all_goals first | rfl | (exfalso; exact h2 (by simp_all))

/-- Two events that are compared, each told by its cells. -/
theorem eql_ev (f g : Evt) (w : World) : (binOp .eql 24 (.agg (evc f)) (.agg (evc g))).run Try.prog w = .ok (.bool (decide (f = g))) w := by
  rw [run_eql_struct, eqIn_ev]; rfl
theorem neq_ev (f g : Evt) (w : World) : (binOp .neq 24 (.agg (evc f)) (.agg (evc g))).run Try.prog w = .ok (.bool (!decide (f = g))) w := by
  rw [run_neq_struct, eqIn_ev]; rfl
theorem guard_ev (op : BinOp) (x y : Operand) (xs ys : Array Value) (w : World) : (eqGuard op 24 x y (.agg xs) (.agg ys)).run Try.prog w = .ok () w := run_eqGuard_agg (P := Try.prog) w op 24 x y xs ys (by kernel_rfl)
end Go.Proofs.Ytbdkbhicjbaffaa
