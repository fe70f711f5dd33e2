/- What of an account is reserved, and runs: the walk; the ledger's operations. -/
import Derived.Test.YtjibcecekjmnlaaWalks
namespace Go.Proofs.Ytjibcecekjmnlaa
open Go.RowKit Go.Kpt
set_option linter.unusedVariables false

theorem wp_load_at {P : Program} {op : Oper} {a : Act} {w : World} {K : Act → World → Prop} {Q : Exit → Act → World → Prop} (ty : TypeId) (x : Operand) (ho : op.op = .load ty x) (b o : Nat)
    (hx : a.eval x = .pointer (some ⟨b, o, none⟩)) (v : Value) (hr : (loadVar ty ⟨b, o, none⟩).run P w = .ok v w) (h : K (a.put op.dst v) w) : op.wp P a w K Q := by
  unfold Oper.wp execOp
  simp only [ho, hx, Instr.loadAt, Instr.sureAddr, Sem.run_bind, Sem.run_pure, Result.andThen_ok, hr]
  exact h

theorem index_row (w : World) (k : Nat) (hk : k < 64) (R X : Array Value) (hx : R.extract (k * 4) (k * 4 + 4) = X) : (Instr.index 63 (.agg R) (.int .i64 k)).run Try.prog w = .ok (.agg X) w := by
  have h0 : (k : Int) < 64 := by omega
  simp [Instr.index, asIntOf, run_underlying Try.underlying63, part, Try.isAgg62, Try.sizeOf62, hx, go_sem]
  intro h; omega

set_option maxRecDepth 100000 in
set_option maxHeartbeats 4000000 in
theorem sums_any (b : Nat) (s : Lg) (hg : ∀ h, h < 64 → goodf (s.fs h)) (a : Nat) (w : World) (q : Lq w b s) :
    Calls Try.prog 23 #[.pointer (some ⟨b, 0, none⟩), .int .i64 a] w fun e w' => e = .returned (.tuple #[.int .i64 (rs s.fs a 64), .int .i64 (bs s.fs a 64), .int .i64 (os s.fs a 64)]) ∧ Below w.heap.size w w' := by
  obtain ⟨R, hld, hX⟩ := Lq.row q
  clear q
  generalize s.fs = f at *
  go_enter Try.func23, Try.ntmps23
  go_wp2_with fail
  refine wp_load_at 63 _ rfl b 32 rfl _ hld ?_
  go_wp2_with fail
  go_loopw [16, 7, 8, 9] (fun x y z u wr => ∃ (k : Nat), x = .int .i64 k ∧ k ≤ 64 ∧ y = .int .i64 (rs f a k) ∧ z = .int .i64 (bs f a k) ∧ u = .int .i64 (os f a k) ∧ Below w.heap.size w wr) (fun x _ _ _ _ => 64 - (intOf x).toNat)
  case atStart => exact ⟨0, rfl, by omega, rfl, rfl, rfl, Below.refl _ _⟩
  case round =>
    obtain ⟨k, rfl, hk, rfl, rfl, rfl, hB⟩ := hrel
    have b1 := rs_bd hg a k hk
    have b2 := bs_bd hg a k hk
    have b3 := os_bd hg a k hk
    have e1 : rs f a (k + 1) = rs f a k + if (f k).th = true ∧ (f k).acc = a then (f k).res else 0 := rfl
    have e2 : bs f a (k + 1) = bs f a k + if (f k).th = true ∧ (f k).acc = a then (f k).bu else 0 := rfl
    have e3 : os f a (k + 1) = os f a k + if (f k).th = true ∧ (f k).acc = a ∧ (f k).res = 0 then (f k).bu else 0 := rfl
    by_cases hlt : k < 64
    · have j1 : (k : Int) < 64 := by omega
      have hx := hX k hlt
      have hgk := hg k hlt
      have hix := fun W => index_row W k hlt R _ hx
      generalize rs f a k = r at *
      generalize bs f a k = u at *
      generalize os f a k = o at *
      rcases hf : f k with ⟨th, acc, res, bu⟩
      rw [hf] at hix hgk e1 e2 e3
      unfold goodf at hgk
      dsimp only at hix hgk e1 e2 e3
      clear hX hf hld hx
      obtain ⟨g1, g2, g3, g4, g5⟩ := hgk
      have hbase := hB.size
      cases th
      · simp at e1 e2 e3
        go_wp2_with fail
        go_roundw
        case rel => exact ⟨k + 1, by go_num, by omega, by rw [e1], by rw [e2], by rw [e3], by go_grown⟩
        case measure => simp [intOf]; omega
      · by_cases hacc : acc = a
        · subst hacc
          by_cases hres : res = 0
          · subst hres
            simp at e1 e2 e3
            go_wp2_with fail
            go_roundw
            case rel => exact ⟨k + 1, by go_num, by omega, by rw [e1], by rw [e2], by rw [e3], by go_grown⟩
            case measure => simp [intOf]; omega
          · have j3 : (res == 0) = false := by simp [hres]
            simp [hres] at e1 e2 e3
            go_wp2_with fail
            go_roundw
            case rel => exact ⟨k + 1, by go_num, by omega, by rw [e1], by rw [e2], by rw [e3], by go_grown⟩
            case measure => simp [intOf]; omega
        · have j2 : ((acc : Int) == (a : Int)) = false := by simp; omega
          simp [hacc] at e1 e2 e3
          clear hacc
          go_wp2_with fail
          go_roundw
          case rel => exact ⟨k + 1, by go_num, by omega, by rw [e1], by rw [e2], by rw [e3], by go_grown⟩
          case measure => simp [intOf]; omega
    · obtain rfl : k = 64 := by omega
      clear e1 e2 e3
      go_wp2_with fail
      go_returns
      exact ⟨rfl, hB⟩
end Go.Proofs.Ytjibcecekjmnlaa
