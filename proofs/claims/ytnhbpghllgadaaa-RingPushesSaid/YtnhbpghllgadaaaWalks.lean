/- What the ring's functions do. -/
import Derived.Test.YtnhbpghllgadaaaRows
import Derived.Test.YtnhbpghllgadaaaKept
import Derived.Test.YtnhbpghllgadaaaOwn
import Derived.Test.YtnhbpghllgadaaaArgs
import Derived.Test.YtnhbpghllgadaaaRingPure
import Derived.BigRegion
import Derived.BigQuiet
import Derived.Handy
namespace Go.Proofs.Ytnhbpghllgadaaa
open Go.RowKit Go.Kpt RingPure
set_option linter.unusedVariables false

theorem Try.info2 : (Try.prog.info? 2).map (fun i => (i.zero, i.size, i.bytes)) = some (some (.int .i64 0), 1, 8) := by kernel_rfl

/-- The ring's cells. -/
def ringCells (l : List Int) (n : Nat) : Array Value := (l.map (Value.int .i64) ++ [Value.int .i64 n]).toArray

/-- A ring in its block that holds the last few of h. -/
def Rg (w : World) (b : Nat) (h : List Int) : Prop := ∃ l n, Rep l n h ∧ w.heap[b]? = some (.cells (ringCells l n) 36 (0, 0))

theorem Rg.lt {w : World} {b : Nat} {h : List Int} (r : Rg w b h) : b < w.heap.size := by obtain ⟨l, n, _, e⟩ := r; exact lt_of e
theorem Rg.kept {F : Nat → Prop} {w w' : World} {b : Nat} {h : List Int} (r : Rg w b h) (k : Kept F w w') (hF : ¬ F b) : Rg w' b h := by
  obtain ⟨l, n, r1, e⟩ := r; exact ⟨l, n, r1, (k.block b (lt_of e) hF).trans e⟩
theorem Rg.alloc {w : World} {b : Nat} {h : List Int} (r : Rg w b h) (o : Obj) : Rg (w.alloc o) b h := by
  obtain ⟨l, n, r1, e⟩ := r; exact ⟨l, n, r1, (Below.heap_alloc w o b (lt_of e)).trans e⟩

theorem Rg.drewN {w : World} {b : Nat} {h : List Int} (r : Rg w b h) (n : Nat) : Rg (w.drewN n) b h := r

theorem cells_at {l : List Int} (n : Nat) (h8 : l.length = 8) (j : Nat) (hj : j < 8) : (ringCells l n)[j]? = some (.int .i64 (l.getD j 0)) := by
  unfold ringCells
  simp [List.getElem?_append, h8, hj]
theorem cells_n {l : List Int} (n : Nat) (h8 : l.length = 8) : (ringCells l n)[8]? = some (.int .i64 n) := by
  unfold ringCells
  simp [h8]
theorem cells_set {l : List Int} (n : Nat) (h8 : l.length = 8) (j : Nat) (hj : j < 8) (x : Int) : (ringCells l n).setIfInBounds j (.int .i64 x) = ringCells (l.set j x) n := by
  unfold ringCells
  simp [h8, hj]
theorem cells_setn {l : List Int} (n m : Nat) (h8 : l.length = 8) : (ringCells l n).setIfInBounds 8 (.int .i64 m) = ringCells l m := by
  unfold ringCells
  simp [h8]

set_option maxHeartbeats 400000 in
theorem new_any (w : World) : Calls Try.prog 8 #[] w fun e w' => e = .returned (.pointer (some ⟨w.heap.size, 0, none⟩)) ∧ Rg w' w.heap.size [] ∧ Below w.heap.size w w' ∧ w'.heap.size = w.heap.size + 1 := by
  go_enter Try.func8, Try.ntmps8
  go_wp2
  go_ret
  exact ⟨rfl, ⟨_, 0, Rep.nil, heap_alloc_new _ _⟩, (Below.refl _ _).alloc (Nat.le_refl _) _, by simp⟩

set_option maxHeartbeats 400000 in
theorem len_any (b : Nat) (h : List Int) (w : World) (r : Rg w b h) : Calls Try.prog 12 #[.pointer (some ⟨b, 0, none⟩)] w fun e w' => e = .returned (.int .i64 (lastl h).length) ∧ w = w' := by
  obtain ⟨l, n, r1, e⟩ := r
  have c8 : w.cell? ⟨b, 8, none⟩ = some (.int .i64 n) := (cell_of e).trans (cells_n n r1.len)
  have hc := r1.count
  have HC := Lib.hid hc
  have hn := r1.lt
  clear hc e
  by_cases h8 : n < 8
  · go_enter Try.func12, Try.ntmps12
    go_wp2
    go_ret
    exact ⟨by rw [← HC.out, if_pos h8]; rfl, rfl⟩
  · have h9 : (8 : Int) ≤ n := by omega
    by_cases h10 : n = 8
    · subst h10
      go_enter Try.func12, Try.ntmps12
      go_wp2
      go_ret
      exact ⟨by rw [← HC.out, if_neg h8]; rfl, rfl⟩
    · have h11 : (8 : Int) < n := by omega
      go_enter Try.func12, Try.ntmps12
      go_wp2
      go_ret
      exact ⟨by rw [← HC.out, if_neg h8]; rfl, rfl⟩

theorem Rg.of {w : World} {b : Nat} {h : List Int} {x : Int} {l : List Int} {n : Nat} (r1 : Rep l n h) (e : w.heap[b]? = some (.cells (ringCells l n) 36 (0, 0))) (m : Nat) (hm : m = if n + 1 = 16 then 8 else n + 1) :
    Rg ((w.setCell ⟨b, n % 8, none⟩ (.int .i64 x)).setCell ⟨b, 8, none⟩ (.int .i64 m)) b (h ++ [x]) := by
  refine ⟨l.set (n % 8) x, m, by rw [hm]; exact r1.push x, ?_⟩
  rw [set_same _ (set_same _ e), cells_set n r1.len _ (by omega), cells_setn n m (by rw [List.length_set]; exact r1.len)]

theorem Kept.two (w : World) (b i j : Nat) (u v : Value) : Kept (fun x => x = b) w ((w.setCell ⟨b, i, none⟩ u).setCell ⟨b, j, none⟩ v) :=
  (Kept.set1 w b i u).trans (Kept.set1 _ b j v) (fun _ _ h => h)

set_option maxHeartbeats 1600000 in
theorem push_any (b : Nat) (h : List Int) (x : Int) (w : World) (r : Rg w b h) : Calls Try.prog 9 #[.pointer (some ⟨b, 0, none⟩), .int .i64 x] w fun e w' => e = .returned (.tuple #[]) ∧ Rg w' b (h ++ [x]) ∧ Kept (fun y => y = b) w w' := by
  obtain ⟨l, n, r1, e⟩ := r
  have c8 : w.cell? ⟨b, 8, none⟩ = some (.int .i64 n) := (cell_of e).trans (cells_n n r1.len)
  have f8 : w.frozen? ⟨b, 8, none⟩ = false := frozen_of e
  have ck : w.cell? ⟨b, n % 8, none⟩ = some (.int .i64 (l.getD (n % 8) 0)) := (cell_of e).trans (cells_at n r1.len _ (by omega))
  have fk : w.frozen? ⟨b, n % 8, none⟩ = false := frozen_of e
  have hn := r1.lt
  by_cases h15 : n = 15
  · subst h15
    have HR : Hid (Rg (((w.setCell ⟨b, 7, none⟩ (.int .i64 x)).setCell ⟨b, 8, none⟩ (.int .i64 16)).setCell ⟨b, 8, none⟩ (.int .i64 8)) b (h ++ [x])) := by
      refine ⟨l.set 7 x, 8, r1.push x, ?_⟩
      rw [set_same _ (set_same _ (set_same _ e)), cells_set 15 r1.len 7 (by omega)]
      have h1 := cells_setn (l := l.set 7 x) 15 16 (by rw [List.length_set]; exact r1.len)
      have h2 := cells_setn (l := l.set 7 x) 16 8 (by rw [List.length_set]; exact r1.len)
      have e1 : (ringCells (l.set 7 x) 15).setIfInBounds 8 (.int .i64 16) = ringCells (l.set 7 x) 16 := h1
      have e2 : (ringCells (l.set 7 x) 16).setIfInBounds 8 (.int .i64 8) = ringCells (l.set 7 x) 8 := h2
      rw [e1, e2]
    clear e r1
    go_enter Try.func9, Try.ntmps9
    go_wp2
    go_region
    all_goals
      go_wp2
      go_end0
      exact ⟨rfl, HR.out, ((Kept.two _ _ _ _ _ _).trans (Kept.set1 _ _ _ _) (fun _ _ h => h)).drew⟩
  · have HR : Hid (Rg _ _ _) := Rg.of (x := x) r1 e (n + 1) (by rw [if_neg (by omega)])
    clear e r1
    go_enter Try.func9, Try.ntmps9
    go_wp2
    go_region
    all_goals
      go_wp2
      go_end0
      exact ⟨rfl, HR.out, (Kept.two _ _ _ _ _ _).drew⟩

set_option maxHeartbeats 1600000 in
theorem list_any (b : Nat) (h : List Int) (w : World) (r : Rg w b h) : Calls Try.prog 11 #[.pointer (some ⟨b, 0, none⟩)] w fun e w' => ∃ v, e = .returned v ∧ OwnI w' w.heap.size 2 .i64 v (lastl h) ∧ Below w.heap.size w w' := by
  have hlen := len_any b h
  have r0 := r
  obtain ⟨l, n, r1, e⟩ := r
  have c8 : w.cell? ⟨b, 8, none⟩ = some (.int .i64 n) := (cell_of e).trans (cells_n n r1.len)
  have hn := r1.lt
  obtain ⟨hle, hle8⟩ := r1.told'
  have HT := Lib.hid r1.told
  have HC : Hid (∀ j, j < 8 → w.cell? ⟨b, j, none⟩ = some (.int .i64 (l.getD j 0))) := fun j hj => (cell_of e).trans (cells_at n r1.len j hj)
  have hbw : b < w.heap.size := lt_of e
  obtain ⟨i0, hi, hz0, hz1, hz2⟩ := info_parts Try.info2
  clear e r1
  go_enter Try.func11, Try.ntmps11
  go_wp2_with fail
  go_quiet ((go_at_call 12; exact Calls.quiet_of_same ((hlen _ (r0.drewN _)).mono fun e w' ⟨h1, h2⟩ => ⟨h1, h2.symm⟩)))
  go_wp2_with fail
  generalize hm : (lastl h).length = m at *
  obtain ⟨q, hq1, hq2⟩ : ∃ q, q + m ≤ n ∧ n ≤ q + m := ⟨n - m, by omega, by omega⟩
  have HM := Lib.hid hm
  clear hm hlen
  go_loopw [3, 4] (fun v i wr => ∃ k : Nat, k ≤ m ∧ i = .int .i64 ((q : Int) + (k : Int)) ∧ OwnI wr w.heap.size 2 .i64 v ((lastl h).take k) ∧ Below w.heap.size w wr) (fun _ i _ => 16 - (intOf i).toNat)
  case atStart => exact ⟨0, by omega, congrArg (Value.int .i64) (by omega), OwnI.nil _ _ _ _, ⟨rfl, rfl, rfl, Nat.le_refl _, fun _ _ => rfl⟩⟩
  case round =>
    obtain ⟨k, hk, rfl, hown, hB⟩ := hrel
    have d8 := arg_cell hB c8
    by_cases hlt : k < m
    · have hcell := arg_cell hB (HC.out ((q + k) % 8) (by omega))
      have ht : l.getD ((q + k) % 8) 0 = (lastl h).getD k 0 := by have := HT.out k hlt; rwa [show n - m + k = q + k by omega] at this
      rw [ht] at hcell
      have hs : (lastl h).take (k + 1) = (lastl h).take k ++ [(lastl h).getD k 0] := by
        have hlt' : k < (lastl h).length := by rw [HM.out]; exact hlt
        rw [List.take_succ_eq_append_getElem hlt', List.getD_eq_getElem?_getD, List.getElem?_eq_getElem hlt']; rfl
      have hl' : ((lastl h).take k).length = k := by rw [List.length_take, HM.out]; omega
      have HS := Lib.hid hs
      have HL := Lib.hid hl'
      clear ht hs hl'
      generalize (lastl h).getD k 0 = x at *
      have hkl : ((lastl h).take k).length ≤ 8 := by rw [HL.out]; omega
      generalize hxs : (lastl h).take k = xs at *
      have HX := Lib.hid hxs
      clear hxs
      go_wp2_with (at_builtin; refine wpList_append_own_at _ rfl _ _ 22 rfl w.heap.size 2 i0 (.int .i64 0) 1 8 Try.underlying22 hi hz0 hz1 hz2 rfl (by decide) _ _ _ rfl (hown.alloc _) ⟨wr.heap.size, 0, none⟩ 1 1 [.int .i64 x] rfl rfl (cell_one_new _ _ _) (ints_oneCell .i64 [x]) (by unfold maxLen; omega) (by omega) (by have := hB.size; simp; omega) ?_; intro v' w1 hown' hgrow hnil hloc)
      have hkw := Kept.of_grown hgrow
      have hx' := OwnI.snoc hown'
      have hlt8 := hown.lt
      have hBw := (hB.alloc hB.size (.cells #[.int .i64 x] 2)).trans (hkw.below (B := w.heap.size) (by simp; have := hB.size; omega) (fun y hy e => by have := (hlt8 y e.symm).1; omega))
      clear hown' hgrow hnil hloc hkw hown hB d8 hcell
      go_wp2_with fail
      go_roundw
      case rel => exact ⟨k + 1, by omega, congrArg (Value.int .i64) (by omega), by rw [HS.out]; exact hx', hBw⟩
      case measure => simp [intOf]; omega
    · obtain rfl : k = m := by omega
      have hs : (lastl h).take k = lastl h := List.take_of_length_le (by rw [HM.out]; exact Nat.le_refl _)
      rw [hs] at hown
      clear hs
      go_wp2_with fail
      go_ret
      exact ⟨_, rfl, hown, hB⟩
end Go.Proofs.Ytnhbpghllgadaaa
