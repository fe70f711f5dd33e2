/- The law's own: an event's numbers; an event with numbers; whether it can be written. -/
import Derived.Test.YtbdkbhicjbaffaaRight
import Derived.Deep.RegionHeld3
namespace Go.Proofs.Ytbdkbhicjbaffaa
open Go.RowKit Go.Kpt WirePure
set_option linter.unusedVariables false

def kB (k : Int) : Bool := decide (0 ≤ k ∧ k ≤ 9)
def nparts (k : Int) : List (Fin 10) := if 0 ≤ k ∧ k ≤ 9 then parts k else [1]
def nums (f : Evt) : List Int := (nparts (f 0)).map f

theorem own_row (w : World) (t : TypeId) (xs : List Int) (base : Nat) (hb : base ≤ w.heap.size) (hx : xs.length ≤ 1000) (cs : Array Value) (hc : cs.toList = xs.map (Value.int .i64)) :
    OwnI (w.alloc (.cells cs t)) base t .i64 (.slice (some ⟨w.heap.size, 0, none⟩) xs.length xs.length) xs :=
  ⟨by simp, .inr ⟨w.heap.size, xs.length, cs, rfl, hb, heap_alloc_new _ _, Nat.le_refl _, by unfold maxLen; omega, by
    have := congrArg List.length hc
    simpa using this, by rw [hc, List.take_of_length_le (by simp)]⟩⟩

set_option maxRecDepth 100000 in
set_option maxHeartbeats 2000000 in
theorem numbers_any (f : Evt) (w : World) : Calls Try.prog 15 #[.agg (evc f)] w fun e w' => ∃ v, e = .returned (.tuple #[v, .bool (kB (f 0))]) ∧ OwnI w' w.heap.size 3 .i64 v (nums f) ∧ Below w.heap.size w w' := by
  have hE := Ev.new w f
  obtain ⟨a0, a1, a2, a3, a4, a5, a6, a7, a8, a9⟩ := hE.ten
  have hB : Below w.heap.size w (w.alloc (.cells (evc f) 24)) := by go_grown
  have hz : w.heap.size ≤ (w.alloc (.cells (evc f) 24)).heap.size := hB.size
  have hnil := OwnI.nil (w.alloc (.cells (evc f) 24)) w.heap.size 3 .i64
  have hrow := own_row (w.alloc (.cells (evc f) 24)) 3
  obtain ⟨ps, hps⟩ : ∃ ps, nparts (f 0) = ps := ⟨_, rfl⟩
  have hn : nums f = ps.map f := by unfold nums; rw [hps]
  have hall := parts_cases (f 0)
  unfold nparts at hps
  generalize hQ : nums f = Q at *
  clear hQ hE
  obtain ⟨w1, hw1⟩ : ∃ w1, w.alloc (.cells (evc f) 24) = w1 := ⟨_, rfl⟩
  rw [hw1] at hB hz hnil hrow a0 a1 a2 a3 a4 a5 a6 a7 a8 a9
  generalize hk : f 0 = k at *
  have HP := Lib.hid hps
  have HA := Lib.hid hall
  have HR := Lib.hid hrow
  clear hps hall hrow hk
  go_enter Try.func15, Try.ntmps15
  by_cases k0 : k = 0
  · subst k0
    obtain rfl : ps = [] := by rw [← HP.out]; decide
    subst hn
    have hkb : kB 0 = true := by decide
    rw [hkb]
    clear HP HA HR
    go_wp2_with fail
    go_returns
    exact ⟨_, rfl, hnil, hB⟩
  by_cases k1 : k = 1
  · subst k1
    obtain rfl : ps = [1, 2, 3, 4] := by rw [← HP.out]; decide
    have hv : OwnI (w1.alloc (.cells #[.int .i64 (f 1), .int .i64 (f 2), .int .i64 (f 3), .int .i64 (f 4)] 3)) w.heap.size 3 .i64 _ [f 1, f 2, f 3, f 4] := HR.out [f 1, f 2, f 3, f 4] w.heap.size (by omega) (by simp) #[.int .i64 (f 1), .int .i64 (f 2), .int .i64 (f 3), .int .i64 (f 4)] rfl
    subst hn
    have hkb : kB 1 = true := by decide
    rw [hkb]
    have hB2 : Below w.heap.size w (w1.alloc (.cells #[.int .i64 (f 1), .int .i64 (f 2), .int .i64 (f 3), .int .i64 (f 4)] 3)) := hB.alloc (by omega) _
    clear HP HA HR
    go_wp2_with fail
    go_returns
    exact ⟨_, rfl, hv, hB2⟩
  by_cases k2 : k = 2
  · subst k2
    obtain rfl : ps = [1, 5, 6, 7, 8, 9] := by rw [← HP.out]; decide
    have hv : OwnI (w1.alloc (.cells #[.int .i64 (f 1), .int .i64 (f 5), .int .i64 (f 6), .int .i64 (f 7), .int .i64 (f 8), .int .i64 (f 9)] 3)) w.heap.size 3 .i64 _ [f 1, f 5, f 6, f 7, f 8, f 9] := HR.out [f 1, f 5, f 6, f 7, f 8, f 9] w.heap.size (by omega) (by simp) #[.int .i64 (f 1), .int .i64 (f 5), .int .i64 (f 6), .int .i64 (f 7), .int .i64 (f 8), .int .i64 (f 9)] rfl
    subst hn
    have hkb : kB 2 = true := by decide
    rw [hkb]
    have hB2 : Below w.heap.size w (w1.alloc (.cells #[.int .i64 (f 1), .int .i64 (f 5), .int .i64 (f 6), .int .i64 (f 7), .int .i64 (f 8), .int .i64 (f 9)] 3)) := hB.alloc (by omega) _
    clear HP HA HR
    go_wp2_with fail
    go_returns
    exact ⟨_, rfl, hv, hB2⟩
  by_cases k3 : k = 3
  · subst k3
    obtain rfl : ps = [1, 3] := by rw [← HP.out]; decide
    have hv : OwnI (w1.alloc (.cells #[.int .i64 (f 1), .int .i64 (f 3)] 3)) w.heap.size 3 .i64 _ [f 1, f 3] := HR.out [f 1, f 3] w.heap.size (by omega) (by simp) #[.int .i64 (f 1), .int .i64 (f 3)] rfl
    subst hn
    have hkb : kB 3 = true := by decide
    rw [hkb]
    have hB2 : Below w.heap.size w (w1.alloc (.cells #[.int .i64 (f 1), .int .i64 (f 3)] 3)) := hB.alloc (by omega) _
    clear HP HA HR
    go_wp2_with fail
    go_returns
    exact ⟨_, rfl, hv, hB2⟩
  obtain rfl : ps = [1] := by
    rw [← HP.out]
    split
    · rcases HA.out with h | h | h | h | h
      · omega
      · omega
      · omega
      · exact h.2
      · omega
    · rfl
  have hv : OwnI (w1.alloc (.cells #[.int .i64 (f 1)] 3)) w.heap.size 3 .i64 _ [f 1] := HR.out [f 1] w.heap.size (by omega) (by simp) #[.int .i64 (f 1)] rfl
  subst hn
  have hB2 : Below w.heap.size w (w1.alloc (.cells #[.int .i64 (f 1)] 3)) := hB.alloc (by omega) _
  obtain ⟨B, hBB⟩ : ∃ B, kB k = B := ⟨_, rfl⟩
  rw [hBB]
  have HB := Lib.hid hBB
  clear HP HA HR hBB
  have e0 : (w1.alloc (.cells #[.int .i64 (f 1)] 3)).cell? ⟨w.heap.size, 0, none⟩ = some (.int .i64 k) := (((Kept.refl (fun _ => False) w1).alloc _).cell (p := ⟨w.heap.size, 0, none⟩) (block_lt_of_cell a0) (fun h => h)).trans a0
  by_cases h4 : (4 : Int) ≤ k
  · have d1 : decide ((4 : Int) ≤ k) = true := decide_eq_true h4
    by_cases h9 : k ≤ (9 : Int)
    · have d2 : decide (k ≤ (9 : Int)) = true := decide_eq_true h9
      obtain rfl : B = true := by rw [← HB.out]; exact decide_eq_true ⟨by omega, h9⟩
      go_wp2_with fail
      go_region
      all_goals (go_wp2_with fail)
      all_goals go_returns
      all_goals exact ⟨_, rfl, hv, hB2.drew⟩
    · have d2 : decide (k ≤ (9 : Int)) = false := decide_eq_false h9
      obtain rfl : B = false := by rw [← HB.out]; exact decide_eq_false (fun h => h9 h.2)
      go_wp2_with fail
      go_region
      all_goals (go_wp2_with fail)
      all_goals go_returns
      all_goals exact ⟨_, rfl, hv, hB2.drew⟩
  · have d1 : decide ((4 : Int) ≤ k) = false := decide_eq_false h4
    obtain rfl : B = false := by rw [← HB.out]; exact decide_eq_false (fun h => by omega)
    go_wp2_with fail
    go_region
    all_goals (go_wp2_with fail)
    all_goals go_returns
    all_goals exact ⟨_, rfl, hv, hB2.drew⟩
end Go.Proofs.Ytbdkbhicjbaffaa
