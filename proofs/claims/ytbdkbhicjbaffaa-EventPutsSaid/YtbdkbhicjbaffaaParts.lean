/- The places of an event's numbers, as pointers. -/
import Derived.Test.YtbdkbhicjbaffaaEvPure
namespace Go.Proofs.Ytbdkbhicjbaffaa
open Go.RowKit Go.Kpt WirePure
set_option linter.unusedVariables false

/-- An event's cells. -/
def evc (f : Evt) : Array Value := #[.int .i64 (f 0), .int .i64 (f 1), .int .i64 (f 2), .int .i64 (f 3), .int .i64 (f 4), .int .i64 (f 5), .int .i64 (f 6), .int .i64 (f 7), .int .i64 (f 8), .int .i64 (f 9)]
/-- An event in its block. -/
def Ev (w : World) (b : Nat) (f : Evt) : Prop := w.heap[b]? = some (.cells (evc f) 24 (0, 0))

theorem fin10 {P : Fin 10 → Prop} (j : Fin 10) (h0 : P 0) (h1 : P 1) (h2 : P 2) (h3 : P 3) (h4 : P 4) (h5 : P 5) (h6 : P 6) (h7 : P 7) (h8 : P 8) (h9 : P 9) : P j := by
  match j with
  | 0 => exact h0
  | 1 => exact h1
  | 2 => exact h2
  | 3 => exact h3
  | 4 => exact h4
  | 5 => exact h5
  | 6 => exact h6
  | 7 => exact h7
  | 8 => exact h8
  | 9 => exact h9

theorem evc_get (f : Evt) (j : Fin 10) : (evc f)[j.val]? = some (.int .i64 (f j)) := by
  refine fin10 (P := fun j => (evc f)[j.val]? = some (.int .i64 (f j))) j ?_ ?_ ?_ ?_ ?_ ?_ ?_ ?_ ?_ ?_ <;> rfl

theorem evc_set (f : Evt) (j : Fin 10) (x : Int) : (evc f).setIfInBounds j.val (.int .i64 x) = evc (upd f j x) := by
  refine fin10 (P := fun j => (evc f).setIfInBounds j.val (.int .i64 x) = evc (upd f j x)) j ?_ ?_ ?_ ?_ ?_ ?_ ?_ ?_ ?_ ?_ <;> rfl

theorem Ev.cell {w : World} {b : Nat} {f : Evt} (h : Ev w b f) (j : Fin 10) : w.cell? ⟨b, j.val, none⟩ = some (.int .i64 (f j)) := (cell_of h).trans (evc_get f j)
theorem Ev.free {w : World} {b : Nat} {f : Evt} (h : Ev w b f) (j : Nat) : w.frozen? ⟨b, j, none⟩ = false := frozen_of h
theorem Ev.set {w : World} {b : Nat} {f : Evt} (h : Ev w b f) (j : Fin 10) (x : Int) : Ev (w.setCell ⟨b, j.val, none⟩ (.int .i64 x)) b (upd f j x) := by
  have := set_same (i := j.val) (.int .i64 x) h
  rw [evc_set] at this
  exact this
theorem Ev.kept {F : Nat → Prop} {w w' : World} {b : Nat} {f : Evt} (h : Ev w b f) (k : Kept F w w') (hF : ¬ F b) : Ev w' b f := (k.block b (lt_of h) hF).trans h

/-- Pointers to an event's numbers. -/
def PL (w : World) (g b : Nat) (ps : List (Fin 10)) : Prop := ∀ i, i < ps.length → w.cell? ⟨g, i, none⟩ = some (.pointer (some ⟨b, (ps.getD i 0).val, none⟩))

def kOK (k : Int) : Prop := 0 ≤ k ∧ k ≤ 9

def PV (w' : World) (base b : Nat) (f : Evt) (v : Value) : Prop :=
  (kOK (f 0) ∧ ∃ g, v = .slice (some ⟨g, 0, none⟩) (parts (f 0)).length (parts (f 0)).length ∧ base ≤ g ∧ g < w'.heap.size ∧ PL w' g b (parts (f 0))) ∨ (¬ kOK (f 0) ∧ v = .slice none 0 0 ∧ parts (f 0) = [])

theorem PV.one (w : World) (b : Nat) (f : Evt) (ps : List (Fin 10)) (hk : kOK (f 0)) (hp : parts (f 0) = ps) (cs : Array Value) (hc : ∀ i, i < ps.length → cs[i]? = some (.pointer (some ⟨b, (ps.getD i 0).val, none⟩))) (W : World) (hW : W.heap = (w.alloc (.cells cs 50)).heap) :
    PV W w.heap.size b f (.slice (some ⟨w.heap.size, 0, none⟩) ps.length ps.length) := by
  refine .inl ⟨hk, w.heap.size, by rw [hp], Nat.le_refl _, by rw [hW]; simp, ?_⟩
  rw [hp]
  intro i hi
  rw [cell_of (w := W) (cs := cs) (t := 50) (by rw [hW]; exact heap_alloc_new _ _)]
  exact hc i hi

set_option maxHeartbeats 1000000 in
theorem parts_any (b : Nat) (f : Evt) (w : World) (h : Ev w b f) : Calls Try.prog 18 #[.pointer (some ⟨b, 0, none⟩)] w fun e w' => ∃ v, e = .returned v ∧ PV w' w.heap.size b f v ∧ Below w.heap.size w w' := by
  have c0 : w.cell? ⟨b, 0, none⟩ = some (.int .i64 (f 0)) := h.cell 0
  have hPV := PV.one w b f
  have hno : ¬ kOK (f 0) → parts (f 0) = [] := by
    intro hk
    rcases parts_cases (f 0) with ⟨h1, h2⟩ | ⟨h1, h2⟩ | ⟨h1, h2⟩ | ⟨h1, h2⟩ | ⟨h1, h2⟩
    · exact absurd (show kOK (f 0) by unfold kOK; omega) hk
    · exact absurd (show kOK (f 0) by unfold kOK; omega) hk
    · exact absurd (show kOK (f 0) by unfold kOK; omega) hk
    · exact absurd (show kOK (f 0) by unfold kOK; omega) hk
    · exact h2
  have hall := parts_cases (f 0)
  have hnone : ¬ kOK (f 0) → ∀ W, PV W w.heap.size b f (.slice none 0 0) := fun hk W => .inr ⟨hk, rfl, hno hk⟩
  generalize hQ : PV = Q at *
  generalize f 0 = k at *
  generalize parts k = ps at *
  have HH := Lib.hid hPV
  have HA := Lib.hid hall
  have HN := Lib.hid hnone
  clear hPV hall hno hnone h hQ
  go_enter Try.func18, Try.ntmps18
  by_cases k0 : k = 0
  · subst k0
    obtain rfl : ps = [] := by rcases HA.out with h | h | h | h | h <;> first | exact h.2 | omega
    have hv := HH.out [] ⟨by omega, by omega⟩ rfl #[] (fun i hi => by simp at hi)
    clear HH HA HN
    go_wp2_with fail
    go_ret
    exact ⟨_, rfl, hv _ rfl, by go_grown⟩
  by_cases k1 : k = 1
  · subst k1
    obtain rfl : ps = [1, 2, 3, 4] := by rcases HA.out with h | h | h | h | h <;> first | exact h.2 | omega
    have hv := HH.out [1, 2, 3, 4] ⟨by omega, by omega⟩ rfl #[.pointer (some ⟨b, 1, none⟩), .pointer (some ⟨b, 2, none⟩), .pointer (some ⟨b, 3, none⟩), .pointer (some ⟨b, 4, none⟩)] (fun i hi => by
      simp at hi
      rcases (show i = 0 ∨ i = 1 ∨ i = 2 ∨ i = 3 by omega) with rfl | rfl | rfl | rfl <;> rfl)
    clear HH HA HN
    go_wp2_with fail
    go_region
    all_goals (go_wp2_with fail)
    all_goals go_ret
    all_goals exact ⟨_, rfl, hv _ rfl, by go_grown⟩
  by_cases k2 : k = 2
  · subst k2
    obtain rfl : ps = [1, 5, 6, 7, 8, 9] := by rcases HA.out with h | h | h | h | h <;> first | exact h.2 | omega
    have hv := HH.out [1, 5, 6, 7, 8, 9] ⟨by omega, by omega⟩ rfl #[.pointer (some ⟨b, 1, none⟩), .pointer (some ⟨b, 5, none⟩), .pointer (some ⟨b, 6, none⟩), .pointer (some ⟨b, 7, none⟩), .pointer (some ⟨b, 8, none⟩), .pointer (some ⟨b, 9, none⟩)] (fun i hi => by
      simp at hi
      rcases (show i = 0 ∨ i = 1 ∨ i = 2 ∨ i = 3 ∨ i = 4 ∨ i = 5 by omega) with rfl | rfl | rfl | rfl | rfl | rfl <;> rfl)
    clear HH HA HN
    go_wp2_with fail
    go_region
    all_goals (go_wp2_with fail)
    all_goals go_ret
    all_goals exact ⟨_, rfl, hv _ rfl, by go_grown⟩
  by_cases k3 : k = 3
  · subst k3
    obtain rfl : ps = [1, 3] := by rcases HA.out with h | h | h | h | h <;> first | exact h.2 | omega
    have hv := HH.out [1, 3] ⟨by omega, by omega⟩ rfl #[.pointer (some ⟨b, 1, none⟩), .pointer (some ⟨b, 3, none⟩)] (fun i hi => by
      simp at hi
      rcases (show i = 0 ∨ i = 1 by omega) with rfl | rfl <;> rfl)
    clear HH HA HN
    go_wp2_with fail
    go_region
    all_goals (go_wp2_with fail)
    all_goals go_ret
    all_goals exact ⟨_, rfl, hv _ rfl, by go_grown⟩
  by_cases k4 : k = 4
  · subst k4
    obtain rfl : ps = [1] := by rcases HA.out with h | h | h | h | h <;> first | exact h.2 | omega
    have hv := HH.out [1] ⟨by omega, by omega⟩ rfl #[.pointer (some ⟨b, 1, none⟩)] (fun i hi => by
      simp at hi
      rcases (show i = 0 by omega) with rfl <;> rfl)
    clear HH HA HN
    go_wp2_with fail
    go_ret
    all_goals exact ⟨_, rfl, hv _ rfl, by go_grown⟩
  by_cases k5 : k = 5
  · subst k5
    obtain rfl : ps = [1] := by rcases HA.out with h | h | h | h | h <;> first | exact h.2 | omega
    have hv := HH.out [1] ⟨by omega, by omega⟩ rfl #[.pointer (some ⟨b, 1, none⟩)] (fun i hi => by
      simp at hi
      rcases (show i = 0 by omega) with rfl <;> rfl)
    clear HH HA HN
    go_wp2_with fail
    go_ret
    all_goals exact ⟨_, rfl, hv _ rfl, by go_grown⟩
  by_cases k6 : k = 6
  · subst k6
    obtain rfl : ps = [1] := by rcases HA.out with h | h | h | h | h <;> first | exact h.2 | omega
    have hv := HH.out [1] ⟨by omega, by omega⟩ rfl #[.pointer (some ⟨b, 1, none⟩)] (fun i hi => by
      simp at hi
      rcases (show i = 0 by omega) with rfl <;> rfl)
    clear HH HA HN
    go_wp2_with fail
    go_ret
    all_goals exact ⟨_, rfl, hv _ rfl, by go_grown⟩
  by_cases k7 : k = 7
  · subst k7
    obtain rfl : ps = [1] := by rcases HA.out with h | h | h | h | h <;> first | exact h.2 | omega
    have hv := HH.out [1] ⟨by omega, by omega⟩ rfl #[.pointer (some ⟨b, 1, none⟩)] (fun i hi => by
      simp at hi
      rcases (show i = 0 by omega) with rfl <;> rfl)
    clear HH HA HN
    go_wp2_with fail
    go_ret
    all_goals exact ⟨_, rfl, hv _ rfl, by go_grown⟩
  by_cases k8 : k = 8
  · subst k8
    obtain rfl : ps = [1] := by rcases HA.out with h | h | h | h | h <;> first | exact h.2 | omega
    have hv := HH.out [1] ⟨by omega, by omega⟩ rfl #[.pointer (some ⟨b, 1, none⟩)] (fun i hi => by
      simp at hi
      rcases (show i = 0 by omega) with rfl <;> rfl)
    clear HH HA HN
    go_wp2_with fail
    go_ret
    all_goals exact ⟨_, rfl, hv _ rfl, by go_grown⟩
  by_cases k9 : k = 9
  · subst k9
    obtain rfl : ps = [1] := by rcases HA.out with h | h | h | h | h <;> first | exact h.2 | omega
    have hv := HH.out [1] ⟨by omega, by omega⟩ rfl #[.pointer (some ⟨b, 1, none⟩)] (fun i hi => by
      simp at hi
      rcases (show i = 0 by omega) with rfl <;> rfl)
    clear HH HA HN
    go_wp2_with fail
    go_ret
    all_goals exact ⟨_, rfl, hv _ rfl, by go_grown⟩
  have hnk : ¬ kOK k := by unfold kOK; omega
  have hv := HN.out hnk
  clear HH HA HN
  go_wp2_with fail
  go_ret
  exact ⟨_, rfl, hv _, by go_grown⟩
end Go.Proofs.Ytbdkbhicjbaffaa
