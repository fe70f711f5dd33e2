/- New, Len, Min, Get of a heap whose 'less' counts: they do not ask it. -/
import Derived.Test.YtbnpipfmeekbdaaCheapDrop
namespace Go.Proofs.Ytbnpipfmeekbdaa
open Go.RowKit Go.Kpt HeapPure
set_option linter.unusedVariables false

set_option maxHeartbeats 1000000 in
theorem newc_any (cb : Nat) (w : World) :
    Calls Try.prog 8 #[(fc cb)] w fun e w' => ∃ hb mb, e = .returned (.pointer (some ⟨hb, 0, none⟩)) ∧ w.heap.size ≤ hb ∧ w.heap.size ≤ mb ∧ hb < w'.heap.size ∧ mb < w'.heap.size ∧ Hp w' w.heap.size hb (fc cb) (.slice none 0 0) mb [] ∧ Below w.heap.size w w' := by
  have hmm := @run_makeMap Try.prog
  have hmade : Mp Try.prog 3 3 (w.alloc (.map #[] 0)) w.heap.size 0 (fun _ => none) := Mp.made w
  go_enter Try.func8, Try.ntmps8
  go_wp2_with fail
  go_ret
  refine ⟨_, w.heap.size, rfl, by simp, Nat.le_refl _, by simp, by simp; omega, ⟨by simpa using heap_alloc_new (w.alloc (.map #[] 0)) (.cells #[(fc cb), .slice none 0 0, .map (some w.heap.size)] 47), OwnP.nil _ _ _, hmade.below ((Below.refl _ _).alloc (Nat.le_refl _) _), Inj.nil, by simp, by simp⟩, by go_grown⟩

set_option maxHeartbeats 1000000 in
theorem lenc_any (cb : Nat) (base hb : Nat) (v : Value) (mb : Nat) (l : List (Int × Int)) (w : World) (h : Hp w base hb (fc cb) v mb l) :
    Calls Try.prog 13 #[.pointer (some ⟨hb, 0, none⟩)] w fun e w' => e = .returned (.int .i64 l.length) ∧ w = w' := by
  rcases h.own.shape with ⟨rfl, rfl⟩ | ⟨g, cap, rfl, hg1, hg2, hlc, hcm, -, -⟩
  · have q1 : w.cell? ⟨hb, 1, none⟩ = some (.slice none 0 0) := cell_of h.blk
    go_enter Try.func13, Try.ntmps13
    go_wp2_with fail
    go_ret
    exact ⟨rfl, rfl⟩
  · have q1 : w.cell? ⟨hb, 1, none⟩ = some (.slice (some ⟨g, 0, none⟩) l.length cap) := cell_of h.blk
    go_enter Try.func13, Try.ntmps13
    go_wp2_with fail
    go_ret
    exact ⟨rfl, rfl⟩

set_option maxHeartbeats 2000000 in
theorem minc_none (cb : Nat) (base hb : Nat) (v : Value) (mb : Nat) (w : World) (h : Hp w base hb (fc cb) v mb []) :
    Calls Try.prog 11 #[.pointer (some ⟨hb, 0, none⟩)] w fun e w' => e = .returned (.tuple #[.int .i64 0, .int .i64 0, .bool false]) ∧ Below w.heap.size w w' := by
  rcases h.own.shape with ⟨rfl, -⟩ | ⟨g, cap, rfl, hg1, hg2, hlc, hcm, -, -⟩
  · have q1 : w.cell? ⟨hb, 1, none⟩ = some (.slice none 0 0) := cell_of h.blk
    go_enter Try.func11, Try.ntmps11
    go_wp2_with fail
    go_quiet (fail)
    go_wp2_with fail
    go_returns
    exact ⟨rfl, below_drewN (by first | exact Below.refl _ _ | go_grown) _⟩
  · have q1 : w.cell? ⟨hb, 1, none⟩ = some (.slice (some ⟨g, 0, none⟩) 0 cap) := cell_of h.blk
    go_enter Try.func11, Try.ntmps11
    go_wp2_with fail
    go_quiet (fail)
    go_wp2_with fail
    go_returns
    exact ⟨rfl, below_drewN (by first | exact Below.refl _ _ | go_grown) _⟩

set_option maxHeartbeats 2000000 in
theorem minc_some (cb : Nat) (base hb : Nat) (v : Value) (mb : Nat) (l : List (Int × Int)) (hl : 0 < l.length) (w : World) (h : Hp w base hb (fc cb) v mb l) :
    Calls Try.prog 11 #[.pointer (some ⟨hb, 0, none⟩)] w fun e w' => e = .returned (.tuple #[.int .i64 (kk l 0), .int .i64 (vv l 0), .bool true]) ∧ Below w.heap.size w w' := by
  rcases h.own.shape with ⟨-, rfl⟩ | ⟨g, cap, rfl, hg1, hg2, hlc, hcm, -, hcl⟩
  · simp at hl
  · have q1 : w.cell? ⟨hb, 1, none⟩ = some (.slice (some ⟨g, 0, none⟩) l.length cap) := cell_of h.blk
    obtain ⟨c0, c1⟩ := hcl 0 hl
    rw [show 0 * 2 = 0 from rfl] at c0
    rw [show 0 * 2 + 1 = 1 from rfl] at c1
    have hlen : (0 : Int) < (l.length : Int) := by omega
    have hne : ((l.length : Int) == 0) = false := beq_eq_false_iff_ne.2 (by omega)
    have e0 : kk l 0 = (l.getD 0 (0, 0)).1 := rfl
    have e1 : vv l 0 = (l.getD 0 (0, 0)).2 := rfl
    rw [← e0] at c0
    rw [← e1] at c1
    generalize kk l 0 = a at *
    generalize vv l 0 = b at *
    clear e0 e1 hcl h
    go_enter Try.func11, Try.ntmps11
    go_wp2_with fail
    go_quiet (fail)
    go_wp2_with fail
    go_returns
    exact ⟨rfl, below_drewN (by first | exact Below.refl _ _ | go_grown) _⟩

set_option maxHeartbeats 2000000 in
theorem getc_any (cb : Nat) (base hb : Nat) (v : Value) (mb : Nat) (l : List (Int × Int)) (k : Int) (hk : (Lit.int .i64 k).wf = true) (w : World) (h : Hp w base hb (fc cb) v mb l) :
    Calls Try.prog 14 #[.pointer (some ⟨hb, 0, none⟩), .int .i64 k] w fun e w' => e = .returned (.tuple #[.int .i64 ((HeapPure.get l k).getD 0), .bool (HeapPure.get l k).isSome]) ∧ Below w.heap.size w w' := by
  have q1 : w.cell? ⟨hb, 1, none⟩ = some v := cell_of h.blk
  have q2 : w.cell? ⟨hb, 2, none⟩ = some (.map (some mb)) := cell_of h.blk
  cases e : idx l k with
  | none =>
    have hm : mi l k = none := by unfold mi; rw [e]; rfl
    have hg : HeapPure.get l k = none := by unfold HeapPure.get; rw [e]; rfl
    rw [hg]
    go_enter Try.func14, Try.ntmps14
    go_wp2_with (at_lookup; refine wpList_mp_look _ rfl _ _ rfl Try.underlying3 Try.underlying35 Try.underlying3 (zeroI _) mb l.length (mi l) rfl h.mp k rfl hk ?_; rw [hm])
    go_wp2_with fail
    go_returns
    exact ⟨rfl, Below.refl _ _⟩
  | some i =>
    obtain ⟨hi, hik⟩ := idx_some e
    have hm : mi l k = some (i : Int) := by unfold mi; rw [e]; rfl
    have hg : HeapPure.get l k = some (vv l i) := by unfold HeapPure.get; rw [e]; rfl
    rw [hg]
    rcases h.own.shape with ⟨-, rfl⟩ | ⟨g, cap, rfl, hg1, hg2, hlc, hcm, -, hcl⟩
    · simp at hi
    have c1 := (hcl i hi).2
    rw [← vv_getD] at c1
    generalize vv l i = a at *
    have hi' : (i : Int) < (l.length : Int) := by omega
    clear hcl
    go_enter Try.func14, Try.ntmps14
    go_wp2_with (at_lookup; refine wpList_mp_look _ rfl _ _ rfl Try.underlying3 Try.underlying35 Try.underlying3 (zeroI _) mb l.length (mi l) rfl h.mp k rfl hk ?_; rw [hm])
    go_wp2_with fail
    go_returns
    exact ⟨rfl, Below.refl _ _⟩
end Go.Proofs.Ytbnpipfmeekbdaa
