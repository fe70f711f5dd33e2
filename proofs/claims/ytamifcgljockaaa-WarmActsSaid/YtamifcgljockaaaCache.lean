/- What a cache's functions do: New, Len, Clock, Drop. -/
import Derived.Test.YtamifcgljockaaaDrop
namespace Go.Proofs.Ytamifcgljockaaa
open Go.RowKit Go.Kpt HeapPure
set_option linter.unusedVariables false

theorem heapset_any (HL : LessC) (base hb : Nat) (v : Value) (mb : Nat) (l : List (Int × Mk)) (k : Int) (x : Mk) (hk : (Lit.int .i64 k).wf = true) (hl : l.length + 1 ≤ 100000) (w : World) (hbase : base ≤ w.heap.size) (h : Hp w base hb fv20 v mb l) :
    Calls Try.prog 22 #[.pointer (some ⟨hb, 0, none⟩), .int .i64 k, mv x] w fun e w' => e = .returned (.tuple #[]) ∧ ∃ v', Hp w' base hb fv20 v' mb (setAt lt l k x) ∧ Kept (fun y => y = hb ∨ own mb v y) w w' ∧ Moved w v v' := by
  cases e : idx l k with
  | none => exact set_new HL base hb v mb l k x hk hl e w hbase h
  | some i => exact (set_there HL base hb v mb l k x hk i e w h).mono fun e w' ⟨h1, h2, h3⟩ => ⟨h1, v, h2, h3, Moved.refl _ _⟩
theorem heapdrop_any (HL : LessC) (base hb : Nat) (v : Value) (mb : Nat) (l : List (Int × Mk)) (k : Int) (hk : (Lit.int .i64 k).wf = true) (w : World) (h : Hp w base hb fv20 v mb l) :
    Calls Try.prog 24 #[.pointer (some ⟨hb, 0, none⟩), .int .i64 k] w fun e w' => e = .returned (.bool (idx l k).isSome) ∧ ∃ v', Hp w' base hb fv20 v' mb (drop lt l k) ∧ Kept (fun y => y = hb ∨ own mb v y) w w' ∧ Moved w v v' := by
  cases e : idx l k with
  | none =>
    have hd : drop lt l k = l := by unfold drop; rw [e]
    rw [hd]
    exact (drop_none base hb v mb l k hk e w h).mono fun e w' ⟨h1, h2⟩ => ⟨h1, v, h2 ▸ h, h2 ▸ Kept.refl _ _, Moved.refl _ _⟩
  | some i => exact drop_some HL base hb v mb l k hk i e w h

/-- A cache: its own block, its heap, its clock. -/
structure Wc (w : World) (base cb hb : Nat) (v : Value) (mb : Nat) (l : List (Int × Mk)) (c : Nat) : Prop where
  blk : w.heap[cb]? = some (.cells #[.pointer (some ⟨hb, 0, none⟩), .int .u64 c] 53 (0, 0))
  hp : Hp w base hb fv20 v mb l
  cb : base ≤ cb
  hb : base ≤ hb
  mb : base ≤ mb
  sz : base ≤ w.heap.size
theorem Wc.apart {w : World} {base cb hb : Nat} {v : Value} {mb : Nat} {l : List (Int × Mk)} {c : Nat} (h : Wc w base cb hb v mb l c) : cb ≠ hb ∧ cb ≠ mb ∧ ∀ g, v.ownBlock = some g → g ≠ cb := by
  refine ⟨fun e => ?_, fun e => ?_, fun g hg e => ?_⟩
  · have h1 := h.blk; have h2 := h.hp.blk; rw [e] at h1; rw [h2] at h1; cases h1
  · obtain ⟨D, ⟨es, clock, hm, -⟩, -⟩ := h.hp.mp
    have h1 := h.blk; rw [e, hm] at h1; cases h1
  · rcases h.hp.own.2 with ⟨h1, -⟩ | ⟨g', cap, cur, h1, -, hg', -⟩
    · rw [h1] at hg; cases hg
    · rw [h1] at hg
      have h2 : some g' = some g := hg
      cases h2
      have h1 := h.blk; rw [← e, hg'] at h1; cases h1
/-- Behind what turns a heap's blocks alone. -/
theorem Wc.next {w w' : World} {base cb hb : Nat} {v v' : Value} {mb : Nat} {l l' : List (Int × Mk)} {c : Nat} (h : Wc w base cb hb v mb l c) (h2 : Hp w' base hb fv20 v' mb l') (k : Kept (fun y => y = hb ∨ own mb v y) w w') : Wc w' base cb hb v' mb l' c ∧ Below base w w' := by
  obtain ⟨a1, a2, a3⟩ := h.apart
  refine ⟨⟨(k.block cb (lt_of h.blk) (fun hh => ?_)).trans h.blk, h2, h.cb, h.hb, h.mb, Nat.le_trans h.sz k.size⟩, k.below h.sz (fun x hx hh => ?_)⟩
  · rcases hh with hh | hh | hh
    · exact a1 hh
    · exact a2 hh
    · exact a3 cb hh.symm rfl
  · rcases hh with hh | hh | hh
    · have := h.hb; omega
    · have := h.mb; omega
    · have := (h.hp.own.lt x hh.symm).1; omega
theorem Wc.below {w w' : World} {base cb hb : Nat} {v : Value} {mb : Nat} {l : List (Int × Mk)} {c : Nat} (h : Wc w base cb hb v mb l c) (k : Below w.heap.size w w') : Wc w' base cb hb v mb l c := by
  have k2 := Kept.of_below (F := fun _ => False) k
  exact ⟨(k2.block cb (lt_of h.blk) (fun h => h)).trans h.blk, h.hp.kept k2 (fun h => h) (fun h => h) (fun _ _ h => h), h.cb, h.hb, h.mb, Nat.le_trans h.sz k.size⟩

/-- Blocks of other types are as they were. -/
def Beside (w w' : World) : Prop := ∀ (b : Nat) (cs : Array Value) (t : TypeId), t ≠ 53 → t ≠ 63 → t ≠ 71 → w.heap[b]? = some (Obj.cells cs t (0, 0)) → w'.heap[b]? = some (Obj.cells cs t (0, 0))
theorem Beside.trans {a b c : World} (h : Beside a b) (k : Beside b c) : Beside a c := fun q cs t h1 h2 h3 h4 => k q cs t h1 h2 h3 (h q cs t h1 h2 h3 h4)
theorem Beside.of_below {w w' : World} (k : Below w.heap.size w w') : Beside w w' := fun q cs t _ _ _ h => (k.block q (lt_of h)).trans h
theorem Wc.beside {w w' : World} {base cb hb : Nat} {v : Value} {mb : Nat} {l : List (Int × Mk)} {c : Nat} (h : Wc w base cb hb v mb l c) (k : Kept (fun y => y = hb ∨ own mb v y) w w') : Beside w w' := by
  intro q cs t h1 h2 h3 hq
  refine (k.block q (lt_of hq) (fun hh => ?_)).trans hq
  rcases hh with hh | hh | hh
  · have hb' := h.hp.blk; rw [← hh, hq] at hb'; injection hb' with e; injection e with e1 e2; exact h2 e2
  · obtain ⟨D, ⟨es, clock, hm, -⟩, -⟩ := h.hp.mp
    rw [← hh, hq] at hm; cases hm
  · rcases h.hp.own.2 with ⟨e1, -⟩ | ⟨g', cap, cur, e1, -, hg', -⟩
    · rw [e1] at hh; cases hh
    · rw [e1] at hh
      have e2 : some q = some g' := hh
      cases e2
      rw [hq] at hg'
      injection hg' with e; injection e with e1 e2; exact h3 e2
theorem Wc.clocked {w : World} {base cb hb : Nat} {v : Value} {mb : Nat} {l : List (Int × Mk)} {c : Nat} (h : Wc w base cb hb v mb l c) (u : Value) : Beside w (w.setCell ⟨cb, 1, none⟩ u) := by
  intro q cs t h1 h2 h3 hq
  refine (Below.heap_setCell w ⟨cb, 1, none⟩ u q (fun e => ?_)).trans hq
  have hb' := h.blk
  rw [show cb = q from e.symm] at hb'
  rw [hq] at hb'
  injection hb' with e; injection e with e1 e2; exact h1 e2

def WB (w : World) (base cb : Nat) (l : List (Int × Mk)) (c : Nat) : Prop := ∃ hb v mb, Wc w base cb hb v mb l c
theorem WB.below {w w' : World} {base cb : Nat} {l : List (Int × Mk)} {c : Nat} (h : WB w base cb l c) (k : Below w.heap.size w w') : WB w' base cb l c := by
  obtain ⟨hb, v, mb, h⟩ := h
  exact ⟨hb, v, mb, h.below k⟩
theorem WB.sz {w : World} {base cb : Nat} {l : List (Int × Mk)} {c : Nat} (h : WB w base cb l c) : base ≤ w.heap.size := by
  obtain ⟨hb, v, mb, h⟩ := h
  exact h.sz

set_option maxHeartbeats 1000000 in
theorem cnew_any (w : World) : Calls Try.prog 9 #[] w fun e w' => ∃ cb, e = .returned (.pointer (some ⟨cb, 0, none⟩)) ∧ WB w' w.heap.size cb [] 0 ∧ Below w.heap.size w w' := by
  go_enter Try.func9, Try.ntmps9
  go_wp2_with fail
  refine (new_any w).mono ?_
  rintro e w1 ⟨hb, mb, rfl, h1, h2, h3, h4, h5, hB⟩
  have hz := hB.size
  have hn := heap_alloc_new w1 (.cells #[.pointer (some ⟨hb, 0, none⟩), .int .u64 0] 53)
  have hB2 : Below w.heap.size w (w1.alloc (.cells #[.pointer (some ⟨hb, 0, none⟩), .int .u64 0] 53)) := hB.alloc hz _
  have h6 := h5.kept ((Kept.refl (fun _ => False) w1).alloc (.cells #[.pointer (some ⟨hb, 0, none⟩), .int .u64 0] 53)) (fun h => h) (fun h => h) (fun _ _ h => h)
  go_wp2_with fail
  go_ret
  exact ⟨_, rfl, ⟨hb, _, mb, hn, h6, hz, h1, h2, by simp; omega⟩, hB2⟩

set_option maxHeartbeats 1000000 in
theorem clen_any (base cb : Nat) (l : List (Int × Mk)) (c : Nat) (w : World) (h : WB w base cb l c) : Calls Try.prog 12 #[.pointer (some ⟨cb, 0, none⟩)] w fun e w' => e = .returned (.int .i64 l.length) ∧ w = w' := by
  obtain ⟨hb, v, mb, h⟩ := h
  have q0 : w.cell? ⟨cb, 0, none⟩ = some (.pointer (some ⟨hb, 0, none⟩)) := cell_of h.blk
  go_enter Try.func12, Try.ntmps12
  go_wp2_with fail
  refine (len_any base hb v mb l w h.hp).mono ?_
  rintro e w1 ⟨rfl, rfl⟩
  go_wp2_with fail
  go_ret
  exact ⟨rfl, rfl⟩

set_option maxHeartbeats 1000000 in
theorem clock_any (base cb : Nat) (l : List (Int × Mk)) (c : Nat) (w : World) (h : WB w base cb l c) : Calls Try.prog 15 #[.pointer (some ⟨cb, 0, none⟩)] w fun e w' => e = .returned (.int .u64 c) ∧ w = w' := by
  obtain ⟨hb, v, mb, h⟩ := h
  have q0 : w.cell? ⟨cb, 1, none⟩ = some (.int .u64 c) := cell_of h.blk
  go_enter Try.func15, Try.ntmps15
  go_wp2_with fail
  go_ret
  exact ⟨rfl, rfl⟩

set_option maxHeartbeats 1000000 in
theorem cdrop_any (HL : LessC) (base cb : Nat) (l : List (Int × Mk)) (c : Nat) (k : Int) (hk : (Lit.int .i64 k).wf = true) (w : World) (h : WB w base cb l c) :
    Calls Try.prog 14 #[.pointer (some ⟨cb, 0, none⟩), .int .i64 k] w fun e w' => e = .returned (.bool (idx l k).isSome) ∧ WB w' base cb (drop lt l k) c ∧ Below base w w' ∧ Beside w w' := by
  obtain ⟨hb, v, mb, h⟩ := h
  have q0 : w.cell? ⟨cb, 0, none⟩ = some (.pointer (some ⟨hb, 0, none⟩)) := cell_of h.blk
  go_enter Try.func14, Try.ntmps14
  go_wp2_with fail
  refine (heapdrop_any HL base hb v mb l k hk w h.hp).mono ?_
  rintro e w1 ⟨rfl, v', h1, k1, hm⟩
  obtain ⟨h2, hB⟩ := h.next h1 k1
  go_wp2_with fail
  go_ret
  exact ⟨rfl, ⟨hb, v', mb, h2⟩, hB, h.beside k1⟩
end Go.Proofs.Ytamifcgljockaaa
