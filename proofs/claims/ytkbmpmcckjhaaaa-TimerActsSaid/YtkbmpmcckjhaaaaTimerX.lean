/- Times that are set, beside blocks of the law's own: what their functions do. -/
import Derived.Test.YtkbmpmcckjhaaaaDrop
import Derived.Test.YtkbmpmcckjhaaaaLessT
import Derived.Test.YtkbmpmcckjhaaaaPairs
namespace Go.Proofs.Ytkbmpmcckjhaaaa
open Go.RowKit Go.Kpt HeapPure
set_option linter.unusedVariables false

theorem heapset_any (base hb : Nat) (v : Value) (mb : Nat) (l : List (Ke × Tm)) (k : Ke) (x : Tm) (hk : kok k) (hl : l.length + 1 ≤ 100000) (w : World) (hbase : base ≤ w.heap.size) (h : Hp w base hb fv17 v mb l) :
    Calls Try.prog 18 #[.pointer (some ⟨hb, 0, none⟩), kv k, mv x] w fun e w' => e = .returned (.tuple #[]) ∧ ∃ v', Hp w' base hb fv17 v' mb (setAt lt l k x) ∧ Kept (fun y => y = hb ∨ own mb v y) w w' ∧ Moved w v v' := by
  cases e : idx l k with
  | none => exact set_new lessC base hb v mb l k x hk hl e w hbase h
  | some i => exact (set_there lessC base hb v mb l k x hk i e w h).mono fun e w' ⟨h1, h2, h3⟩ => ⟨h1, v, h2, h3, Moved.refl _ _⟩
theorem heapdrop_any (base hb : Nat) (v : Value) (mb : Nat) (l : List (Ke × Tm)) (k : Ke) (hk : kok k) (w : World) (h : Hp w base hb fv17 v mb l) :
    Calls Try.prog 21 #[.pointer (some ⟨hb, 0, none⟩), kv k] w fun e w' => e = .returned (.bool (idx l k).isSome) ∧ ∃ v', Hp w' base hb fv17 v' mb (drop lt l k) ∧ Kept (fun y => y = hb ∨ own mb v y) w w' ∧ Moved w v v' := by
  cases e : idx l k with
  | none =>
    have hd : drop lt l k = l := by unfold drop; rw [e]
    rw [hd]
    exact (drop_none base hb v mb l k hk e w h).mono fun e w' ⟨h1, h2⟩ => ⟨h1, v, h.kept (Kept.of_below (F := fun _ => False) h2) (fun h => h) (fun h => h) (fun _ _ h => h), Kept.of_below h2, Moved.refl _ _⟩
  | some i => exact drop_some lessC base hb v mb l k hk i e w h

/-- Times: their own block, and their heap. -/
structure Tc (w : World) (base cb hb : Nat) (v : Value) (mb : Nat) (l : List (Ke × Tm)) : Prop where
  blk : w.heap[cb]? = some (.cells #[.pointer (some ⟨hb, 0, none⟩)] 54 (0, 0))
  hp : Hp w base hb fv17 v mb l
  cb : base ≤ cb
  hb : base ≤ hb
  mb : base ≤ mb
  sz : base ≤ w.heap.size
/-- The blocks of times. -/
def Foot (cb hb mb : Nat) (v : Value) (x : Nat) : Prop := x = cb ∨ x = hb ∨ own mb v x
theorem Tc.lt {w : World} {base cb hb : Nat} {v : Value} {mb : Nat} {l : List (Ke × Tm)} (h : Tc w base cb hb v mb l) {x : Nat} (hx : Foot cb hb mb v x) : x < w.heap.size ∧ base ≤ x := by
  rcases hx with rfl | rfl | rfl | hx
  · exact ⟨lt_of h.blk, h.cb⟩
  · exact ⟨lt_of h.hp.blk, h.hb⟩
  · exact ⟨h.hp.mp.lt, h.mb⟩
  · exact ⟨(h.hp.own.lt x hx.symm).2, (h.hp.own.lt x hx.symm).1⟩
theorem Tc.apart {w : World} {base cb hb : Nat} {v : Value} {mb : Nat} {l : List (Ke × Tm)} (h : Tc w base cb hb v mb l) : ¬ (cb = hb ∨ own mb v cb) := by
  rintro (e | e | e)
  · have h1 := h.blk; have h2 := h.hp.blk; rw [e] at h1; rw [h2] at h1; cases h1
  · obtain ⟨D, ⟨es, clock, hm, -⟩, -⟩ := h.hp.mp
    have h1 := h.blk; rw [e, hm] at h1; cases h1
  · rcases h.hp.own.2 with ⟨h1, -⟩ | ⟨g', cap, cur, h1, -, hg', -⟩
    · rw [h1] at e; cases e
    · rw [h1] at e
      have h2 : some cb = some g' := e
      cases h2
      have h1 := h.blk; rw [hg'] at h1; cases h1
/-- What turns none of its blocks leaves times as they are. -/
theorem Tc.kept {w w' : World} {base cb hb : Nat} {v : Value} {mb : Nat} {l : List (Ke × Tm)} (h : Tc w base cb hb v mb l) {F : Nat → Prop} (k : Kept F w w') (hF : ∀ x, Foot cb hb mb v x → ¬ F x) : Tc w' base cb hb v mb l :=
  ⟨(k.block cb (lt_of h.blk) (hF cb (.inl rfl))).trans h.blk, h.hp.kept k (hF hb (.inr (.inl rfl))) (hF mb (.inr (.inr (.inl rfl)))) (fun g hg => hF g (.inr (.inr (.inr hg.symm)))), h.cb, h.hb, h.mb, Nat.le_trans h.sz k.size⟩

/-- Blocks of Q are as they were. -/
def Same (Q : Nat → Prop) (w w' : World) : Prop := ∀ x, Q x → w'.heap[x]? = w.heap[x]?
theorem Same.refl (Q : Nat → Prop) (w : World) : Same Q w w := fun _ _ => rfl
theorem Same.trans {Q : Nat → Prop} {a b c : World} (h : Same Q a b) (k : Same Q b c) : Same Q a c := fun x hx => (k x hx).trans (h x hx)
/-- Times, and blocks (those of Q) that are not their own. -/
def TX (w : World) (base cb : Nat) (l : List (Ke × Tm)) (Q : Nat → Prop) : Prop :=
  ∃ hb v mb, Tc w base cb hb v mb l ∧ ∀ x, Q x → x < w.heap.size ∧ ¬ Foot cb hb mb v x
theorem TX.sz {w : World} {base cb : Nat} {l : List (Ke × Tm)} {Q : Nat → Prop} (h : TX w base cb l Q) : base ≤ w.heap.size := by
  obtain ⟨hb, v, mb, h, -⟩ := h
  exact h.sz
theorem TX.below {w w' : World} {base cb : Nat} {l : List (Ke × Tm)} {Q : Nat → Prop} (h : TX w base cb l Q) (k : Below w.heap.size w w') : TX w' base cb l Q := by
  obtain ⟨hb, v, mb, h, hq⟩ := h
  exact ⟨hb, v, mb, h.kept (Kept.of_below (F := fun _ => False) k) (fun _ _ h => h), fun x hx => ⟨Nat.lt_of_lt_of_le (hq x hx).1 k.size, (hq x hx).2⟩⟩
theorem TX.same {w w' : World} {base cb : Nat} {l : List (Ke × Tm)} {Q : Nat → Prop} (h : TX w base cb l Q) (k : Below w.heap.size w w') : Same Q w w' := by
  obtain ⟨hb, v, mb, h, hq⟩ := h
  exact fun x hx => k.block x (hq x hx).1
theorem TX.beside {w w' : World} {base cb : Nat} {l : List (Ke × Tm)} {Q : Nat → Prop} (h : TX w base cb l Q) (k : Kept Q w w') : TX w' base cb l Q := by
  obtain ⟨hb, v, mb, h, hq⟩ := h
  exact ⟨hb, v, mb, h.kept k (fun x hx hh => (hq x hh).2 hx), fun x hx => ⟨Nat.lt_of_lt_of_le (hq x hx).1 k.size, (hq x hx).2⟩⟩
theorem TX.more {w w' : World} {base cb : Nat} {l : List (Ke × Tm)} {Q Q' : Nat → Prop} (h : TX w base cb l Q) (k : Below w.heap.size w w') (hQ : ∀ x, Q' x → Q x ∨ (w.heap.size ≤ x ∧ x < w'.heap.size)) : TX w' base cb l Q' := by
  obtain ⟨hb, v, mb, h, hq⟩ := h
  refine ⟨hb, v, mb, h.kept (Kept.of_below (F := fun _ => False) k) (fun _ _ h => h), fun x hx => ?_⟩
  rcases hQ x hx with h1 | h1
  · exact ⟨Nat.lt_of_lt_of_le (hq x h1).1 k.size, (hq x h1).2⟩
  · exact ⟨h1.2, fun e => by have := (h.lt e).1; omega⟩
theorem TX.less {w : World} {base cb : Nat} {l : List (Ke × Tm)} {Q Q' : Nat → Prop} (h : TX w base cb l Q) (hQ : ∀ x, Q' x → Q x) : TX w base cb l Q' := by
  obtain ⟨hb, v, mb, h, hq⟩ := h
  exact ⟨hb, v, mb, h, fun x hx => hq x (hQ x hx)⟩
/-- Behind what turns the heap's blocks alone. -/
theorem TX.next {w w' : World} {base cb hb : Nat} {v v' : Value} {mb : Nat} {l l' : List (Ke × Tm)} {Q : Nat → Prop} (h : Tc w base cb hb v mb l) (hq : ∀ x, Q x → x < w.heap.size ∧ ¬ Foot cb hb mb v x) (h2 : Hp w' base hb fv17 v' mb l') (k : Kept (fun y => y = hb ∨ own mb v y) w w') (hm : Moved w v v') :
    TX w' base cb l' Q ∧ Below base w w' ∧ Same Q w w' := by
  refine ⟨⟨hb, v', mb, ⟨(k.block cb (lt_of h.blk) h.apart).trans h.blk, h2, h.cb, h.hb, h.mb, Nat.le_trans h.sz k.size⟩, fun x hx => ⟨Nat.lt_of_lt_of_le (hq x hx).1 k.size, fun e => ?_⟩⟩, k.below h.sz (fun x hx hh => ?_), fun x hx => k.block x (hq x hx).1 (fun hh => (hq x hx).2 (.inr hh))⟩
  · obtain ⟨q1, q2⟩ := hq x hx
    rcases e with e | e | e | e
    · exact q2 (.inl e)
    · exact q2 (.inr (.inl e))
    · exact q2 (.inr (.inr (.inl e)))
    · rcases hm x e.symm with e | e
      · exact q2 (.inr (.inr (.inr e.symm)))
      · omega
  · have := (h.lt (.inr hh)).2; omega

set_option maxHeartbeats 1000000 in
theorem tnew_any (w : World) : Calls Try.prog 7 #[] w fun e w' => ∃ cb, e = .returned (.pointer (some ⟨cb, 0, none⟩)) ∧ TX w' w.heap.size cb [] (fun _ => False) ∧ w.heap.size ≤ cb ∧ Below w.heap.size w w' := by
  go_enter Try.func7, Try.ntmps7
  go_wp2_with fail
  refine (new_any w).mono ?_
  rintro e w1 ⟨hb, mb, rfl, h1, h2, h3, h4, h5, h6⟩
  have hk : Below w1.heap.size w1 (w1.alloc (.cells #[.pointer (some ⟨hb, 0, none⟩)] 54)) := (Below.refl _ _).alloc (Nat.le_refl _) _
  have hT : Tc (w1.alloc (.cells #[.pointer (some ⟨hb, 0, none⟩)] 54)) w.heap.size w1.heap.size hb (.slice none 0 0) mb [] :=
    ⟨heap_alloc_new _ _, h5.kept (Kept.of_below (F := fun _ => False) hk) (fun h => h) (fun h => h) (fun _ _ h => h), h6.size, h1, h2, Nat.le_trans h6.size hk.size⟩
  have hs := h6.size
  go_wp2_with fail
  go_ret
  exact ⟨_, rfl, ⟨hb, _, mb, hT, fun _ h => h.elim⟩, hs, h6.trans (hk.mono hs)⟩

set_option maxHeartbeats 1000000 in
theorem tlen_any (base cb : Nat) (l : List (Ke × Tm)) (Q : Nat → Prop) (w : World) (h : TX w base cb l Q) : Calls Try.prog 10 #[.pointer (some ⟨cb, 0, none⟩)] w fun e w' => e = .returned (.int .i64 l.length) ∧ w = w' := by
  obtain ⟨hb, v, mb, h, -⟩ := h
  have q0 : w.cell? ⟨cb, 0, none⟩ = some (.pointer (some ⟨hb, 0, none⟩)) := cell_of h.blk
  go_enter Try.func10, Try.ntmps10
  go_wp2_with fail
  refine (len_any base hb v mb l w h.hp).mono ?_
  rintro e w1 ⟨rfl, rfl⟩
  go_wp2_with fail
  go_ret
  exact ⟨rfl, rfl⟩

set_option maxRecDepth 100000 in
set_option maxHeartbeats 2000000 in
theorem tdrop_any (base cb : Nat) (l : List (Ke × Tm)) (k : Ke) (hk : kok k) (Q : Nat → Prop) (w : World) (h : TX w base cb l Q) :
    Calls Try.prog 13 #[.pointer (some ⟨cb, 0, none⟩), kv k] w fun e w' => e = .returned (.bool (idx l k).isSome) ∧ TX w' base cb (drop lt l k) Q ∧ Below base w w' ∧ Same Q w w' := by
  have hsz := h.sz
  have kA : Below w.heap.size w (w.alloc (.cells #[.int .i64 k.1, .int .i64 k.2] 29)).drew := ((Below.refl _ _).alloc (Nat.le_refl _) _).drew
  have hA : Kb (w.alloc (.cells #[.int .i64 k.1, .int .i64 k.2] 29)) w.heap.size k := heap_alloc_new _ _
  have hS := h.same kA
  have h1 := h.below kA
  obtain ⟨hb, v, mb, h1, hq⟩ := h1
  have q0 : (w.alloc (.cells #[.int .i64 k.1, .int .i64 k.2] 29)).cell? ⟨cb, 0, none⟩ = some (.pointer (some ⟨hb, 0, none⟩)) := cell_of (w := (w.alloc (.cells #[.int .i64 k.1, .int .i64 k.2] 29)).drew) h1.blk
  obtain ⟨a0, a1⟩ := hA.cells
  have hd := heapdrop_any base hb v mb l k hk _ h1.hp
  obtain ⟨w1, hw1⟩ : ∃ w1, w.alloc (.cells #[.int .i64 k.1, .int .i64 k.2] 29) = w1 := ⟨_, rfl⟩
  rw [hw1] at kA h1 q0 a0 a1 hd hS
  have HT := Lib.hid (And.intro h1 (show ∀ x, Q x → x < w1.drew.heap.size ∧ ¬ Foot cb hb mb v x from by rw [← hw1]; exact hq))
  have HK := Lib.hid kA
  have HS := Lib.hid hS
  clear h1 hq h kA hA hS
  go_enter Try.func13, Try.ntmps13
  go_wp2_with fail
  go_region_with (go_at_call 21; refine hd.mono ?_; rintro e w4 ⟨rfl, v', h5, k5, hm⟩)
  all_goals (go_wp2_with fail)
  all_goals go_ret
  all_goals
    obtain ⟨r1, r2, r3⟩ := TX.next HT.out.1 HT.out.2 h5 k5 hm
    exact ⟨rfl, r1, (HK.out.mono hsz).trans r2, HS.out.trans r3⟩

set_option maxRecDepth 100000 in
set_option maxHeartbeats 2000000 in
theorem tset_any (base cb : Nat) (l : List (Ke × Tm)) (k : Ke) (at_ : Int) (hk : kok k) (hl : l.length + 1 ≤ 100000) (Q : Nat → Prop) (w : World) (h : TX w base cb l Q) :
    Calls Try.prog 8 #[.pointer (some ⟨cb, 0, none⟩), kv k, .int .i64 at_] w fun e w' => e = .returned (.tuple #[]) ∧ TX w' base cb (setAt lt l k ⟨at_, k.1, k.2⟩) Q ∧ Below base w w' ∧ Same Q w w' := by
  have hsz := h.sz
  have kA : Below w.heap.size w (w.alloc (.cells #[.int .i64 k.1, .int .i64 k.2] 29)).drew := ((Below.refl _ _).alloc (Nat.le_refl _) _).drew
  have hA : Kb (w.alloc (.cells #[.int .i64 k.1, .int .i64 k.2] 29)) w.heap.size k := heap_alloc_new _ _
  have hS := h.same kA
  have h1 := h.below kA
  obtain ⟨hb, v, mb, h1, hq⟩ := h1
  have q0 : (w.alloc (.cells #[.int .i64 k.1, .int .i64 k.2] 29)).cell? ⟨cb, 0, none⟩ = some (.pointer (some ⟨hb, 0, none⟩)) := cell_of (w := (w.alloc (.cells #[.int .i64 k.1, .int .i64 k.2] 29)).drew) h1.blk
  obtain ⟨a0, a1⟩ := hA.cells
  have hd := heapset_any base hb v mb l k ⟨at_, k.1, k.2⟩ hk hl _ h1.sz h1.hp
  have hd : Calls Try.prog 18 #[.pointer (some ⟨hb, 0, none⟩), kv k, .agg #[.int .i64 at_, .int .i64 k.1, .int .i64 k.2]] _ _ := hd
  obtain ⟨w1, hw1⟩ : ∃ w1, w.alloc (.cells #[.int .i64 k.1, .int .i64 k.2] 29) = w1 := ⟨_, rfl⟩
  rw [hw1] at kA h1 q0 a0 a1 hd hS
  have HT := Lib.hid (And.intro h1 (show ∀ x, Q x → x < w1.drew.heap.size ∧ ¬ Foot cb hb mb v x from by rw [← hw1]; exact hq))
  have HK := Lib.hid kA
  have HS := Lib.hid hS
  clear h1 hq h kA hA hS
  go_enter Try.func8, Try.ntmps8
  go_wp2_with fail
  go_region_with (go_at_call 18; refine hd.mono ?_; rintro e w4 ⟨rfl, v', h5, k5, hm⟩)
  all_goals (go_wp2_with fail)
  all_goals go_returns
  all_goals
    obtain ⟨r1, r2, r3⟩ := TX.next HT.out.1 HT.out.2 h5 k5 hm
    exact ⟨rfl, r1, (HK.out.mono hsz).trans r2, HS.out.trans r3⟩
end Go.Proofs.Ytkbmpmcckjhaaaa
