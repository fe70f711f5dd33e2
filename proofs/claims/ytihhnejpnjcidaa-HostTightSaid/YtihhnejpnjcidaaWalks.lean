/- What hosts do. -/
import Derived.Test.YtihhnejpnjcidaaRows
import Derived.Test.YtihhnejpnjcidaaKept
import Derived.Test.YtihhnejpnjcidaaArgs
import Derived.Test.YtihhnejpnjcidaaBits
import Derived.BigRegion
import Derived.BigQuiet
import Derived.Handy
namespace Go.Proofs.Ytihhnejpnjcidaa
open Go.RowKit Go.Kpt
set_option linter.unusedVariables false

/-- A host. -/
structure Ma where
  th : Bool
  dr : Bool
  sz : Int
  us : Int

/-- Hosts in their block. -/
def Hq (w : World) (b : Nat) (f : Nat → Ma) : Prop :=
  ∃ cs : Array Value, w.heap[b]? = some (.cells cs 41 (0, 0)) ∧ cs.size = 128 ∧ ∀ h, h < 32 → cs[h * 4]? = some (.bool (f h).th) ∧ cs[h * 4 + 1]? = some (.bool (f h).dr) ∧ cs[h * 4 + 2]? = some (.int .i64 (f h).sz) ∧ cs[h * 4 + 3]? = some (.int .i64 (f h).us)

theorem Hq.lt {w : World} {b : Nat} {f : Nat → Ma} (h : Hq w b f) : b < w.heap.size := by obtain ⟨cs, h, -⟩ := h; exact lt_of h
theorem Hq.below {w w' : World} {b : Nat} {f : Nat → Ma} (h : Hq w b f) (hB : Below w.heap.size w w') : Hq w' b f := by
  obtain ⟨cs, h, h2⟩ := h; exact ⟨cs, (hB.block b (lt_of h)).trans h, h2⟩
theorem Hq.kept {F : Nat → Prop} {w w' : World} {b : Nat} {f : Nat → Ma} (h : Hq w b f) (k : Kept F w w') (hF : ¬ F b) : Hq w' b f := by
  obtain ⟨cs, h, h2⟩ := h; exact ⟨cs, (k.block b (lt_of h) hF).trans h, h2⟩

theorem Hq.cells {w : World} {b : Nat} {f : Nat → Ma} (q : Hq w b f) (h : Nat) (hl : h < 32) :
    w.cell? ⟨b, h * 4, none⟩ = some (.bool (f h).th) ∧ w.cell? ⟨b, h * 4 + 1, none⟩ = some (.bool (f h).dr) ∧ w.cell? ⟨b, h * 4 + 2, none⟩ = some (.int .i64 (f h).sz) ∧ w.cell? ⟨b, h * 4 + 3, none⟩ = some (.int .i64 (f h).us) := by
  obtain ⟨cs, h1, hs, h2⟩ := q
  obtain ⟨a, b1, c, d⟩ := h2 h hl
  exact ⟨(cell_of h1).trans a, (cell_of h1).trans b1, (cell_of h1).trans c, (cell_of h1).trans d⟩
theorem Hq.frozen {w : World} {b : Nat} {f : Nat → Ma} (q : Hq w b f) (j : Nat) : w.frozen? ⟨b, j, none⟩ = false := by
  obtain ⟨cs, h1, -⟩ := q; exact frozen_of h1

/-- One host turned. -/
def put (f : Nat → Ma) (h : Nat) (m : Ma) : Nat → Ma := fun k => if k = h then m else f k
theorem put_same (f : Nat → Ma) (h : Nat) (m : Ma) : put f h m h = m := by simp [put]
theorem put_ne (f : Nat → Ma) (h : Nat) (m : Ma) (k : Nat) (hk : k ≠ h) : put f h m k = f k := by simp [put, hk]
theorem put_put (f : Nat → Ma) (h : Nat) (m n : Ma) : put (put f h m) h n = put f h n := by funext k; simp only [put]; split <;> rfl
theorem put_self (f : Nat → Ma) (h : Nat) : put f h (f h) = f := by funext k; simp only [put]; split <;> simp_all

theorem Hq.set {w : World} {b : Nat} {f : Nat → Ma} (q : Hq w b f) (h : Nat) (hl : h < 32) (j : Nat) (hj : j < 4) (v : Value) (m : Ma)
    (h0 : (if j = 0 then v else .bool (f h).th) = .bool m.th) (h1 : (if j = 1 then v else .bool (f h).dr) = .bool m.dr)
    (h2 : (if j = 2 then v else .int .i64 (f h).sz) = .int .i64 m.sz) (h3 : (if j = 3 then v else .int .i64 (f h).us) = .int .i64 m.us) :
    Hq (w.setCell ⟨b, h * 4 + j, none⟩ v) b (put f h m) := by
  obtain ⟨cs, hb, hs, hc⟩ := q
  refine ⟨cs.setIfInBounds (h * 4 + j) v, set_same v hb, by simp [hs], fun k hk => ?_⟩
  obtain ⟨a0, a1, a2, a3⟩ := hc k hk
  by_cases hkh : k = h
  · subst hkh
    rw [put_same]
    have hj4 : j = 0 ∨ j = 1 ∨ j = 2 ∨ j = 3 := by omega
    rcases hj4 with rfl | rfl | rfl | rfl <;> simp only [Array.getElem?_setIfInBounds] <;> simp_all <;> omega
  · rw [put_ne _ _ _ _ hkh]
    simp only [Array.getElem?_setIfInBounds]
    rw [if_neg (by omega), if_neg (by omega), if_neg (by omega), if_neg (by omega)]
    exact ⟨a0, a1, a2, a3⟩
theorem Hq.setTh {w : World} {b : Nat} {f : Nat → Ma} (q : Hq w b f) (h : Nat) (hl : h < 32) (v : Bool) : Hq (w.setCell ⟨b, h * 4, none⟩ (.bool v)) b (put f h { f h with th := v }) := q.set h hl 0 (by omega) _ _ rfl rfl rfl rfl
theorem Hq.setDr {w : World} {b : Nat} {f : Nat → Ma} (q : Hq w b f) (h : Nat) (hl : h < 32) (v : Bool) : Hq (w.setCell ⟨b, h * 4 + 1, none⟩ (.bool v)) b (put f h { f h with dr := v }) := q.set h hl 1 (by omega) _ _ rfl rfl rfl rfl
theorem Hq.setSz {w : World} {b : Nat} {f : Nat → Ma} (q : Hq w b f) (h : Nat) (hl : h < 32) (v : Int) : Hq (w.setCell ⟨b, h * 4 + 2, none⟩ (.int .i64 v)) b (put f h { f h with sz := v }) := q.set h hl 2 (by omega) _ _ rfl rfl rfl rfl
theorem Hq.setUs {w : World} {b : Nat} {f : Nat → Ma} (q : Hq w b f) (h : Nat) (hl : h < 32) (v : Int) : Hq (w.setCell ⟨b, h * 4 + 3, none⟩ (.int .i64 v)) b (put f h { f h with us := v }) := q.set h hl 3 (by omega) _ _ rfl rfl rfl rfl
theorem Kept.setb {a w : World} {b : Nat} (h : Kept (fun x => x = b) a w) (i : Nat) (u : Value) : Kept (fun x => x = b) a (w.setCell ⟨b, i, none⟩ u) := h.setCell (p := ⟨b, i, none⟩) (fun _ => rfl) u

/-- No hosts' cells. -/
def zc : Array Value := ((List.replicate 32 [Value.bool false, .bool false, .int .i64 0, .int .i64 0]).flatten).toArray
theorem zero41 (w : World) : (zeroValue 41).run Try.prog w = .ok (.agg zc) w := by kernel_rfl
set_option maxRecDepth 100000 in
theorem zc_size : zc.size = 128 := by kernel_rfl
set_option maxRecDepth 100000 in
theorem zc_at (h : Nat) (hl : h < 32) : zc[h * 4]? = some (.bool false) ∧ zc[h * 4 + 1]? = some (.bool false) ∧ zc[h * 4 + 2]? = some (.int .i64 0) ∧ zc[h * 4 + 3]? = some (.int .i64 0) := by
  have : h = 0 ∨ h = 1 ∨ h = 2 ∨ h = 3 ∨ h = 4 ∨ h = 5 ∨ h = 6 ∨ h = 7 ∨ h = 8 ∨ h = 9 ∨ h = 10 ∨ h = 11 ∨ h = 12 ∨ h = 13 ∨ h = 14 ∨ h = 15 ∨ h = 16 ∨ h = 17 ∨ h = 18 ∨ h = 19 ∨ h = 20 ∨ h = 21 ∨ h = 22 ∨ h = 23 ∨ h = 24 ∨ h = 25 ∨ h = 26 ∨ h = 27 ∨ h = 28 ∨ h = 29 ∨ h = 30 ∨ h = 31 := by omega
  rcases this with rfl | rfl | rfl | rfl | rfl | rfl | rfl | rfl | rfl | rfl | rfl | rfl | rfl | rfl | rfl | rfl | rfl | rfl | rfl | rfl | rfl | rfl | rfl | rfl | rfl | rfl | rfl | rfl | rfl | rfl | rfl | rfl <;> exact ⟨rfl, rfl, rfl, rfl⟩
attribute [irreducible] zc

set_option maxHeartbeats 1000000 in
theorem new_any (w : World) :
    Calls Try.prog 7 #[] w fun e w' => e = .returned (.pointer (some ⟨w.heap.size, 0, none⟩)) ∧ Hq w' w.heap.size (fun _ => ⟨false, false, 0, 0⟩) ∧ Below w.heap.size w w' ∧ w'.heap.size = w.heap.size + 1 := by
  have hz := zero41 w
  go_enter Try.func7, Try.ntmps7
  go_wp2_with fail
  go_ret
  exact ⟨rfl, ⟨zc, heap_alloc_new _ _, zc_size, zc_at⟩, by go_grown, by simp⟩

set_option maxHeartbeats 1000000 in
theorem there_any (b : Nat) (f : Nat → Ma) (h : Nat) (hl : h < 32) (w : World) (q : Hq w b f) :
    Calls Try.prog 17 #[.pointer (some ⟨b, 0, none⟩), .int .i64 h] w fun e w' => e = .returned (.bool (f h).th) ∧ w = w' := by
  obtain ⟨c0, c1, c2, c3⟩ := q.cells h hl
  have hl' : (h : Int) < 32 := by omega
  go_enter Try.func17, Try.ntmps17
  go_wp2_with fail
  go_ret
  exact ⟨rfl, rfl⟩

set_option maxHeartbeats 1000000 in
theorem add_any (b : Nat) (f : Nat → Ma) (h : Nat) (hl : h < 32) (n : Int) (hn : 1 ≤ n) (hm : n ≤ 4096) (hf : (f h).th = false) (w : World) (q : Hq w b f) :
    Calls Try.prog 8 #[.pointer (some ⟨b, 0, none⟩), .int .i64 h, .int .i64 n] w fun e w' => e = .returned (.int .i64 0) ∧ Hq w' b (put f h ⟨true, false, n, 0⟩) ∧ Kept (fun x => x = b) w w' := by
  obtain ⟨c0, c1, c2, c3⟩ := q.cells h hl
  have f0 := q.frozen (h * 4)
  have f1 := q.frozen (h * 4 + 1)
  have f2 := q.frozen (h * 4 + 2)
  have f3 := q.frozen (h * 4 + 3)
  have hl' : ¬ (32 : Int) ≤ h := by omega
  have hl2 : ¬ (h : Int) < 0 := by omega
  have hl3 : ¬ 4096 < n := by omega
  have hl4 : ¬ n < 1 := by omega
  rw [hf] at c0
  go_enter Try.func8, Try.ntmps8
  go_wp2_with fail
  go_ret
  refine ⟨rfl, ?_, by repeat' first | exact Kept.refl _ _ | refine Kept.setb ?_ _ _⟩
  have h4 := (((q.setTh h hl true).setDr h hl false).setSz h hl n).setUs h hl 0
  simpa only [put_put, put_same] using h4

set_option maxHeartbeats 1000000 in
theorem up_any (b : Nat) (f : Nat → Ma) (h : Nat) (hl : h < 32) (w : World) (q : Hq w b f) :
    Calls Try.prog 12 #[.pointer (some ⟨b, 0, none⟩), .int .i64 h] w fun e w' => e = .returned (.bool ((f h).th && !(f h).dr)) ∧ w = w' := by
  obtain ⟨c0, c1, c2, c3⟩ := q.cells h hl
  have ht := there_any b f h hl w q
  have hl' : (h : Int) < 32 := by omega
  cases hx : (f h).th
  · rw [hx] at ht
    go_enter Try.func12, Try.ntmps12
    go_wp2_with fail
    refine ht.mono ?_
    rintro e w1 ⟨rfl, rfl⟩
    go_wp2_with fail
    go_ret
    exact ⟨rfl, rfl⟩
  · rw [hx] at ht
    go_enter Try.func12, Try.ntmps12
    go_wp2_with fail
    refine ht.mono ?_
    rintro e w1 ⟨rfl, rfl⟩
    go_wp2_with fail
    go_ret
    exact ⟨rfl, rfl⟩

set_option maxHeartbeats 1000000 in
theorem isThere_any (b : Nat) (f : Nat → Ma) (h : Nat) (hl : h < 32) (w : World) (q : Hq w b f) :
    Calls Try.prog 15 #[.pointer (some ⟨b, 0, none⟩), .int .i64 h] w fun e w' => e = .returned (.bool (f h).th) ∧ w = w' := by
  have ht := there_any b f h hl w q
  go_enter Try.func15, Try.ntmps15
  go_wp2_with fail
  refine ht.mono ?_
  rintro e w1 ⟨rfl, rfl⟩
  go_wp2_with fail
  go_ret
  exact ⟨rfl, rfl⟩

/-- How much is free. -/
def free (m : Ma) : Int := if m.th then m.sz - m.us else 0

set_option maxHeartbeats 1000000 in
theorem free_any (b : Nat) (f : Nat → Ma) (h : Nat) (hl : h < 32) (hg : 0 ≤ (f h).us ∧ (f h).us ≤ (f h).sz ∧ (f h).sz ≤ 4096) (w : World) (q : Hq w b f) :
    Calls Try.prog 10 #[.pointer (some ⟨b, 0, none⟩), .int .i64 h] w fun e w' => e = .returned (.int .i64 (free (f h))) ∧ ∃ m, w' = w.drewN m := by
  obtain ⟨c0, c1, c2, c3⟩ := q.cells h hl
  have ht := there_any b f h hl w q
  have hl' : (h : Int) < 32 := by omega
  obtain ⟨g1, g2, g3⟩ := hg
  cases hx : (f h).th
  · rw [hx] at ht
    go_enter Try.func10, Try.ntmps10
    go_wp2_with fail
    refine ht.mono ?_
    rintro e w1 ⟨rfl, rfl⟩
    go_wp2_with fail
    go_ret
    exact ⟨by simp [free, hx], 0, rfl⟩
  · rw [hx] at ht
    go_enter Try.func10, Try.ntmps10
    go_wp2_with fail
    refine ht.mono ?_
    rintro e w1 ⟨rfl, rfl⟩
    go_wp2_with fail
    go_quiet (fail)
    go_wp2_with fail
    go_ret
    exact ⟨by simp [free, hx], _, rfl⟩

/-- May so much be taken, given back? -/
def mayTake (m : Ma) (n : Int) : Bool := m.th && !m.dr && decide (n ≤ m.sz - m.us)
def mayGive (m : Ma) (n : Int) : Bool := m.th && decide (n ≤ m.us)
def took (m : Ma) (n : Int) : Ma := if mayTake m n then { m with us := m.us + n } else m
def swept (m : Ma) : Ma := if m.dr = true ∧ m.us = 0 then ⟨false, false, 0, 0⟩ else m
def gave (m : Ma) (n : Int) : Ma := if mayGive m n then swept { m with us := m.us - n } else m

set_option maxHeartbeats 1000000 in
theorem take_any (b : Nat) (f : Nat → Ma) (h : Nat) (hl : h < 32) (hg : 0 ≤ (f h).us ∧ (f h).us ≤ (f h).sz ∧ (f h).sz ≤ 4096) (n : Int) (hn : 0 ≤ n) (w : World) (q : Hq w b f) :
    Calls Try.prog 9 #[.pointer (some ⟨b, 0, none⟩), .int .i64 h, .int .i64 n] w fun e w' => e = .returned (.bool (mayTake (f h) n)) ∧ Hq w' b (put f h (took (f h) n)) ∧ Kept (fun x => x = b) w w' := by
  obtain ⟨c0, c1, c2, c3⟩ := q.cells h hl
  have f3 := q.frozen (h * 4 + 3)
  have ht := up_any b f h hl w q
  have hf := free_any b f h hl hg w q
  have hl' : (h : Int) < 32 := by omega
  have hn' : ¬ n < 0 := by omega
  obtain ⟨g1, g2, g3⟩ := hg
  by_cases hx : ((f h).th && !(f h).dr) = true
  · rw [hx] at ht
    have hth : (f h).th = true := by simp at hx; exact hx.1
    have hfr : free (f h) = (f h).sz - (f h).us := by simp [free, hth]
    rw [hfr] at hf
    by_cases hle : n ≤ (f h).sz - (f h).us
    · have hle' : ¬ (f h).sz - (f h).us < n := by omega
      have hm : mayTake (f h) n = true := by simp [mayTake]; simp at hx; exact ⟨hx, hle⟩
      have htk : took (f h) n = { f h with us := (f h).us + n } := by simp only [took, hm]; rfl
      rw [hm, htk]
      clear htk
      go_enter Try.func9, Try.ntmps9
      go_wp2_with fail
      refine ht.mono ?_
      rintro e w1 ⟨rfl, rfl⟩
      go_wp2_with fail
      refine hf.mono ?_
      rintro e w1 ⟨rfl, m, rfl⟩
      have q1 := q.below (below_drewN (Below.refl _ _) m)
      have k1 : Kept (fun x => x = b) w (w.drewN m) := (Kept.refl _ _).drewN m
      obtain ⟨c0, c1, c2, c3⟩ := q1.cells h hl
      have f3 := q1.frozen (h * 4 + 3)
      have HR : Hid (∀ v, Hq ((w.drewN m).setCell ⟨b, h * 4 + 3, none⟩ (.int .i64 v)) b (put f h { f h with us := v }) ∧ Kept (fun x => x = b) w ((w.drewN m).setCell ⟨b, h * 4 + 3, none⟩ (.int .i64 v))) := fun v => ⟨q1.setUs h hl v, Kept.setb k1 _ _⟩
      clear hf q q1 k1 hm
      generalize w.drewN m = w1 at *
      go_wp2_with fail
      go_region
      all_goals
        go_wp2
        go_ret
        exact ⟨rfl, (HR.out _).1, ((HR.out _).2).drew⟩
    · have hle' : (f h).sz - (f h).us < n := by omega
      have hm : mayTake (f h) n = false := by simp [mayTake]; intro _ _; omega
      have htk : took (f h) n = f h := by simp [took, hm]
      rw [hm, htk, put_self]
      clear htk hm
      go_enter Try.func9, Try.ntmps9
      go_wp2_with fail
      refine ht.mono ?_
      rintro e w1 ⟨rfl, rfl⟩
      go_wp2_with fail
      refine hf.mono ?_
      rintro e w1 ⟨rfl, m, rfl⟩
      go_wp2_with fail
      go_ret
      exact ⟨rfl, q.below (below_drewN (Below.refl _ _) m), (Kept.refl _ _).drewN m⟩
  · have hx : ((f h).th && !(f h).dr) = false := by simpa using hx
    rw [hx] at ht
    have hm : mayTake (f h) n = false := by simp only [mayTake, hx]; rfl
    have htk : took (f h) n = f h := by simp [took, hm]
    rw [hm, htk, put_self]
    clear htk hm
    go_enter Try.func9, Try.ntmps9
    go_wp2_with fail
    refine ht.mono ?_
    rintro e w1 ⟨rfl, rfl⟩
    go_wp2_with fail
    go_ret
    exact ⟨rfl, q, Kept.refl _ _⟩

set_option maxHeartbeats 1000000 in
theorem sweep_any (b : Nat) (f : Nat → Ma) (h : Nat) (hl : h < 32) (w : World) (q : Hq w b f) :
    Calls Try.prog 18 #[.pointer (some ⟨b, 0, none⟩), .int .i64 h] w fun e w' => e = .returned (.tuple #[]) ∧ Hq w' b (put f h (swept (f h))) ∧ Kept (fun x => x = b) w w' := by
  have hlt := q.lt
  obtain ⟨c0, c1, c2, c3⟩ := q.cells h hl
  have f0 := q.frozen (h * 4)
  have f1 := q.frozen (h * 4 + 1)
  have f2 := q.frozen (h * 4 + 2)
  have f3 := q.frozen (h * 4 + 3)
  have hl' : (h : Int) < 32 := by omega
  have hne : ¬ b = w.heap.size := by omega
  generalize hm : f h = m at *
  obtain ⟨th, dr, sz, us⟩ := m
  dsimp only at c0 c1 c2 c3
  have q1 : Hq (w.alloc (.cells #[.bool th, .bool dr, .int .i64 sz, .int .i64 us] 38)) b f := q.below ((Below.refl _ _).alloc (Nat.le_refl _) _)
  have k1 : Kept (fun x => x = b) w (w.alloc (.cells #[.bool th, .bool dr, .int .i64 sz, .int .i64 us] 38)) := (Kept.refl _ _).alloc _
  cases hd : dr
  · subst hd
    have hs : swept ⟨th, false, sz, us⟩ = ⟨th, false, sz, us⟩ := by simp [swept]
    rw [hs, ← hm, put_self]
    go_enter Try.func18, Try.ntmps18
    go_wp2_with fail
    go_end0
    exact ⟨rfl, q1, k1⟩
  · subst hd
    by_cases hz : us = 0
    · subst hz
      have hs : swept ⟨th, true, sz, 0⟩ = ⟨false, false, 0, 0⟩ := by simp [swept]
      rw [hs]
      have q2 := (((q.setTh h hl false).setDr h hl false).setSz h hl 0).setUs h hl 0
      simp only [put_put, put_same] at q2
      have k2 := (Kept.setb (Kept.setb (Kept.setb (Kept.setb (Kept.refl (fun x => x = b) w) (h * 4) (.bool false)) (h * 4 + 1) (.bool false)) (h * 4 + 2) (.int .i64 0)) (h * 4 + 3) (.int .i64 0)).alloc (.cells #[.bool th, .bool true, .int .i64 sz, .int .i64 0] 38)
      have q2 := q2.below ((Below.refl _ _).alloc (Nat.le_refl _) (.cells #[.bool th, .bool true, .int .i64 sz, .int .i64 0] 38))
      go_enter Try.func18, Try.ntmps18
      go_wp2_with fail
      go_end0
      exact ⟨rfl, q2, k2⟩
    · have hs : swept ⟨th, true, sz, us⟩ = ⟨th, true, sz, us⟩ := by simp [swept, hz]
      rw [hs, ← hm, put_self]
      go_enter Try.func18, Try.ntmps18
      go_wp2_with fail
      go_end0
      exact ⟨rfl, q1, k1⟩

set_option maxHeartbeats 1000000 in
theorem give_any (b : Nat) (f : Nat → Ma) (h : Nat) (hl : h < 32) (hg : 0 ≤ (f h).us ∧ (f h).us ≤ (f h).sz ∧ (f h).sz ≤ 4096) (n : Int) (hn : 0 ≤ n) (w : World) (q : Hq w b f) :
    Calls Try.prog 11 #[.pointer (some ⟨b, 0, none⟩), .int .i64 h, .int .i64 n] w fun e w' => e = .returned (.bool (mayGive (f h) n)) ∧ Hq w' b (put f h (gave (f h) n)) ∧ Kept (fun x => x = b) w w' := by
  obtain ⟨c0, c1, c2, c3⟩ := q.cells h hl
  have f3 := q.frozen (h * 4 + 3)
  have ht := there_any b f h hl w q
  have hl' : (h : Int) < 32 := by omega
  have hn' : ¬ n < 0 := by omega
  obtain ⟨g1, g2, g3⟩ := hg
  cases hx : (f h).th
  · rw [hx] at ht
    have hm : mayGive (f h) n = false := by simp [mayGive, hx]
    have htk : gave (f h) n = f h := by simp [gave, hm]
    rw [hm, htk, put_self]
    clear htk hm
    go_enter Try.func11, Try.ntmps11
    go_wp2_with fail
    refine ht.mono ?_
    rintro e w1 ⟨rfl, rfl⟩
    go_wp2_with fail
    go_ret
    exact ⟨rfl, q, Kept.refl _ _⟩
  · rw [hx] at ht
    by_cases hle : n ≤ (f h).us
    · have hle' : ¬ (f h).us < n := by omega
      have hm : mayGive (f h) n = true := by simp [mayGive, hx, hle]
      have htk : gave (f h) n = swept { f h with us := (f h).us - n } := by simp only [gave, hm]; rfl
      rw [hm, htk]
      clear htk hm
      have HR : Hid (∀ v, Hq (w.setCell ⟨b, h * 4 + 3, none⟩ (.int .i64 v)) b (put f h { f h with us := v }) ∧ Kept (fun x => x = b) w (w.setCell ⟨b, h * 4 + 3, none⟩ (.int .i64 v))) := fun v => ⟨q.setUs h hl v, Kept.setb (Kept.refl _ _) _ _⟩
      have hsw := fun v W (hq : Hq W b (put f h { f h with us := v })) => sweep_any b _ h hl W hq
      simp only [put_put, put_same] at hsw
      clear q
      go_enter Try.func11, Try.ntmps11
      go_wp2_with fail
      refine ht.mono ?_
      rintro e w1 ⟨rfl, rfl⟩
      go_wp2_with fail
      go_region
      all_goals
        go_wp2_with fail
        refine (hsw _ _ ((HR.out _).1.below (Below.refl _ _).drew)).mono ?_
        rintro e w2 ⟨rfl, hq2, hk2⟩
        go_wp2_with fail
        go_ret
        exact ⟨rfl, hq2, ((HR.out _).2).drew.trans hk2 (fun _ _ h => h)⟩
    · have hle' : (f h).us < n := by omega
      have hm : mayGive (f h) n = false := by simp [mayGive, hle]
      have htk : gave (f h) n = f h := by simp [gave, hm]
      rw [hm, htk, put_self]
      clear htk hm
      go_enter Try.func11, Try.ntmps11
      go_wp2_with fail
      refine ht.mono ?_
      rintro e w1 ⟨rfl, rfl⟩
      go_wp2_with fail
      go_ret
      exact ⟨rfl, q, Kept.refl _ _⟩

set_option maxHeartbeats 1000000 in
theorem fail_any (b : Nat) (f : Nat → Ma) (h : Nat) (hl : h < 32) (hx : (f h).th = true) (w : World) (q : Hq w b f) :
    Calls Try.prog 14 #[.pointer (some ⟨b, 0, none⟩), .int .i64 h] w fun e w' => e = .returned (.int .i64 0) ∧ Hq w' b (put f h ⟨false, false, 0, 0⟩) ∧ Kept (fun x => x = b) w w' := by
  obtain ⟨c0, c1, c2, c3⟩ := q.cells h hl
  have f0 := q.frozen (h * 4)
  have f1 := q.frozen (h * 4 + 1)
  have f2 := q.frozen (h * 4 + 2)
  have f3 := q.frozen (h * 4 + 3)
  have ht := there_any b f h hl w q
  rw [hx] at ht
  have hl' : (h : Int) < 32 := by omega
  have q2 := (((q.setTh h hl false).setDr h hl false).setSz h hl 0).setUs h hl 0
  simp only [put_put, put_same] at q2
  have k2 := Kept.setb (Kept.setb (Kept.setb (Kept.setb (Kept.refl (fun x => x = b) w) (h * 4) (.bool false)) (h * 4 + 1) (.bool false)) (h * 4 + 2) (.int .i64 0)) (h * 4 + 3) (.int .i64 0)
  go_enter Try.func14, Try.ntmps14
  go_wp2_with fail
  refine ht.mono ?_
  rintro e w1 ⟨rfl, rfl⟩
  go_wp2_with fail
  go_ret
  exact ⟨rfl, q2, k2⟩

set_option maxHeartbeats 1000000 in
theorem drain_any (b : Nat) (f : Nat → Ma) (h : Nat) (hl : h < 32) (hx : (f h).th = true) (hd : (f h).dr = false) (w : World) (q : Hq w b f) :
    Calls Try.prog 16 #[.pointer (some ⟨b, 0, none⟩), .int .i64 h] w fun e w' => e = .returned (.int .i64 0) ∧ Hq w' b (put f h (swept { f h with dr := true })) ∧ Kept (fun x => x = b) w w' := by
  obtain ⟨c0, c1, c2, c3⟩ := q.cells h hl
  have f1 := q.frozen (h * 4 + 1)
  have ht := there_any b f h hl w q
  rw [hx] at ht
  rw [hd] at c1
  have hl' : (h : Int) < 32 := by omega
  have q2 := q.setDr h hl true
  have k2 := Kept.setb (Kept.refl (fun x => x = b) w) (h * 4 + 1) (.bool true)
  have hsw := sweep_any b _ h hl _ q2
  simp only [put_put, put_same] at hsw
  go_enter Try.func16, Try.ntmps16
  go_wp2_with fail
  refine ht.mono ?_
  rintro e w1 ⟨rfl, rfl⟩
  go_wp2_with fail
  refine hsw.mono ?_
  rintro e w1 ⟨rfl, hq, hk⟩
  go_wp2_with fail
  go_ret
  exact ⟨rfl, hq, k2.trans hk (fun _ _ h => h)⟩
end Go.Proofs.Ytihhnejpnjcidaa
