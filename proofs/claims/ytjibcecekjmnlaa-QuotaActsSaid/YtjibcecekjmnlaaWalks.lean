/- What a ledger's functions do. -/
import Derived.Test.YtjibcecekjmnlaaRows
import Derived.Test.YtjibcecekjmnlaaKept
import Derived.Test.YtjibcecekjmnlaaArgs
import Derived.Test.YtjibcecekjmnlaaBits
import Derived.BigRegion
import Derived.BigQuiet
import Derived.Handy
import Derived.Deep.MidRow
namespace Go.Proofs.Ytjibcecekjmnlaa
open Go.RowKit Go.Kpt
set_option linter.unusedVariables false

structure Ac where
  th : Bool
  lim : Int
structure Fn where
  th : Bool
  acc : Nat
  res : Int
  bu : Int
/-- A ledger. -/
structure Lg where
  ac : Nat → Ac
  fs : Nat → Fn

/-- A ledger in its block. -/
def Lq (w : World) (b : Nat) (s : Lg) : Prop :=
  ∃ cs : Array Value, w.heap[b]? = some (.cells cs 65 (0, 0)) ∧ cs.size = 288 ∧
    (∀ h, h < 16 → cs[h * 2]? = some (.bool (s.ac h).th) ∧ cs[h * 2 + 1]? = some (.int .i64 (s.ac h).lim)) ∧
    ∀ h, h < 64 → cs[32 + h * 4]? = some (.bool (s.fs h).th) ∧ cs[32 + h * 4 + 1]? = some (.int .i64 (s.fs h).acc) ∧ cs[32 + h * 4 + 2]? = some (.int .i64 (s.fs h).res) ∧ cs[32 + h * 4 + 3]? = some (.int .i64 (s.fs h).bu)

theorem Lq.lt {w : World} {b : Nat} {s : Lg} (h : Lq w b s) : b < w.heap.size := by obtain ⟨cs, h, -⟩ := h; exact lt_of h
theorem Lq.below {w w' : World} {b : Nat} {s : Lg} (h : Lq w b s) (hB : Below w.heap.size w w') : Lq w' b s := by
  obtain ⟨cs, h, h2⟩ := h; exact ⟨cs, (hB.block b (lt_of h)).trans h, h2⟩
theorem Lq.kept {F : Nat → Prop} {w w' : World} {b : Nat} {s : Lg} (h : Lq w b s) (k : Kept F w w') (hF : ¬ F b) : Lq w' b s := by
  obtain ⟨cs, h, h2⟩ := h; exact ⟨cs, (k.block b (lt_of h) hF).trans h, h2⟩
theorem Lq.acell {w : World} {b : Nat} {s : Lg} (q : Lq w b s) (h : Nat) (hl : h < 16) :
    w.cell? ⟨b, h * 2, none⟩ = some (.bool (s.ac h).th) ∧ w.cell? ⟨b, h * 2 + 1, none⟩ = some (.int .i64 (s.ac h).lim) := by
  obtain ⟨cs, h1, hs, h2, h3⟩ := q
  obtain ⟨a, b1⟩ := h2 h hl
  exact ⟨(cell_of h1).trans a, (cell_of h1).trans b1⟩
theorem Lq.fcell {w : World} {b : Nat} {s : Lg} (q : Lq w b s) (h : Nat) (hl : h < 64) :
    w.cell? ⟨b, 32 + h * 4, none⟩ = some (.bool (s.fs h).th) ∧ w.cell? ⟨b, 32 + h * 4 + 1, none⟩ = some (.int .i64 (s.fs h).acc) ∧ w.cell? ⟨b, 32 + h * 4 + 2, none⟩ = some (.int .i64 (s.fs h).res) ∧ w.cell? ⟨b, 32 + h * 4 + 3, none⟩ = some (.int .i64 (s.fs h).bu) := by
  obtain ⟨cs, h1, hs, h2, h3⟩ := q
  obtain ⟨a, b1, c, d⟩ := h3 h hl
  exact ⟨(cell_of h1).trans a, (cell_of h1).trans b1, (cell_of h1).trans c, (cell_of h1).trans d⟩
theorem Lq.frozen {w : World} {b : Nat} {s : Lg} (q : Lq w b s) (j : Nat) : w.frozen? ⟨b, j, none⟩ = false := by
  obtain ⟨cs, h1, -⟩ := q; exact frozen_of h1

/-- One turned. -/
def put {α : Type} (f : Nat → α) (h : Nat) (m : α) : Nat → α := fun k => if k = h then m else f k
theorem put_same {α : Type} (f : Nat → α) (h : Nat) (m : α) : put f h m h = m := by simp [put]
theorem put_ne {α : Type} (f : Nat → α) (h : Nat) (m : α) (k : Nat) (hk : k ≠ h) : put f h m k = f k := by simp [put, hk]
theorem put_put {α : Type} (f : Nat → α) (h : Nat) (m n : α) : put (put f h m) h n = put f h n := by funext k; simp only [put]; split <;> rfl
theorem put_self {α : Type} (f : Nat → α) (h : Nat) : put f h (f h) = f := by funext k; simp only [put]; split <;> simp_all

def Lg.setF (s : Lg) (h : Nat) (m : Fn) : Lg := ⟨s.ac, put s.fs h m⟩
def Lg.setA (s : Lg) (h : Nat) (m : Ac) : Lg := ⟨put s.ac h m, s.fs⟩

theorem Lq.setf {w : World} {b : Nat} {s : Lg} (q : Lq w b s) (h : Nat) (hl : h < 64) (j : Nat) (hj : j < 4) (v : Value) (m : Fn)
    (h0 : (if j = 0 then v else .bool (s.fs h).th) = .bool m.th) (h1 : (if j = 1 then v else .int .i64 (s.fs h).acc) = .int .i64 m.acc)
    (h2 : (if j = 2 then v else .int .i64 (s.fs h).res) = .int .i64 m.res) (h3 : (if j = 3 then v else .int .i64 (s.fs h).bu) = .int .i64 m.bu) :
    Lq (w.setCell ⟨b, 32 + h * 4 + j, none⟩ v) b (s.setF h m) := by
  obtain ⟨cs, hb, hs, ha, hc⟩ := q
  refine ⟨cs.setIfInBounds (32 + h * 4 + j) v, set_same v hb, by simp [hs], fun k hk => ?_, fun k hk => ?_⟩
  · obtain ⟨a0, a1⟩ := ha k hk
    simp only [Array.getElem?_setIfInBounds]
    rw [if_neg (by omega), if_neg (by omega)]
    exact ⟨a0, a1⟩
  · obtain ⟨a0, a1, a2, a3⟩ := hc k hk
    by_cases hkh : k = h
    · subst hkh
      show _ = some (Value.bool (put s.fs k m k).th) ∧ _ = some (Value.int .i64 (put s.fs k m k).acc) ∧ _ = some (Value.int .i64 (put s.fs k m k).res) ∧ _ = some (Value.int .i64 (put s.fs k m k).bu)
      rw [put_same]
      have hj4 : j = 0 ∨ j = 1 ∨ j = 2 ∨ j = 3 := by omega
      rcases hj4 with rfl | rfl | rfl | rfl <;> simp only [Array.getElem?_setIfInBounds] <;> simp_all <;> omega
    · show _ = some (Value.bool (put s.fs h m k).th) ∧ _ = some (Value.int .i64 (put s.fs h m k).acc) ∧ _ = some (Value.int .i64 (put s.fs h m k).res) ∧ _ = some (Value.int .i64 (put s.fs h m k).bu)
      rw [put_ne _ _ _ _ hkh]
      simp only [Array.getElem?_setIfInBounds]
      rw [if_neg (by omega), if_neg (by omega), if_neg (by omega), if_neg (by omega)]
      exact ⟨a0, a1, a2, a3⟩
theorem Lq.setTh {w : World} {b : Nat} {s : Lg} (q : Lq w b s) (h : Nat) (hl : h < 64) (v : Bool) : Lq (w.setCell ⟨b, 32 + h * 4, none⟩ (.bool v)) b (s.setF h { s.fs h with th := v }) := q.setf h hl 0 (by omega) _ _ rfl rfl rfl rfl
theorem Lq.setAcc {w : World} {b : Nat} {s : Lg} (q : Lq w b s) (h : Nat) (hl : h < 64) (v : Nat) : Lq (w.setCell ⟨b, 32 + h * 4 + 1, none⟩ (.int .i64 v)) b (s.setF h { s.fs h with acc := v }) := q.setf h hl 1 (by omega) _ _ rfl rfl rfl rfl
theorem Lq.setRes {w : World} {b : Nat} {s : Lg} (q : Lq w b s) (h : Nat) (hl : h < 64) (v : Int) : Lq (w.setCell ⟨b, 32 + h * 4 + 2, none⟩ (.int .i64 v)) b (s.setF h { s.fs h with res := v }) := q.setf h hl 2 (by omega) _ _ rfl rfl rfl rfl
theorem Lq.setBu {w : World} {b : Nat} {s : Lg} (q : Lq w b s) (h : Nat) (hl : h < 64) (v : Int) : Lq (w.setCell ⟨b, 32 + h * 4 + 3, none⟩ (.int .i64 v)) b (s.setF h { s.fs h with bu := v }) := q.setf h hl 3 (by omega) _ _ rfl rfl rfl rfl
theorem setF_setF (s : Lg) (h : Nat) (m n : Fn) : (s.setF h m).setF h n = s.setF h n := by simp only [Lg.setF, put_put]
theorem setF_at (s : Lg) (h : Nat) (m : Fn) : (s.setF h m).fs h = m := put_same _ _ _
theorem setF_self (s : Lg) (h : Nat) : s.setF h (s.fs h) = s := by simp only [Lg.setF, put_self]

theorem Lq.seta {w : World} {b : Nat} {s : Lg} (q : Lq w b s) (h : Nat) (hl : h < 16) (t : Bool) (v : Int) :
    Lq ((w.setCell ⟨b, h * 2, none⟩ (.bool t)).setCell ⟨b, h * 2 + 1, none⟩ (.int .i64 v)) b (s.setA h ⟨t, v⟩) := by
  obtain ⟨cs, hb, hs, ha, hc⟩ := q
  refine ⟨(cs.setIfInBounds (h * 2) (.bool t)).setIfInBounds (h * 2 + 1) (.int .i64 v), set_same _ (set_same _ hb), by simp [hs], fun k hk => ?_, fun k hk => ?_⟩
  · obtain ⟨a0, a1⟩ := ha k hk
    by_cases hkh : k = h
    · subst hkh
      show _ = some (Value.bool (put s.ac k ⟨t, v⟩ k).th) ∧ _ = some (Value.int .i64 (put s.ac k ⟨t, v⟩ k).lim)
      rw [put_same]
      simp only [Array.getElem?_setIfInBounds, Array.size_setIfInBounds]
      constructor
      · rw [if_neg (by omega), if_pos trivial, if_pos (by omega)]
      · rw [if_pos trivial, if_pos (by omega)]
    · show _ = some (Value.bool (put s.ac h ⟨t, v⟩ k).th) ∧ _ = some (Value.int .i64 (put s.ac h ⟨t, v⟩ k).lim)
      rw [put_ne _ _ _ _ hkh]
      simp only [Array.getElem?_setIfInBounds]
      rw [if_neg (by omega), if_neg (by omega), if_neg (by omega), if_neg (by omega)]
      exact ⟨a0, a1⟩
  · obtain ⟨a0, a1, a2, a3⟩ := hc k hk
    simp only [Array.getElem?_setIfInBounds]
    rw [if_neg (by omega), if_neg (by omega), if_neg (by omega), if_neg (by omega), if_neg (by omega), if_neg (by omega), if_neg (by omega), if_neg (by omega)]
    exact ⟨a0, a1, a2, a3⟩
theorem Kept.setb {a w : World} {b : Nat} (h : Kept (fun x => x = b) a w) (i : Nat) (u : Value) : Kept (fun x => x = b) a (w.setCell ⟨b, i, none⟩ u) := h.setCell (p := ⟨b, i, none⟩) (fun _ => rfl) u

/-- An empty ledger's cells. -/
def zc : Array Value := ((List.replicate 16 [Value.bool false, .int .i64 0]).flatten ++ (List.replicate 64 [Value.bool false, .int .i64 0, .int .i64 0, .int .i64 0]).flatten).toArray
theorem zero65 (w : World) : (zeroValue 65).run Try.prog w = .ok (.agg zc) w := by kernel_rfl
set_option maxRecDepth 100000 in
theorem zc_size : zc.size = 288 := by kernel_rfl
set_option maxRecDepth 100000 in
theorem zc_a (h : Nat) (hl : h < 16) : zc[h * 2]? = some (.bool false) ∧ zc[h * 2 + 1]? = some (.int .i64 0) := by
  have : h = 0 ∨ h = 1 ∨ h = 2 ∨ h = 3 ∨ h = 4 ∨ h = 5 ∨ h = 6 ∨ h = 7 ∨ h = 8 ∨ h = 9 ∨ h = 10 ∨ h = 11 ∨ h = 12 ∨ h = 13 ∨ h = 14 ∨ h = 15 := by omega
  rcases this with rfl | rfl | rfl | rfl | rfl | rfl | rfl | rfl | rfl | rfl | rfl | rfl | rfl | rfl | rfl | rfl <;> exact ⟨rfl, rfl⟩
set_option maxRecDepth 100000 in
theorem zc_f (h : Nat) (hl : h < 64) : zc[32 + h * 4]? = some (.bool false) ∧ zc[32 + h * 4 + 1]? = some (.int .i64 0) ∧ zc[32 + h * 4 + 2]? = some (.int .i64 0) ∧ zc[32 + h * 4 + 3]? = some (.int .i64 0) := by
  have : h = 0 ∨ h = 1 ∨ h = 2 ∨ h = 3 ∨ h = 4 ∨ h = 5 ∨ h = 6 ∨ h = 7 ∨ h = 8 ∨ h = 9 ∨ h = 10 ∨ h = 11 ∨ h = 12 ∨ h = 13 ∨ h = 14 ∨ h = 15 ∨ h = 16 ∨ h = 17 ∨ h = 18 ∨ h = 19 ∨ h = 20 ∨ h = 21 ∨ h = 22 ∨ h = 23 ∨ h = 24 ∨ h = 25 ∨ h = 26 ∨ h = 27 ∨ h = 28 ∨ h = 29 ∨ h = 30 ∨ h = 31 ∨ h = 32 ∨ h = 33 ∨ h = 34 ∨ h = 35 ∨ h = 36 ∨ h = 37 ∨ h = 38 ∨ h = 39 ∨ h = 40 ∨ h = 41 ∨ h = 42 ∨ h = 43 ∨ h = 44 ∨ h = 45 ∨ h = 46 ∨ h = 47 ∨ h = 48 ∨ h = 49 ∨ h = 50 ∨ h = 51 ∨ h = 52 ∨ h = 53 ∨ h = 54 ∨ h = 55 ∨ h = 56 ∨ h = 57 ∨ h = 58 ∨ h = 59 ∨ h = 60 ∨ h = 61 ∨ h = 62 ∨ h = 63 := by omega
  rcases this with rfl | rfl | rfl | rfl | rfl | rfl | rfl | rfl | rfl | rfl | rfl | rfl | rfl | rfl | rfl | rfl | rfl | rfl | rfl | rfl | rfl | rfl | rfl | rfl | rfl | rfl | rfl | rfl | rfl | rfl | rfl | rfl | rfl | rfl | rfl | rfl | rfl | rfl | rfl | rfl | rfl | rfl | rfl | rfl | rfl | rfl | rfl | rfl | rfl | rfl | rfl | rfl | rfl | rfl | rfl | rfl | rfl | rfl | rfl | rfl | rfl | rfl | rfl | rfl <;> exact ⟨rfl, rfl, rfl, rfl⟩
attribute [irreducible] zc

/-- A ledger of nothing. -/
def l0 : Lg := ⟨fun _ => ⟨false, 0⟩, fun _ => ⟨false, 0, 0, 0⟩⟩

set_option maxHeartbeats 1000000 in
theorem new_any (w : World) :
    Calls Try.prog 9 #[] w fun e w' => e = .returned (.pointer (some ⟨w.heap.size, 0, none⟩)) ∧ Lq w' w.heap.size l0 ∧ Below w.heap.size w w' ∧ w'.heap.size = w.heap.size + 1 := by
  have hz := zero65 w
  go_enter Try.func9, Try.ntmps9
  go_wp2_with fail
  go_ret
  exact ⟨rfl, ⟨zc, heap_alloc_new _ _, zc_size, zc_a, zc_f⟩, by go_grown, by simp⟩

set_option maxHeartbeats 1000000 in
theorem known_any (b : Nat) (s : Lg) (h : Nat) (hl : h < 64) (w : World) (q : Lq w b s) :
    Calls Try.prog 24 #[.pointer (some ⟨b, 0, none⟩), .int .i64 h] w fun e w' => e = .returned (.bool (s.fs h).th) ∧ w = w' := by
  obtain ⟨c0, c1, c2, c3⟩ := q.fcell h hl
  have hl' : (h : Int) < 64 := by omega
  go_enter Try.func24, Try.ntmps24
  go_wp2_with fail
  go_ret
  exact ⟨rfl, rfl⟩

set_option maxHeartbeats 1000000 in
theorem busy_any (b : Nat) (s : Lg) (h : Nat) (hl : h < 64) (hz : (s.fs h).th = false → (s.fs h).bu = 0) (w : World) (q : Lq w b s) :
    Calls Try.prog 14 #[.pointer (some ⟨b, 0, none⟩), .int .i64 h] w fun e w' => e = .returned (.int .i64 (s.fs h).bu) ∧ w = w' := by
  obtain ⟨c0, c1, c2, c3⟩ := q.fcell h hl
  have hk := known_any b s h hl w q
  have hl' : (h : Int) < 64 := by omega
  cases hx : (s.fs h).th
  · rw [hz hx]
    rw [hx] at hk
    go_enter Try.func14, Try.ntmps14
    go_wp2_with fail
    refine hk.mono ?_
    rintro e w1 ⟨rfl, rfl⟩
    go_wp2_with fail
    go_ret
    exact ⟨rfl, rfl⟩
  · rw [hx] at hk
    go_enter Try.func14, Try.ntmps14
    go_wp2_with fail
    refine hk.mono ?_
    rintro e w1 ⟨rfl, rfl⟩
    go_wp2_with fail
    go_ret
    exact ⟨rfl, rfl⟩

/-- What of an account's first functions is reserved, runs, and runs of those without reserved ones. -/
def rs (f : Nat → Fn) (a : Nat) : Nat → Int
  | 0 => 0
  | k + 1 => rs f a k + if (f k).th = true ∧ (f k).acc = a then (f k).res else 0
def bs (f : Nat → Fn) (a : Nat) : Nat → Int
  | 0 => 0
  | k + 1 => bs f a k + if (f k).th = true ∧ (f k).acc = a then (f k).bu else 0
def os (f : Nat → Fn) (a : Nat) : Nat → Int
  | 0 => 0
  | k + 1 => os f a k + if (f k).th = true ∧ (f k).acc = a ∧ (f k).res = 0 then (f k).bu else 0
def goodf (m : Fn) : Prop := m.acc < 16 ∧ 0 ≤ m.res ∧ m.res ≤ 1000 ∧ 0 ≤ m.bu ∧ m.bu ≤ 100000
theorem rs_bd {f : Nat → Fn} (hg : ∀ h, h < 64 → goodf (f h)) (a : Nat) : ∀ k, k ≤ 64 → 0 ≤ rs f a k ∧ rs f a k ≤ 1000 * k := by
  intro k
  induction k with
  | zero => intro _; simp [rs]
  | succ k ih =>
    intro hk
    have h1 := ih (by omega)
    have h2 := hg k (by omega)
    unfold goodf at h2
    simp only [rs]
    split <;> omega
theorem bs_bd {f : Nat → Fn} (hg : ∀ h, h < 64 → goodf (f h)) (a : Nat) : ∀ k, k ≤ 64 → 0 ≤ bs f a k ∧ bs f a k ≤ 100000 * k := by
  intro k
  induction k with
  | zero => intro _; simp [bs]
  | succ k ih =>
    intro hk
    have h1 := ih (by omega)
    have h2 := hg k (by omega)
    unfold goodf at h2
    simp only [bs]
    split <;> omega
theorem os_bd {f : Nat → Fn} (hg : ∀ h, h < 64 → goodf (f h)) (a : Nat) : ∀ k, k ≤ 64 → 0 ≤ os f a k ∧ os f a k ≤ 100000 * k := by
  intro k
  induction k with
  | zero => intro _; simp [os]
  | succ k ih =>
    intro hk
    have h1 := ih (by omega)
    have h2 := hg k (by omega)
    unfold goodf at h2
    simp only [os]
    split <;> omega

/-- All functions' cells, by value. -/
theorem Lq.row {w : World} {b : Nat} {s : Lg} (q : Lq w b s) : ∃ R : Array Value, (loadVar 63 ⟨b, 32, none⟩).run Try.prog w = .ok (.agg R) w ∧ ∀ h, h < 64 → R.extract (h * 4) (h * 4 + 4) = #[.bool (s.fs h).th, .int .i64 (s.fs h).acc, .int .i64 (s.fs h).res, .int .i64 (s.fs h).bu] := by
  obtain ⟨cs, hb, hs, ha, hc⟩ := q
  refine ⟨cs.extract 32 288, ?_, fun h hh => ?_⟩
  · have := run_loadVar_mid (P := Try.prog) w b 32 63 (cs.extract 32 288).toList _ (World.rangeAt_of_block hb 32 256) Try.underlying63 rfl (by rw [show (Try.prog.info? 63).map (·.size) = some 256 by kernel_rfl]; simp [hs])
    rw [Array.toArray_toList] at this
    exact this
  · obtain ⟨a0, a1, a2, a3⟩ := hc h hh
    apply Array.ext_getElem?
    intro j
    simp only [Array.getElem?_extract]
    by_cases hj : j < 4
    · have hj4 : j = 0 ∨ j = 1 ∨ j = 2 ∨ j = 3 := by omega
      rcases hj4 with rfl | rfl | rfl | rfl <;> simp only [Array.size_extract, hs]
      · rw [if_pos (by omega), if_pos (by omega), show 32 + (h * 4 + 0) = 32 + h * 4 by omega, a0]; rfl
      · rw [if_pos (by omega), if_pos (by omega), show 32 + (h * 4 + 1) = 32 + h * 4 + 1 by omega, a1]; rfl
      · rw [if_pos (by omega), if_pos (by omega), show 32 + (h * 4 + 2) = 32 + h * 4 + 2 by omega, a2]; rfl
      · rw [if_pos (by omega), if_pos (by omega), show 32 + (h * 4 + 3) = 32 + h * 4 + 3 by omega, a3]; rfl
    · rw [if_neg (by simp only [Array.size_extract, hs]; omega)]
      rw [Array.getElem?_eq_none (by simp; omega)]

end Go.Proofs.Ytjibcecekjmnlaa
