/- A ledger's operations. -/
import Derived.Test.YtjibcecekjmnlaaSums
namespace Go.Proofs.Ytjibcecekjmnlaa
open Go.RowKit Go.Kpt
set_option linter.unusedVariables false

def Good (s : Lg) : Prop := (∀ h, h < 64 → goodf (s.fs h)) ∧ ∀ a, a < 16 → 0 ≤ (s.ac a).lim ∧ (s.ac a).lim ≤ 1000

/-- Why a call of a function that is known may not begin; 0: it may. -/
def askR (s : Lg) (f : Nat) : Int :=
  if 0 < (s.fs f).res ∧ (s.fs f).res ≤ (s.fs f).bu then 1
  else if (s.ac (s.fs f).acc).lim ≤ bs s.fs (s.fs f).acc 64 then 2
  else if (s.fs f).res = 0 ∧ (s.ac (s.fs f).acc).lim - rs s.fs (s.fs f).acc 64 ≤ os s.fs (s.fs f).acc 64 then 2
  else 0

set_option maxHeartbeats 1000000 in
theorem ask_none (b : Nat) (s : Lg) (f : Nat) (hl : f < 64) (ht : (s.fs f).th = false) (w : World) (q : Lq w b s) :
    Calls Try.prog 20 #[.pointer (some ⟨b, 0, none⟩), .int .i64 f] w fun e w' => e = .returned (.tuple #[.int .i64 0, .bool false]) ∧ Below w.heap.size w w' := by
  have hk := known_any b s f hl w q
  rw [ht] at hk
  go_enter Try.func20, Try.ntmps20
  go_wp2_with fail
  refine hk.mono ?_
  rintro e w1 ⟨rfl, rfl⟩
  go_wp2_with fail
  go_returns
  exact ⟨rfl, Below.refl _ _⟩

set_option maxRecDepth 100000 in
set_option maxHeartbeats 4000000 in
theorem ask_any (b : Nat) (s : Lg) (hg : Good s) (f : Nat) (hl : f < 64) (ht : (s.fs f).th = true) (w : World) (q : Lq w b s) :
    Calls Try.prog 20 #[.pointer (some ⟨b, 0, none⟩), .int .i64 f] w fun e w' => e = .returned (.tuple #[.int .i64 (askR s f), .bool true]) ∧ Below w.heap.size w w' := by
  have hk := known_any b s f hl w q
  rw [ht] at hk
  have hlt := q.lt
  have hl' : (f : Int) < 64 := by omega
  have hgf := hg.1 f hl
  have hga := hg.2 (s.fs f).acc hgf.1
  obtain ⟨c0, c1, c2, c3⟩ := q.fcell f hl
  obtain ⟨a0, a1⟩ := q.acell (s.fs f).acc hgf.1
  have hsum := fun W (h : Lq W b s) => sums_any b s hg.1 (s.fs f).acc W h
  have hrb := rs_bd hg.1 (s.fs f).acc 64 (by omega)
  have hbb := bs_bd hg.1 (s.fs f).acc 64 (by omega)
  have hob := os_bd hg.1 (s.fs f).acc 64 (by omega)
  obtain ⟨r, hr⟩ : ∃ r, askR s f = r := ⟨_, rfl⟩
  rw [hr]
  unfold askR at hr
  rw [ht] at c0
  generalize rs s.fs (s.fs f).acc 64 = R at *
  generalize bs s.fs (s.fs f).acc 64 = B at *
  generalize os s.fs (s.fs f).acc 64 = O at *
  generalize (s.ac (s.fs f).acc).lim = L at *
  rcases hf : s.fs f with ⟨th, acc, res, bu⟩
  rw [hf] at hgf ht c1 c2 c3 a0 a1 hsum hr
  unfold goodf at hgf
  dsimp only at hgf ht c1 c2 c3 a0 a1 hsum hr
  subst ht
  obtain ⟨g1, g2, g3, g4, g5⟩ := hgf
  clear hf hg
  have hacc' : (acc : Int) < 16 := by omega
  have hbn : ¬ b = w.heap.size := by omega
  have hq2 : Lq (w.alloc (.cells #[.bool true, .int .i64 acc, .int .i64 res, .int .i64 bu] 62)) b s := q.below ((Below.refl _ _).alloc (Nat.le_refl _) _)
  obtain ⟨d0, d1⟩ : (w.alloc (.cells #[.bool true, .int .i64 acc, .int .i64 res, .int .i64 bu] 62)).cell? ⟨b, acc * 2, none⟩ = some (.bool (s.ac acc).th) ∧ (w.alloc (.cells #[.bool true, .int .i64 acc, .int .i64 res, .int .i64 bu] 62)).cell? ⟨b, acc * 2 + 1, none⟩ = some (.int .i64 L) :=
    ⟨(World.cell?_alloc_lt _ _ _ hlt).trans a0, (World.cell?_alloc_lt _ _ _ hlt).trans a1⟩
  have HM : ∀ W, Below (w.alloc (.cells #[.bool true, .int .i64 acc, .int .i64 res, .int .i64 bu] 62)).heap.size (w.alloc (.cells #[.bool true, .int .i64 acc, .int .i64 res, .int .i64 bu] 62)) W → W.cell? ⟨w.heap.size, 1, none⟩ = some (.int .i64 acc) ∧ W.cell? ⟨w.heap.size, 2, none⟩ = some (.int .i64 res) ∧ W.cell? ⟨w.heap.size, 3, none⟩ = some (.int .i64 bu) := fun W hW => by
    have hb : W.heap[w.heap.size]? = some (.cells #[.bool true, .int .i64 acc, .int .i64 res, .int .i64 bu] 62 (0, 0)) := (hW.block _ (by simp)).trans (heap_alloc_new _ _)
    exact ⟨cell_of hb, cell_of hb, cell_of hb⟩
  have HM := Lib.hid HM
  have hBal : Below w.heap.size w (w.alloc (.cells #[.bool true, .int .i64 acc, .int .i64 res, .int .i64 bu] 62)) := (Below.refl _ _).alloc (Nat.le_refl _) _
  have HB := Lib.hid hBal
  have HQ := Lib.hid hq2
  clear hq2 hBal q a0 a1
  have hways : (0 < res ∧ res ≤ bu ∧ r = 1) ∨ (0 < res ∧ bu < res ∧ L ≤ B ∧ r = 2) ∨ (0 < res ∧ bu < res ∧ B < L ∧ (res == 0) = false ∧ r = 0) ∨ (res = 0 ∧ L ≤ B ∧ r = 2) ∨ (res = 0 ∧ B < L ∧ L - R ≤ O ∧ r = 2) ∨ (res = 0 ∧ B < L ∧ O < L - R ∧ r = 0) := by
    rw [← hr]
    by_cases h1 : 0 < res
    · by_cases h2 : res ≤ bu
      · left; exact ⟨h1, h2, if_pos ⟨h1, h2⟩⟩
      · rw [if_neg (fun h => h2 h.2)]
        by_cases h3 : L ≤ B
        · right; left; exact ⟨h1, by omega, h3, if_pos h3⟩
        · right; right; left
          rw [if_neg h3, if_neg (by omega)]
          exact ⟨h1, by omega, by omega, by simp; omega, rfl⟩
    · have h0 : res = 0 := by omega
      rw [if_neg (fun h => h1 h.1)]
      by_cases h3 : L ≤ B
      · right; right; right; left; exact ⟨h0, h3, if_pos h3⟩
      · rw [if_neg h3]
        by_cases h4 : L - R ≤ O
        · right; right; right; right; left; exact ⟨h0, by omega, h4, if_pos ⟨h0, h4⟩⟩
        · right; right; right; right; right; exact ⟨h0, by omega, by omega, if_neg (by omega)⟩
  clear hr
  rcases hways with ⟨p1, p2, rfl⟩ | ⟨p1, p2, p3, rfl⟩ | ⟨p1, p2, p3, p4, rfl⟩ | ⟨rfl, p3, rfl⟩ | ⟨rfl, p3, p4, rfl⟩ | ⟨rfl, p3, p4, rfl⟩
  · go_enter Try.func20, Try.ntmps20
    go_wp2_with fail
    refine hk.mono ?_
    rintro e w1 ⟨rfl, rfl⟩
    go_wp2_with fail
    go_quiet (fail)
    obtain ⟨v, hv⟩ : ∃ v, (w.alloc (.cells #[.bool true, .int .i64 acc, .int .i64 res, .int .i64 bu] 62)) = v := ⟨_, rfl⟩
    have hqv := HQ.out
    have hBv := HB.out
    have hMv := HM.out
    rw [hv] at hqv hBv hMv ⊢
    clear HM HQ HB d0 d1
    have hqv := hqv.below (below_drewN (Below.refl _ _) nq)
    have hBv := below_drewN hBv nq
    obtain ⟨m1, m2, m3⟩ := hMv _ (below_drewN (Below.refl _ _) nq)
    have hMv := fun W (h : Below (v.drewN nq).heap.size (v.drewN nq) W) => hMv W ((below_drewN (Below.refl v.heap.size v) nq).trans h)
    have HMv := Lib.hid hMv
    clear hMv hv
    generalize v.drewN nq = v1 at *
    go_wp2_with fail
    refine (hsum _ hqv).mono ?_
    rintro e v2 ⟨rfl, hB2⟩
    have hBw := hBv.trans (hB2.mono hBv.size)
    clear m1 m2 m3
    obtain ⟨m1, m2, m3⟩ := HMv.out v2 hB2
    clear HMv
    go_wp2_with fail
    go_returns
    exact ⟨rfl, hBw⟩
  · have p2' : ¬ res ≤ bu := by omega
    go_enter Try.func20, Try.ntmps20
    go_wp2_with fail
    refine hk.mono ?_
    rintro e w1 ⟨rfl, rfl⟩
    go_wp2_with fail
    go_quiet (fail)
    obtain ⟨v, hv⟩ : ∃ v, (w.alloc (.cells #[.bool true, .int .i64 acc, .int .i64 res, .int .i64 bu] 62)) = v := ⟨_, rfl⟩
    have hqv := HQ.out
    have hBv := HB.out
    have hMv := HM.out
    rw [hv] at hqv hBv hMv ⊢
    clear HM HQ HB d0 d1
    have hqv := hqv.below (below_drewN (Below.refl _ _) nq)
    have hBv := below_drewN hBv nq
    obtain ⟨m1, m2, m3⟩ := hMv _ (below_drewN (Below.refl _ _) nq)
    have hMv := fun W (h : Below (v.drewN nq).heap.size (v.drewN nq) W) => hMv W ((below_drewN (Below.refl v.heap.size v) nq).trans h)
    have HMv := Lib.hid hMv
    clear hMv hv
    generalize v.drewN nq = v1 at *
    go_wp2_with fail
    refine (hsum _ hqv).mono ?_
    rintro e v2 ⟨rfl, hB2⟩
    have hBw := hBv.trans (hB2.mono hBv.size)
    clear m1 m2 m3
    obtain ⟨m1, m2, m3⟩ := HMv.out v2 hB2
    clear HMv
    go_wp2_with fail
    go_returns
    exact ⟨rfl, hBw⟩
  · have p2' : ¬ res ≤ bu := by omega
    have p3' : ¬ L ≤ B := by omega
    go_enter Try.func20, Try.ntmps20
    go_wp2_with fail
    refine hk.mono ?_
    rintro e w1 ⟨rfl, rfl⟩
    go_wp2_with fail
    go_quiet (fail)
    obtain ⟨v, hv⟩ : ∃ v, (w.alloc (.cells #[.bool true, .int .i64 acc, .int .i64 res, .int .i64 bu] 62)) = v := ⟨_, rfl⟩
    have hqv := HQ.out
    have hBv := HB.out
    have hMv := HM.out
    rw [hv] at hqv hBv hMv ⊢
    clear HM HQ HB d0 d1
    have hqv := hqv.below (below_drewN (Below.refl _ _) nq)
    have hBv := below_drewN hBv nq
    obtain ⟨m1, m2, m3⟩ := hMv _ (below_drewN (Below.refl _ _) nq)
    have hMv := fun W (h : Below (v.drewN nq).heap.size (v.drewN nq) W) => hMv W ((below_drewN (Below.refl v.heap.size v) nq).trans h)
    have HMv := Lib.hid hMv
    clear hMv hv
    generalize v.drewN nq = v1 at *
    go_wp2_with fail
    refine (hsum _ hqv).mono ?_
    rintro e v2 ⟨rfl, hB2⟩
    have hBw := hBv.trans (hB2.mono hBv.size)
    clear m1 m2 m3
    obtain ⟨m1, m2, m3⟩ := HMv.out v2 hB2
    clear HMv
    go_wp2_with fail
    go_returns
    exact ⟨rfl, hBw⟩
  · go_enter Try.func20, Try.ntmps20
    go_wp2_with fail
    refine hk.mono ?_
    rintro e w1 ⟨rfl, rfl⟩
    go_wp2_with fail
    go_quiet (fail)
    obtain ⟨v, hv⟩ : ∃ v, (w.alloc (.cells #[.bool true, .int .i64 acc, .int .i64 0, .int .i64 bu] 62)) = v := ⟨_, rfl⟩
    have hqv := HQ.out
    have hBv := HB.out
    have hMv := HM.out
    rw [hv] at hqv hBv hMv ⊢
    clear HM HQ HB d0 d1
    have hqv := hqv.below (below_drewN (Below.refl _ _) nq)
    have hBv := below_drewN hBv nq
    obtain ⟨m1, m2, m3⟩ := hMv _ (below_drewN (Below.refl _ _) nq)
    have hMv := fun W (h : Below (v.drewN nq).heap.size (v.drewN nq) W) => hMv W ((below_drewN (Below.refl v.heap.size v) nq).trans h)
    have HMv := Lib.hid hMv
    clear hMv hv
    generalize v.drewN nq = v1 at *
    go_wp2_with fail
    refine (hsum _ hqv).mono ?_
    rintro e v2 ⟨rfl, hB2⟩
    have hBw := hBv.trans (hB2.mono hBv.size)
    clear m1 m2 m3
    obtain ⟨m1, m2, m3⟩ := HMv.out v2 hB2
    clear HMv
    go_wp2_with fail
    go_returns
    exact ⟨rfl, hBw⟩
  · have p3' : ¬ L ≤ B := by omega
    go_enter Try.func20, Try.ntmps20
    go_wp2_with fail
    refine hk.mono ?_
    rintro e w1 ⟨rfl, rfl⟩
    go_wp2_with fail
    go_quiet (fail)
    obtain ⟨v, hv⟩ : ∃ v, (w.alloc (.cells #[.bool true, .int .i64 acc, .int .i64 0, .int .i64 bu] 62)) = v := ⟨_, rfl⟩
    have hqv := HQ.out
    have hBv := HB.out
    have hMv := HM.out
    rw [hv] at hqv hBv hMv ⊢
    clear HM HQ HB d0 d1
    have hqv := hqv.below (below_drewN (Below.refl _ _) nq)
    have hBv := below_drewN hBv nq
    obtain ⟨m1, m2, m3⟩ := hMv _ (below_drewN (Below.refl _ _) nq)
    have hMv := fun W (h : Below (v.drewN nq).heap.size (v.drewN nq) W) => hMv W ((below_drewN (Below.refl v.heap.size v) nq).trans h)
    have HMv := Lib.hid hMv
    clear hMv hv
    generalize v.drewN nq = v1 at *
    go_wp2_with fail
    refine (hsum _ hqv).mono ?_
    rintro e v2 ⟨rfl, hB2⟩
    have hBw := hBv.trans (hB2.mono hBv.size)
    clear m1 m2 m3
    obtain ⟨m1, m2, m3⟩ := HMv.out v2 hB2
    clear HMv
    go_wp2_with fail
    go_returns
    exact ⟨rfl, hBw⟩
  · have p3' : ¬ L ≤ B := by omega
    have p4' : ¬ L - R ≤ O := by omega
    go_enter Try.func20, Try.ntmps20
    go_wp2_with fail
    refine hk.mono ?_
    rintro e w1 ⟨rfl, rfl⟩
    go_wp2_with fail
    go_quiet (fail)
    obtain ⟨v, hv⟩ : ∃ v, (w.alloc (.cells #[.bool true, .int .i64 acc, .int .i64 0, .int .i64 bu] 62)) = v := ⟨_, rfl⟩
    have hqv := HQ.out
    have hBv := HB.out
    have hMv := HM.out
    rw [hv] at hqv hBv hMv ⊢
    clear HM HQ HB d0 d1
    have hqv := hqv.below (below_drewN (Below.refl _ _) nq)
    have hBv := below_drewN hBv nq
    obtain ⟨m1, m2, m3⟩ := hMv _ (below_drewN (Below.refl _ _) nq)
    have hMv := fun W (h : Below (v.drewN nq).heap.size (v.drewN nq) W) => hMv W ((below_drewN (Below.refl v.heap.size v) nq).trans h)
    have HMv := Lib.hid hMv
    clear hMv hv
    generalize v.drewN nq = v1 at *
    go_wp2_with fail
    refine (hsum _ hqv).mono ?_
    rintro e v2 ⟨rfl, hB2⟩
    have hBw := hBv.trans (hB2.mono hBv.size)
    clear m1 m2 m3
    obtain ⟨m1, m2, m3⟩ := HMv.out v2 hB2
    clear HMv
    go_wp2_with fail
    go_returns
    exact ⟨rfl, hBw⟩

set_option maxHeartbeats 2000000 in
theorem begin_f0 (b : Nat) (s : Lg) (f : Nat) (hl : f < 64) (ht : (s.fs f).th = false) (w : World) (q : Lq w b s) :
    Calls Try.prog 12 #[.pointer (some ⟨b, 0, none⟩), .int .i64 f] w fun e w' => e = .returned (.bool false) ∧ Below w.heap.size w w' := by
  have hk := ask_none b s f hl ht w q
  go_enter Try.func12, Try.ntmps12
  go_wp2_with fail
  refine hk.mono ?_
  rintro e w1 ⟨rfl, hB⟩
  go_wp2_with fail
  go_ret
  exact ⟨rfl, hB⟩

set_option maxHeartbeats 2000000 in
theorem begin_f (b : Nat) (s : Lg) (hg : Good s) (f : Nat) (hl : f < 64) (ht : (s.fs f).th = true) (hr : askR s f ≠ 0) (w : World) (q : Lq w b s) :
    Calls Try.prog 12 #[.pointer (some ⟨b, 0, none⟩), .int .i64 f] w fun e w' => e = .returned (.bool false) ∧ Below w.heap.size w w' := by
  have hk := ask_any b s hg f hl ht w q
  generalize askR s f = r at *
  have hr' : (r == 0) = false := by simp [hr]
  clear hr
  go_enter Try.func12, Try.ntmps12
  go_wp2_with fail
  refine hk.mono ?_
  rintro e w1 ⟨rfl, hB⟩
  go_wp2_with fail
  go_ret
  exact ⟨rfl, hB⟩

set_option maxHeartbeats 2000000 in
theorem begin_t (b : Nat) (s : Lg) (hg : Good s) (f : Nat) (hl : f < 64) (ht : (s.fs f).th = true) (hr : askR s f = 0) (w : World) (q : Lq w b s) :
    Calls Try.prog 12 #[.pointer (some ⟨b, 0, none⟩), .int .i64 f] w fun e w' => e = .returned (.bool true) ∧ Lq w' b (s.setF f { s.fs f with bu := (s.fs f).bu + 1 }) ∧ Kept (fun x => x = b) w w' := by
  have hk := ask_any b s hg f hl ht w q
  rw [hr] at hk
  have hl' : (f : Int) < 64 := by omega
  have hgf := hg.1 f hl
  unfold goodf at hgf
  obtain ⟨g1, g2, g3, g4, g5⟩ := hgf
  go_enter Try.func12, Try.ntmps12
  go_wp2_with fail
  refine hk.mono ?_
  rintro e w1 ⟨rfl, hB⟩
  have q1 := q.below hB
  obtain ⟨c0, c1, c2, c3⟩ := q1.fcell f hl
  have f3 := q1.frozen (32 + f * 4 + 3)
  have HR : Hid (∀ v, Lq (w1.setCell ⟨b, 32 + f * 4 + 3, none⟩ (.int .i64 v)) b (s.setF f { s.fs f with bu := v }) ∧ Kept (fun x => x = b) w (w1.setCell ⟨b, 32 + f * 4 + 3, none⟩ (.int .i64 v))) := fun v => ⟨q1.setBu f hl v, Kept.setb (Kept.of_below hB) _ _⟩
  clear hk hr q q1 hB hg ht
  go_wp2_with fail
  go_region
  all_goals
    go_wp2
    go_ret
    exact ⟨rfl, (HR.out _).1.below (Below.refl _ _).drew, ((HR.out _).2).drew⟩

set_option maxHeartbeats 2000000 in
theorem end_t (b : Nat) (s : Lg) (f : Nat) (hl : f < 64) (hgf : goodf (s.fs f)) (ht : (s.fs f).th = true) (hr : (s.fs f).bu ≠ 0) (w : World) (q : Lq w b s) :
    Calls Try.prog 13 #[.pointer (some ⟨b, 0, none⟩), .int .i64 f] w fun e w' => e = .returned (.bool true) ∧ Lq w' b (s.setF f { s.fs f with bu := (s.fs f).bu - 1 }) ∧ Kept (fun x => x = b) w w' := by
  have hk := known_any b s f hl w q
  rw [ht] at hk
  have hl' : (f : Int) < 64 := by omega
  unfold goodf at hgf
  obtain ⟨g1, g2, g3, g4, g5⟩ := hgf
  have hr' : ((s.fs f).bu == 0) = false := by simp [hr]
  obtain ⟨c0, c1, c2, c3⟩ := q.fcell f hl
  have f3 := q.frozen (32 + f * 4 + 3)
  have HR : Hid (∀ v, Lq (w.setCell ⟨b, 32 + f * 4 + 3, none⟩ (.int .i64 v)) b (s.setF f { s.fs f with bu := v }) ∧ Kept (fun x => x = b) w (w.setCell ⟨b, 32 + f * 4 + 3, none⟩ (.int .i64 v))) := fun v => ⟨q.setBu f hl v, Kept.setb (Kept.refl _ _) _ _⟩
  clear q hr
  go_enter Try.func13, Try.ntmps13
  go_wp2_with fail
  refine hk.mono ?_
  rintro e w1 ⟨rfl, rfl⟩
  clear hk
  go_wp2_with fail
  go_region
  all_goals
    go_wp2
    go_ret
    exact ⟨rfl, (HR.out _).1.below (Below.refl _ _).drew, ((HR.out _).2).drew⟩

set_option maxHeartbeats 2000000 in
theorem end_f (b : Nat) (s : Lg) (f : Nat) (hl : f < 64) (hr : (s.fs f).th = false ∨ (s.fs f).bu = 0) (w : World) (q : Lq w b s) :
    Calls Try.prog 13 #[.pointer (some ⟨b, 0, none⟩), .int .i64 f] w fun e w' => e = .returned (.bool false) ∧ w = w' := by
  have hk := known_any b s f hl w q
  have hl' : (f : Int) < 64 := by omega
  obtain ⟨c0, c1, c2, c3⟩ := q.fcell f hl
  cases ht : (s.fs f).th
  · rw [ht] at hk
    go_enter Try.func13, Try.ntmps13
    go_wp2_with fail
    refine hk.mono ?_
    rintro e w1 ⟨rfl, rfl⟩
    go_wp2_with fail
    go_ret
    exact ⟨rfl, rfl⟩
  · have hr : (s.fs f).bu = 0 := by rcases hr with h | h; rw [ht] at h; cases h; exact h
    rw [ht] at hk
    rw [hr] at c3
    go_enter Try.func13, Try.ntmps13
    go_wp2_with fail
    refine hk.mono ?_
    rintro e w1 ⟨rfl, rfl⟩
    go_wp2_with fail
    go_ret
    exact ⟨rfl, rfl⟩

set_option maxHeartbeats 2000000 in
theorem setA_t (b : Nat) (s : Lg) (hg : Good s) (a : Nat) (ha : a < 16) (n : Int) (hn : 0 ≤ n) (hm : n ≤ 1000) (hr : rs s.fs a 64 ≤ n) (w : World) (q : Lq w b s) :
    Calls Try.prog 10 #[.pointer (some ⟨b, 0, none⟩), .int .i64 a, .int .i64 n] w fun e w' => e = .returned (.int .i64 0) ∧ Lq w' b (s.setA a ⟨true, n⟩) ∧ Kept (fun x => x = b) w w' := by
  have hk := sums_any b s hg.1 a w q
  generalize rs s.fs a 64 = R at *
  generalize bs s.fs a 64 = B at *
  generalize os s.fs a 64 = O at *
  have h1 : ¬ (16 : Int) ≤ a := by omega
  have h2 : ¬ n < 0 := by omega
  have h3 : ¬ 1000 < n := by omega
  have h4 : ¬ n < R := by omega
  go_enter Try.func10, Try.ntmps10
  go_wp2_with fail
  refine hk.mono ?_
  rintro e w1 ⟨rfl, hB⟩
  have q1 := q.below hB
  obtain ⟨c0, c1⟩ := q1.acell a ha
  have f0 := q1.frozen (a * 2)
  have f1 := q1.frozen (a * 2 + 1)
  have hq2 := q1.seta a ha true n
  have hk2 := Kept.setb (Kept.setb (Kept.of_below (F := fun x => x = b) hB) (a * 2) (.bool true)) (a * 2 + 1) (.int .i64 n)
  clear hk q q1 hg
  go_wp2_with fail
  go_ret
  exact ⟨rfl, hq2, hk2⟩

set_option maxHeartbeats 2000000 in
theorem setA_f (b : Nat) (s : Lg) (hg : Good s) (a : Nat) (ha : a < 16) (n : Int) (hn : 0 ≤ n) (hm : n ≤ 1000) (hr : n < rs s.fs a 64) (w : World) (q : Lq w b s) :
    Calls Try.prog 10 #[.pointer (some ⟨b, 0, none⟩), .int .i64 a, .int .i64 n] w fun e w' => e = .returned (.int .i64 4) ∧ Below w.heap.size w w' := by
  have hk := sums_any b s hg.1 a w q
  generalize rs s.fs a 64 = R at *
  generalize bs s.fs a 64 = B at *
  generalize os s.fs a 64 = O at *
  have h1 : ¬ (16 : Int) ≤ a := by omega
  have h2 : ¬ n < 0 := by omega
  have h3 : ¬ 1000 < n := by omega
  go_enter Try.func10, Try.ntmps10
  go_wp2_with fail
  refine hk.mono ?_
  rintro e w1 ⟨rfl, hB⟩
  clear hk q hg
  go_wp2_with fail
  go_ret
  exact ⟨rfl, hB⟩
end Go.Proofs.Ytjibcecekjmnlaa
