/- The law's own model of a ledger: its operations. -/
import Derived.Test.YtjibcecekjmnlaaTot
import Derived.Test.YtjibcecekjmnlaaGenRun
namespace Go.Proofs.Ytjibcecekjmnlaa
open Go.RowKit Go.Kpt
set_option linter.unusedVariables false

theorem mL_none_start : mL l0 = fun _ => none := by
  funext k
  unfold mL
  have : (acI l0 k).th = false := by unfold acI; split <;> rfl
  rw [this]; rfl
theorem mF_none_start : mF l0 = fun _ => none := by
  funext k
  unfold mF
  have : (fsI l0 k).th = false := by unfold fsI; split <;> rfl
  rw [this]; rfl
theorem fsI_setF (s : Lg) (h : Nat) (hl : h < 64) (m : Fn) (k : Int) : fsI (s.setF h m) k = if k = (h : Int) then m else fsI s k := by
  unfold fsI
  by_cases hr : 0 ≤ k ∧ k < 64
  · rw [if_pos hr, if_pos hr]
    show put s.fs h m k.toNat = _
    by_cases e : k = (h : Int)
    · rw [if_pos e]; subst e; rw [Int.toNat_natCast, put_same]
    · rw [if_neg e, put_ne _ _ _ _ (by omega)]
  · rw [if_neg hr, if_neg hr, if_neg (by omega)]
theorem acI_setA (s : Lg) (h : Nat) (hl : h < 16) (m : Ac) (k : Int) : acI (s.setA h m) k = if k = (h : Int) then m else acI s k := by
  unfold acI
  by_cases hr : 0 ≤ k ∧ k < 16
  · rw [if_pos hr, if_pos hr]
    show put s.ac h m k.toNat = _
    by_cases e : k = (h : Int)
    · rw [if_pos e]; subst e; rw [Int.toNat_natCast, put_same]
    · rw [if_neg e, put_ne _ _ _ _ (by omega)]
  · rw [if_neg hr, if_neg hr, if_neg (by omega)]
theorem mF_setF (s : Lg) (h : Nat) (hl : h < 64) (m : Fn) (hm : m.th = true) : mF (s.setF h m) = gput (mF s) (h : Int) ((m.acc : Int), m.res, m.bu) := by
  funext k
  unfold mF gput
  rw [fsI_setF s h hl]
  by_cases e : k = (h : Int)
  · rw [if_pos e, if_pos e, if_pos hm]
  · rw [if_neg e, if_neg e]
theorem mL_setA (s : Lg) (h : Nat) (hl : h < 16) (m : Ac) (hm : m.th = true) : mL (s.setA h m) = gput (mL s) (h : Int) m.lim := by
  funext k
  unfold mL gput
  rw [acI_setA s h hl]
  by_cases e : k = (h : Int)
  · rw [if_pos e, if_pos e, if_pos hm]
  · rw [if_neg e, if_neg e]
theorem mL_setF (s : Lg) (h : Nat) (m : Fn) : mL (s.setF h m) = mL s := rfl
theorem mF_setA (s : Lg) (h : Nat) (m : Ac) : mF (s.setA h m) = mF s := rfl
theorem mF_in (s : Lg) (j : Nat) (hj : j < 64) : mF s (j : Int) = if (s.fs j).th then some (((s.fs j).acc : Int), (s.fs j).res, (s.fs j).bu) else none := by unfold mF; rw [fsI_in s j hj]
theorem mL_in (s : Lg) (j : Nat) (hj : j < 16) : mL s (j : Int) = if (s.ac j).th then some (s.ac j).lim else none := by unfold mL; rw [acI_in s j hj]
/-- A function by any number, as the model has it. -/
theorem mF_get {s : Lg} {n : Nat} (hs : Ok s n) (k : Int) : (fsI s k).th = false → (mF s k).getD (0, 0, 0) = (0, 0, 0) ∧ (mF s k).isSome = false := by
  intro h; unfold mF; rw [h]; exact ⟨rfl, rfl⟩

set_option maxHeartbeats 1000000 in
theorem mnew_any (w : World) :
    Calls Try.prog 15 #[] w fun e w' => ∃ mb lb fb, e = .returned (.pointer (some ⟨mb, 0, none⟩)) ∧ Md w' mb lb fb l0 0 ∧ Below w.heap.size w w' ∧ w.heap.size ≤ lb := by
  have hmm := @run_makeMap Try.prog
  have h1 : Gm limE Try.prog 3 (w.alloc (.map #[] 0)) w.heap.size 0 (fun _ => none) := Gm.made limE Try.prog 3 w
  have h2 : Gm funE Try.prog 3 ((w.alloc (.map #[] 0)).alloc (.map #[] 0)) (w.alloc (.map #[] 0)).heap.size 0 (fun _ => none) := Gm.made funE Try.prog 3 _
  have h1' := h1.below (w' := (w.alloc (.map #[] 0)).alloc (.map #[] 0)) ((Below.refl _ _).alloc (Nat.le_refl _) _)
  have hB : Below w.heap.size w ((w.alloc (.map #[] 0)).alloc (.map #[] 0)) := ((Below.refl _ _).alloc (Nat.le_refl _) _).alloc (by simp) _
  have hs1 : (w.alloc (.map #[] 0)).heap.size = w.heap.size + 1 := by simp
  have hs2 : ((w.alloc (.map #[] 0)).alloc (.map #[] 0)).heap.size = w.heap.size + 2 := by simp
  have hfin : ∀ (w2 : World), w2 = ((w.alloc (.map #[] 0)).alloc (.map #[] 0)).alloc (.cells #[.map (some w.heap.size), .map (some (w.heap.size + 1))] 51) →
      Md w2 (w.heap.size + 2) w.heap.size (w.heap.size + 1) l0 0 ∧ Below w.heap.size w w2 := by
    rintro w2 rfl
    have hB2 : Below ((w.alloc (.map #[] 0)).alloc (.map #[] 0)).heap.size ((w.alloc (.map #[] 0)).alloc (.map #[] 0)) (((w.alloc (.map #[] 0)).alloc (.map #[] 0)).alloc (.cells #[.map (some w.heap.size), .map (some (w.heap.size + 1))] 51)) := (Below.refl _ _).alloc (Nat.le_refl _) _
    refine ⟨⟨by rw [← hs2]; exact heap_alloc_new _ _, ⟨0, Nat.le_refl _, ?_⟩, ⟨0, Nat.le_refl _, ?_⟩, by omega, by omega⟩, hB.trans (hB2.mono (by omega))⟩
    · rw [mL_none_start]; exact h1'.below hB2
    · rw [mF_none_start]; rw [hs1] at h2; exact h2.below hB2
  have HF := Lib.hid hfin
  clear hfin h1 h2 h1' hB hs1 hs2
  go_enter Try.func15, Try.ntmps15
  go_wp2_with fail
  go_ret
  refine ⟨_, _, _, rfl, (HF.out _ ?_).1, (HF.out _ ?_).2, Nat.le_refl _⟩ <;> simp

set_option maxRecDepth 100000 in
set_option maxHeartbeats 4000000 in
theorem mask_any (mb lb fb : Nat) (s : Lg) (n : Nat) (hs : Ok s n) (k : Int) (hwk : (Lit.int .i64 k).wf = true) (w : World) (h : Md w mb lb fb s n) :
    Calls Try.prog 16 #[.pointer (some ⟨mb, 0, none⟩), .int .i64 k] w fun e w' => e = .returned (.tuple #[.int .i64 (askI s k).1, .bool (askI s k).2]) ∧ Below w.heap.size w w' := by
  obtain ⟨c0, c1⟩ := h.cells
  obtain ⟨cf, hcf, hf⟩ := h.fm
  cases ht : (fsI s k).th
  · unfold askI
    rw [ht, if_neg (by simp)]
    have hmk : mF s k = none := by unfold mF; rw [ht]; rfl
    have h2 : ∀ X : World → Prop, X w → X w := fun _ h => h
    go_enter Try.func16, Try.ntmps16
    go_wp2_with ((at_lookup; refine wpList_mf_look _ rfl _ _ rfl fb cf s rfl hf k rfl hwk 0 0 0 false (by rw [hmk]; rfl) (by rw [hmk]; rfl) ?_))
    go_returns
    exact ⟨rfl, by go_grown⟩
  · obtain ⟨j, hj, rfl, htj, _⟩ : ∃ j : Nat, j < 64 ∧ k = j ∧ (s.fs j).th = true ∧ True := by
      by_cases hr : 0 ≤ k ∧ k < 64
      · obtain ⟨j, rfl⟩ : ∃ j : Nat, k = j := ⟨k.toNat, by omega⟩
        rw [fsI_in s j (by omega)] at ht
        exact ⟨j, by omega, rfl, ht, trivial⟩
      · rw [fsI_out s k hr] at ht; cases ht
    unfold askI
    rw [ht, if_pos rfl, Int.toNat_natCast]
    have hgf := hs.good.1 j hj
    have hmk : mF s (j : Int) = some (((s.fs j).acc : Int), (s.fs j).res, (s.fs j).bu) := by rw [mF_in s j hj, htj]; rfl
    have hacc := hs.kn j hj htj
    unfold goodf at hgf
    obtain ⟨g1, g2, g3, g4, g5⟩ := hgf
    have hlim : mL s ((s.fs j).acc : Int) = some (s.ac (s.fs j).acc).lim := by rw [mL_in s _ g1, hacc]; rfl
    have hsum := fun W (hW : Md W mb lb fb s n) => sum_any mb lb fb s n hs ((s.fs j).acc : Int) (s.fs j).acc (fun i _ => by omega) W hW
    have hga := hs.ac _ g1
    have hrb := rs_bd hs.good.1 (s.fs j).acc 64 (by omega)
    have hbb := bs_bd hs.good.1 (s.fs j).acc 64 (by omega)
    have hob := os_bd hs.good.1 (s.fs j).acc 64 (by omega)
    obtain ⟨r, hr⟩ : ∃ r, askR s j = r := ⟨_, rfl⟩
    rw [hr]
    unfold askR at hr
    generalize rs s.fs (s.fs j).acc 64 = R at *
    generalize bs s.fs (s.fs j).acc 64 = B at *
    generalize os s.fs (s.fs j).acc 64 = O at *
    generalize (s.ac (s.fs j).acc).lim = L at *
    clear hacc htj ht
    rcases hfj : s.fs j with ⟨th, acc, res, bu⟩
    rw [hfj] at g1 g2 g3 g4 g5 hmk hlim hsum hr
    dsimp only at g1 g2 g3 g4 g5 hmk hlim hsum hr
    clear hfj
    have hwa : (Lit.int .i64 (acc : Int)).wf = true := WalkArith.wf_i64 (by omega)
    obtain ⟨xb, hxb⟩ : ∃ xb, w.heap.size = xb := ⟨_, rfl⟩
    have hmx : mb < xb := by rw [← hxb]; exact h.lt
    have hbl : Below xb w (w.alloc (.cells #[.int .i64 acc, .int .i64 res, .int .i64 bu] 46)) := by rw [← hxb]; exact (Below.refl _ _).alloc (Nat.le_refl _) _
    have hblk : (w.alloc (.cells #[.int .i64 acc, .int .i64 res, .int .i64 bu] 46)).heap[xb]? = some (.cells #[.int .i64 acc, .int .i64 res, .int .i64 bu] 46 (0, 0)) := by rw [← hxb]; exact heap_alloc_new _ _
    have hM : Md (w.alloc (.cells #[.int .i64 acc, .int .i64 res, .int .i64 bu] 46)) mb lb fb s n := h.below (by rw [hxb]; exact hbl)
    have hways : (0 < res ∧ res ≤ bu ∧ r = 1) ∨ (0 < res ∧ bu < res ∧ L ≤ B ∧ r = 2) ∨ (0 < res ∧ bu < res ∧ B < L ∧ (res == 0) = false ∧ r = 0) ∨ (res = 0 ∧ L ≤ B ∧ r = 2) ∨ (res = 0 ∧ B < L ∧ L - R ≤ O ∧ r = 2) ∨ (res = 0 ∧ B < L ∧ O < L - R ∧ r = 0) := by
      rw [← hr]
      by_cases h1 : 0 < res
      · by_cases h2 : res ≤ bu
        · left; exact ⟨h1, h2, if_pos ⟨h1, h2⟩⟩
        · rw [if_neg (fun h => h2 h.2)]
          by_cases h3 : L ≤ B
          · right; left; exact ⟨h1, by omega, h3, if_pos h3⟩
          · right; right; left
            rw [if_neg h3, if_neg (by omega)]
            exact ⟨h1, by omega, by omega, by simp; omega, rfl⟩
      · have h0 : res = 0 := by omega
        rw [if_neg (fun h => h1 h.1)]
        by_cases h3 : L ≤ B
        · right; right; right; left; exact ⟨h0, h3, if_pos h3⟩
        · rw [if_neg h3]
          by_cases h4 : L - R ≤ O
          · right; right; right; right; left; exact ⟨h0, by omega, h4, if_pos ⟨h0, h4⟩⟩
          · right; right; right; right; right; exact ⟨h0, by omega, by omega, if_neg (by omega)⟩
    clear hr
    go_enter Try.func16, Try.ntmps16
    go_wp2_with ((at_lookup; refine wpList_mf_look _ rfl _ _ rfl fb cf s rfl hf (j : Int) rfl hwk acc res bu true (by rw [hmk]; rfl) (by rw [hmk]; rfl) ?_))
    have HX := Lib.hid hxb
    obtain ⟨w1, hw1⟩ : ∃ w1, w.alloc (.cells #[.int .i64 acc, .int .i64 res, .int .i64 bu] 46) = w1 := ⟨_, rfl⟩
    try simp only [hxb]
    rw [hw1] at hbl hblk hM
    try simp only [hw1]
    clear hw1 hf hmk h hxb c0 c1
    refine (hsum w1 hM).mono ?_
    rintro e w2 ⟨rfl, hB2⟩
    have hM2 := hM.below hB2
    have hblk2 := (hB2.block xb (lt_of hblk)).trans hblk
    have hbl2 : Below xb w w2 := hbl.trans (hB2.mono (by have := lt_of hblk; omega))
    obtain ⟨c0, c1⟩ := hM2.cells
    have x0 : w2.cell? ⟨xb, 0, none⟩ = some (.int .i64 acc) := cell_of hblk2
    have x1 : w2.cell? ⟨xb, 1, none⟩ = some (.int .i64 res) := cell_of hblk2
    have x2 : w2.cell? ⟨xb, 2, none⟩ = some (.int .i64 bu) := cell_of hblk2
    obtain ⟨cl, hcl, hl⟩ := hM2.lm
    have hlk : ∀ i, (Instr.lookup 48 (.map (some lb)) (.int .i64 acc) false).run Try.prog (w2.drewN i) = .ok (.int .i64 L) (w2.drewN i) := fun i => hl.look_eq Try.underlying3 Try.underlying48 0 (fun w => by kernel_rfl) (acc : Int) hwa L (by rw [hlim]; rfl) i
    clear hsum hbl hblk hM hB2 hM2 hblk2 hl hlim
    rcases hways with ⟨p1, p2, rfl⟩ | ⟨p1, p2, p3, rfl⟩ | ⟨p1, p2, p3, p4, rfl⟩ | ⟨rfl, p3, rfl⟩ | ⟨rfl, p3, p4, rfl⟩ | ⟨rfl, p3, p4, rfl⟩
    case' inr.inl => have q2 : ¬ res ≤ bu := by omega
    case' inr.inr.inl =>
      have q2 : ¬ res ≤ bu := by omega
      have q3 : ¬ L ≤ B := by omega
    case' inr.inr.inr.inr.inl => have q3 : ¬ L ≤ B := by omega
    case' inr.inr.inr.inr.inr =>
      have q3 : ¬ L ≤ B := by omega
      have q4 : ¬ L - R ≤ O := by omega
    all_goals
      go_wp2_with fail
      go_quiet (fail)
      have hbl3 := below_drewN hbl2 nq
      have y1 : (w2.drewN nq).cell? ⟨xb, 1, none⟩ = _ := x1
      have y2 : (w2.drewN nq).cell? ⟨xb, 2, none⟩ = _ := x2
      clear x0 x1 x2 c0 c1 hlk hbl2
      generalize w2.drewN nq = w3 at *
      go_wp2_with fail
      go_returns
      exact ⟨rfl, by rw [HX.out]; exact hbl3⟩
end Go.Proofs.Ytjibcecekjmnlaa
