/- The law's own model of a ledger: a function is set. -/
import Derived.Test.YtjibcecekjmnlaaModSet
namespace Go.Proofs.Ytjibcecekjmnlaa
open Go.RowKit Go.Kpt
set_option linter.unusedVariables false

set_option maxHeartbeats 2000000 in
theorem msetF_arg (mb : Nat) (f a n : Int) (hr : ¬ ((0 ≤ f ∧ f < 64) ∧ (0 ≤ a ∧ a < 16) ∧ 0 ≤ n ∧ n ≤ 1000)) (w : World) :
    Calls Try.prog 18 #[.pointer (some ⟨mb, 0, none⟩), .int .i64 f, .int .i64 a, .int .i64 n] w fun e w' => e = .returned (.int .i64 1) ∧ w = w' := by
  have hways : f < 0 ∨ (¬ f < 0 ∧ 63 < f) ∨ (¬ f < 0 ∧ ¬ 63 < f ∧ a < 0) ∨ (¬ f < 0 ∧ ¬ 63 < f ∧ ¬ a < 0 ∧ 15 < a) ∨ (¬ f < 0 ∧ ¬ 63 < f ∧ ¬ a < 0 ∧ ¬ 15 < a ∧ n < 0) ∨ (¬ f < 0 ∧ ¬ 63 < f ∧ ¬ a < 0 ∧ ¬ 15 < a ∧ ¬ n < 0 ∧ 1000 < n) := by omega
  clear hr
  rcases hways with h1 | ⟨h1, h2⟩ | ⟨h1, h2, h3⟩ | ⟨h1, h2, h3, h4⟩ | ⟨h1, h2, h3, h4, h5⟩ | ⟨h1, h2, h3, h4, h5, h6⟩
  all_goals
    go_enter Try.func18, Try.ntmps18
    go_wp2_with fail
    go_ret
    exact ⟨rfl, rfl⟩

set_option maxRecDepth 100000 in
set_option maxHeartbeats 4000000 in
/-- Behind the model's two looks: the sum, the test, the store. Of a function that is there (b) or not. -/
theorem msetF_in (mb lb fb : Nat) (s : Lg) (n : Nat) (hs : Ok s n) (i j : Nat) (hi : i < 64) (hj : j < 16) (l : Int) (hl0 : 0 ≤ l) (hl1 : l ≤ 1000) (w : World) (h : Md w mb lb fb s n) :
    Calls Try.prog 18 #[.pointer (some ⟨mb, 0, none⟩), .int .i64 (i : Int), .int .i64 (j : Int), .int .i64 l] w fun e w' => e = .returned (.int .i64 (setFI s i j l).1) ∧ Md w' mb lb fb (setFI s i j l).2 (n + 1) ∧ Kept (In2 lb fb) w w' := by
  unfold setFI
  rw [if_pos (by omega)]
  simp only [Int.toNat_natCast]
  have h1 : ¬ (63 : Int) < i := by omega
  have h2 : ¬ (15 : Int) < j := by omega
  have h3 : ¬ l < 0 := by omega
  have h4 : ¬ 1000 < l := by omega
  have hwi : (Lit.int .i64 (i : Int)).wf = true := WalkArith.wf_i64 (by omega)
  have hwj : (Lit.int .i64 (j : Int)).wf = true := WalkArith.wf_i64 (by omega)
  have hn1000 := hs.le
  obtain ⟨c0, c1⟩ := h.cells
  obtain ⟨cl, hcl, hl⟩ := h.lm
  obtain ⟨cf, hcf, hf⟩ := h.fm
  have hml := mL_in s j hj
  have hmf := mF_in s i hi
  cases hta : (s.ac j).th
  · rw [if_pos rfl]
    rw [hta] at hml
    have hml : mL s (j : Int) = none := hml
    go_enter Try.func18, Try.ntmps18
    go_wp2_with ((at_lookup; refine wpList_ml_look _ rfl _ _ rfl lb cl s rfl hl (j : Int) rfl hwj 0 false (by rw [hml]; rfl) (by rw [hml]; rfl) ?_))
    go_ret
    exact ⟨rfl, h.mono (by omega), Kept.refl _ _⟩
  rw [if_neg (by simp)]
  rw [hta] at hml
  have hml : mL s (j : Int) = some (s.ac j).lim := hml
  have hml1 : (mL s (j : Int)).getD 0 = (s.ac j).lim := by rw [hml]; rfl
  have hml2 : (mL s (j : Int)).isSome = true := by rw [hml]; rfl
  obtain ⟨g1, g2, g3, g4, g5⟩ := hs.fs i hi
  obtain ⟨l1, l2⟩ := hs.ac j hj
  by_cases hst : (s.fs i).th = true ∧ (s.fs i).acc ≠ j
  · rw [if_pos hst]
    rw [hst.1] at hmf
    have hmf : mF s (i : Int) = some (((s.fs i).acc : Int), (s.fs i).res, (s.fs i).bu) := hmf
    have hb : Below w.heap.size w (w.alloc (.cells #[.int .i64 (s.fs i).acc, .int .i64 (s.fs i).res, .int .i64 (s.fs i).bu] 46)) := (Below.refl _ _).alloc (Nat.le_refl _) _
    have hM := (h.below hb).mono (show n ≤ n + 1 by omega)
    have hk : Kept (In2 lb fb) w _ := Kept.of_below hb
    have d1 : (((s.fs i).acc : Int) == (j : Int)) = false := by simp; omega
    clear h
    go_enter Try.func18, Try.ntmps18
    go_wp2_with (first
      | (at_lookup; refine wpList_ml_look _ rfl _ _ rfl lb cl s rfl hl (j : Int) rfl hwj (s.ac j).lim true (by rw [hml]; rfl) (by rw [hml]; rfl) ?_)
      | (at_lookup; refine wpList_mf_look _ rfl _ _ rfl fb cf s rfl hf (i : Int) rfl hwi (s.fs i).acc (s.fs i).res (s.fs i).bu true (by rw [hmf]; rfl) (by rw [hmf]; rfl) ?_))
    go_ret
    exact ⟨rfl, hM, hk⟩
  rw [if_neg hst]
  have hsum := fun W (hW : Md W mb lb fb s n) => sum_any mb lb fb s n hs (j : Int) j (fun k _ => by omega) W hW
  have hrb := rs_bd hs.good.1 j 64 (by omega)
  -- what the local function holds behind the look
  obtain ⟨A, R, U, b, hA, hAb, hAz, hR, hU, hg1, hg2⟩ : ∃ (A R U : Int) (b : Bool), (s.fs i).th = b ∧ (b = true → A = (j : Int)) ∧ (b = false → R = 0) ∧ (s.fs i).res = R ∧ (s.fs i).bu = U ∧ (mF s (i : Int)).getD (0, 0, 0) = (A, R, U) ∧ (mF s (i : Int)).isSome = b := by
    cases ht : (s.fs i).th
    · rw [ht] at hmf
      have hmf : mF s (i : Int) = none := hmf
      have := hs.un i hi ht
      exact ⟨0, 0, 0, false, rfl, (fun h => by cases h), (fun _ => rfl), this.1, this.2, by rw [hmf]; rfl, by rw [hmf]; rfl⟩
    · rw [ht] at hmf
      have hmf : mF s (i : Int) = some (((s.fs i).acc : Int), (s.fs i).res, (s.fs i).bu) := hmf
      refine ⟨(s.fs i).acc, (s.fs i).res, (s.fs i).bu, true, rfl, fun _ => ?_, fun h => (by cases h), rfl, rfl, by rw [hmf]; rfl, by rw [hmf]; rfl⟩
      have : (s.fs i).acc = j := Decidable.byContradiction fun h => hst ⟨ht, h⟩
      omega
  have HP := Lib.hid (show ∀ W W' c, Md W mb lb fb s n → c ≤ n + 1 → Gm funE Try.prog 3 W' fb c (gput (mF s) (i : Int) ((j : Int), l, (s.fs i).bu)) → Kept (fun x => x = fb) W W' → Md W' mb lb fb (s.setF i ⟨true, j, l, (s.fs i).bu⟩) (n + 1) from fun W W' c hW hc hg k => hW.putF i hi ⟨true, j, l, (s.fs i).bu⟩ rfl c hc hg k)
  rw [hR] at g2 g3 ⊢
  rw [hU] at g4 g5 HP ⊢
  generalize rs s.fs j 64 = S at *
  generalize bs s.fs j 64 = S1 at *
  generalize os s.fs j 64 = S2 at *
  generalize (s.ac j).lim = L at *
  generalize s.setF i ⟨true, j, l, U⟩ = s' at *
  have hord := h.ord
  obtain ⟨xb, hxb⟩ : ∃ xb, w.heap.size = xb := ⟨_, rfl⟩
  have hmx : mb < xb := by rw [← hxb]; exact h.lt
  have hbl : Below xb w (w.alloc (.cells #[.int .i64 A, .int .i64 R, .int .i64 U] 46)) := by rw [← hxb]; exact (Below.refl _ _).alloc (Nat.le_refl _) _
  have hblk : (w.alloc (.cells #[.int .i64 A, .int .i64 R, .int .i64 U] 46)).heap[xb]? = some (.cells #[.int .i64 A, .int .i64 R, .int .i64 U] 46 (0, 0)) := by rw [← hxb]; exact heap_alloc_new _ _
  have hM : Md (w.alloc (.cells #[.int .i64 A, .int .i64 R, .int .i64 U] 46)) mb lb fb s n := h.below (by rw [hxb]; exact hbl)
  have HX := Lib.hid hxb
  have hnx : ∀ x, x = mb ∨ x = lb ∨ x = fb → ¬ x = xb := fun x hx hh => by omega
  clear hst hA hR hU hta hmf hml hs
  have hcase : (b = false ∧ R = 0) ∨ (b = true ∧ A = (j : Int)) := by cases b; exact .inl ⟨rfl, hAz rfl⟩; exact .inr ⟨rfl, hAb rfl⟩
  have hd : ¬ S - R + l > 2000000000 := by omega
  obtain ⟨res, hres⟩ : ∃ r, (if L < S - R + l then ((4 : Int), s) else (0, s')) = r := ⟨_, rfl⟩
  rw [hres]
  have HRS := Lib.hid hres
  clear hres
  go_enter Try.func18, Try.ntmps18
  go_upto_region 7 with (first
      | (at_lookup; refine wpList_ml_look _ rfl _ _ rfl lb cl s rfl hl (j : Int) rfl hwj L true hml1 hml2 ?_)
      | (at_lookup; refine wpList_mf_look _ rfl _ _ rfl fb cf s rfl hf (i : Int) rfl hwi A R U b hg1 hg2 ?_))
  try simp only [hxb]
  obtain ⟨w1, hw1⟩ : ∃ w1, w.alloc (.cells #[.int .i64 A, .int .i64 R, .int .i64 U] 46) = w1 := ⟨_, rfl⟩
  rw [hw1] at hbl hblk hM
  try simp only [hw1]
  clear hw1 hf hl h hxb c0 c1 hg1 hg2 hml1 hml2 hd hAb hAz
  have x0 : w1.cell? ⟨xb, 0, none⟩ = some (.int .i64 A) := cell_of hblk
  have HS := Lib.hid hsum
  clear hsum
  -- behind the sum: one end for both ways
  have HE := Lib.hid (show ∀ w2, Below w1.heap.size w1 w2 → Md w2 mb lb fb s n ∧ w2.heap[xb]? = some (.cells #[.int .i64 A, .int .i64 R, .int .i64 U] 46 (0, 0)) ∧ Below xb w w2 from fun w2 hB2 => ⟨hM.below hB2, (hB2.block xb (lt_of hblk)).trans hblk, hbl.trans (hB2.mono (by have := lt_of hblk; omega))⟩)
  have hM1 := HS.out w1 hM
  clear hM hblk hbl HS
  by_cases hlt : L < S - R + l
  · have hres := HRS.out
    clear HRS
    rw [if_pos hlt] at hres
    subst hres
    rcases hcase with ⟨rfl, rfl⟩ | ⟨rfl, rfl⟩
    all_goals
      go_wp2_with fail
      refine hM1.mono ?_
      rintro e w2 ⟨rfl, hB2⟩
      obtain ⟨hM2, hblk2, hbl2⟩ := HE.out w2 hB2
      have x1 : w2.cell? ⟨xb, 1, none⟩ = some (.int .i64 _) := cell_of hblk2
      clear x0 hM1 HE hB2 hblk2
      go_wp2_with fail
      go_ret
      exact ⟨rfl, hM2.mono (by omega), Kept.of_below (by rw [HX.out]; exact hbl2)⟩
  · have hres := HRS.out
    clear HRS
    rw [if_neg hlt] at hres
    subst hres
    rcases hcase with ⟨rfl, rfl⟩ | ⟨rfl, rfl⟩
    all_goals
      go_wp2_with fail
      refine hM1.mono ?_
      rintro e w2 ⟨rfl, hB2⟩
      obtain ⟨hM2, hblk2, hbl2⟩ := HE.out w2 hB2
      have x1 : w2.cell? ⟨xb, 1, none⟩ = some (.int .i64 _) := cell_of hblk2
      have y0 : w2.cell? ⟨xb, 0, none⟩ = some (.int .i64 _) := cell_of hblk2
      have f0 : w2.frozen? ⟨xb, 0, none⟩ = false := frozen_of hblk2
      have f1 : w2.frozen? ⟨xb, 1, none⟩ = false := frozen_of hblk2
      have hks : Kept (fun x => x = xb) w2 ((w2.setCell ⟨xb, 0, none⟩ (.int .i64 (j : Int))).setCell ⟨xb, 1, none⟩ (.int .i64 l)) := (Kept.set1 w2 xb 0 (.int .i64 (j : Int))).trans (Kept.set1 (w2.setCell ⟨xb, 0, none⟩ (.int .i64 (j : Int))) xb 1 (.int .i64 l)) (fun _ _ h => h)
      have hb3 : ((w2.setCell ⟨xb, 0, none⟩ (.int .i64 (j : Int))).setCell ⟨xb, 1, none⟩ (.int .i64 l)).heap[xb]? = some (.cells #[.int .i64 (j : Int), .int .i64 l, .int .i64 U] 46 (0, 0)) := set_same (i := 1) _ (set_same (i := 0) _ hblk2)
      have hxl := lt_of hblk2
      have hM3 := hM2.kept hks hnx
      have hbl3 := hbl2.trans (hks.below (B := xb) (Nat.le_of_lt hxl) (fun x (hx : x < xb) (hh : x = xb) => Nat.lt_irrefl _ (hh ▸ hx)))
      clear hxl
      clear x0 hM1 HE hB2 hblk2 hks hbl2 hM2
      go_upto_region 16 with fail
      obtain ⟨w3, hw3⟩ : ∃ v, (w2.setCell ⟨xb, 0, none⟩ (.int .i64 (j : Int))).setCell ⟨xb, 1, none⟩ (.int .i64 l) = v := ⟨_, rfl⟩
      rw [hw3] at hb3 hM3 hbl3
      try simp only [hw3]
      clear hw3 x1 y0 f0 f1
      obtain ⟨c0, c1⟩ := hM3.cells
      obtain ⟨cf, hcf, hf⟩ := hM3.fm
      obtain ⟨w5, hrun, hm5, hk5⟩ := hf.drew.put_run (t := 49) (et := 46) Try.underlying3 Try.underlying49 (by unfold maxLen; omega) (i : Int) (((j : Int), l, U) : Tr) hwi
      have hrun : (Instr.mapUpdate 49 (.map (some fb)) (.int .i64 (i : Int)) (.agg #[.int .i64 (j : Int), .int .i64 l, .int .i64 U])).run Try.prog w3.drew = .ok () w5 := hrun
      have x0 : w3.cell? ⟨xb, 0, none⟩ = some (.int .i64 (j : Int)) := cell_of hb3
      have x1 : w3.cell? ⟨xb, 1, none⟩ = some (.int .i64 l) := cell_of hb3
      have x2 : w3.cell? ⟨xb, 2, none⟩ = some (.int .i64 U) := cell_of hb3
      have hk6 : Kept (fun x => x = fb) w3 w5 := ((Kept.refl (fun x => x = fb) w3).drew).trans hk5 (fun _ _ h => h)
      have hfin := HP.out w3 w5 (if (mF s (i : Int)).isSome = true then cf else cf + 1) hM3 (by split <;> omega) hm5 hk6
      have hkf : Kept (In2 lb fb) w w5 := (Kept.of_below (by rw [HX.out]; exact hbl3)).trans hk6 (fun x _ hx => .inr hx)
      have HF := Lib.hid (And.intro hfin hkf)
      clear hfin hkf hk6 hk5 hm5 hf hM3 hb3 hbl3 HP
      go_region
      all_goals
        go_wp2
        go_ret
        exact ⟨rfl, HF.out⟩

theorem msetF_any (mb lb fb : Nat) (s : Lg) (n : Nat) (hs : Ok s n) (f a l : Int) (w : World) (h : Md w mb lb fb s n) :
    Calls Try.prog 18 #[.pointer (some ⟨mb, 0, none⟩), .int .i64 f, .int .i64 a, .int .i64 l] w fun e w' => e = .returned (.int .i64 (setFI s f a l).1) ∧ Md w' mb lb fb (setFI s f a l).2 (n + 1) ∧ Kept (In2 lb fb) w w' := by
  by_cases hr : (0 ≤ f ∧ f < 64) ∧ (0 ≤ a ∧ a < 16) ∧ 0 ≤ l ∧ l ≤ 1000
  · obtain ⟨i, rfl⟩ : ∃ j : Nat, f = j := ⟨f.toNat, by omega⟩
    obtain ⟨j, rfl⟩ : ∃ j : Nat, a = j := ⟨a.toNat, by omega⟩
    exact msetF_in mb lb fb s n hs i j (by omega) (by omega) l hr.2.2.1 hr.2.2.2 w h
  · unfold setFI
    rw [if_neg hr]
    exact (msetF_arg mb f a l hr w).mono fun e w' ⟨h1, k⟩ => ⟨h1, k ▸ h.mono (by omega), k ▸ Kept.refl _ _⟩
end Go.Proofs.Ytjibcecekjmnlaa
