/- The law's own model of a ledger: its operations that turn it. -/
import Derived.Test.YtjibcecekjmnlaaModOps
import Derived.Deep.CutRange
import Derived.Deep.CutBlock
namespace Go.Proofs.Ytjibcecekjmnlaa
open Go.RowKit Go.Kpt
set_option linter.unusedVariables false

theorem ok_setA {s : Lg} {n : Nat} (hs : Ok s n) (a : Nat) (l : Int) (h0 : 0 ≤ l) (h1 : l ≤ 1000) : Ok (s.setA a ⟨true, l⟩) n := by
  refine ⟨hs.le, hs.fs, fun k hk => ?_, hs.un, fun k hk => ?_, fun h hh ht => ?_⟩
  · show 0 ≤ (put s.ac a ⟨true, l⟩ k).lim ∧ (put s.ac a ⟨true, l⟩ k).lim ≤ 1000
    by_cases e : k = a
    · subst e; rw [put_same]; exact ⟨h0, h1⟩
    · rw [put_ne _ _ _ _ e]; exact hs.ac k hk
  · show (put s.ac a ⟨true, l⟩ k).th = false → (put s.ac a ⟨true, l⟩ k).lim = 0
    by_cases e : k = a
    · subst e; rw [put_same]; intro h; cases h
    · rw [put_ne _ _ _ _ e]; exact hs.ua k hk
  · show (put s.ac a ⟨true, l⟩ (s.fs h).acc).th = true
    by_cases e : (s.fs h).acc = a
    · rw [e, put_same]
    · rw [put_ne _ _ _ _ e]; exact hs.kn h hh ht
theorem ok_setF {s : Lg} {n : Nat} (hs : Ok s n) (f : Nat) (m : Fn) (hm : m.acc < 16 ∧ 0 ≤ m.res ∧ m.res ≤ 1000 ∧ 0 ≤ m.bu ∧ m.bu ≤ n) (ht : m.th = true) (ha : (s.ac m.acc).th = true) : Ok (s.setF f m) n := by
  refine ⟨hs.le, fun k hk => ?_, hs.ac, fun k hk => ?_, hs.ua, fun k hk => ?_⟩
  · show (put s.fs f m k).acc < 16 ∧ 0 ≤ (put s.fs f m k).res ∧ (put s.fs f m k).res ≤ 1000 ∧ 0 ≤ (put s.fs f m k).bu ∧ (put s.fs f m k).bu ≤ n
    by_cases e : k = f
    · subst e; rw [put_same]; exact hm
    · rw [put_ne _ _ _ _ e]; exact hs.fs k hk
  · show (put s.fs f m k).th = false → (put s.fs f m k).res = 0 ∧ (put s.fs f m k).bu = 0
    by_cases e : k = f
    · subst e; rw [put_same, ht]; intro h; cases h
    · rw [put_ne _ _ _ _ e]; exact hs.un k hk
  · show (put s.fs f m k).th = true → (s.ac (put s.fs f m k).acc).th = true
    by_cases e : k = f
    · subst e; rw [put_same]; intro _; exact ha
    · rw [put_ne _ _ _ _ e]; exact hs.kn k hk
theorem Ok.start : Ok l0 0 := ⟨by omega, fun h _ => by simp [l0], fun a _ => by simp [l0], fun h _ _ => ⟨rfl, rfl⟩, fun a _ _ => rfl, fun h _ ht => by cases ht⟩

/-- Only the maps' blocks turn. -/
def In2 (lb fb : Nat) : Nat → Prop := fun x => x = lb ∨ x = fb
theorem Md.putL {w w' : World} {mb lb fb : Nat} {s : Lg} {n : Nat} (h : Md w mb lb fb s n) (j : Nat) (hj : j < 16) (l : Int) (c : Nat) (hc : c ≤ n + 1) (hg : Gm limE Try.prog 3 w' lb c (gput (mL s) (j : Int) l)) (k : Kept (fun x => x = lb) w w') : Md w' mb lb fb (s.setA j ⟨true, l⟩) (n + 1) := by
  obtain ⟨b, _, ⟨c2, p2, f⟩, o⟩ := h
  refine ⟨(k.block mb (lt_of b) (by omega)).trans b, ⟨c, hc, ?_⟩, ⟨c2, by omega, f.kept k (by omega)⟩, o⟩
  rw [mL_setA s j hj ⟨true, l⟩ rfl]; exact hg
theorem Md.putF {w w' : World} {mb lb fb : Nat} {s : Lg} {n : Nat} (h : Md w mb lb fb s n) (j : Nat) (hj : j < 64) (m : Fn) (hm : m.th = true) (c : Nat) (hc : c ≤ n + 1) (hg : Gm funE Try.prog 3 w' fb c (gput (mF s) (j : Int) ((m.acc : Int), m.res, m.bu))) (k : Kept (fun x => x = fb) w w') : Md w' mb lb fb (s.setF j m) (n + 1) := by
  obtain ⟨b, ⟨c2, p2, f⟩, _, o⟩ := h
  refine ⟨(k.block mb (lt_of b) (by omega)).trans b, ⟨c2, by omega, f.kept k (by omega)⟩, ⟨c, hc, ?_⟩, o⟩
  rw [mF_setF s j hj m hm]; exact hg

set_option maxHeartbeats 2000000 in
theorem msetA_any (mb lb fb : Nat) (s : Lg) (n : Nat) (hs : Ok s n) (a l : Int) (w : World) (h : Md w mb lb fb s n) :
    Calls Try.prog 17 #[.pointer (some ⟨mb, 0, none⟩), .int .i64 a, .int .i64 l] w fun e w' => e = .returned (.int .i64 (setAI s a l).1) ∧ Md w' mb lb fb (setAI s a l).2 (n + 1) ∧ Kept (In2 lb fb) w w' := by
  unfold setAI
  by_cases hr : (0 ≤ a ∧ a < 16) ∧ 0 ≤ l ∧ l ≤ 1000
  · rw [if_pos hr]
    obtain ⟨j, rfl⟩ : ∃ j : Nat, a = j := ⟨a.toNat, by omega⟩
    rw [Int.toNat_natCast]
    have hj : j < 16 := by omega
    have hsum := sum_any mb lb fb s n hs (j : Int) j (fun i _ => by omega) w h
    have hrb := rs_bd hs.good.1 j 64 (by omega)
    generalize rs s.fs j 64 = R at *
    generalize bs s.fs j 64 = B at *
    generalize os s.fs j 64 = O at *
    have h1 : ¬ (15 : Int) < j := by omega
    have h2 : ¬ l < 0 := by omega
    have h3 : ¬ 1000 < l := by omega
    have hwj : (Lit.int .i64 (j : Int)).wf = true := WalkArith.wf_i64 (by omega)
    have hn1000 := hs.le
    by_cases hn : l < R
    · rw [if_pos hn]
      go_enter Try.func17, Try.ntmps17
      go_wp2_with fail
      refine hsum.mono ?_
      rintro e w2 ⟨rfl, hB2⟩
      go_wp2_with fail
      go_ret
      exact ⟨rfl, (h.below hB2).mono (by omega), Kept.of_below hB2⟩
    · rw [if_neg hn]
      go_enter Try.func17, Try.ntmps17
      go_wp2_with fail
      refine hsum.mono ?_
      rintro e w2 ⟨rfl, hB2⟩
      have hM2 := h.below hB2
      obtain ⟨c0, c1⟩ := hM2.cells
      obtain ⟨c, hc, hl⟩ := hM2.lm
      clear hsum
      go_wp2_with ((at_mapUpdate; refine wpList_gm_put (E := limE) (et := 3) _ rfl _ _ _ rfl Try.underlying3 Try.underlying48 lb c (mL s) rfl hl (by unfold maxLen; omega) (j : Int) l rfl rfl hwj ?_; intro w5 hm5 hk5))
      go_ret
      refine ⟨rfl, hM2.putL j hj l _ ?_ hm5 hk5, (Kept.of_below hB2).trans hk5 (fun x _ hx => .inl hx)⟩
      split <;> omega
  · rw [if_neg hr]
    have hways : a < 0 ∨ (¬ a < 0 ∧ 15 < a) ∨ (¬ a < 0 ∧ ¬ 15 < a ∧ l < 0) ∨ (¬ a < 0 ∧ ¬ 15 < a ∧ ¬ l < 0 ∧ 1000 < l) := by omega
    have hq : Md w mb lb fb s (n + 1) ∧ Kept (In2 lb fb) w w := ⟨h.mono (by omega), Kept.refl _ _⟩
    clear hr h
    rcases hways with h1 | ⟨h1, h2⟩ | ⟨h1, h2, h3⟩ | ⟨h1, h2, h3, h4⟩
    all_goals
      go_enter Try.func17, Try.ntmps17
      go_wp2_with fail
      go_ret
      exact ⟨rfl, hq⟩

set_option maxRecDepth 100000 in
set_option maxHeartbeats 2000000 in
/-- A function's running calls turned. -/
theorem mturn_any (mb lb fb : Nat) (s : Lg) (n : Nat) (hs : Ok s n) (j : Nat) (hj : j < 64) (ht : (s.fs j).th = true) (d : Int) (hd : d = 1 ∨ d = -1) (w : World) (h : Md w mb lb fb s n) :
    Calls Try.prog 19 #[.pointer (some ⟨mb, 0, none⟩), .int .i64 (j : Int), .int .i64 d] w fun e w' => e = .returned (.tuple #[]) ∧ Md w' mb lb fb (s.setF j { s.fs j with bu := (s.fs j).bu + d }) (n + 1) ∧ Kept (In2 lb fb) w w' := by
  obtain ⟨g1, g2, g3, g4, g5⟩ := hs.fs j hj
  have hn1000 := hs.le
  have hwj : (Lit.int .i64 (j : Int)).wf = true := WalkArith.wf_i64 (by omega)
  obtain ⟨c0, c1⟩ := h.cells
  obtain ⟨cf, hcf, hf⟩ := h.fm
  have hmk : mF s (j : Int) = some (((s.fs j).acc : Int), (s.fs j).res, (s.fs j).bu) := by rw [mF_in s j hj, ht]; rfl
  have HP := Lib.hid (show ∀ W W' c, Md W mb lb fb s n → c ≤ n + 1 → Gm funE Try.prog 3 W' fb c (gput (mF s) (j : Int) (((s.fs j).acc : Int), (s.fs j).res, (s.fs j).bu + d)) → Kept (fun x => x = fb) W W' → Md W' mb lb fb (s.setF j { s.fs j with bu := (s.fs j).bu + d }) (n + 1) from fun W W' c hW hc hg k => hW.putF j hj { s.fs j with bu := (s.fs j).bu + d } ht c hc hg k)
  generalize s.setF j { s.fs j with bu := (s.fs j).bu + d } = s' at *
  rcases hfj : s.fs j with ⟨th, acc, res, bu⟩
  rw [hfj] at g1 g2 g3 g4 g5 hmk HP
  dsimp only at g1 g2 g3 g4 g5 hmk HP
  clear hfj ht hs
  obtain ⟨xb, hxb⟩ : ∃ xb, w.heap.size = xb := ⟨_, rfl⟩
  have hmx : mb < xb := by rw [← hxb]; exact h.lt
  have hord := h.ord
  have hbl : Below xb w (w.alloc (.cells #[.int .i64 acc, .int .i64 res, .int .i64 bu] 46)) := by rw [← hxb]; exact (Below.refl _ _).alloc (Nat.le_refl _) _
  have hblk : (w.alloc (.cells #[.int .i64 acc, .int .i64 res, .int .i64 bu] 46)).heap[xb]? = some (.cells #[.int .i64 acc, .int .i64 res, .int .i64 bu] 46 (0, 0)) := by rw [← hxb]; exact heap_alloc_new _ _
  have hM : Md (w.alloc (.cells #[.int .i64 acc, .int .i64 res, .int .i64 bu] 46)) mb lb fb s n := h.below (by rw [hxb]; exact hbl)
  have HX := Lib.hid hxb
  go_enter Try.func19, Try.ntmps19
  go_upto_region 1 with ((at_lookup; refine wpList_mf_get _ rfl _ _ rfl fb cf s rfl hf (j : Int) rfl hwj acc res bu (by rw [hmk]; rfl) ?_))
  try simp only [hxb]
  obtain ⟨w1, hw1⟩ : ∃ w1, w.alloc (.cells #[.int .i64 acc, .int .i64 res, .int .i64 bu] 46) = w1 := ⟨_, rfl⟩
  rw [hw1] at hbl hblk hM
  try simp only [hw1]
  clear hw1 hf hmk h hxb c0 c1
  have x2 : w1.cell? ⟨xb, 2, none⟩ = some (.int .i64 bu) := cell_of hblk
  have f2 : w1.frozen? ⟨xb, 2, none⟩ = false := frozen_of hblk
  have hks := Kept.set1 w1 xb 2 (.int .i64 (bu + d))
  have hbs : (w1.setCell ⟨xb, 2, none⟩ (.int .i64 (bu + d))).heap[xb]? = some (.cells #[.int .i64 acc, .int .i64 res, .int .i64 (bu + d)] 46 (0, 0)) := set_same (i := 2) _ hblk
  have hM2 := hM.kept hks (fun x hx hh => by omega)
  have hbl2 : Below xb w (w1.setCell ⟨xb, 2, none⟩ (.int .i64 (bu + d))) := hbl.trans (hks.below (by have := lt_of hblk; omega) (fun x hx hh => by omega))
  go_upto_region 2 with fail
  obtain ⟨w2, hw2⟩ : ∃ v, w1.setCell ⟨xb, 2, none⟩ (.int .i64 (bu + d)) = v := ⟨_, rfl⟩
  rw [hw2] at hbs hM2 hbl2
  try simp only [hw2]
  clear hw2 hks hM hblk hbl x2 f2
  obtain ⟨c0, c1⟩ := hM2.cells
  obtain ⟨cf, hcf, hf⟩ := hM2.fm
  obtain ⟨w5, hrun, hm5, hk5⟩ := hf.drew.put_run (t := 49) (et := 46) Try.underlying3 Try.underlying49 (by unfold maxLen; omega) (j : Int) (((acc : Int), res, bu + d) : Tr) hwj
  have hrun : (Instr.mapUpdate 49 (.map (some fb)) (.int .i64 (j : Int)) (.agg #[.int .i64 acc, .int .i64 res, .int .i64 (bu + d)])).run Try.prog w2.drew = .ok () w5 := hrun
  have x0 : w2.cell? ⟨xb, 0, none⟩ = some (.int .i64 acc) := cell_of hbs
  have x1 : w2.cell? ⟨xb, 1, none⟩ = some (.int .i64 res) := cell_of hbs
  have x2 : w2.cell? ⟨xb, 2, none⟩ = some (.int .i64 (bu + d)) := cell_of hbs
  have hk6 : Kept (fun x => x = fb) w2 w5 := ((Kept.refl (fun x => x = fb) w2).drew).trans hk5 (fun _ _ h => h)
  have hfin := HP.out w2 w5 _ hM2 (by split <;> omega) hm5 hk6
  have hkf : Kept (In2 lb fb) w w5 := (Kept.of_below (by rw [HX.out]; exact hbl2)).trans hk6 (fun x _ hx => .inr hx)
  have HF := Lib.hid (And.intro hfin hkf)
  clear hfin hkf hk6 hk5 hm5 hf hM2 hbs hbl2 HP
  go_region
  all_goals
    go_wp2
    go_end0
    exact ⟨rfl, HF.out⟩
end Go.Proofs.Ytjibcecekjmnlaa
