/- As long as nothing is set anew no bound is passed: the walk. -/
import Derived.Test.YtjibcecekjmnlaaInv
namespace Go.Proofs.Ytjibcecekjmnlaa
open Go.RowKit Go.Kpt
set_option linter.unusedVariables false
attribute [local go_sem] i64_and63 i64_and7 i64_and255

theorem Try.info3 : (Try.prog.info? 3).map (fun i => (i.zero, i.size, i.bytes)) = some (some (.int .i64 0), 1, 8) := by kernel_rfl

theorem Try.info4 : (Try.prog.info? 4).map (fun i => (i.zero, i.size, i.bytes)) = some (some (.bool false), 1, 1) := by kernel_rfl

theorem bs_end {s : Lg} {L : Int} {n : Nat} (v : Inv s L n) : ∀ k, n ≤ k → k ≤ 64 → bs s.fs 0 k = bs s.fs 0 n ∧ os s.fs 0 k = os s.fs 0 n := by
  intro k
  induction k with
  | zero => intro h _; obtain rfl : n = 0 := by omega
            exact ⟨rfl, rfl⟩
  | succ k ih =>
    intro h1 h2
    by_cases e : n = k + 1
    · subst e; exact ⟨rfl, rfl⟩
    · have h3 := ih (by omega) (by omega)
      have ht : ¬ (s.fs k).th = true := fun h => by have := (v.kn k (by omega) h).2; omega
      simp only [bs, os]
      rw [if_neg (fun h => ht h.1), if_neg (fun h => ht h.1)]
      exact ⟨by omega, by omega⟩
theorem bs_next {s : Lg} {L : Int} {n : Nat} (v : Inv s L n) (k : Nat) (hk : k < 64) : bs s.fs 0 (k + 1) = bs s.fs 0 k + (s.fs k).bu := by
  simp only [bs]
  by_cases ht : (s.fs k).th = true
  · rw [if_pos ⟨ht, (v.kn k hk ht).1⟩]
  · rw [if_neg (fun h => ht h.1), (v.un k hk (by simpa using ht)).2]
theorem os_next0 {s : Lg} {L : Int} {n : Nat} (v : Inv s L n) (k : Nat) (hk : k < 64) (h : held s k = 0) : os s.fs 0 (k + 1) = os s.fs 0 k + (s.fs k).bu := by
  simp only [os]
  by_cases ht : (s.fs k).th = true
  · rw [if_pos ⟨ht, (v.kn k hk ht).1, by unfold held at h; rw [ht] at h; exact h⟩]
  · rw [if_neg (fun h => ht h.1), (v.un k hk (by simpa using ht)).2]
theorem os_next1 {s : Lg} {L : Int} {n : Nat} (v : Inv s L n) (k : Nat) (hk : k < 64) (h : held s k ≠ 0) : os s.fs 0 (k + 1) = os s.fs 0 k := by
  simp only [os]
  rw [if_neg (fun h2 => h (by unfold held; rw [h2.1]; exact h2.2.2))]
  omega
theorem held_same {s s' : Lg} (h : Same s s') (k : Nat) : held s' k = held s k := by unfold held; rw [(h.1 k).1, (h.1 k).2]

set_option maxRecDepth 100000 in
set_option maxHeartbeats 16000000 in
theorem quotaBounds_none (limit : Int) (a1 : Option Addr) (cap1 : Nat) (a2 : Option Addr) (cap2 : Nat) (z2 : List Int) (w : World) (_ : (Lit.int .i64 limit).wf = true) (w2 : IsInts .i64 w a2 z2) :
    Calls Try.prog 4 #[.int .i64 limit, .slice a1 0 cap1, .slice a2 z2.length cap2] w fun e w' => e = .returned (.bool true) ∧ Below w.heap.size w w' := by
  obtain ⟨i0, hi, hz0, hz1, hz2⟩ := info_parts Try.info3
  obtain ⟨i4, hi4, hz40, hz41, hz42⟩ := info_parts Try.info4
  have ha : 0 ≤ limit % 64 ∧ limit % 64 < 64 := ⟨by omega, by omega⟩
  obtain ⟨L, hL⟩ : ∃ L, limit % 64 = L := ⟨_, rfl⟩
  rw [hL] at ha
  obtain ⟨hL0, hL1⟩ := ha
  go_enter Try.func4, Try.ntmps4
  go_wp2_with fail
  refine (head_any _).mono ?_
  rintro e v0 ⟨rfl, hB0⟩
  by_cases hn2 : 200 < z2.length
  · have g2 : (200 : Int) < (z2.length : Int) := by omega
    go_wp2_with fail
    go_ret
    exact ⟨rfl, hB0⟩
  have g2 : ¬ (200 : Int) < (z2.length : Int) := by omega
  go_wp2_with fail
  refine (new_any v0).mono ?_
  rintro e v1 ⟨rfl, hq1, hBn, hs1⟩
  have hB1 : Below w.heap.size w v1 := hB0.trans (hBn.mono hB0.size)
  obtain ⟨b, hb⟩ : ∃ b, v0.heap.size = b := ⟨_, rfl⟩
  have hbw : w.heap.size ≤ b := by have := hB0.size; omega
  rw [hb] at hq1 ⊢
  clear hs1 hb hBn hB0
  have c1 : Calls Try.prog 10 #[.pointer (some ⟨b, 0, none⟩), .int .i64 0, .int .i64 L] v1 fun e w' => e = .returned (.int .i64 0) ∧ Lq w' b (l0.setA 0 ⟨true, L⟩) ∧ Kept (fun x => x = b) v1 w' :=
    setA_t b l0 good_l0 0 (by omega) L hL0 (by omega) (by rw [rs_l0]; exact hL0) v1 hq1
  have hpre := pre0 hL0 (show L ≤ 1000 by omega)
  have hrs0 : rs (l0.setA 0 ⟨true, L⟩).fs 0 64 = 0 := rs_l0 0 64
  go_wp2_with fail
  refine c1.mono ?_
  rintro e v2 ⟨rfl, hq2, hk2⟩
  have hB2 := hk_below hbw hB1 hk2
  have hbl2 := hq2.lt
  clear c1 hq1 hB1 hk2 hL
  go_wp2_with (first | (at_make; refine wpList_make_full v2 rfl _ _ 22 rfl v2.heap.size 3 i0 (.int .i64 0) 1 Try.underlying22 hi hz0 hz1 .i64 .i64 0 0 0 rfl rfl rfl rfl (by rw [hz2]; omega) (by unfold maxLen; omega) (Nat.le_refl _) ?_; intro v3 hown hgrow) | (at_make; refine wpList_make_full v3 rfl _ _ 32 rfl v3.heap.size 4 i4 (.bool false) 1 Try.underlying32 hi4 hz40 hz41 .i64 .i64 0 0 0 rfl rfl rfl rfl (by rw [hz42]; omega) (by unfold maxLen; omega) (Nat.le_refl _) ?_; intro v4 hown4 hgrow4))
  have hA3 := made_block hown
  have hq3 := hq2.kept (Kept.of_grown hgrow) (fun h => by cases h)
  have hB3 : Below w.heap.size w v3 := hB2.trans ((Kept.of_grown hgrow).below hB2.size (fun x hx h => by cases h))
  obtain ⟨g, hg⟩ : ∃ g, v2.heap.size = g := ⟨_, rfl⟩
  rw [hg] at hA3 hbl2 ⊢
  have hgw : w.heap.size ≤ g := by have := hB2.size; omega
  have hgb : g ≠ b := by omega
  have hgl := lt_of hA3
  clear hown hgrow hq2 hB2 hg
  have hD4 := made_block hown4
  have hA4 := ((Kept.of_grown hgrow4).block g hgl (fun h => by cases h)).trans hA3
  have hq4 := hq3.kept (Kept.of_grown hgrow4) (fun h => by cases h)
  have hB4 : Below w.heap.size w v4 := hB3.trans ((Kept.of_grown hgrow4).below hB3.size (fun x hx h => by cases h))
  obtain ⟨d, hd⟩ : ∃ d, v3.heap.size = d := ⟨_, rfl⟩
  rw [hd] at hD4 hgl ⊢
  have hdw : w.heap.size ≤ d := by omega
  have hdb : d ≠ b := by omega
  have hdg : d ≠ g := by omega
  clear hown4 hgrow4 hq3 hB3 hd hA3
  have hinv0 := hpre.inv
  clear hA4 hD4 hpre hrs0
  go_wp2_with fail
  go_loopw [45, 10] (fun x y wr => x = .int .i64 0 ∧ y = .int .i64 0 ∧ Lq wr b (l0.setA 0 ⟨true, L⟩) ∧ Below w.heap.size w wr) (fun _ _ _ => 0)
  case atStart => exact ⟨rfl, rfl, hq4, hB4⟩
  case round =>
    clear hq4 hB4
    obtain ⟨rfl, rfl, hq, hB⟩ := hrel
    go_wp2_with fail
    go_loopw [70] (fun x wr => ∃ (j : Nat) (s' : Lg), x = .int .i64 j ∧ j ≤ z2.length ∧ Inv s' L 0 ∧ Lq wr b s' ∧ Below w.heap.size w wr) (fun x _ => z2.length - (intOf x).toNat)
    case atStart => exact ⟨0, _, rfl, by omega, hinv0, hq, hB⟩
    case round =>
      clear hq hB
      obtain ⟨j, s', rfl, hj, hinv, hq, hB⟩ := hrel
      by_cases hjl : j < z2.length
      · obtain ⟨c, off, rfl, hcell⟩ := w2.2.2 j hjl
        have hcell := arg_cell hB hcell
        have k1 : (j : Int) < (z2.length : Int) := by omega
        obtain ⟨m, hm⟩ : ∃ m, z2.getD j 0 = m := ⟨_, rfl⟩
        rw [hm] at hcell
        have hstB := begin_step b hinv (by omega) 0 (by omega) wr hq
        have hstE := end_step b hinv (by omega) 0 (by omega) wr hq
        rw [show ((0 : Nat) : Int) = 0 from rfl] at hstB hstE
        obtain ⟨t, ht⟩ : ∃ t : Bool, (bits .and .i64 m 768 == 768) = t := ⟨_, rfl⟩
        clear hm
        cases t
        · go_wp2_with fail
          refine hstB.mono ?_
          rintro e v4 ⟨tt, s2, rfl, hq4, hk4, hinv4, hsame4, -⟩
          have hB4 := hk_below hbw hB hk4
          clear hstB hstE hcell hq hB hk4 hinv hsame4
          go_wp2_with fail
          go_loopw [91, 16, 17] (fun x y u wr => x = .int .i64 0 ∧ y = .int .i64 0 ∧ u = .int .i64 0 ∧ Lq wr b s2 ∧ Below w.heap.size w wr) (fun _ _ _ _ => 0)
          case atStart => exact ⟨rfl, rfl, rfl, hq4, hB4⟩
          case round =>
            clear hq4 hB4
            obtain ⟨rfl, rfl, rfl, hq, hB⟩ := hrel
            have h3 : ¬ L < 0 := by omega
            go_wp2_with fail
            go_roundw
            case rel => exact ⟨j + 1, s2, by go_num, by omega, hinv4, hq, hB⟩
            case measure => simp [intOf]; omega
        · go_wp2_with fail
          refine hstE.mono ?_
          rintro e v4 ⟨tt, s2, rfl, hq4, hk4, hinv4, hsame4⟩
          have hB4 := hk_below hbw hB hk4
          clear hstB hstE hcell hq hB hk4 hinv hsame4
          go_wp2_with fail
          go_loopw [91, 16, 17] (fun x y u wr => x = .int .i64 0 ∧ y = .int .i64 0 ∧ u = .int .i64 0 ∧ Lq wr b s2 ∧ Below w.heap.size w wr) (fun _ _ _ _ => 0)
          case atStart => exact ⟨rfl, rfl, rfl, hq4, hB4⟩
          case round =>
            clear hq4 hB4
            obtain ⟨rfl, rfl, rfl, hq, hB⟩ := hrel
            have h3 : ¬ L < 0 := by omega
            go_wp2_with fail
            go_roundw
            case rel => exact ⟨j + 1, s2, by go_num, by omega, hinv4, hq, hB⟩
            case measure => simp [intOf]; omega
      · have k1 : ¬ (j : Int) < (z2.length : Int) := by omega
        go_wp2_with fail
        go_ret
        exact ⟨rfl, hB⟩

set_option maxRecDepth 100000 in
set_option maxHeartbeats 16000000 in
theorem quotaBounds_walk (limit : Int) (a1 : Option Addr) (cap1 : Nat) (z1 : List Int) (a2 : Option Addr) (cap2 : Nat) (z2 : List Int) (w : World) (_ : (Lit.int .i64 limit).wf = true) (w1 : IsInts .i64 w a1 z1) (w2 : IsInts .i64 w a2 z2) :
    Calls Try.prog 4 #[.int .i64 limit, .slice a1 z1.length cap1, .slice a2 z2.length cap2] w fun e w' => e = .returned (.bool true) ∧ Below w.heap.size w w' := by
  by_cases hne : z1 = []
  · subst hne
    exact quotaBounds_none limit a1 cap1 a2 cap2 z2 w ‹_› w2
  obtain ⟨i0, hi, hz0, hz1, hz2⟩ := info_parts Try.info3
  obtain ⟨i4, hi4, hz40, hz41, hz42⟩ := info_parts Try.info4
  have ha : 0 ≤ limit % 64 ∧ limit % 64 < 64 := ⟨by omega, by omega⟩
  obtain ⟨L, hL⟩ : ∃ L, limit % 64 = L := ⟨_, rfl⟩
  rw [hL] at ha
  obtain ⟨hL0, hL1⟩ := ha
  go_enter Try.func4, Try.ntmps4
  go_wp2_with fail
  refine (head_any _).mono ?_
  rintro e v0 ⟨rfl, hB0⟩
  by_cases hn1 : 12 < z1.length
  · have g1 : (12 : Int) < (z1.length : Int) := by omega
    go_wp2_with fail
    go_ret
    exact ⟨rfl, hB0⟩
  have g1 : ¬ (12 : Int) < (z1.length : Int) := by omega
  by_cases hn2 : 200 < z2.length
  · have g2 : (200 : Int) < (z2.length : Int) := by omega
    go_wp2_with fail
    go_ret
    exact ⟨rfl, hB0⟩
  have g2 : ¬ (200 : Int) < (z2.length : Int) := by omega
  go_wp2_with fail
  refine (new_any v0).mono ?_
  rintro e v1 ⟨rfl, hq1, hBn, hs1⟩
  have hB1 : Below w.heap.size w v1 := hB0.trans (hBn.mono hB0.size)
  obtain ⟨b, hb⟩ : ∃ b, v0.heap.size = b := ⟨_, rfl⟩
  have hbw : w.heap.size ≤ b := by have := hB0.size; omega
  rw [hb] at hq1 ⊢
  clear hs1 hb hBn hB0
  have c1 : Calls Try.prog 10 #[.pointer (some ⟨b, 0, none⟩), .int .i64 0, .int .i64 L] v1 fun e w' => e = .returned (.int .i64 0) ∧ Lq w' b (l0.setA 0 ⟨true, L⟩) ∧ Kept (fun x => x = b) v1 w' :=
    setA_t b l0 good_l0 0 (by omega) L hL0 (by omega) (by rw [rs_l0]; exact hL0) v1 hq1
  have hpre := pre0 hL0 (show L ≤ 1000 by omega)
  have hrs0 : rs (l0.setA 0 ⟨true, L⟩).fs 0 64 = 0 := rs_l0 0 64
  go_wp2_with fail
  refine c1.mono ?_
  rintro e v2 ⟨rfl, hq2, hk2⟩
  have hB2 := hk_below hbw hB1 hk2
  have hbl2 := hq2.lt
  clear c1 hq1 hB1 hk2 hL
  go_wp2_with (first | (at_make; refine wpList_make_full v2 rfl _ _ 22 rfl v2.heap.size 3 i0 (.int .i64 0) 1 Try.underlying22 hi hz0 hz1 .i64 .i64 z1.length z1.length z1.length rfl rfl rfl rfl (by rw [hz2]; omega) (by unfold maxLen; omega) (Nat.le_refl _) ?_; intro v3 hown hgrow) | (at_make; refine wpList_make_full v3 rfl _ _ 32 rfl v3.heap.size 4 i4 (.bool false) 1 Try.underlying32 hi4 hz40 hz41 .i64 .i64 z1.length z1.length z1.length rfl rfl rfl rfl (by rw [hz42]; omega) (by unfold maxLen; omega) (Nat.le_refl _) ?_; intro v4 hown4 hgrow4))
  have hA3 := made_block hown
  have hq3 := hq2.kept (Kept.of_grown hgrow) (fun h => by cases h)
  have hB3 : Below w.heap.size w v3 := hB2.trans ((Kept.of_grown hgrow).below hB2.size (fun x hx h => by cases h))
  obtain ⟨g, hg⟩ : ∃ g, v2.heap.size = g := ⟨_, rfl⟩
  rw [hg] at hA3 hbl2 ⊢
  have hgw : w.heap.size ≤ g := by have := hB2.size; omega
  have hgb : g ≠ b := by omega
  have hgl := lt_of hA3
  clear hown hgrow hq2 hB2 hg
  have hD4 := made_block hown4
  have hA4 := ((Kept.of_grown hgrow4).block g hgl (fun h => by cases h)).trans hA3
  have hq4 := hq3.kept (Kept.of_grown hgrow4) (fun h => by cases h)
  have hB4 : Below w.heap.size w v4 := hB3.trans ((Kept.of_grown hgrow4).below hB3.size (fun x hx h => by cases h))
  obtain ⟨d, hd⟩ : ∃ d, v3.heap.size = d := ⟨_, rfl⟩
  rw [hd] at hD4 hgl ⊢
  have hdw : w.heap.size ≤ d := by omega
  have hdb : d ≠ b := by omega
  have hdg : d ≠ g := by omega
  clear hown4 hgrow4 hq3 hB3 hd hA3
  have hpos : 1 ≤ z1.length := by cases z1 with
    | nil => exact absurd rfl hne
    | cons a l => simp
  obtain ⟨n, hn⟩ : ∃ n, z1.length = n := ⟨_, rfl⟩
  have w1l := w1.2.2
  rw [hn] at hA4 hD4 hn1 g1 w1l hpos ⊢
  go_wp2_with fail
  go_loopw [45, 10] (fun x y wr => ∃ (i : Nat) (s : Lg) (H : List Int) (T : List Bool), x = .int .i64 i ∧ i ≤ n ∧ y = .int .i64 (rs s.fs 0 64) ∧ Pre s L i ∧ Lq wr b s ∧ H.length = n ∧ T.length = n ∧ (∀ j, j < n → H.getD j 0 = held s j ∧ T.getD j false = (s.fs j).th) ∧ wr.heap[g]? = some (.cells (H.map (Value.int .i64)).toArray 3 (0, 0)) ∧ wr.heap[d]? = some (.cells (T.map Value.bool).toArray 4 (0, 0)) ∧ Below w.heap.size w wr) (fun x _ _ => n - (intOf x).toNat)
  case atStart => exact ⟨0, _, List.replicate n 0, List.replicate n false, rfl, by omega, by rw [hrs0], hpre, hq4, by simp, by simp, fun j hj => by rw [List.getD_eq_getElem?_getD, List.getElem?_replicate, List.getD_eq_getElem?_getD, List.getElem?_replicate, if_pos hj, if_pos hj]; exact ⟨rfl, rfl⟩, by rw [hA4]; simp, by rw [hD4]; simp, hB4⟩
  case round =>
    clear hpre hq4 hA4 hD4 hB4 hrs0
    obtain ⟨i, s, H, T, rfl, hi', rfl, hp, hq, hHl, hTl, hH, hA, hD, hB⟩ := hrel
    by_cases hlt : i < n
    · obtain ⟨c, off, rfl, hcell⟩ := w1l i hlt
      have hcell := arg_cell hB hcell
      have j1 : (i : Int) < (n : Int) := by omega
      obtain ⟨m, hm⟩ : ∃ m, z1.getD i 0 = m := ⟨_, rfl⟩
      rw [hm] at hcell
      obtain ⟨r, hr⟩ : ∃ r, m % 8 = r := ⟨_, rfl⟩
      have hr0 : 0 ≤ r ∧ r < 8 := by omega
      have hst := set_step b hp (i := i) (by omega) r (by omega) (by omega) wr hq
      have hun := pre_un hp (i := i) (by omega)
      have hrb := rs_bd hp.inv.good.1 0 64 (by omega)
      obtain ⟨R, hR⟩ : ∃ R, rs s.fs 0 64 = R := ⟨_, rfl⟩
      rw [hR] at hrb hst ⊢
      clear hm hR
      go_wp2_with fail
      refine hst.mono ?_
      rintro e v4 ⟨k, s', rfl, hq4, hk4, hp4, hoth, hcase⟩
      have hB4 := hk_below hbw hB hk4
      have hA4 := (hk4.block g (lt_of hA) hgb).trans hA
      have hD4 := (hk4.block d (lt_of hD) hdb).trans hD
      rcases hcase with ⟨rfl, hth, hres, hRr⟩ | ⟨rfl, hth, hRr⟩
      · have cd : v4.cell? ⟨d, i, none⟩ = some (.bool (T.getD i false)) := (cell_of hD4).trans (by simp [List.getD_eq_getElem?_getD, hTl, hlt])
        have fd : v4.frozen? ⟨d, i, none⟩ = false := frozen_of hD4
        obtain ⟨v5, hv5⟩ : ∃ v5, v4.setCell ⟨d, i, none⟩ (.bool true) = v5 := ⟨_, rfl⟩
        have hk5 : Kept (fun x => x = d) v4 v5 := by rw [← hv5]; exact Kept.set1 v4 d i (.bool true)
        have hA5 := (hk5.block g (lt_of hA4) (Ne.symm hdg)).trans hA4
        have cg : (v4.setCell ⟨d, i, none⟩ (.bool true)).cell? ⟨g, i, none⟩ = some (.int .i64 (H.getD i 0)) := by rw [hv5]; exact (cell_of hA5).trans (by simp [List.getD_eq_getElem?_getD, hHl, hlt])
        have fg : (v4.setCell ⟨d, i, none⟩ (.bool true)).frozen? ⟨g, i, none⟩ = false := by rw [hv5]; exact frozen_of hA5
        have fg4 : v4.frozen? ⟨g, i, none⟩ = false := frozen_of hA4
        have hq5 : Lq v5 b s' := hq4.kept hk5 (fun h => hdb h.symm)
        have hB5 : Below w.heap.size w v5 := hk_below hdw hB4 hk5
        have hD5 : v5.heap[d]? = some (.cells ((T.set i true).map Value.bool).toArray 4 (0, 0)) := by
          rw [← hv5, set_same _ hD4]; simp [List.map_set]
        have hk6 : Kept (fun x => x = g) v5 (v5.setCell ⟨g, i, none⟩ (.int .i64 r)) := Kept.set1 v5 g i (.int .i64 r)
        have hq6 : Lq (v5.setCell ⟨g, i, none⟩ (.int .i64 r)) b s' := hq5.kept hk6 (fun h => hgb h.symm)
        have hB6 : Below w.heap.size w (v5.setCell ⟨g, i, none⟩ (.int .i64 r)) := hk_below hgw hB5 hk6
        have hD6 := (hk6.block d (lt_of hD5) hdg).trans hD5
        have hA6 : (v5.setCell ⟨g, i, none⟩ (.int .i64 r)).heap[g]? = some (.cells ((H.set i r).map (Value.int .i64)).toArray 3 (0, 0)) := by
          rw [set_same _ hA5]; simp [List.map_set]
        rw [← hv5] at hq6 hB6 hA6 hD6
        clear hst hcell hq hB hA hD hk4 hk5 hk6 hv5 hq5 hB5 hA5 hD5 hA4 hD4 hB4 hq4
        go_wp2_with fail
        go_roundw
        case rel =>
          refine ⟨i + 1, s', H.set i r, T.set i true, by go_num, by omega, by rw [hRr], hp4, hq6, by simp [hHl], by simp [hTl], fun j hj => ?_, hA6, hD6, hB6⟩
          by_cases e : j = i
          · subst e; simp [List.getD_eq_getElem?_getD, hHl, hTl, hlt, held, hth, hres]
          · rw [show held s' j = held s j by unfold held; rw [hoth j e], hoth j e, ← (hH j hj).1, ← (hH j hj).2]
            simp [List.getD_eq_getElem?_getD, List.getElem?_set_ne (Ne.symm e)]
        case measure => simp [intOf]; omega
      · clear hst hcell hq hB hA hD hk4
        go_wp2_with fail
        go_roundw
        case rel =>
          refine ⟨i + 1, s', H, T, by go_num, by omega, by rw [hRr], hp4, hq4, hHl, hTl, fun j hj => ?_, hA4, hD4, hB4⟩
          by_cases e : j = i
          · subst e; rw [(hH j hj).1, (hH j hj).2]; unfold held; rw [hth, hun]; exact ⟨rfl, rfl⟩
          · rw [(hH j hj).1, (hH j hj).2]; unfold held; rw [hoth j e]; exact ⟨rfl, rfl⟩
        case measure => simp [intOf]; omega
    · obtain rfl : i = n := by omega
      have hinv := hp.inv
      clear hp
      have hrb := rs_bd hinv.good.1 0 64 (by omega)
      obtain ⟨R, hR⟩ : ∃ R, rs s.fs 0 64 = R := ⟨_, rfl⟩
      rw [hR] at hrb ⊢
      have hAF : ∀ (W : World) (F : Nat), F < i → W.heap[g]? = some (.cells (H.map (Value.int .i64)).toArray 3 (0, 0)) → W.cell? ⟨g, F, none⟩ = some (.int .i64 (held s F)) := fun W F hF hW => (cell_of hW).trans (by rw [← (hH F hF).1]; simp [List.getD_eq_getElem?_getD, hHl, hF])
      have hDF : ∀ (W : World) (F : Nat), F < i → W.heap[d]? = some (.cells (T.map Value.bool).toArray 4 (0, 0)) → W.cell? ⟨d, F, none⟩ = some (.bool (s.fs F).th) := fun W F hF hW => (cell_of hW).trans (by rw [← (hH F hF).2]; simp [List.getD_eq_getElem?_getD, hTl, hF])
      have HAF := Lib.hid hAF
      have HDF := Lib.hid hDF
      clear hAF hDF hH w1l hHl hTl
      generalize (H.map (Value.int .i64)).toArray = C at *
      generalize (T.map Value.bool).toArray = D at *
      go_wp2_with fail
      go_loopw [70] (fun x wr => ∃ (j : Nat) (s' : Lg), x = .int .i64 j ∧ j ≤ z2.length ∧ Inv s' L i ∧ Same s s' ∧ Lq wr b s' ∧ wr.heap[g]? = some (.cells C 3 (0, 0)) ∧ wr.heap[d]? = some (.cells D 4 (0, 0)) ∧ Below w.heap.size w wr) (fun x _ => z2.length - (intOf x).toNat)
      case atStart => exact ⟨0, s, rfl, by omega, hinv, Same.refl s, hq, hA, hD, hB⟩
      case round =>
        clear hinv hq hA hD hB
        obtain ⟨j, s', rfl, hj, hinv, hsame, hq, hA, hD, hB⟩ := hrel
        by_cases hjl : j < z2.length
        · obtain ⟨c, off, rfl, hcell⟩ := w2.2.2 j hjl
          have hcell := arg_cell hB hcell
          have k1 : (j : Int) < (z2.length : Int) := by omega
          obtain ⟨m, hm⟩ : ∃ m, z2.getD j 0 = m := ⟨_, rfl⟩
          rw [hm] at hcell
          obtain ⟨r, hr⟩ : ∃ r, m % 256 = r := ⟨_, rfl⟩
          have hr0 : 0 ≤ r ∧ r < 256 := by omega
          clear hm
          obtain ⟨G, hG, hGn⟩ : ∃ G : Nat, r.tmod (i : Int) = (G : Int) ∧ G < 64 := by
            have u1 : r.tmod (i : Int) = r % (i : Int) := Int.tmod_eq_emod_of_nonneg hr0.1
            have u2 : 0 ≤ r % (i : Int) := Int.emod_nonneg _ (by omega)
            have u3 : r % (i : Int) < (i : Int) := Int.emod_lt_of_pos _ (by omega)
            exact ⟨(r % (i : Int)).toNat, by rw [u1]; omega, by omega⟩
          have hm1 : ¬ (i : Int) < 1 := by omega
          have hm2 : ((i : Int) == 0) = false := beq_eq_false_iff_ne.2 (by omega)
          have hstB := begin_step b hinv (by omega) G hGn wr hq
          have hstE := end_step b hinv (by omega) G hGn wr hq
          obtain ⟨t, ht⟩ : ∃ t : Bool, (bits .and .i64 m 768 == 768) = t := ⟨_, rfl⟩
          cases t
          · go_wp2_with fail
            refine hstB.mono ?_
            rintro e v4 ⟨tt, s2, rfl, hq4, hk4, hinv4, hsame4, -⟩
            have hB4 := hk_below hbw hB hk4
            have hA4 := (hk4.block g (lt_of hA) hgb).trans hA
            have hD4 := (hk4.block d (lt_of hD) hdb).trans hD
            have hsame := hsame.trans hsame4
            clear hstB hstE hcell hq hB hA hD hk4 hinv hsame4
            go_wp2_with fail
            go_loopw [91, 16, 17] (fun x y u wr => ∃ (k : Nat), x = .int .i64 k ∧ k ≤ i ∧ y = .int .i64 (bs s2.fs 0 k) ∧ u = .int .i64 (os s2.fs 0 k) ∧ Lq wr b s2 ∧ wr.heap[g]? = some (.cells C 3 (0, 0)) ∧ wr.heap[d]? = some (.cells D 4 (0, 0)) ∧ Below w.heap.size w wr) (fun x _ _ _ => i - (intOf x).toNat)
            case atStart => exact ⟨0, rfl, by omega, rfl, rfl, hq4, hA4, hD4, hB4⟩
            case round =>
              clear hq4 hA4 hD4 hB4
              obtain ⟨k, rfl, hk, rfl, rfl, hq, hA, hD, hB⟩ := hrel
              have hb1 := bs_bd hinv4.good.1 0 k (by omega)
              have hb2 := os_bd hinv4.good.1 0 k (by omega)
              by_cases hkl : k < i
              · have hki : (k : Int) < (i : Int) := by omega
                have cA := HAF.out wr k hkl hA
                have cD := HDF.out wr k hkl hD
                have hbz := busy_any b s2 k (by omega) (fun h => (hinv4.un k (by omega) h).2) wr hq
                have hgood := hinv4.good.1 k (by omega)
                unfold goodf at hgood
                have n1 := bs_next hinv4 k (by omega)
                have n20 := os_next0 hinv4 k (by omega)
                have n21 := os_next1 hinv4 k (by omega)
                have hle := hinv4.le k (by omega)
                have hun := hinv4.un k (by omega)
                have hhd := held_same hsame k
                have hth := (hsame.1 k).1
                rw [hhd] at n20 n21
                have hways : (0 < held s k ∧ (s.fs k).th = true ∧ (s2.fs k).bu ≤ held s k) ∨ (held s k = 0 ∧ (s.fs k).th = true) ∨ (held s k = 0 ∧ (s.fs k).th = false ∧ (s2.fs k).bu = 0) := by
                  rw [← hth, ← hhd]
                  unfold held
                  cases h : (s2.fs k).th
                  · right; right; exact ⟨rfl, rfl, (hun h).2⟩
                  · by_cases h0 : (s2.fs k).res = 0
                    · right; left; exact ⟨by simpa using h0, rfl⟩
                    · left; simp; exact ⟨by omega, hle h (by omega)⟩
                generalize bs s2.fs 0 k = B0 at *
                generalize os s2.fs 0 k = O0 at *
                generalize held s k = hd at *
                generalize (s2.fs k).bu = bu at *
                clear hle hun hhd hth
                rcases hways with ⟨h1, h2, h3⟩ | ⟨rfl, h2⟩ | ⟨rfl, h2, rfl⟩
                · rw [h2] at cD
                  have hd0 : (hd == 0) = false := beq_eq_false_iff_ne.2 (by omega)
                  have n2 := n21 (by omega)
                  have h3' : ¬ hd < bu := by omega
                  clear n20 n21
                  go_wp2_with fail
                  refine hbz.mono ?_
                  rintro e v5 ⟨rfl, rfl⟩
                  clear hbz
                  go_wp2_with fail
                  go_roundw
                  case rel => exact ⟨k + 1, by go_num, by omega, by rw [n1], by rw [n2], hq, hA, hD, hB⟩
                  case measure => simp [intOf]; omega
                · rw [h2] at cD
                  have n2 := n20 rfl
                  clear n20 n21
                  go_wp2_with fail
                  refine hbz.mono ?_
                  rintro e v5 ⟨rfl, rfl⟩
                  clear hbz
                  go_wp2_with fail
                  go_roundw
                  case rel => exact ⟨k + 1, by go_num, by omega, by rw [n1], by rw [n2], hq, hA, hD, hB⟩
                  case measure => simp [intOf]; omega
                · rw [h2] at cD
                  have n2 := n20 rfl
                  clear n20 n21
                  go_wp2_with fail
                  refine hbz.mono ?_
                  rintro e v5 ⟨rfl, rfl⟩
                  clear hbz
                  go_wp2_with fail
                  go_roundw
                  case rel => exact ⟨k + 1, by go_num, by omega, by rw [n1]; simp, by rw [n2]; simp, hq, hA, hD, hB⟩
                  case measure => simp [intOf]; omega
              · have hk' : k = i := by omega
                have hki : ¬ (k : Int) < (i : Int) := by omega
                have he := bs_end hinv4 64 (by omega) (by omega)
                have h1 := bs_le hinv4 64 (by omega)
                have h2 := hinv4.op
                rw [hsame.2, hR] at h1 h2
                rw [he.1, he.2, ← hk'] at h1
                rw [he.2, ← hk'] at h2
                have h3 : ¬ L < bs s2.fs 0 k := by omega
                have h4 : ¬ L - R < os s2.fs 0 k := by omega
                clear he h1 h2
                generalize bs s2.fs 0 k = B0 at *
                generalize os s2.fs 0 k = O0 at *
                go_wp2_with fail
                go_roundw
                case rel => exact ⟨j + 1, s2, by go_num, by omega, hinv4, hsame, hq, hA, hD, hB⟩
                case measure => simp [intOf]; omega
          · go_wp2_with fail
            refine hstE.mono ?_
            rintro e v4 ⟨tt, s2, rfl, hq4, hk4, hinv4, hsame4⟩
            have hB4 := hk_below hbw hB hk4
            have hA4 := (hk4.block g (lt_of hA) hgb).trans hA
            have hD4 := (hk4.block d (lt_of hD) hdb).trans hD
            have hsame := hsame.trans hsame4
            clear hstB hstE hcell hq hB hA hD hk4 hinv hsame4
            go_wp2_with fail
            go_loopw [91, 16, 17] (fun x y u wr => ∃ (k : Nat), x = .int .i64 k ∧ k ≤ i ∧ y = .int .i64 (bs s2.fs 0 k) ∧ u = .int .i64 (os s2.fs 0 k) ∧ Lq wr b s2 ∧ wr.heap[g]? = some (.cells C 3 (0, 0)) ∧ wr.heap[d]? = some (.cells D 4 (0, 0)) ∧ Below w.heap.size w wr) (fun x _ _ _ => i - (intOf x).toNat)
            case atStart => exact ⟨0, rfl, by omega, rfl, rfl, hq4, hA4, hD4, hB4⟩
            case round =>
              clear hq4 hA4 hD4 hB4
              obtain ⟨k, rfl, hk, rfl, rfl, hq, hA, hD, hB⟩ := hrel
              have hb1 := bs_bd hinv4.good.1 0 k (by omega)
              have hb2 := os_bd hinv4.good.1 0 k (by omega)
              by_cases hkl : k < i
              · have hki : (k : Int) < (i : Int) := by omega
                have cA := HAF.out wr k hkl hA
                have cD := HDF.out wr k hkl hD
                have hbz := busy_any b s2 k (by omega) (fun h => (hinv4.un k (by omega) h).2) wr hq
                have hgood := hinv4.good.1 k (by omega)
                unfold goodf at hgood
                have n1 := bs_next hinv4 k (by omega)
                have n20 := os_next0 hinv4 k (by omega)
                have n21 := os_next1 hinv4 k (by omega)
                have hle := hinv4.le k (by omega)
                have hun := hinv4.un k (by omega)
                have hhd := held_same hsame k
                have hth := (hsame.1 k).1
                rw [hhd] at n20 n21
                have hways : (0 < held s k ∧ (s.fs k).th = true ∧ (s2.fs k).bu ≤ held s k) ∨ (held s k = 0 ∧ (s.fs k).th = true) ∨ (held s k = 0 ∧ (s.fs k).th = false ∧ (s2.fs k).bu = 0) := by
                  rw [← hth, ← hhd]
                  unfold held
                  cases h : (s2.fs k).th
                  · right; right; exact ⟨rfl, rfl, (hun h).2⟩
                  · by_cases h0 : (s2.fs k).res = 0
                    · right; left; exact ⟨by simpa using h0, rfl⟩
                    · left; simp; exact ⟨by omega, hle h (by omega)⟩
                generalize bs s2.fs 0 k = B0 at *
                generalize os s2.fs 0 k = O0 at *
                generalize held s k = hd at *
                generalize (s2.fs k).bu = bu at *
                clear hle hun hhd hth
                rcases hways with ⟨h1, h2, h3⟩ | ⟨rfl, h2⟩ | ⟨rfl, h2, rfl⟩
                · rw [h2] at cD
                  have hd0 : (hd == 0) = false := beq_eq_false_iff_ne.2 (by omega)
                  have n2 := n21 (by omega)
                  have h3' : ¬ hd < bu := by omega
                  clear n20 n21
                  go_wp2_with fail
                  refine hbz.mono ?_
                  rintro e v5 ⟨rfl, rfl⟩
                  clear hbz
                  go_wp2_with fail
                  go_roundw
                  case rel => exact ⟨k + 1, by go_num, by omega, by rw [n1], by rw [n2], hq, hA, hD, hB⟩
                  case measure => simp [intOf]; omega
                · rw [h2] at cD
                  have n2 := n20 rfl
                  clear n20 n21
                  go_wp2_with fail
                  refine hbz.mono ?_
                  rintro e v5 ⟨rfl, rfl⟩
                  clear hbz
                  go_wp2_with fail
                  go_roundw
                  case rel => exact ⟨k + 1, by go_num, by omega, by rw [n1], by rw [n2], hq, hA, hD, hB⟩
                  case measure => simp [intOf]; omega
                · rw [h2] at cD
                  have n2 := n20 rfl
                  clear n20 n21
                  go_wp2_with fail
                  refine hbz.mono ?_
                  rintro e v5 ⟨rfl, rfl⟩
                  clear hbz
                  go_wp2_with fail
                  go_roundw
                  case rel => exact ⟨k + 1, by go_num, by omega, by rw [n1]; simp, by rw [n2]; simp, hq, hA, hD, hB⟩
                  case measure => simp [intOf]; omega
              · have hk' : k = i := by omega
                have hki : ¬ (k : Int) < (i : Int) := by omega
                have he := bs_end hinv4 64 (by omega) (by omega)
                have h1 := bs_le hinv4 64 (by omega)
                have h2 := hinv4.op
                rw [hsame.2, hR] at h1 h2
                rw [he.1, he.2, ← hk'] at h1
                rw [he.2, ← hk'] at h2
                have h3 : ¬ L < bs s2.fs 0 k := by omega
                have h4 : ¬ L - R < os s2.fs 0 k := by omega
                clear he h1 h2
                generalize bs s2.fs 0 k = B0 at *
                generalize os s2.fs 0 k = O0 at *
                go_wp2_with fail
                go_roundw
                case rel => exact ⟨j + 1, s2, by go_num, by omega, hinv4, hsame, hq, hA, hD, hB⟩
                case measure => simp [intOf]; omega
        · have k1 : ¬ (j : Int) < (z2.length : Int) := by omega
          go_wp2_with fail
          go_ret
          exact ⟨rfl, hB⟩
end Go.Proofs.Ytjibcecekjmnlaa
