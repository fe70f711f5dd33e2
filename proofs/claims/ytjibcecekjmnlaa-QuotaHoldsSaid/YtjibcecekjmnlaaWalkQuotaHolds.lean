/- What is reserved for a function is there for it, whatever others do: the walk. -/
import Derived.Test.YtjibcecekjmnlaaInv
namespace Go.Proofs.Ytjibcecekjmnlaa
open Go.RowKit Go.Kpt
set_option linter.unusedVariables false
attribute [local go_sem] i64_and63 i64_and7 i64_and255

theorem Try.info3 : (Try.prog.info? 3).map (fun i => (i.zero, i.size, i.bytes)) = some (some (.int .i64 0), 1, 8) := by kernel_rfl

set_option maxRecDepth 100000 in
set_option maxHeartbeats 8000000 in
theorem quotaHolds_walk (limit : Int) (a1 : Option Addr) (cap1 : Nat) (z1 : List Int) (a2 : Option Addr) (cap2 : Nat) (z2 : List Int) (f : Int) (w : World) (_ : (Lit.int .i64 limit).wf = true) (w1 : IsInts .i64 w a1 z1) (w2 : IsInts .i64 w a2 z2) (wf : (Lit.int .i64 f).wf = true) :
    Calls Try.prog 3 #[.int .i64 limit, .slice a1 z1.length cap1, .slice a2 z2.length cap2, .int .i64 f] w fun e w' => e = .returned (.bool true) ∧ Below w.heap.size w w' := by
  obtain ⟨i0, hi, hz0, hz1, hz2⟩ := info_parts Try.info3
  have ha : 0 ≤ limit % 64 ∧ limit % 64 < 64 := ⟨by omega, by omega⟩
  obtain ⟨L, hL⟩ : ∃ L, limit % 64 = L := ⟨_, rfl⟩
  rw [hL] at ha
  obtain ⟨hL0, hL1⟩ := ha
  go_enter Try.func3, Try.ntmps3
  go_wp2_with fail
  refine (head_any _).mono ?_
  rintro e v0 ⟨rfl, hB0⟩
  by_cases hn0 : z1.length = 0
  · have g0 : ((z1.length : Int) == 0) = true := by rw [hn0]; rfl
    go_wp2_with fail
    go_ret
    exact ⟨rfl, hB0⟩
  have g0 : ((z1.length : Int) == 0) = false := beq_eq_false_iff_ne.2 (by omega)
  by_cases hn1 : 12 < z1.length
  · have g1 : (12 : Int) < (z1.length : Int) := by omega
    go_wp2_with fail
    go_ret
    exact ⟨rfl, hB0⟩
  have g1 : ¬ (12 : Int) < (z1.length : Int) := by omega
  by_cases hn2 : 200 < z2.length
  · have g2 : (200 : Int) < (z2.length : Int) := by omega
    go_wp2_with fail
    go_ret
    exact ⟨rfl, hB0⟩
  have g2 : ¬ (200 : Int) < (z2.length : Int) := by omega
  go_wp2_with fail
  refine (new_any v0).mono ?_
  rintro e v1 ⟨rfl, hq1, hBn, hs1⟩
  have hB1 : Below w.heap.size w v1 := hB0.trans (hBn.mono hB0.size)
  obtain ⟨b, hb⟩ : ∃ b, v0.heap.size = b := ⟨_, rfl⟩
  have hbw : w.heap.size ≤ b := by have := hB0.size; omega
  rw [hb] at hq1 ⊢
  clear hs1 hb hBn hB0
  have c1 : Calls Try.prog 10 #[.pointer (some ⟨b, 0, none⟩), .int .i64 0, .int .i64 L] v1 fun e w' => e = .returned (.int .i64 0) ∧ Lq w' b (l0.setA 0 ⟨true, L⟩) ∧ Kept (fun x => x = b) v1 w' :=
    setA_t b l0 good_l0 0 (by omega) L hL0 (by omega) (by rw [rs_l0]; exact hL0) v1 hq1
  have hpre := pre0 hL0 (show L ≤ 1000 by omega)
  go_wp2_with fail
  refine c1.mono ?_
  rintro e v2 ⟨rfl, hq2, hk2⟩
  have hB2 := hk_below hbw hB1 hk2
  have hbl2 := hq2.lt
  clear c1 hq1 hB1 hk2 hL
  go_wp2_with (at_make; refine wpList_make_full v2 rfl _ _ 22 rfl v2.heap.size 3 i0 (.int .i64 0) 1 Try.underlying22 hi hz0 hz1 .i64 .i64 z1.length z1.length z1.length rfl rfl rfl rfl (by rw [hz2]; omega) (by unfold maxLen; omega) (Nat.le_refl _) ?_; intro v3 hown hgrow)
  have hA3 := made_block hown
  have hq3 := hq2.kept (Kept.of_grown hgrow) (fun h => by cases h)
  have hB3 : Below w.heap.size w v3 := hB2.trans ((Kept.of_grown hgrow).below hB2.size (fun x hx h => by cases h))
  obtain ⟨g, hg⟩ : ∃ g, v2.heap.size = g := ⟨_, rfl⟩
  rw [hg] at hA3 hbl2 ⊢
  have hgw : w.heap.size ≤ g := by have := hB2.size; omega
  have hgb : g ≠ b := by omega
  clear hown hgrow hq2 hB2 hg
  obtain ⟨n, hn⟩ : ∃ n, z1.length = n := ⟨_, rfl⟩
  have w1l := w1.2.2
  rw [hn] at hA3 hn0 hn1 g0 g1 w1l ⊢
  go_wp2_with fail
  go_loopw [42] (fun x wr => ∃ (i : Nat) (s : Lg) (H : List Int), x = .int .i64 i ∧ i ≤ n ∧ Pre s L i ∧ Lq wr b s ∧ H.length = n ∧ (∀ j, j < n → H.getD j 0 = held s j) ∧ wr.heap[g]? = some (.cells (H.map (Value.int .i64)).toArray 3 (0, 0)) ∧ Below w.heap.size w wr) (fun x _ => n - (intOf x).toNat)
  case atStart => exact ⟨0, _, List.replicate n 0, rfl, by omega, hpre, hq3, by simp, fun j hj => by rw [List.getD_eq_getElem?_getD, List.getElem?_replicate, if_pos hj]; rfl, by rw [hA3]; simp, hB3⟩
  case round =>
    clear hpre hq3 hA3 hB3
    obtain ⟨i, s, H, rfl, hi', hp, hq, hHl, hH, hA, hB⟩ := hrel
    by_cases hlt : i < n
    · obtain ⟨c, off, rfl, hcell⟩ := w1l i hlt
      have hcell := arg_cell hB hcell
      have j1 : (i : Int) < (n : Int) := by omega
      obtain ⟨m, hm⟩ : ∃ m, z1.getD i 0 = m := ⟨_, rfl⟩
      rw [hm] at hcell
      obtain ⟨r, hr⟩ : ∃ r, m % 8 = r := ⟨_, rfl⟩
      have hr0 : 0 ≤ r ∧ r < 8 := by omega
      have hst := set_step b hp (i := i) (by omega) r (by omega) (by omega) wr hq
      have hun := pre_un hp (i := i) (by omega)
      clear hm
      go_wp2_with fail
      refine hst.mono ?_
      rintro e v4 ⟨k, s', rfl, hq4, hk4, hp4, hoth, hcase⟩
      have hB4 := hk_below hbw hB hk4
      have hA4 := (hk4.block g (lt_of hA) hgb).trans hA
      rcases hcase with ⟨rfl, hth, hres, -⟩ | ⟨rfl, hth, -⟩
      · have cg : v4.cell? ⟨g, i, none⟩ = some (.int .i64 (H.getD i 0)) := (cell_of hA4).trans (by simp [List.getD_eq_getElem?_getD, hHl, hlt])
        have fg : v4.frozen? ⟨g, i, none⟩ = false := frozen_of hA4
        have hq5 : Lq (v4.setCell ⟨g, i, none⟩ (.int .i64 r)) b s' := hq4.kept (Kept.set1 v4 g i (.int .i64 r)) (fun h => hgb h.symm)
        have hB5 : Below w.heap.size w (v4.setCell ⟨g, i, none⟩ (.int .i64 r)) := hk_below hgw hB4 (Kept.set1 v4 g i (.int .i64 r))
        have hA5 : (v4.setCell ⟨g, i, none⟩ (.int .i64 r)).heap[g]? = some (.cells ((H.set i r).map (Value.int .i64)).toArray 3 (0, 0)) := by
          rw [set_same _ hA4]; simp [List.map_set]
        clear hst hcell hq hB hA hk4
        go_wp2_with fail
        go_roundw
        case rel =>
          refine ⟨i + 1, s', H.set i r, by go_num, by omega, hp4, hq5, by simp [hHl], fun j hj => ?_, hA5, hB5⟩
          by_cases e : j = i
          · subst e; simp [List.getD_eq_getElem?_getD, hHl, hlt, held, hth, hres]
          · rw [show held s' j = held s j by unfold held; rw [hoth j e], ← hH j hj]
            simp [List.getD_eq_getElem?_getD, List.getElem?_set_ne (Ne.symm e)]
        case measure => simp [intOf]; omega
      · clear hst hcell hq hB hA hk4
        go_wp2_with fail
        go_roundw
        case rel =>
          refine ⟨i + 1, s', H, by go_num, by omega, hp4, hq4, hHl, fun j hj => ?_, hA4, hB4⟩
          by_cases e : j = i
          · subst e; rw [hH j hj]; unfold held; rw [hth, hun]; rfl
          · rw [hH j hj]; unfold held; rw [hoth j e]
        case measure => simp [intOf]; omega
    · obtain rfl : i = n := by omega
      have hinv := hp.inv
      have hz := hp.zero
      clear hp
      obtain ⟨F, hF, hFn⟩ : ∃ F : Nat, wrap64 ((IntKind.u64.wrap f).tmod (i : Int)) = (F : Int) ∧ F < i := by
        have u0 : 0 ≤ IntKind.u64.wrap f := by rw [IntKind.wrap_u64]; omega
        have u1 : (IntKind.u64.wrap f).tmod (i : Int) = (IntKind.u64.wrap f) % (i : Int) := Int.tmod_eq_emod_of_nonneg u0
        have u2 : 0 ≤ (IntKind.u64.wrap f) % (i : Int) := Int.emod_nonneg _ (by omega)
        have u3 : (IntKind.u64.wrap f) % (i : Int) < (i : Int) := Int.emod_lt_of_pos _ (by omega)
        refine ⟨((IntKind.u64.wrap f) % (i : Int)).toNat, ?_, by omega⟩
        rw [u1, IntWalk.wrap64_in _ ⟨by omega, by omega⟩]
        omega
      have hFi : (F : Int) < (i : Int) := by omega
      have hAF : ∀ W : World, W.heap[g]? = some (.cells (H.map (Value.int .i64)).toArray 3 (0, 0)) → W.cell? ⟨g, F, none⟩ = some (.int .i64 (held s F)) := fun W hW => (cell_of hW).trans (by rw [← hH F hFn]; simp [List.getD_eq_getElem?_getD, hHl, hFn])
      clear hH w1l hHl
      generalize (H.map (Value.int .i64)).toArray = C at *
      go_wp2_with fail
      rw [hF]
      clear hF
      go_loopw [68] (fun x wr => ∃ (j : Nat) (s' : Lg), x = .int .i64 j ∧ j ≤ z2.length ∧ Inv s' L i ∧ Same s s' ∧ (s'.fs F).bu = 0 ∧ Lq wr b s' ∧ wr.heap[g]? = some (.cells C 3 (0, 0)) ∧ Below w.heap.size w wr) (fun x _ => z2.length - (intOf x).toNat)
      case atStart => exact ⟨0, s, rfl, by omega, hinv, Same.refl s, hz F, hq, hA, hB⟩
      case round =>
        clear hinv hz hq hA hB
        obtain ⟨j, s', rfl, hj, hinv, hsame, hz, hq, hA, hB⟩ := hrel
        by_cases hjl : j < z2.length
        · obtain ⟨c, off, rfl, hcell⟩ := w2.2.2 j hjl
          have hcell := arg_cell hB hcell
          have k1 : (j : Int) < (z2.length : Int) := by omega
          obtain ⟨m, hm⟩ : ∃ m, z2.getD j 0 = m := ⟨_, rfl⟩
          rw [hm] at hcell
          obtain ⟨r, hr⟩ : ∃ r, m % 256 = r := ⟨_, rfl⟩
          have hr0 : 0 ≤ r ∧ r < 256 := by omega
          obtain ⟨G, hG, hGn⟩ : ∃ G : Nat, r.tmod (i : Int) = (G : Int) ∧ G < i := by
            have u1 : r.tmod (i : Int) = r % (i : Int) := Int.tmod_eq_emod_of_nonneg hr0.1
            have u2 : 0 ≤ r % (i : Int) := Int.emod_nonneg _ (by omega)
            have u3 : r % (i : Int) < (i : Int) := Int.emod_lt_of_pos _ (by omega)
            exact ⟨(r % (i : Int)).toNat, by rw [u1]; omega, by omega⟩
          have hst := begin_step b hinv (by omega) G (by omega) wr hq
          clear hm
          by_cases hGF : G = F
          · subst hGF
            go_wp2_with fail
            go_roundw
            case rel => exact ⟨j + 1, s', by go_num, by omega, hinv, hsame, hz, hq, hA, hB⟩
            case measure => simp [intOf]; omega
          · have hne : ((G : Int) == (F : Int)) = false := beq_eq_false_iff_ne.2 (by omega)
            go_wp2_with fail
            refine hst.mono ?_
            rintro e v4 ⟨t, s2, rfl, hq4, hk4, hinv4, hsame4, hbu4⟩
            have hB4 := hk_below hbw hB hk4
            have hA4 := (hk4.block g (lt_of hA) hgb).trans hA
            have hz4 : (s2.fs F).bu = 0 := (hbu4 F (Ne.symm hGF)).trans hz
            clear hst hcell hq hB hA hk4 hinv hz hbu4
            go_wp2_with fail
            go_roundw
            case rel => exact ⟨j + 1, s2, by go_num, by omega, hinv4, hsame.trans hsame4, hz4, hq4, hA4, hB4⟩
            case measure => simp [intOf]; omega
        · have k1 : ¬ (j : Int) < (z2.length : Int) := by omega
          go_wp2_with fail
          go_loopw [16] (fun x wr => ∃ (k : Int) (s2 : Lg), x = .int .i64 k ∧ 0 ≤ k ∧ k ≤ held s F ∧ Inv s2 L i ∧ Same s s2 ∧ (s2.fs F).bu = k ∧ Lq wr b s2 ∧ wr.heap[g]? = some (.cells C 3 (0, 0)) ∧ Below w.heap.size w wr) (fun x _ => (held s F - intOf x).toNat)
          case atStart =>
            refine ⟨0, s', rfl, by omega, ?_, hinv, hsame, hz, hq, hA, hB⟩
            have h1 := hinv.good.1 F (by omega)
            have h2 := (hsame.1 F).2
            unfold goodf at h1
            unfold held
            split <;> omega
          case round =>
            clear hinv hz hq hA hB hsame
            obtain ⟨k, s2, rfl, hk0, hk1, hinv, hsame, hz, hq, hA, hB⟩ := hrel
            have cF := hAF wr hA
            have hgood := hinv.good.1 F (by omega)
            unfold goodf at hgood
            by_cases hkl : k < held s F
            · have hthr : (s2.fs F).th = true ∧ held s F = (s2.fs F).res := by
                rw [(hsame.1 F).1, (hsame.1 F).2]
                unfold held at hkl ⊢
                cases ht : (s.fs F).th
                · rw [ht] at hkl; simp at hkl; omega
                · exact ⟨rfl, rfl⟩
              have hst := begin_res b hinv (by omega) F (by omega) hthr.1 (by omega) (by omega) wr hq
              generalize held s F = hd at *
              go_wp2_with fail
              refine hst.mono ?_
              rintro e v4 ⟨s3, rfl, hq4, hk4, hinv4, hsame4, hbu4⟩
              have hB4 := hk_below hbw hB hk4
              have hA4 := (hk4.block g (lt_of hA) hgb).trans hA
              clear hst hq hB hA hk4 hinv cF
              go_wp2_with fail
              go_roundw
              case rel => exact ⟨k + 1, s3, rfl, by omega, by omega, hinv4, hsame.trans hsame4, by omega, hq4, hA4, hB4⟩
              case measure => simp [intOf]; omega
            · obtain rfl : k = held s F := by omega
              have hthr : held s F = 0 ∨ (0 < held s F ∧ (s2.fs F).th = true ∧ held s F = (s2.fs F).res) := by
                rw [(hsame.1 F).1, (hsame.1 F).2]
                by_cases h0 : held s F = 0
                · exact .inl h0
                · right
                  unfold held at h0 hk0 ⊢
                  cases ht : (s.fs F).th
                  · rw [ht] at h0; simp at h0
                  · rw [ht] at h0 hk0
                    simp at h0 hk0
                    refine ⟨?_, rfl, by simp⟩
                    simp; omega
              rcases hthr with h0 | ⟨h0, ht, hres⟩
              · rw [h0] at cF
                have g5 : ((0 : Int) == 0) = true := rfl
                go_wp2_with fail
                go_ret
                exact ⟨rfl, hB⟩
              · have hst := begin_f b s2 hinv.good F (by omega) ht (ask_full (by omega) (by omega)) wr hq
                have hb0 : (held s F == 0) = false := beq_eq_false_iff_ne.2 (by omega)
                generalize held s F = hd at *
                go_wp2_with fail
                refine hst.mono ?_
                rintro e v4 ⟨rfl, hk4⟩
                have hB4 := hB.trans (hk4.mono hB.size)
                go_wp2_with fail
                go_ret
                exact ⟨rfl, hB4⟩
end Go.Proofs.Ytjibcecekjmnlaa
