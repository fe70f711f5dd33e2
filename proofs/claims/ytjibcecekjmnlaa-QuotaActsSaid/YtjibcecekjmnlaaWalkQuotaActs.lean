/- Whatever is done: each answer, and how many calls run: the walk. -/
import Derived.Test.YtjibcecekjmnlaaActsSwD
import Derived.Deep.RegionHeld3
namespace Go.Proofs.Ytjibcecekjmnlaa
open Go.RowKit Go.Kpt
set_option linter.unusedVariables false

set_option maxRecDepth 100000 in
set_option maxHeartbeats 16000000 in
theorem quotaActs_walk (a0 : Option Addr) (cap0 : Nat) (z : List (Nat → Int)) (w : World) (w0 : IsStructs 4 w a0 z) :
    Calls Try.prog 7 #[.slice a0 z.length cap0] w fun e w' => e = .returned (.bool true) ∧ Below w.heap.size w w' := by
  go_enter Try.func7, Try.ntmps7
  go_wp2_with fail
  refine (head_any _).mono ?_
  rintro e v0 ⟨rfl, hB0⟩
  by_cases hlen : 120 < z.length
  · have g1 : (120 : Int) < (z.length : Int) := by omega
    go_wp2_with fail
    go_ret
    exact ⟨rfl, hB0⟩
  have g1 : ¬ (120 : Int) < (z.length : Int) := by omega
  go_wp2_with fail
  refine (new_any v0).mono ?_
  rintro e v1 ⟨rfl, hq1, hBn, hs1⟩
  have hB1 : Below w.heap.size w v1 := hB0.trans (hBn.mono hB0.size)
  obtain ⟨b, hb⟩ : ∃ b, v0.heap.size = b := ⟨_, rfl⟩
  have hbw : w.heap.size ≤ b := by have := hB0.size; omega
  rw [hb] at hq1 ⊢
  have hbl := hq1.lt
  clear hs1 hb hBn hB0
  go_wp2_with fail
  refine (mnew_any v1).mono ?_
  rintro e v2 ⟨mb, lb, fb, rfl, hm2, hBn, hlb⟩
  have hQ : QA w v2 b mb lb fb l0 l0 0 := ⟨hq1.below hBn, hm2, hB1.trans (hBn.mono hB1.size), hbw, by omega⟩
  clear hq1 hm2 hBn hB1 hbl hlb
  obtain ⟨n, hn⟩ : ∃ n, z.length = n := ⟨_, rfl⟩
  rw [hn] at hlen g1 ⊢
  go_wp2_with fail
  go_loopw [35] (fun x wr => ∃ (i : Nat) (s : Lg), x = .int .i64 i ∧ i ≤ n ∧ Ok s i ∧ QA w wr b mb lb fb s s i) (fun x _ => n - (intOf x).toNat)
  case atStart => exact ⟨0, l0, rfl, by omega, Ok.start, hQ⟩
  case round =>
    clear hQ
    obtain ⟨i, s, rfl, hi, hs, h⟩ := hrel
    by_cases hin : i < n
    · obtain ⟨bk, off, rfl, hcell⟩ := w0.2.2 i (by omega)
      have kc := fun j (hj : j < 4) => ((Kept.of_below (F := fun _ => False) h.bel).cell (p := ⟨bk, off + i * 4 + j, none⟩) (block_lt_of_cell (hcell j hj)) (fun h => h)).trans (hcell j hj)
      have c0 := kc 0 (by omega)
      rw [Nat.add_zero] at c0
      have c1' := kc 1 (by omega)
      have c2 := kc 2 (by omega)
      have c3 := kc 3 (by omega)
      clear kc hcell
      have hwf : ∀ j, (Lit.int .i64 (z.getD i (fun _ => 0) j)).wf = true := by
        intro j
        have hm : z.getD i (fun _ => 0) ∈ z := by
          rw [List.getD_eq_getElem?_getD, List.getElem?_eq_getElem (by omega)]
          exact List.getElem_mem _
        exact w0.2.1 _ hm j
      have hwF := hwf 1
      clear hwf
      generalize z.getD i (fun _ => 0) 0 = K at *
      generalize z.getD i (fun _ => 0) 1 = F at *
      generalize z.getD i (fun _ => 0) 2 = A at *
      generalize z.getD i (fun _ => 0) 3 = N at *
      have j1 : (i : Int) < (n : Int) := by omega
      go_upto_region 10 with fail
      obtain ⟨q, hq⟩ : ∃ q, wr.heap.size = q := ⟨_, rfl⟩
      have hbl : Below wr.heap.size wr (wr.alloc (.cells #[.int .i64 K, .int .i64 F, .int .i64 A, .int .i64 N] 38)) := (Below.refl _ _).alloc (Nat.le_refl _) _
      have hblk := heap_alloc_new wr (.cells #[.int .i64 K, .int .i64 F, .int .i64 A, .int .i64 N] 38)
      have hX : QX w (wr.alloc (.cells #[.int .i64 K, .int .i64 F, .int .i64 A, .int .i64 N] 38)) b mb lb fb s s i q (K, F, A, N) := ⟨h.below hbl, by rw [← hq]; exact hblk, by have := h.md.lt; omega⟩
      rw [hq]
      generalize wr.alloc (.cells #[.int .i64 K, .int .i64 F, .int .i64 A, .int .i64 N] 38) = wa at *
      clear hbl hblk h c0 c1' c2 c3 hq
      have hs' := hs.mono (Nat.le_succ i) (by omega)
      have hn1 : i + 1 ≤ 1000 := by omega
      obtain ⟨p0, p1, p2, p3⟩ := hX.cells
      have hm := qx_mask s s hs F hwF wa hX
      go_wp2_with fail
      refine hm.mono ?_
      rintro e wb ⟨rfl, hX2⟩
      clear hm p0 p1 p2 p3 hX
      have hX := hX2
      clear hX2
      obtain ⟨p0, p1, p2, p3⟩ := hX.cells
      have hb5 := i64_and7 K
      obtain ⟨G, hG, hG0, hG4⟩ : ∃ G, K % 8 = G ∧ 0 ≤ G ∧ G < 8 := ⟨_, rfl, by omega, by omega⟩
      rw [hG] at hb5
      clear hG
      obtain ⟨R, hR⟩ : ∃ R, (askI s F).1 = R := ⟨_, rfl⟩
      obtain ⟨ok, hok⟩ : ∃ ok, (askI s F).2 = ok := ⟨_, rfl⟩
      rw [hR, hok]
      go_upto_block 2 with fail
      go_cut [35] from 35 to 237 (fun x wx => x = .int .i64 i ∧ ∃ (s2 : Lg), Ok s2 (i + 1) ∧ QA w wx b mb lb fb s2 s2 (i + 1))
      case first =>
        exact acts_switch w wb b mb lb fb i q s K F A N R G ok hs hs' hn1 hX hwF hR hok hb5 hG0 hG4 _ _ _ _ _ _ _ _ _ _ _ _ _ _ _ _ _ _ _ _ _ _ _ _ _ _ _ _ _ _ _ _ _ _ _ _ _ _ _ _ _ _ _ _ _ _ _ _ _ _ _ _ _ _ _ _ _ _ _ _ _ _ _ _ _ _ _ _ _ _ _ _ _ _ _ _ _ _ _ _ _ _ _ _ _ _ _ _ _ _ _ _ _ _ _ _ _ _ _ _ _ _ _ _ _ _ _ _ _ _ _ _ _ _ _ _ _ _ _ _ _ _ _ _ _ _ _ _ _ _ _ _ _ _ _ _ _ _ _ _ _ _ _ _ _ _ _ _ _ _ _ _ _ _ _ _ _ _ _ _ _ _ _ _ _ _ _ _ _ _ _ _ _ _ _ _ _ _ _ _ _ _ _ _ _ _ _ _ _ _ _ _ _ _ _ _ _ _ _ _ _ _ _ _ _ _ _ _ _ _ _ _ _ _ _ _ _ _ _ _ _ _ _ _ _ _ _ _ _ _ _ _ _ _ (by assumption) (by assumption)
      case rest =>
        clear hs hs' hX p0 p1 p2 p3 hwF hR hok hb5 hG0 hG4 hn1
        obtain ⟨rfl, s2, hs2, h2⟩ := hcut
        go_wp2_with fail
        go_loopw [152] (fun x wr => ∃ (j : Nat), x = .int .i64 j ∧ j ≤ n ∧ QA w wr b mb lb fb s2 s2 (i + 1)) (fun x _ => n - (intOf x).toNat)
        case atStart => exact ⟨0, rfl, by omega, h2⟩
        case round =>
          clear h2
          obtain ⟨j, rfl, hj, h⟩ := hrel
          by_cases hjn : j < n
          · obtain ⟨bk', off', e, hcell⟩ := w0.2.2 j (by omega)
            cases e
            have kc := fun l (hl : l < 4) => ((Kept.of_below (F := fun _ => False) h.bel).cell (p := ⟨bk, off + j * 4 + l, none⟩) (block_lt_of_cell (hcell l hl)) (fun h => h)).trans (hcell l hl)
            have c0 := kc 0 (by omega)
            rw [Nat.add_zero] at c0
            have c1' := kc 1 (by omega)
            have c2 := kc 2 (by omega)
            have c3 := kc 3 (by omega)
            clear kc hcell
            have hwf : ∀ l, (Lit.int .i64 (z.getD j (fun _ => 0) l)).wf = true := by
              intro l
              have hm : z.getD j (fun _ => 0) ∈ z := by
                rw [List.getD_eq_getElem?_getD, List.getElem?_eq_getElem (by omega)]
                exact List.getElem_mem _
              exact w0.2.1 _ hm l
            have hwF := hwf 1
            have hwA := hwf 2
            clear hwf
            generalize z.getD j (fun _ => 0) 0 = K at *
            generalize z.getD j (fun _ => 0) 1 = F at *
            generalize z.getD j (fun _ => 0) 2 = A at *
            generalize z.getD j (fun _ => 0) 3 = N at *
            have j2 : (j : Int) < (n : Int) := by omega
            go_upto_region 37 with fail
            obtain ⟨q, hq⟩ : ∃ q, wr.heap.size = q := ⟨_, rfl⟩
            have hbl : Below wr.heap.size wr (wr.alloc (.cells #[.int .i64 K, .int .i64 F, .int .i64 A, .int .i64 N] 38)) := (Below.refl _ _).alloc (Nat.le_refl _) _
            have hblk := heap_alloc_new wr (.cells #[.int .i64 K, .int .i64 F, .int .i64 A, .int .i64 N] 38)
            have hX : QX w (wr.alloc (.cells #[.int .i64 K, .int .i64 F, .int .i64 A, .int .i64 N] 38)) b mb lb fb s2 s2 (i + 1) q (K, F, A, N) := ⟨h.below hbl, by rw [← hq]; exact hblk, by have := h.md.lt; omega⟩
            try simp only [hq]
            generalize wr.alloc (.cells #[.int .i64 K, .int .i64 F, .int .i64 A, .int .i64 N] 38) = wb at *
            clear hbl hblk h c0 c1' c2 c3 hq
            obtain ⟨X, Y, hg1, hg2⟩ := mF_any hs2 F
            have hlk := hX.drew.qa.md.get0 F hwF X Y (fsI s2 F).bu hg1
            have hXa : QX w (wb.alloc (.cells #[.int .i64 0, .int .i64 0, .int .i64 0] 46)) b mb lb fb s2 s2 (i + 1) q (K, F, A, N) := hX.below ((Below.refl _ _).alloc (Nat.le_refl _) _)
            have hlk1 := hXa.drew.qa.md.get0 F hwF X Y (fsI s2 F).bu hg1
            obtain ⟨-, p1a, -, -⟩ := hXa.cells
            obtain ⟨-, c1a⟩ := hXa.qa.md.cells
            obtain ⟨-, p1, -, -⟩ := hX.cells
            obtain ⟨-, c1⟩ := hX.qa.md.cells
            obtain ⟨xb, hxb⟩ : ∃ xb, wb.heap.size = xb := ⟨_, rfl⟩
            have hqx : q < xb := by rw [← hxb]; exact lt_of hX.act
            have hkA : Below wb.heap.size wb (wb.alloc (.cells #[.int .i64 X, .int .i64 Y, .int .i64 (fsI s2 F).bu] 46)) := (Below.refl _ _).alloc (Nat.le_refl _) _
            have hX3 := (hX.below hkA).drew
            have hblk : (wb.alloc (.cells #[.int .i64 X, .int .i64 Y, .int .i64 (fsI s2 F).bu] 46)).drew.heap[xb]? = some (.cells #[.int .i64 X, .int .i64 Y, .int .i64 (fsI s2 F).bu] 46 (0, 0)) := by rw [← hxb]; exact heap_alloc_new wb _
            clear hg1 hg2 hX hkA hXa
            have hbusy := fun (W : World) (hW : QX w W b mb lb fb s2 s2 (i + 1) q (K, F, A, N)) => busy_tot b s2 hs2 F W hW.qa.lq
            have hsum := fun (W : World) (hW : QX w W b mb lb fb s2 s2 (i + 1) q (K, F, A, N)) => sum_any mb lb fb s2 (i + 1) hs2 A (sumA A) (sumA_iff A) W hW.qa.md
            have hacc := fun (W : World) (hW : QX w W b mb lb fb s2 s2 (i + 1) q (K, F, A, N)) => account_tot b s2 hs2.good A W hW.qa.lq
            obtain ⟨hl1, hl2⟩ := mL_any hs2 A
            have hlm := fun (W : World) (hW : QX w W b mb lb fb s2 s2 (i + 1) q (K, F, A, N)) => hW.qa.md.limit A hwA (accL s2 A) (acI s2 A).th hl1 hl2
            generalize (fsI s2 F).bu = U at *
            have hways : ((acI s2 A).th = true ∧ accR s2 A = rs s2.fs (sumA A) 64 ∧ accB s2 A = bs s2.fs (sumA A) 64) ∨ ((acI s2 A).th = false ∧ accR s2 A = 0 ∧ accB s2 A = 0 ∧ accL s2 A = 0) := by
              cases ht : (acI s2 A).th
              · exact .inr ⟨rfl, accR_none ht⟩
              · exact .inl ⟨rfl, (accR_there ht).1, (accR_there ht).2.1⟩
            generalize rs s2.fs (sumA A) 64 = SR at *
            generalize bs s2.fs (sumA A) 64 = SB at *
            generalize os s2.fs (sumA A) 64 = SO at *
            generalize accR s2 A = AR at *
            generalize accB s2 A = AB at *
            generalize accL s2 A = AL at *
            generalize (acI s2 A).th = th at *
            go_cut [16, 152] from 152 to 236 (fun x z wx => x = .pointer (some ⟨xb, 0, none⟩) ∧ z = .int .i64 j ∧ QX w wx b mb lb fb s2 s2 (i + 1) q (K, F, A, N) ∧ wx.heap[xb]? = some (.cells #[.int .i64 X, .int .i64 Y, .int .i64 U] 46 (0, 0)))
            case first =>
              go_region
              all_goals
                go_wp2_with fail
                go_meet
                case rel => exact ⟨rfl, rfl, hX3, hblk⟩
            case rest =>
              clear hX3 hblk hxb p1 c1 hlk hlk1 p1a c1a
              obtain ⟨rfl, rfl, hX3, hblk⟩ := hcut
              obtain ⟨y0, y1, y2, y3⟩ := hX3.cells
              obtain ⟨c0, c1⟩ := hX3.qa.md.cells
              have hlk := hlm wc hX3
              go_wp2_with fail
              go_quiet (fail)
              have hX4 := hX3.below (below_drewN (Below.refl _ _) nq)
              have hblk4 : (wc.drewN nq).heap[xb]? = _ := hblk
              clear hX3 hblk hlk hlm c0 c1 y0 y1 y2 y3
              generalize wc.drewN nq = wc at *
              obtain ⟨y0, y1, y2, y3⟩ := hX4.cells
              go_wp2_with fail
              refine (hsum _ hX4).mono ?_
              rintro e W1 ⟨rfl, k1⟩
              have hX5 := hX4.below k1
              have hblk5 := (k1.block xb (lt_of hblk4)).trans hblk4
              clear hX4 hblk4 k1 hsum y0 y1 y2 y3
              obtain ⟨y0, y1, y2, y3⟩ := hX5.cells
              go_wp2_with fail
              refine (hacc _ hX5).mono ?_
              rintro e W2 ⟨rfl, k1⟩
              have hX6 := hX5.below k1
              have hblk6 := (k1.block xb (lt_of hblk5)).trans hblk5
              clear hX5 hblk5 k1 hacc y0 y1 y2 y3
              obtain ⟨y0, y1, y2, y3⟩ := hX6.cells
              have x2 : W2.cell? ⟨xb, 2, none⟩ = some (.int .i64 U) := cell_of hblk6
              have hb := fun i => (hbusy _ (hX6.below (below_drewN (Below.refl _ _) i))).mono fun e w' h => (⟨h.1, h.2.symm⟩ : e = .returned (.int .i64 U) ∧ w' = W2.drewN i)
              have hend : ∀ i, QA w (W2.drewN i) b mb lb fb s2 s2 _ := fun i => (hX6.below (below_drewN (Below.refl _ _) i)).qa
              have HE := Lib.hid hend
              clear hend hX6 hbusy y0 y2 y3
              rcases hways with ⟨rfl, rfl, rfl⟩ | ⟨rfl, rfl, rfl, rfl⟩
              all_goals
                go_wp2_with fail
                go_quiet ((go_at_call 14; exact Calls.quiet_of_same (hb _)))
                have hE := HE.out nq
                clear HE hb x2 y1
                generalize W2.drewN nq = W3 at *
                go_wp2_with fail
                go_roundw
                case rel => exact ⟨j + 1, by go_num, by omega, hE⟩
                case measure => simp [intOf]; omega
          · obtain rfl : j = n := by omega
            go_wp2_with fail
            go_roundw
            case rel => exact ⟨i + 1, s2, by go_num, by omega, hs2, h⟩
            case measure => simp [intOf]; omega
    · obtain rfl : i = n := by omega
      go_wp2_with fail
      go_ret
      exact ⟨rfl, h.bel⟩
end Go.Proofs.Ytjibcecekjmnlaa
