/- What a heap's functions do: up, down, fix. -/
import Derived.Test.YtkbmpmcckjhaaaaWalks
import Derived.Deep.RegionHeld3
namespace Go.Proofs.Ytkbmpmcckjhaaaa
open Go.RowKit Go.Kpt HeapPure
set_option linter.unusedVariables false

abbrev fv17 : Value := .func (.func 17) #[] #[]

theorem up_go {l : List (Ke × Tm)} {i : Nat} (h : 0 < i) (hl : lt (vv l i) (vv l (par i)) = true) : up lt l i = up lt (swp l i (par i)) (par i) := by rw [up, dif_pos ⟨h, hl⟩]
theorem up_stop {l : List (Ke × Tm)} {i : Nat} (h : ¬ (0 < i ∧ lt (vv l i) (vv l (par i)) = true)) : up lt l i = (l, i) := by rw [up, dif_neg h]
theorem down_stop {l : List (Ke × Tm)} {i : Nat} (h : least lt l i = i) : down lt l i = l := by rw [down, dif_pos h]
theorem down_go {l : List (Ke × Tm)} {i : Nat} (h : ¬ least lt l i = i) : down lt l i = down lt (swp l i (least lt l i)) (least lt l i) := by rw [down, dif_neg h]
theorem vv_getD (l : List (Ke × Tm)) (i : Nat) : vv l i = (l.getD i default).2 := rfl

theorem Hp.kept {w w' : World} {base hb : Nat} {fv v : Value} {mb : Nat} {l : List (Ke × Tm)} (h : Hp w base hb fv v mb l) {F : Nat → Prop} (k : Kept F w w') (h1 : ¬ F hb) (h2 : ¬ F mb) (h3 : ∀ g, v.ownBlock = some g → ¬ F g) : Hp w' base hb fv v mb l :=
  ⟨(k.block hb (lt_of h.blk) h1).trans h.blk, h.own.kept k h3, h.mp.kept k h2, h.inj, h.wf, h.len⟩
theorem Hp.drewN {w : World} {base hb : Nat} {fv v : Value} {mb : Nat} {l : List (Ke × Tm)} (h : Hp w base hb fv v mb l) (n : Nat) : Hp (w.drewN n) base hb fv v mb l :=
  h.kept (F := fun _ => False) ((Kept.refl _ _).drewN n) (fun h => h) (fun h => h) (fun _ _ h => h)
/-- The blocks of a heap that an operation may turn. -/
abbrev own (mb : Nat) (v : Value) (x : Nat) : Prop := x = mb ∨ some x = v.ownBlock

theorem wraps {q : Nat} (h : q ≤ 100000) : IntKind.i64.wrap (q : Int) = (q : Int) ∧ wrap64 (q : Int) = (q : Int) := ⟨IntWalk.i64_in _ ⟨by omega, by omega⟩, IntWalk.wrap64_in _ ⟨by omega, by omega⟩⟩
theorem wraps1 {q : Nat} (h0 : 0 < q) (h : q ≤ 100000) : IntKind.i64.wrap ((q : Int) - 1) = (q : Int) - 1 ∧ wrap64 ((q : Int) - 1) = (q : Int) - 1 := ⟨IntWalk.i64_in _ ⟨by omega, by omega⟩, IntWalk.wrap64_in _ ⟨by omega, by omega⟩⟩

set_option maxRecDepth 1000000 in
set_option maxHeartbeats 8000000 in
theorem up_any (HL : LessC) (base hb : Nat) (v : Value) (mb : Nat) (l : List (Ke × Tm)) (i0 : Nat) (hi0 : i0 < l.length) (w : World) (h : Hp w base hb fv17 v mb l) :
    Calls Try.prog 31 #[.pointer (some ⟨hb, 0, none⟩), .int .i64 i0] w fun e w' => e = .returned (.bool ((((up lt l i0).2 : Nat) : Int) != (i0 : Int))) ∧ Hp w' base hb fv17 v mb (up lt l i0).1 ∧ Kept (own mb v) w w' := by
  go_enter Try.func31, Try.ntmps31
  go_wp2_with fail
  go_loopw [1] (fun x wr => ∃ (i : Nat) (l' : List (Ke × Tm)), x = .int .i64 i ∧ i < l'.length ∧ up lt l' i = up lt l i0 ∧ Hp wr base hb fv17 v mb l' ∧ Kept (own mb v) w wr) (fun x _ => (intOf x).toNat)
  case atStart => exact ⟨i0, l, rfl, hi0, rfl, h, Kept.refl _ _⟩
  case round =>
    clear h
    obtain ⟨i, l', rfl, hi, hup, h, hk⟩ := hrel
    rcases h.own.shape with ⟨-, rfl⟩ | ⟨g, cap, rfl, hg1, hg2, hlc, hcm, hfz, hcl⟩
    · simp at hi
    have hlen := h.len
    have q0 : wr.cell? ⟨hb, 0, none⟩ = some fv17 := cell_of h.blk
    have q1 : wr.cell? ⟨hb, 1, none⟩ = some (.slice (some ⟨g, 0, none⟩) l'.length cap) := cell_of h.blk
    obtain ⟨-, -, c1, c2, c3⟩ := hcl i hi
    have HH := Lib.hid h
    have HK := Lib.hid hk
    by_cases hpos : 0 < i
    · have hp := par_lt hpos
      obtain ⟨-, -, p1, p2, p3⟩ := hcl (par i) (by omega)
      have hpe : ((i : Int) - 1).tdiv 2 = (par i : Int) := by
        rw [Int.tdiv_eq_ediv_of_nonneg (by omega)]; unfold par; omega
      obtain ⟨p, hpp⟩ : ∃ p, par i = p := ⟨_, rfl⟩
      have hvi := vv_getD l' i
      have hvp := vv_getD l' p
      rw [hpp] at hp p1 p2 p3 hpe
      rw [← hvi] at c1 c2 c3
      rw [← hvp] at p1 p2 p3
      obtain ⟨a, ha⟩ : ∃ a, vv l' i = a := ⟨_, rfl⟩
      obtain ⟨b, hb'⟩ : ∃ b, vv l' p = b := ⟨_, rfl⟩
      rw [ha] at c1 c2 c3
      rw [hb'] at p1 p2 p3
      have j1 : (0 : Int) < (i : Int) := by omega
      have j2 : (i : Int) < (l'.length : Int) := by omega
      have j3 : (p : Int) < (l'.length : Int) := by omega
      have n5 : (0 : Int) ≤ (p : Int) := Int.natCast_nonneg _
      have n6 : (0 : Int) ≤ (i : Int) := Int.natCast_nonneg _
      have hple : p ≤ 100000 := by omega
      have hile : i ≤ 100000 := by omega
      have hsw := fun W (hW : Hp W base hb fv17 (.slice (some ⟨g, 0, none⟩) l'.length cap) mb l') => swap_any base hb fv17 _ mb l' i p hi (by omega) W hW
      have hls := fun W => HL a b W
      have hlH := lt_of h.blk
      have hlM := h.mp
      have HS := Lib.hid (show ∀ W, Kept (fun _ => False) wr W → (W.cell? ⟨hb, 0, none⟩ = some fv17 ∧ W.cell? ⟨hb, 1, none⟩ = some (.slice (some ⟨g, 0, none⟩) l'.length cap) ∧ W.cell? ⟨g, i * 5 + 2, none⟩ = some (.int .i64 a.at_) ∧ W.cell? ⟨g, i * 5 + 3, none⟩ = some (.int .i64 a.kd) ∧ W.cell? ⟨g, i * 5 + 4, none⟩ = some (.int .i64 a.id) ∧ W.cell? ⟨g, p * 5 + 2, none⟩ = some (.int .i64 b.at_) ∧ W.cell? ⟨g, p * 5 + 3, none⟩ = some (.int .i64 b.kd) ∧ W.cell? ⟨g, p * 5 + 4, none⟩ = some (.int .i64 b.id) ∧ Kept (fun _ => False) wr W) from fun W k => by
        have kc := fun (q : Addr) (u : Value) (hq : wr.cell? q = some u) => (k.cell (block_lt_of_cell hq) (fun h => h)).trans hq
        exact ⟨kc _ _ q0, kc _ _ q1, kc _ _ c1, kc _ _ c2, kc _ _ c3, kc _ _ p1, kc _ _ p2, kc _ _ p3, k⟩)
      have HW := Lib.hid (show ∀ W, Kept (fun _ => False) wr W → Hp W base hb fv17 (.slice (some ⟨g, 0, none⟩) l'.length cap) mb l' ∧ Kept (own mb (.slice (some ⟨g, 0, none⟩) l'.length cap)) w W from fun W k => ⟨h.kept k (fun h => h) (fun h => h) (fun _ _ h => h), hk.trans k (fun _ _ h => h.elim)⟩)
      have hst := fun (hab : lt a b = false) => up_stop (l := l') (i := i) (fun hh => by rw [hpp, ha, hb', hab] at hh; cases hh.2)
      have hgo := fun (hab : lt a b = true) => up_go (l := l') hpos (by rw [hpp, ha, hb', hab])
      rw [hpp] at hgo
      have HST := Lib.hid hst
      have HGO := Lib.hid hgo
      clear hcl hfz h hk hvi hvp ha hb' hpp hlM HH HK hst hgo
      generalize lt a b = R at *
      go_upto_region 2 with fail
      go_cut [1, 33] from 7 to 42 (fun x y wx => x = .int .i64 i ∧ y = .bool R ∧ Kept (fun _ => False) wr wx)
      case first =>
        clear hsw HW HST HGO hup
        obtain ⟨n2, n4⟩ := wraps (q := p) hple
        obtain ⟨n1, n3⟩ := wraps1 (q := i) hpos hile
        go_region_held3 (fun W => W.cell? ⟨hb, 0, none⟩ = some fv17 ∧ W.cell? ⟨hb, 1, none⟩ = some (.slice (some ⟨g, 0, none⟩) l'.length cap) ∧ W.cell? ⟨g, i * 5 + 2, none⟩ = some (.int .i64 a.at_) ∧ W.cell? ⟨g, i * 5 + 3, none⟩ = some (.int .i64 a.kd) ∧ W.cell? ⟨g, i * 5 + 4, none⟩ = some (.int .i64 a.id) ∧ W.cell? ⟨g, p * 5 + 2, none⟩ = some (.int .i64 b.at_) ∧ W.cell? ⟨g, p * 5 + 3, none⟩ = some (.int .i64 b.kd) ∧ W.cell? ⟨g, p * 5 + 4, none⟩ = some (.int .i64 b.id) ∧ Kept (fun _ => False) wr W)
          (first | exact HS.out _ ((Kept.refl _ wr).drew) | (go_split_ands; exact HS.out _ (Kept.trans (by assumption) (Kept.of_below hBn) (fun _ _ h => h))))
          (first | (go_at_call 17; with_reducible refine (hls _).mono ?_; rintro e w' ⟨rfl, hBn⟩) | fail)
        obtain ⟨-, -, -, -, -, -, -, -, hkw⟩ := ‹_ ∧ _›
        go_wp2_with fail
        go_meet
        case rel => exact ⟨rfl, rfl, hkw⟩
      case rest =>
        obtain ⟨rfl, rfl, hkw⟩ := hcut
        obtain ⟨h2, k2⟩ := HW.out _ hkw
        clear q0 q1 c1 c2 c3 p1 p2 p3 HS HW hls hkw
        cases R
        · rw [HST.out rfl] at hup
          clear hsw HGO HST
          go_wp2_with fail
          go_ret
          rw [← hup]
          exact ⟨rfl, h2, k2⟩
        · rw [HGO.out rfl] at hup
          clear HGO HST
          go_wp2_with fail
          refine (hsw _ h2).mono ?_
          rintro e w2 ⟨rfl, h3, k3⟩
          have hk2 : Kept (own mb (.slice (some ⟨g, 0, none⟩) l'.length cap)) w w2 := k2.trans k3 (fun _ _ h => h)
          have hsl : p < (swp l' i p).length := by rw [length_swp]; omega
          clear hsw k2 k3 h2
          go_wp2_with fail
          go_roundw
          case rel => exact ⟨p, _, rfl, hsl, hup, h3, hk2⟩
          case measure => simp [intOf]; omega
    · obtain rfl : i = 0 := by omega
      have hst := up_stop (l := l') (i := 0) (fun hh => hpos hh.1)
      rw [hst] at hup
      have j1 : decide ((0 : Int) < (0 : Int)) = false := rfl
      clear hcl hfz h hk hst
      go_wp2_with fail
      go_quiet (fail)
      go_wp2_with fail
      go_ret
      rw [← hup]
      exact ⟨rfl, HH.out.drewN _, HK.out.drewN _⟩
end Go.Proofs.Ytkbmpmcckjhaaaa
