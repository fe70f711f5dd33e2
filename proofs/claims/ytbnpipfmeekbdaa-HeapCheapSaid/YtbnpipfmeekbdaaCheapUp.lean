/- 'less' that counts how often it is asked; up over it. -/
import Derived.Test.YtbnpipfmeekbdaaCheapP
import Derived.Deep.RegionHeld3
import Derived.Deep.CutRange
namespace Go.Proofs.Ytbnpipfmeekbdaa
open Go.RowKit Go.Kpt HeapPure
set_option linter.unusedVariables false

/-- Block cb counts: N so far. -/
def Cn (w : World) (cb N : Nat) : Prop := w.heap[cb]? = some (.cells #[.int .i64 (N : Int)] 43 (0, 0))
abbrev fc (cb : Nat) : Value := .func (.func 15) #[.pointer (some ⟨cb, 0, none⟩)] #[]
theorem Cn.kept {F : Nat → Prop} {w w' : World} {cb N : Nat} (h : Cn w cb N) (k : Kept F w w') (hF : ¬ F cb) : Cn w' cb N := (k.block cb (lt_of h) hF).trans h

set_option maxHeartbeats 1000000 in
theorem lessn_any (cb N : Nat) (hN : N ≤ 1000000) (a b : Int) (w : World) (h : Cn w cb N) : Calls Try.prog 15 #[.pointer (some ⟨cb, 0, none⟩), .int .i64 a, .int .i64 b] w fun e w' => e = .returned (.bool (lt a b)) ∧ Cn w' cb (N + 1) ∧ Kept (fun x => x = cb) w w' := by
  have q0 : w.cell? ⟨cb, 0, none⟩ = some (.int .i64 N) := cell_of h
  have f0 : w.frozen? ⟨cb, 0, none⟩ = false := frozen_of h
  have e : ((N + 1 : Nat) : Int) = (N : Int) + 1 := by push_cast; rfl
  have h2 : Cn (w.setCell ⟨cb, 0, none⟩ (.int .i64 ((N : Int) + 1))) cb (N + 1) := by
    unfold Cn
    rw [e]
    exact set_same (i := 0) _ h
  have k2 : Kept (fun x => x = cb) w (w.setCell ⟨cb, 0, none⟩ (.int .i64 ((N : Int) + 1))) := Kept.set1 w cb 0 _
  have n0 : (N : Int) ≤ 1000000 := by omega
  have n1 : (0 : Int) ≤ (N : Int) := Int.natCast_nonneg _
  clear e
  go_enter Try.func15, Try.ntmps15
  go_wp2_with fail
  go_ret
  exact ⟨rfl, h2, k2⟩

/-- A heap, and a counter beside it. -/
structure Hc (w : World) (base hb : Nat) (v : Value) (mb : Nat) (l : List (Int × Int)) (cb N : Nat) : Prop where
  hp : Hp w base hb (fc cb) v mb l
  cn : Cn w cb N
  nh : cb ≠ hb
  nm : cb ≠ mb
  ng : ∀ g, v.ownBlock = some g → g ≠ cb
abbrev ownc (mb : Nat) (v : Value) (cb x : Nat) : Prop := own mb v x ∨ x = cb
theorem Hc.asked {w w' : World} {base hb : Nat} {v : Value} {mb : Nat} {l : List (Int × Int)} {cb N N' : Nat} (h : Hc w base hb v mb l cb N) (hc : Cn w' cb N') (k : Kept (fun x => x = cb) w w') : Hc w' base hb v mb l cb N' :=
  ⟨h.hp.kept k (fun e => h.nh e.symm) (fun e => h.nm e.symm) (fun g hg e => h.ng g hg e), hc, h.nh, h.nm, h.ng⟩
theorem Hc.drewN {w : World} {base hb : Nat} {v : Value} {mb : Nat} {l : List (Int × Int)} {cb N : Nat} (h : Hc w base hb v mb l cb N) (n : Nat) : Hc (w.drewN n) base hb v mb l cb N :=
  ⟨h.hp.drewN n, h.cn, h.nh, h.nm, h.ng⟩

theorem wraps {q : Nat} (h : q ≤ 100000) : IntKind.i64.wrap (q : Int) = (q : Int) ∧ wrap64 (q : Int) = (q : Int) := ⟨IntWalk.i64_in _ ⟨by omega, by omega⟩, IntWalk.wrap64_in _ ⟨by omega, by omega⟩⟩
theorem wraps1 {q : Nat} (h0 : 0 < q) (h : q ≤ 100000) : IntKind.i64.wrap ((q : Int) - 1) = (q : Int) - 1 ∧ wrap64 ((q : Int) - 1) = (q : Int) - 1 := ⟨IntWalk.i64_in _ ⟨by omega, by omega⟩, IntWalk.wrap64_in _ ⟨by omega, by omega⟩⟩

set_option maxRecDepth 1000000 in
set_option maxHeartbeats 8000000 in
theorem upc_any (base hb : Nat) (v : Value) (mb : Nat) (l : List (Int × Int)) (i0 cb N : Nat) (hi0 : i0 < l.length) (hi1 : i0 < 4096) (hN : N ≤ 900000) (w : World) (h : Hc w base hb v mb l cb N) :
    Calls Try.prog 18 #[.pointer (some ⟨hb, 0, none⟩), .int .i64 i0] w fun e w' => e = .returned (.bool ((((up lt l i0).2 : Nat) : Int) != (i0 : Int))) ∧ ∃ N', N' ≤ N + 13 ∧ N ≤ N' ∧ Hc w' base hb v mb (up lt l i0).1 cb N' ∧ Kept (ownc mb v cb) w w' := by
  have ha0 := above_le hi1
  go_enter Try.func18, Try.ntmps18
  go_wp2_with fail
  go_loopw [1] (fun x wr => ∃ (i : Nat) (l' : List (Int × Int)) (N' : Nat), x = .int .i64 i ∧ i < l'.length ∧ up lt l' i = up lt l i0 ∧ Hc wr base hb v mb l' cb N' ∧ N' + above i ≤ N + above i0 ∧ N ≤ N' ∧ Kept (ownc mb v cb) w wr) (fun x _ => (intOf x).toNat)
  case atStart => exact ⟨i0, l, N, rfl, hi0, rfl, h, Nat.le_refl _, Nat.le_refl _, Kept.refl _ _⟩
  case round =>
    clear h
    obtain ⟨i, l', N', rfl, hi, hup, hc, hN1, hN2, hk⟩ := hrel
    have h := hc.hp
    rcases h.own.shape with ⟨-, rfl⟩ | ⟨g, cap, rfl, hg1, hg2, hlc, hcm, hfz, hcl⟩
    · simp at hi
    have hlen := h.len
    have q0 : wr.cell? ⟨hb, 0, none⟩ = some (fc cb) := cell_of h.blk
    have q1 : wr.cell? ⟨hb, 1, none⟩ = some (.slice (some ⟨g, 0, none⟩) l'.length cap) := cell_of h.blk
    have c1 := (hcl i hi).2
    have HH := Lib.hid hc
    have HK := Lib.hid hk
    by_cases hpos : 0 < i
    · have hp := par_lt hpos
      have hab1 := above_par hpos
      have hpc := (hcl (par i) (by omega)).2
      have hpe : ((i : Int) - 1).tdiv 2 = (par i : Int) := by
        rw [Int.tdiv_eq_ediv_of_nonneg (by omega)]; unfold par; omega
      obtain ⟨p, hpp⟩ : ∃ p, par i = p := ⟨_, rfl⟩
      have hvi := vv_getD l' i
      have hvp := vv_getD l' p
      rw [hpp] at hp hpc hpe hab1
      rw [← hvi] at c1
      rw [← hvp] at hpc
      obtain ⟨a, ha⟩ : ∃ a, vv l' i = a := ⟨_, rfl⟩
      obtain ⟨b, hb'⟩ : ∃ b, vv l' p = b := ⟨_, rfl⟩
      rw [ha] at c1
      rw [hb'] at hpc
      have j1 : (0 : Int) < (i : Int) := by omega
      have j2 : (i : Int) < (l'.length : Int) := by omega
      have j3 : (p : Int) < (l'.length : Int) := by omega
      have hsw := fun W (hW : Hp W base hb (fc cb) (.slice (some ⟨g, 0, none⟩) l'.length cap) mb l') => swap_any base hb (fc cb) _ mb l' i p hi (by omega) W hW
      have hls := lessn_any cb N' (by omega) a b wr.drew hc.cn
      have hst := fun (hab : lt a b = false) => up_stop (l := l') (i := i) (fun hh => by rw [hpp, ha, hb', hab] at hh; cases hh.2)
      have hgo := fun (hab : lt a b = true) => up_go (l := l') hpos (by rw [hpp, ha, hb', hab])
      rw [hpp] at hgo
      have HST := Lib.hid hst
      have HGO := Lib.hid hgo
      have hch := hc.nh
      have hcg := hc.ng g rfl
      have HS := Lib.hid (show ∀ W, Kept (fun x => x = cb) wr W → (W.cell? ⟨hb, 0, none⟩ = some (fc cb) ∧ W.cell? ⟨hb, 1, none⟩ = some (.slice (some ⟨g, 0, none⟩) l'.length cap) ∧ W.cell? ⟨g, i * 2 + 1, none⟩ = some (.int .i64 a) ∧ W.cell? ⟨g, p * 2 + 1, none⟩ = some (.int .i64 b) ∧ Kept (fun x => x = cb) wr W) from fun W k =>
        ⟨(k.cell (p := ⟨hb, 0, none⟩) (block_lt_of_cell q0) (fun e => hch e.symm)).trans q0, (k.cell (p := ⟨hb, 1, none⟩) (block_lt_of_cell q1) (fun e => hch e.symm)).trans q1, (k.cell (p := ⟨g, i * 2 + 1, none⟩) (block_lt_of_cell c1) (fun e => hcg e)).trans c1, (k.cell (p := ⟨g, p * 2 + 1, none⟩) (block_lt_of_cell hpc) (fun e => hcg e)).trans hpc, k⟩)
      have hkd : Kept (fun x => x = cb) wr wr.drew := (Kept.refl _ _).drew
      clear hcl hfz h hk hvi hvp ha hb' hpp hst hgo hc hch hcg
      generalize lt a b = R at *
      go_upto_region 2 with fail
      go_cut [1, 33] from 7 to 42 (fun x y wx => x = .int .i64 i ∧ y = .bool R ∧ Cn wx cb (N' + 1) ∧ Kept (fun x => x = cb) wr wx)
      case first =>
        have hple : p ≤ 100000 := by omega
        have hile : i ≤ 100000 := by omega
        have n5 : (0 : Int) ≤ (p : Int) := Int.natCast_nonneg _
        have n6 : (0 : Int) ≤ (i : Int) := Int.natCast_nonneg _
        clear hsw HST HGO hup HH HK hab1 hN1 hlen
        obtain ⟨n2, n4⟩ := wraps (q := p) hple
        obtain ⟨n1, n3⟩ := wraps1 (q := i) hpos hile
        go_region_held3 (fun W => W.cell? ⟨hb, 0, none⟩ = some (fc cb) ∧ W.cell? ⟨hb, 1, none⟩ = some (.slice (some ⟨g, 0, none⟩) l'.length cap) ∧ W.cell? ⟨g, i * 2 + 1, none⟩ = some (.int .i64 a) ∧ W.cell? ⟨g, p * 2 + 1, none⟩ = some (.int .i64 b) ∧ Kept (fun x => x = cb) wr W)
          (first | exact HS.out _ hkd | exact HS.out _ hk4)
          (first | (go_at_call 15; refine hls.mono ?_; rintro e w4 ⟨rfl, hc4, hk4'⟩; have hk4 := hkd.trans hk4' (fun _ _ h => h)) | fail)
        go_wp2_with fail
        go_meet
        case rel => exact ⟨rfl, rfl, hc4, hk4⟩
      case rest =>
        obtain ⟨rfl, rfl, hc4, hk4⟩ := hcut
        have h2 := HH.out.asked hc4 hk4
        have k2 := HK.out.trans hk4 (fun _ _ h => .inr h)
        clear q0 q1 c1 hpc HS hls hkd HH HK
        cases R
        · rw [HST.out rfl] at hup
          clear hsw HGO HST
          go_wp2_with fail
          go_ret
          rw [← hup]
          exact ⟨rfl, N' + 1, by omega, by omega, h2, k2⟩
        · rw [HGO.out rfl] at hup
          clear HGO HST
          go_wp2_with fail
          refine (hsw _ h2.hp).mono ?_
          rintro e w5 ⟨rfl, h3, k3⟩
          have hc5 : Cn w5 cb (N' + 1) := hc4.kept k3 (fun hh => by
            rcases hh with hh | hh
            · exact h2.nm hh
            · exact h2.ng cb hh.symm rfl)
          have h5 : Hc w5 base hb (.slice (some ⟨g, 0, none⟩) l'.length cap) mb (swp l' i p) cb (N' + 1) := ⟨h3, hc5, h2.nh, h2.nm, h2.ng⟩
          have hk2 : Kept (ownc mb (.slice (some ⟨g, 0, none⟩) l'.length cap) cb) w w5 := k2.trans k3 (fun _ _ h => .inl h)
          have hsl : p < (swp l' i p).length := by rw [length_swp]; omega
          clear hsw k2 k3 h2 hc4 hk4 h3 hc5
          go_wp2_with fail
          go_roundw
          case rel => exact ⟨p, _, N' + 1, rfl, hsl, hup, h5, by omega, by omega, hk2⟩
          case measure => simp [intOf]; omega
    · obtain rfl : i = 0 := by omega
      have hst := up_stop (l := l') (i := 0) (fun hh => hpos hh.1)
      rw [hst] at hup
      have j1 : decide ((0 : Int) < (0 : Int)) = false := rfl
      clear hcl hfz h hk hst hc
      go_wp2_with fail
      go_quiet (fail)
      go_wp2_with fail
      go_ret
      rw [← hup]
      exact ⟨rfl, N', by omega, by omega, HH.out.drewN _, HK.out.drewN _⟩
end Go.Proofs.Ytbnpipfmeekbdaa
