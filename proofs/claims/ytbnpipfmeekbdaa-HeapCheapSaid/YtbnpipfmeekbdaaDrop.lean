/- What a heap's functions do: Drop. -/
import Derived.Test.YtbnpipfmeekbdaaSetDrop
namespace Go.Proofs.Ytbnpipfmeekbdaa
open Go.RowKit Go.Kpt HeapPure
set_option linter.unusedVariables false

set_option maxHeartbeats 2000000 in
theorem drop_none (base hb : Nat) (v : Value) (mb : Nat) (l : List (Int × Int)) (k : Int) (hk : (Lit.int .i64 k).wf = true) (e : idx l k = none) (w : World) (h : Hp w base hb fv9 v mb l) :
    Calls Try.prog 12 #[.pointer (some ⟨hb, 0, none⟩), .int .i64 k] w fun e w' => e = .returned (.bool false) ∧ w = w' := by
  have q2 : w.cell? ⟨hb, 2, none⟩ = some (.map (some mb)) := cell_of h.blk
  have hm : mi l k = none := by unfold mi; rw [e]; rfl
  go_enter Try.func12, Try.ntmps12
  go_wp2_with (at_lookup; refine wpList_mp_look _ rfl _ _ rfl Try.underlying3 Try.underlying35 Try.underlying3 (zeroI _) mb l.length (mi l) rfl h.mp k rfl hk ?_; rw [hm])
  go_wp2_with fail
  go_ret
  exact ⟨rfl, rfl⟩

set_option maxRecDepth 1000000 in
set_option maxHeartbeats 8000000 in
theorem drop_some (base hb : Nat) (v : Value) (mb : Nat) (l : List (Int × Int)) (k : Int) (hk : (Lit.int .i64 k).wf = true) (i : Nat) (e : idx l k = some i) (w : World) (h : Hp w base hb fv9 v mb l) :
    Calls Try.prog 12 #[.pointer (some ⟨hb, 0, none⟩), .int .i64 k] w fun e w' => e = .returned (.bool true) ∧ ∃ v', Hp w' base hb fv9 v' mb (drop lt l k) ∧ Kept (fun y => y = hb ∨ own mb v y) w w' ∧ Moved w v v' := by
  obtain ⟨hi, hik⟩ := idx_some e
  have hdrop := drop_eq (lt := lt) e
  have q2 : w.cell? ⟨hb, 2, none⟩ = some (.map (some mb)) := cell_of h.blk
  have hm : mi l k = some (i : Int) := by unfold mi; rw [e]; rfl
  have hmp := h.mp
  obtain ⟨ap1, ap2⟩ := h.apart
  rcases h.own.shape with ⟨-, rfl⟩ | ⟨g, cap, rfl, hg1, hg2, hlc, hcm, -, -⟩
  · simp at hi
  obtain ⟨ap2, ap3⟩ := ap2 g rfl
  have q1 : w.cell? ⟨hb, 1, none⟩ = some (.slice (some ⟨g, 0, none⟩) l.length cap) := cell_of h.blk
  obtain ⟨n, hn⟩ : ∃ n, l.length = n + 1 := ⟨l.length - 1, by omega⟩
  have hsw := swap_any base hb fv9 _ mb l i n hi (by omega) w h
  have hkey : (l.getD i (0, 0)).1 = k := by rw [getElem_of hi] at hik; rw [Option.some.inj hik]
  have hmk : mi (swp l i n) k = some (n : Int) := by
    unfold mi
    rw [idx_swp h.inj hi (by omega), if_pos hkey.symm]
    rfl
  have hmc := mi_cut h.inj e
  have hcut : cut l i = (swp l i n).take n := by unfold cut; rw [hn]; rfl
  rw [hn, show n + 1 - 1 = n from rfl] at hmc hdrop
  have hwfc := cut_wf hi h.wf
  have hinjc := cut_inj h.inj hi
  have hlenc := length_cut l i
  rw [hn] at hlenc
  have hlen := h.len
  have hcn : (n : Int) ≤ (cap : Int) := by omega
  have hin : i ≤ n := by omega
  have hnb : n + 1 ≤ 100000 := by omega
  rw [hn] at q1 hlc
  have hmpl := hmp
  rw [hn] at hmpl
  have HX := Lib.hid (And.intro hwfc (And.intro hinjc hlenc))
  have HM := Lib.hid hmc
  have HD := Lib.hid hdrop
  have HC := Lib.hid hcut
  have HN := Lib.hid hn
  have HL := Lib.hid hlen
  clear hwfc hinjc hlenc hmc hkey hik hdrop hcut h hlen
  by_cases hlast : i < n
  all_goals
    go_enter Try.func12, Try.ntmps12
    go_wp2_with (at_lookup; refine wpList_mp_look _ rfl _ _ rfl Try.underlying3 Try.underlying35 Try.underlying3 (zeroI _) mb (n + 1) (mi l) rfl hmpl k rfl hk ?_; rw [hm])
    refine hsw.mono ?_
    rintro e w1 ⟨rfl, h1, k1⟩
    have b1 := h1.blk
    have r1 : w1.cell? ⟨hb, 1, none⟩ = some (.slice (some ⟨g, 0, none⟩) (n + 1) cap) := by rw [← HN.out]; exact cell_of b1
    have r2 : w1.cell? ⟨hb, 2, none⟩ = some (.map (some mb)) := cell_of b1
    have f1 : w1.frozen? ⟨hb, 1, none⟩ = false := frozen_of b1
    have b2 : (w1.setCell ⟨hb, 1, none⟩ (.slice (some ⟨g, 0, none⟩) n cap)).heap[hb]? = some (.cells #[fv9, .slice (some ⟨g, 0, none⟩) n cap, .map (some mb)] 47 (0, 0)) := set_same (i := 1) _ b1
    have hks : Kept (fun y => y = hb) w1 (w1.setCell ⟨hb, 1, none⟩ (.slice (some ⟨g, 0, none⟩) n cap)) := Kept.set1 w1 hb 1 _
    have hmp1 := h1.mp.kept hks (Ne.symm ap1)
    have hown1 := (h1.own.cut (m := n) (by rw [swp_length, HN.out]; omega)).kept hks (fun g' h1 h2 => by cases h1; exact ap2 h2)
    rw [← HC.out] at hown1
    rw [swp_length, HN.out] at hmp1
    have hkw : Kept (fun y => y = hb ∨ own mb (.slice (some ⟨g, 0, none⟩) l.length cap) y) w (w1.setCell ⟨hb, 1, none⟩ (.slice (some ⟨g, 0, none⟩) n cap)) := (k1.mono (G := fun y => y = hb ∨ own mb (.slice (some ⟨g, 0, none⟩) l.length cap) y) (fun y _ h => .inr h)).trans hks (fun y _ h => .inl h)
    clear hsw q1 q2 hm hmp hmpl h1 k1
    go_wp2_with (at_delete
                 go_loud (
                   refine wpList_mp_del _ rfl _ _ rfl Try.underlying3 Try.underlying35 mb (n + 1) (mi (swp l i n)) rfl hmp1 k rfl hk ?_
                   intro w3 hmp3 hk3
                   rw [HM.out, hmk] at hmp3))
    have b3 := (hk3.block hb (lt_of b2) ap1).trans b2
    have hown3 := hown1.kept hk3 (fun g' h1 h2 => by cases h1; exact ap3 h2)
    have hHp : Hp w3 base hb fv9 (.slice (some ⟨g, 0, none⟩) n cap) mb (cut l i) :=
      ⟨b3, hown3, by rw [HX.out.2.2]; exact hmp3, HX.out.2.1, HX.out.1, by rw [HX.out.2.2]; have := HL.out; have := HN.out; omega⟩
    have hkE : Kept (fun y => y = hb ∨ own mb (.slice (some ⟨g, 0, none⟩) l.length cap) y) w w3 := hkw.trans hk3 (fun y _ h => .inr (.inl h))
    have hmv : Moved w (.slice (some ⟨g, 0, none⟩) l.length cap) (.slice (some ⟨g, 0, none⟩) n cap) := fun g' hg' => .inl hg'
    clear hown1 hmp1 hmp3 hown3 b1 b2 r1 r2 f1
    first
      | (have hd : drop lt l k = fix lt (cut l i) i := by rw [HD.out, if_pos hlast]
         refine (fix_any base hb _ mb (cut l i) i (by rw [HX.out.2.2]; exact hlast) w3 hHp).mono ?_
         rintro e w5 ⟨rfl, h5, k5⟩
         go_wp2_with fail
         go_ret
         exact ⟨rfl, _, by rw [hd]; exact h5, fix_kept hkE k5 hmv, hmv⟩)
      | (have hd : drop lt l k = cut l i := by rw [HD.out, if_neg (by omega)]
         go_ret
         exact ⟨rfl, _, by rw [hd]; exact hHp, hkE, hmv⟩)
end Go.Proofs.Ytbnpipfmeekbdaa
