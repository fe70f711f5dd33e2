/- Set over a 'less' that counts: a key that is there. -/
import Derived.Test.YtbnpipfmeekbdaaSetDrop
import Derived.Test.YtbnpipfmeekbdaaCheapFix
namespace Go.Proofs.Ytbnpipfmeekbdaa
open Go.RowKit Go.Kpt HeapPure
set_option linter.unusedVariables false

set_option maxRecDepth 1000000 in
set_option maxHeartbeats 8000000 in
theorem setc_there (cb N : Nat) (hN : N ≤ 800000) (base hb : Nat) (v : Value) (mb : Nat) (l : List (Int × Int)) (hl0 : l.length ≤ 4096) (k x : Int) (hk : (Lit.int .i64 k).wf = true) (i : Nat) (e : idx l k = some i) (w : World) (hc : Hc w base hb v mb l cb N) :
    Calls Try.prog 10 #[.pointer (some ⟨hb, 0, none⟩), .int .i64 k, .int .i64 x] w fun e w' => e = .returned (.tuple #[]) ∧ ∃ N', N' ≤ N + 39 ∧ N ≤ N' ∧ Hc w' base hb v mb (setAt lt l k x) cb N' ∧ Kept (fun y => (y = hb ∨ own mb v y) ∨ y = cb) w w' := by
  have h := hc.hp
  obtain ⟨hi, hik⟩ := idx_some e
  have hset : setAt lt l k x = fix lt (l.set i (k, x)) i := by unfold setAt; rw [e]
  rw [hset]
  have q1 : w.cell? ⟨hb, 1, none⟩ = some v := cell_of h.blk
  have q2 : w.cell? ⟨hb, 2, none⟩ = some (.map (some mb)) := cell_of h.blk
  have hm : mi l k = some (i : Int) := by unfold mi; rw [e]; rfl
  have hmp := h.mp
  obtain ⟨ap1, ap2⟩ := h.apart
  rcases h.own.shape with ⟨-, rfl⟩ | ⟨g, cap, rfl, hg1, hg2, hlc, hcm, hfz, hcl⟩
  · simp at hi
  obtain ⟨ap2, ap3⟩ := ap2 g rfl
  have c1 := (hcl i hi).2
  have f1 := hfz (i * 2 + 1)
  have hi' : (i : Int) < (l.length : Int) := by omega
  have hkey : (l.getD i (0, 0)).1 = k := by rw [getElem_of hi] at hik; rw [Option.some.inj hik]
  have hown2 := h.own.set1 i hi x
  rw [hkey] at hown2
  have hk2 : Kept (fun y => y = g) w (w.setCell ⟨g, i * 2 + 1, none⟩ (.int .i64 x)) := Kept.set1 w g _ _
  have hmp2 := hmp.kept hk2 (Ne.symm ap3)
  rw [← mi_set h.inj (v := x) e] at hmp2
  have hHp : Hp (w.setCell ⟨g, i * 2 + 1, none⟩ (.int .i64 x)) base hb (fc cb) (.slice (some ⟨g, 0, none⟩) l.length cap) mb (l.set i (k, x)) :=
    ⟨(hk2.block hb (lt_of h.blk) (Ne.symm ap2)).trans h.blk, hown2, by rw [List.length_set]; exact hmp2, set_inj h.inj e, fun y hy => by
      rcases List.mem_or_eq_of_mem_set hy with hy | hy
      · exact h.wf y hy
      · rw [hy]; exact hk, by rw [List.length_set]; exact h.len⟩
  have hHc : Hc (w.setCell ⟨g, i * 2 + 1, none⟩ (.int .i64 x)) base hb (.slice (some ⟨g, 0, none⟩) l.length cap) mb (l.set i (k, x)) cb N := ⟨hHp, hc.cn.kept hk2 (fun hh => hc.ng g rfl hh.symm), hc.nh, hc.nm, hc.ng⟩
  have hfx := fixc_any base hb _ mb (l.set i (k, x)) i cb N (by rw [List.length_set]; exact hi) (by rw [List.length_set]; exact hl0) hN _ hHc
  clear hown2 hmp2 hHp hHc hcl hfz hkey hset
  go_enter Try.func10, Try.ntmps10
  go_wp2_with (at_lookup; refine wpList_mp_look _ rfl _ _ rfl Try.underlying3 Try.underlying35 Try.underlying3 (zeroI _) mb l.length (mi l) rfl hmp k rfl hk ?_; rw [hm])
  go_wp2_with fail
  refine hfx.mono ?_
  rintro e w2 ⟨rfl, N', hN1, hN2, h2, k2⟩
  go_wp2_with fail
  go_returns
  exact ⟨rfl, N', hN1, hN2, h2, (hk2.mono (G := fun y => (y = hb ∨ own mb (.slice (some ⟨g, 0, none⟩) l.length cap) y) ∨ y = cb) (fun y _ hy => .inl (.inr (.inr (by rw [hy]; rfl))))).trans k2 (fun y _ hy => by
    rcases hy with hy | hy
    · exact .inl (.inr hy)
    · exact .inr hy)⟩

end Go.Proofs.Ytbnpipfmeekbdaa
