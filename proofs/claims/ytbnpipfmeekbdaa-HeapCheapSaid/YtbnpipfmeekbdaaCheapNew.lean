/- Set over a 'less' that counts: a new key. -/
import Derived.Test.YtbnpipfmeekbdaaCheapSet
namespace Go.Proofs.Ytbnpipfmeekbdaa
open Go.RowKit Go.Kpt HeapPure
set_option linter.unusedVariables false

theorem fixc_kept {w u u' : World} {hb mb cb : Nat} {v v' : Value} (h1 : Kept (fun x => x = hb ∨ own mb v x) w u) (h2 : Kept (ownc mb v' cb) u u') (hm : Moved w v v') : Kept (fun x => (x = hb ∨ own mb v x) ∨ x = cb) w u' :=
  (h1.mono (G := fun x => (x = hb ∨ own mb v x) ∨ x = cb) (fun _ _ h => .inl h)).trans h2 fun x hx h => by
    rcases h with (h | h) | h
    · exact .inl (.inr (.inl h))
    · rcases hm x h.symm with h3 | h3
      · exact .inl (.inr (.inr h3.symm))
      · omega
    · exact .inr h
theorem hc_new {w u : World} {base hb mb cb N : Nat} {v v' : Value} {l l' : List (Int × Int)} (h : Hc w base hb v mb l cb N) (h2 : Hp u base hb (fc cb) v' mb l') (k : Kept (fun x => x = hb ∨ own mb v x) w u) (hm : Moved w v v') : Hc u base hb v' mb l' cb N :=
  ⟨h2, h.cn.kept k (fun hh => by
    rcases hh with hh | hh | hh
    · exact h.nh hh
    · exact h.nm hh
    · exact h.ng cb hh.symm rfl), h.nh, h.nm, fun g hg e => by
    have hcw := lt_of h.cn
    rcases hm g hg with h3 | h3
    · exact h.ng g h3 e
    · omega⟩

set_option maxRecDepth 1000000 in
set_option maxHeartbeats 8000000 in
theorem setc_new (cb N : Nat) (hN : N ≤ 800000) (base hb : Nat) (v : Value) (mb : Nat) (l : List (Int × Int)) (k x : Int) (hk : (Lit.int .i64 k).wf = true) (hl0 : l.length + 1 ≤ 4096) (e : idx l k = none) (w : World) (hbase : base ≤ w.heap.size) (hc : Hc w base hb v mb l cb N) :
    Calls Try.prog 10 #[.pointer (some ⟨hb, 0, none⟩), .int .i64 k, .int .i64 x] w fun e w' => e = .returned (.tuple #[]) ∧ ∃ v' N', N' ≤ N + 39 ∧ N ≤ N' ∧ Hc w' base hb v' mb (setAt lt l k x) cb N' ∧ Kept (fun y => (y = hb ∨ own mb v y) ∨ y = cb) w w' ∧ Moved w v v' := by
  have h := hc.hp
  have HC := Lib.hid hc
  have hl : l.length + 1 ≤ 100000 := by omega
  clear hc
  obtain ⟨i0, hi, hz0, hz1, hz2⟩ := info_parts Try.info49
  have hset : setAt lt l k x = fix lt (l ++ [(k, x)]) l.length := by unfold setAt; rw [e]
  rw [hset]
  have q1 : w.cell? ⟨hb, 1, none⟩ = some v := cell_of h.blk
  have q2 : w.cell? ⟨hb, 2, none⟩ = some (.map (some mb)) := cell_of h.blk
  have hm : mi l k = none := by unfold mi; rw [e]; rfl
  have hmp := h.mp
  have hown := h.own
  have hlt := lt_of h.blk
  have hblk := h.blk
  obtain ⟨ap1, ap2⟩ := h.apart
  have HE := Lib.hid h
  have hlen : v = .slice none 0 0 ∧ l.length = 0 ∨ ∃ g cap, v = .slice (some ⟨g, 0, none⟩) l.length cap := by
    rcases hown.shape with ⟨h1, h2⟩ | ⟨g, cap, h1, -⟩
    · exact .inl ⟨h1, by rw [h2]; rfl⟩
    · exact .inr ⟨g, cap, h1⟩
  have hkA : ∀ o : Obj, Kept (fun _ => False) w (w.alloc o) := fun o => (Kept.refl _ _).alloc o
  have HKA := Lib.hid hkA
  clear hset h hkA
  rcases hlen with ⟨rfl, hl0⟩ | ⟨g, cap, rfl⟩
  · obtain rfl : l = [] := List.length_eq_zero_iff.1 hl0
    clear hl0
    go_enter Try.func10, Try.ntmps10
    go_wp2_with (first
      | (at_lookup; refine wpList_mp_look _ rfl _ _ rfl Try.underlying3 Try.underlying35 Try.underlying3 (zeroI _) mb 0 (mi []) rfl hmp k rfl hk ?_; rw [hm])
      | (at_builtin
         go_loud (
           refine wpList_append_own_at _ rfl _ _ 45 rfl base 49 i0 (.agg #[.int .i64 0, .int .i64 0]) 2 16 Try.underlying45 hi hz0 hz1 hz2 rfl (by decide) (.slice none 0 0) 0 (pcells []) rfl (hown.alloc _) ⟨w.heap.size, 0, none⟩ 1 1 [.int .i64 k, .int .i64 0] rfl rfl (fun j u hj => by
              have hj2 : j = 0 ∨ j = 1 := by have := (List.getElem?_eq_some_iff.1 hj).1; simp at this; omega
              rcases hj2 with rfl | rfl <;> cases hj <;> exact cell_of (heap_alloc_new w (.cells #[.int .i64 k, .int .i64 0] 49))) (by intro u hu; simp at hu; rcases hu with rfl | rfl <;> rfl) (by unfold maxLen; omega) (by omega) (by simp; omega) ?_
           intro v1 w1 hown1 hgrow _ hloc
           obtain ⟨g1, cap1, rfl⟩ : ∃ g1 cap1, v1 = .slice (some ⟨g1, 0, none⟩) 1 cap1 := grown_shape hown1
           have hk1 : Kept (fun y => some y = Value.ownBlock (.slice none 0 0)) w w1 := ((HKA.out (.cells #[.int .i64 k, .int .i64 0] 49)).mono (fun _ _ h => h.elim)).trans (Kept.of_grown hgrow) (fun _ _ h => h)
           have b1 := (hk1.block hb hlt (fun h => (ap2 hb h.symm).1 rfl)).trans hblk
           have r1 : w1.cell? ⟨hb, 1, none⟩ = some (.slice none 0 0) := cell_of b1
           have r2 : w1.cell? ⟨hb, 2, none⟩ = some (.map (some mb)) := cell_of b1
           have f1 : w1.frozen? ⟨hb, 1, none⟩ = false := frozen_of b1
           have b2 : (w1.setCell ⟨hb, 1, none⟩ (.slice (some ⟨g1, 0, none⟩) 1 cap1)).heap[hb]? = some (.cells #[(fc cb), .slice (some ⟨g1, 0, none⟩) 1 cap1, .map (some mb)] 47 (0, 0)) := set_same (i := 1) _ b1
           have hkw : Kept (fun y => y = hb ∨ own mb (.slice none 0 0) y) w (w1.setCell ⟨hb, 1, none⟩ (.slice (some ⟨g1, 0, none⟩) 1 cap1)) := (hk1.mono (G := fun y => y = hb ∨ own mb (.slice none 0 0) y) (fun y _ h => .inr (.inr h))).trans (Kept.set1 w1 hb 1 _) (fun y _ h => .inl h)
           have hmp1 := (hmp.kept hk1 (fun h => (ap2 mb h.symm).2 rfl)).kept (Kept.set1 w1 hb 1 (.slice (some ⟨g1, 0, none⟩) 1 cap1)) (Ne.symm ap1)
           have hownP : OwnP w1 base 49 (.slice (some ⟨g1, 0, none⟩) 1 cap1) ([] ++ [(k, 0)]) := by
             have := hown1
             unfold OwnP
             rw [pcells_append, List.length_append]
             exact this
           have hg1b : g1 ≠ hb := by
             obtain ⟨cur, hg'⟩ := hownP.isBlock
             intro h; rw [h, b1] at hg'; cases hg'
           have hownQ := hownP.kept (Kept.set1 w1 hb 1 (.slice (some ⟨g1, 0, none⟩) 1 cap1)) (fun g' h1 h2 => by cases h1; exact hg1b h2)
           clear hownP))
      | (at_mapUpdate
         go_loud (
           refine wpList_mp_put _ rfl _ _ _ rfl Try.underlying3 Try.underlying35 Try.underlying3 mb 0 (mi []) rfl hmp1 (by unfold maxLen; omega) k 0 rfl rfl hk (by exact WalkArith.wf_i64 (by omega)) ?_
           intro w3 hmp3 hk3
           have b3 := (hk3.block hb (lt_of b2) ap1).trans b2
           have s1 : w3.cell? ⟨hb, 1, none⟩ = some (.slice (some ⟨g1, 0, none⟩) 1 cap1) := cell_of b3
           have hg1m : g1 ≠ mb := by
             obtain ⟨D, ⟨es, clock, hmm, -⟩, -⟩ := hmp1
             obtain ⟨cur, hg'⟩ := hownQ.isBlock
             intro h; subst h; rw [hmm] at hg'; cases hg'
           have hown3 := hownQ.kept hk3 (fun g' h1 h2 => by cases h1; exact hg1m h2)
           rcases hown3.shape with ⟨h1, -⟩ | ⟨g', cap', hsh, -, -, hlc, -, hfz, hcl⟩
           · cases h1
           injection hsh with e1 e2 e3
           injection e1 with e1
           injection e1 with e1 e4 e5
           subst e1
           subst e3
           clear e2 e4 e5
           have t1 : w3.cell? ⟨g1, 0 * 2 + 1, none⟩ = some (.int .i64 (([] ++ [(k, 0)]).getD 0 (0, 0)).2) := (hcl 0 (by simp)).2
           have tf := hfz (0 * 2 + 1)
           have ht : (0 : Int) < (1 : Int) := by omega
           have hown4 := hown3.set1 0 (by simp) x
           have hk4 : Kept (fun y => y = g1) w3 (w3.setCell ⟨g1, 0 * 2 + 1, none⟩ (.int .i64 x)) := Kept.set1 w3 g1 _ _
           have hmp4 := hmp3.kept hk4 (Ne.symm hg1m)
           rw [hm] at hmp4
           rw [show mput (mi []) k 0 = mi ([] ++ [(k, x)]) from (mi_append HE.out.inj (v := x) e).symm] at hmp4
           have hlset : ([] ++ [(k, (0 : Int))]).set 0 ((([] ++ [(k, (0 : Int))]).getD 0 (0, 0)).1, x) = [] ++ [(k, x)] := by simp
           rw [hlset] at hown4
           have hHp : Hp (w3.setCell ⟨g1, 0 * 2 + 1, none⟩ (.int .i64 x)) base hb (fc cb) (.slice (some ⟨g1, 0, none⟩) 1 cap1) mb ([] ++ [(k, x)]) :=
             ⟨(hk4.block hb (lt_of b3) (Ne.symm hg1b)).trans b3, hown4, by rw [List.length_append]; exact hmp4, append_inj HE.out.inj e, fun y hy => by
               rcases List.mem_append.1 hy with hy | hy
               · exact HE.out.wf y hy
               · rw [List.mem_singleton.1 hy]; exact hk, by rw [List.length_append]; exact hl⟩
           have hmv : Moved w (.slice none 0 0) (.slice (some ⟨g1, 0, none⟩) 1 cap1) := fun g' hg' => by
             rcases hloc with h | h
             · exact .inl (h ▸ hg')
             · right
               rw [h] at hg'
               have := Option.some.inj hg'
               simp at this
               omega
           have hkE : Kept (fun y => y = hb ∨ own mb (.slice none 0 0) y) w (w3.setCell ⟨g1, 0 * 2 + 1, none⟩ (.int .i64 x)) :=
             (hkw.trans hk3 (fun y _ h => .inr (.inl h))).trans hk4 (fun y hy h => by
               rcases hmv y (by rw [h]; rfl) with h3 | h3
               · exact .inr (.inr h3.symm)
               · omega)
           have HHp := Lib.hid hHp
           clear hown4 hmp4 hHp
           clear hfz hcl)))
    refine (fixc_any base hb (.slice (some ⟨g1, 0, none⟩) 1 cap1) mb ([] ++ [(k, x)]) 0 cb N (by simp) (by simp) hN _ ?_).mono ?_
    · exact hc_new HC.out HHp.out hkE hmv
    · rintro e w5 ⟨rfl, N', hN1, hN2, h5, k5⟩
      go_wp2_with fail
      go_returns
      exact ⟨rfl, _, N', hN1, hN2, h5, fixc_kept hkE k5 hmv, hmv⟩
  · go_enter Try.func10, Try.ntmps10
    go_wp2_with (first
      | (at_lookup; refine wpList_mp_look _ rfl _ _ rfl Try.underlying3 Try.underlying35 Try.underlying3 (zeroI _) mb l.length (mi l) rfl hmp k rfl hk ?_; rw [hm])
      | (at_builtin
         go_loud (
           refine wpList_append_own_at _ rfl _ _ 45 rfl base 49 i0 (.agg #[.int .i64 0, .int .i64 0]) 2 16 Try.underlying45 hi hz0 hz1 hz2 rfl (by decide) (.slice (some ⟨g, 0, none⟩) l.length cap) l.length (pcells l) rfl (hown.alloc _) ⟨w.heap.size, 0, none⟩ 1 1 [.int .i64 k, .int .i64 0] rfl rfl (fun j u hj => by
              have hj2 : j = 0 ∨ j = 1 := by have := (List.getElem?_eq_some_iff.1 hj).1; simp at this; omega
              rcases hj2 with rfl | rfl <;> cases hj <;> exact cell_of (heap_alloc_new w (.cells #[.int .i64 k, .int .i64 0] 49))) (by intro u hu; simp at hu; rcases hu with rfl | rfl <;> rfl) (by unfold maxLen; omega) (by omega) (by simp; omega) ?_
           intro v1 w1 hown1 hgrow _ hloc
           obtain ⟨g1, cap1, rfl⟩ : ∃ g1 cap1, v1 = .slice (some ⟨g1, 0, none⟩) (l.length + 1) cap1 := grown_shape hown1
           have hk1 : Kept (fun y => some y = Value.ownBlock (.slice (some ⟨g, 0, none⟩) l.length cap)) w w1 := ((HKA.out (.cells #[.int .i64 k, .int .i64 0] 49)).mono (fun _ _ h => h.elim)).trans (Kept.of_grown hgrow) (fun _ _ h => h)
           have b1 := (hk1.block hb hlt (fun h => (ap2 hb h.symm).1 rfl)).trans hblk
           have r1 : w1.cell? ⟨hb, 1, none⟩ = some (.slice (some ⟨g, 0, none⟩) l.length cap) := cell_of b1
           have r2 : w1.cell? ⟨hb, 2, none⟩ = some (.map (some mb)) := cell_of b1
           have f1 : w1.frozen? ⟨hb, 1, none⟩ = false := frozen_of b1
           have b2 : (w1.setCell ⟨hb, 1, none⟩ (.slice (some ⟨g1, 0, none⟩) (l.length + 1) cap1)).heap[hb]? = some (.cells #[(fc cb), .slice (some ⟨g1, 0, none⟩) (l.length + 1) cap1, .map (some mb)] 47 (0, 0)) := set_same (i := 1) _ b1
           have hkw : Kept (fun y => y = hb ∨ own mb (.slice (some ⟨g, 0, none⟩) l.length cap) y) w (w1.setCell ⟨hb, 1, none⟩ (.slice (some ⟨g1, 0, none⟩) (l.length + 1) cap1)) := (hk1.mono (G := fun y => y = hb ∨ own mb (.slice (some ⟨g, 0, none⟩) l.length cap) y) (fun y _ h => .inr (.inr h))).trans (Kept.set1 w1 hb 1 _) (fun y _ h => .inl h)
           have hmp1 := (hmp.kept hk1 (fun h => (ap2 mb h.symm).2 rfl)).kept (Kept.set1 w1 hb 1 (.slice (some ⟨g1, 0, none⟩) (l.length + 1) cap1)) (Ne.symm ap1)
           have hownP : OwnP w1 base 49 (.slice (some ⟨g1, 0, none⟩) (l.length + 1) cap1) (l ++ [(k, 0)]) := by
             have := hown1
             unfold OwnP
             rw [pcells_append, List.length_append]
             exact this
           have hg1b : g1 ≠ hb := by
             obtain ⟨cur, hg'⟩ := hownP.isBlock
             intro h; rw [h, b1] at hg'; cases hg'
           have hownQ := hownP.kept (Kept.set1 w1 hb 1 (.slice (some ⟨g1, 0, none⟩) (l.length + 1) cap1)) (fun g' h1 h2 => by cases h1; exact hg1b h2)
           clear hownP))
      | (at_mapUpdate
         go_loud (
           refine wpList_mp_put _ rfl _ _ _ rfl Try.underlying3 Try.underlying35 Try.underlying3 mb l.length (mi l) rfl hmp1 (by unfold maxLen; omega) k l.length rfl rfl hk (by exact WalkArith.wf_i64 (by omega)) ?_
           intro w3 hmp3 hk3
           have b3 := (hk3.block hb (lt_of b2) ap1).trans b2
           have s1 : w3.cell? ⟨hb, 1, none⟩ = some (.slice (some ⟨g1, 0, none⟩) (l.length + 1) cap1) := cell_of b3
           have hg1m : g1 ≠ mb := by
             obtain ⟨D, ⟨es, clock, hmm, -⟩, -⟩ := hmp1
             obtain ⟨cur, hg'⟩ := hownQ.isBlock
             intro h; subst h; rw [hmm] at hg'; cases hg'
           have hown3 := hownQ.kept hk3 (fun g' h1 h2 => by cases h1; exact hg1m h2)
           rcases hown3.shape with ⟨h1, -⟩ | ⟨g', cap', hsh, -, -, hlc, -, hfz, hcl⟩
           · cases h1
           injection hsh with e1 e2 e3
           injection e1 with e1
           injection e1 with e1 e4 e5
           subst e1
           subst e3
           clear e2 e4 e5
           have t1 : w3.cell? ⟨g1, l.length * 2 + 1, none⟩ = some (.int .i64 ((l ++ [(k, 0)]).getD l.length (0, 0)).2) := (hcl l.length (by simp)).2
           have tf := hfz (l.length * 2 + 1)
           have ht : (l.length : Int) < ((l.length + 1) : Int) := by omega
           have hown4 := hown3.set1 l.length (by simp) x
           have hk4 : Kept (fun y => y = g1) w3 (w3.setCell ⟨g1, l.length * 2 + 1, none⟩ (.int .i64 x)) := Kept.set1 w3 g1 _ _
           have hmp4 := hmp3.kept hk4 (Ne.symm hg1m)
           rw [hm] at hmp4
           rw [show mput (mi l) k l.length = mi (l ++ [(k, x)]) from (mi_append HE.out.inj (v := x) e).symm] at hmp4
           have hlset : (l ++ [(k, (0 : Int))]).set l.length (((l ++ [(k, (0 : Int))]).getD l.length (0, 0)).1, x) = l ++ [(k, x)] := by simp
           rw [hlset] at hown4
           have hHp : Hp (w3.setCell ⟨g1, l.length * 2 + 1, none⟩ (.int .i64 x)) base hb (fc cb) (.slice (some ⟨g1, 0, none⟩) (l.length + 1) cap1) mb (l ++ [(k, x)]) :=
             ⟨(hk4.block hb (lt_of b3) (Ne.symm hg1b)).trans b3, hown4, by rw [List.length_append]; exact hmp4, append_inj HE.out.inj e, fun y hy => by
               rcases List.mem_append.1 hy with hy | hy
               · exact HE.out.wf y hy
               · rw [List.mem_singleton.1 hy]; exact hk, by rw [List.length_append]; exact hl⟩
           have hmv : Moved w (.slice (some ⟨g, 0, none⟩) l.length cap) (.slice (some ⟨g1, 0, none⟩) (l.length + 1) cap1) := fun g' hg' => by
             rcases hloc with h | h
             · exact .inl (h ▸ hg')
             · right
               rw [h] at hg'
               have := Option.some.inj hg'
               simp at this
               omega
           have hkE : Kept (fun y => y = hb ∨ own mb (.slice (some ⟨g, 0, none⟩) l.length cap) y) w (w3.setCell ⟨g1, l.length * 2 + 1, none⟩ (.int .i64 x)) :=
             (hkw.trans hk3 (fun y _ h => .inr (.inl h))).trans hk4 (fun y hy h => by
               rcases hmv y (by rw [h]; rfl) with h3 | h3
               · exact .inr (.inr h3.symm)
               · omega)
           have HHp := Lib.hid hHp
           clear hown4 hmp4 hHp
           clear hfz hcl)))
    refine (fixc_any base hb (.slice (some ⟨g1, 0, none⟩) (l.length + 1) cap1) mb (l ++ [(k, x)]) l.length cb N (by simp) (by simp; omega) hN _ ?_).mono ?_
    · exact hc_new HC.out HHp.out hkE hmv
    · rintro e w5 ⟨rfl, N', hN1, hN2, h5, k5⟩
      go_wp2_with fail
      go_returns
      exact ⟨rfl, _, N', hN1, hN2, h5, fixc_kept hkE k5 hmv, hmv⟩
end Go.Proofs.Ytbnpipfmeekbdaa
