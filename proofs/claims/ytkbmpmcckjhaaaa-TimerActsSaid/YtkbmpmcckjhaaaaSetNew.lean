/- What a heap's functions do: Set, at a key that is new. -/
import Derived.Test.YtkbmpmcckjhaaaaSetThere
import Derived.Deep.AppendLies
import Derived.Deep.RegionLaw
namespace Go.Proofs.Ytkbmpmcckjhaaaa
open Go.RowKit Go.Kpt HeapPure
set_option linter.unusedVariables false

section
variable {w w' : World} {base s n cap g : Nat} {e : TypeId} {v : Value} {raw : List Value}
theorem row_kept {F : Nat → Prop} (h : w.ownsRow base e s v n raw) (hk : Kept F w w') (hF : ∀ g, v.ownBlock = some g → ¬ F g) : w'.ownsRow base e s v n raw := by
  refine ⟨h.1, ?_⟩
  rcases h.2 with h1 | ⟨g, cap, cur, rfl, hb, hg, hr⟩
  · exact .inl h1
  · exact .inr ⟨g, cap, cur, rfl, hb, (hk.block g (lt_of hg) (hF g rfl)).trans hg, hr⟩
theorem row_cell (h : w.ownsRow base e s (.slice (some ⟨g, 0, none⟩) n cap) n raw) (i : Nat) (hi : i < n * s) : w.cell? ⟨g, i, none⟩ = raw[i]? ∧ w.frozen? ⟨g, i, none⟩ = false := by
  rcases h.2 with ⟨h1, _⟩ | ⟨g', cap', cur, h1, hb, hg, hle, hm, hs, ht⟩
  · cases h1
  · cases h1
    refine ⟨?_, frozen_of hg⟩
    rw [cell_of hg, ← ht, List.getElem?_take, if_pos hi]
    simp
theorem row_block (h : w.ownsRow base e s (.slice (some ⟨g, 0, none⟩) n cap) n raw) : ∃ cur, w.heap[g]? = some (.cells cur e (0, 0)) := by
  rcases h.2 with ⟨h1, _⟩ | ⟨g', cap', cur, h1, hb, hg, _⟩
  · cases h1
  · cases h1; exact ⟨cur, hg⟩
theorem grown_shape (h : w.ownsRow base e s v (n + 1) raw) : ∃ g cap, v = .slice (some ⟨g, 0, none⟩) (n + 1) cap := by
  rcases h.2 with ⟨_, h2⟩ | ⟨g, cap, cur, h1, -⟩
  · omega
  · exact ⟨g, cap, h1⟩
end

/-- A key with no time yet. -/
abbrev zraw (k : Ke) : List Value := [.int .i64 k.1, .int .i64 k.2, .int .i64 0, .int .i64 0, .int .i64 0]
theorem raw_new (l : List (Ke × Tm)) (k : Ke) (x : Tm) : (((qcells l ++ zraw k).set (l.length * 5 + 2) (.int .i64 x.at_)).set (l.length * 5 + 3) (.int .i64 x.kd)).set (l.length * 5 + 4) (.int .i64 x.id) = qcells (l ++ [(k, x)]) := by
  have hl := qcells_length l
  rw [qcells_append]
  rw [List.set_append_right _ _ (by omega), List.set_append_right _ _ (by omega), List.set_append_right _ _ (by omega)]
  rw [show l.length * 5 + 2 - (qcells l).length = 2 by omega, show l.length * 5 + 3 - (qcells l).length = 3 by omega, show l.length * 5 + 4 - (qcells l).length = 4 by omega]
  rfl
theorem raw_get (l : List (Ke × Tm)) (k : Ke) : (qcells l ++ zraw k)[l.length * 5 + 2]? = some (.int .i64 0) ∧ (qcells l ++ zraw k)[l.length * 5 + 3]? = some (.int .i64 0) ∧ (qcells l ++ zraw k)[l.length * 5 + 4]? = some (.int .i64 0) := by
  have hl := qcells_length l
  refine ⟨?_, ?_, ?_⟩
  · rw [List.getElem?_append_right (by omega), show l.length * 5 + 2 - (qcells l).length = 2 by omega]; rfl
  · rw [List.getElem?_append_right (by omega), show l.length * 5 + 3 - (qcells l).length = 3 by omega]; rfl
  · rw [List.getElem?_append_right (by omega), show l.length * 5 + 4 - (qcells l).length = 4 by omega]; rfl

set_option maxRecDepth 1000000 in
set_option maxHeartbeats 8000000 in
theorem set_new (HL : LessC) (base hb : Nat) (v : Value) (mb : Nat) (l : List (Ke × Tm)) (k : Ke) (x : Tm) (hk : kok k) (hl : l.length + 1 ≤ 100000) (e : idx l k = none) (w : World) (hbase : base ≤ w.heap.size) (h : Hp w base hb fv17 v mb l) :
    Calls Try.prog 18 #[.pointer (some ⟨hb, 0, none⟩), kv k, mv x] w fun e w' => e = .returned (.tuple #[]) ∧ ∃ v', Hp w' base hb fv17 v' mb (setAt lt l k x) ∧ Kept (fun y => y = hb ∨ own mb v y) w w' ∧ Moved w v v' := by
  obtain ⟨i0, hi, iz0, iz1, iz2⟩ := info_parts Try.info70
  have hset : setAt lt l k x = fix lt (l ++ [(k, x)]) l.length := by unfold setAt; rw [e]
  rw [hset]
  have hmi : mi l k = none := by unfold mi; rw [e]; rfl
  have hA0 : Kb (w.alloc (.cells #[.int .i64 k.1, .int .i64 k.2] 29)) w.heap.size k := heap_alloc_new _ _
  have k0 : Kept (fun _ => False) w (w.alloc (.cells #[.int .i64 k.1, .int .i64 k.2] 29)) := (Kept.refl _ w).alloc _
  obtain ⟨w0, hw0⟩ : ∃ w1, w.alloc (.cells #[.int .i64 k.1, .int .i64 k.2] 29) = w1 := ⟨_, rfl⟩
  rw [hw0] at hA0 k0
  have hM0 : Mb (w0.alloc (.cells #[.int .i64 x.at_, .int .i64 x.kd, .int .i64 x.id] 51)) w0.heap.size x.at_ x.kd x.id := heap_alloc_new _ _
  have k0' : Kept (fun _ => False) w0 (w0.alloc (.cells #[.int .i64 x.at_, .int .i64 x.kd, .int .i64 x.id] 51)) := (Kept.refl _ w0).alloc _
  obtain ⟨w1', hw1⟩ : ∃ w1, w0.alloc (.cells #[.int .i64 x.at_, .int .i64 x.kd, .int .i64 x.id] 51) = w1 := ⟨_, rfl⟩
  rw [hw1] at hM0 k0'
  have k1' := k0.trans k0' (fun _ _ h => h)
  have hA1 := hA0.kept k0' (fun h => h)
  have h1' := h.kept k1' (fun h => h) (fun h => h) (fun _ _ h => h)
  obtain ⟨a0, a1⟩ := hA1.cells
  have hlk := fun n => ki_run (h1'.mp.kept (F := fun _ => False) ((Kept.refl _ w1').drewN n) (fun h => h)) k hk
  rw [hmi] at hlk
  have q2 : w1'.cell? ⟨hb, 2, none⟩ = some (.map (some mb)) := cell_of h1'.blk
  have HH := Lib.hid h1'
  have HM := Lib.hid hM0
  have HA := Lib.hid hA1
  have HK := Lib.hid k1'
  have H0 := Lib.hid h
  have hsz0 : w.heap.size ≤ w0.heap.size := k0.size
  clear h1' hM0 k1' hA1 hA0 k0 k0' h hset
  go_enter Try.func18, Try.ntmps18
  go_wp2_with fail
  go_quiet (fail)
  have kD : Kept (fun _ => False) w1' (w1'.drewN nq) := (Kept.refl _ w1').drewN nq
  have h1 := HH.out.kept kD (fun h => h) (fun h => h) (fun _ _ h => h)
  have hM := HM.out.kept kD (fun h => h)
  have hA := HA.out.kept kD (fun h => h)
  have k1 := HK.out.trans kD (fun _ _ h => h)
  clear HH HM HA HK kD hlk a0 a1 q2
  generalize w1'.drewN nq = w1 at *
  obtain ⟨a, cap, hv⟩ : ∃ a cap, v = .slice a l.length cap := by
    rcases h1.own.shape with ⟨rfl, rfl⟩ | ⟨g, cap, rfl, -⟩
    · exact ⟨none, 0, rfl⟩
    · exact ⟨_, _, rfl⟩
  subst hv
  have q1 : w1.cell? ⟨hb, 1, none⟩ = some (.slice a l.length cap) := cell_of h1.blk
  have q2 : w1.cell? ⟨hb, 2, none⟩ = some (.map (some mb)) := cell_of h1.blk
  obtain ⟨a0, a1⟩ := hA.cells
  obtain ⟨ap1, ap2⟩ := h1.apart
  -- the item, in a block of its own
  have hz1 := k1.size
  have hn0 : hb ≠ w1.heap.size := by have := lt_of h1.blk; omega
  have hn1 : w.heap.size ≠ w1.heap.size := by have := lt_of hA; omega
  have hkA : Kept (fun _ => False) w1 (w1.alloc (.cells #[.int .i64 k.1, .int .i64 k.2, .int .i64 0, .int .i64 0, .int .i64 0] 70)).drew := ((Kept.refl _ w1).alloc _).drew
  have h2 := h1.kept hkA (fun h => h) (fun h => h) (fun _ _ h => h)
  have hI : (w1.alloc (.cells #[.int .i64 k.1, .int .i64 k.2, .int .i64 0, .int .i64 0, .int .i64 0] 70)).drew.heap[w1.heap.size]? = some (.cells #[.int .i64 k.1, .int .i64 k.2, .int .i64 0, .int .i64 0, .int .i64 0] 70 (0, 0)) := heap_alloc_new _ _
  have hM2 := hM.kept hkA (fun h => h)
  have hA2 := hA.kept hkA (fun h => h)
  have k2 := k1.trans hkA (fun _ _ h => h)
  have hb2 : base ≤ (w1.alloc (.cells #[.int .i64 k.1, .int .i64 k.2, .int .i64 0, .int .i64 0, .int .i64 0] 70)).drew.heap.size := by have := k2.size; omega
  have hnews : ∀ j u, ([.int .i64 k.1, .int .i64 k.2, .int .i64 0, .int .i64 0, .int .i64 0] : List Value)[j]? = some u → (w1.alloc (.cells #[.int .i64 k.1, .int .i64 k.2, .int .i64 0, .int .i64 0, .int .i64 0] 70)).drew.cell? ((⟨w1.heap.size, 0, none⟩ : Addr).add j) = some u := by
    intro j u hj
    have hplain : (⟨w1.heap.size, 0, none⟩ : Addr).add j = ⟨w1.heap.size, j, none⟩ := by unfold Addr.add; split <;> simp_all
    rw [hplain]
    exact (cell_of hI).trans (by simpa using hj)
  have hone : ∀ u ∈ ([.int .i64 k.1, .int .i64 k.2, .int .i64 0, .int .i64 0, .int .i64 0] : List Value), u.oneCell' = true := by intro u hu; simp at hu; rcases hu with rfl | rfl | rfl <;> rfl
  have hml : l.length + 1 ≤ maxLen := by unfold maxLen; omega
  have hby : (l.length + 1) * 40 ≤ 140737488355328 := by omega
  have qa : (w1.alloc (.cells #[.int .i64 k.1, .int .i64 k.2, .int .i64 0, .int .i64 0, .int .i64 0] 70)).cell? ⟨hb, 1, none⟩ = some (.slice a l.length cap) := cell_of h2.blk
  have H2 := Lib.hid h2
  have HM2 := Lib.hid hM2
  have HA2 := Lib.hid hA2
  have HN := Lib.hid hnews
  have HB2 := Lib.hid hb2
  have K2 := Lib.hid k2
  clear h2 hI hM2 hA2 k2 hnews hb2 hkA h1 hM hA k1
  go_wp2_with fail
  go_region_law ((refine step_append_lies _ (by rfl) _ _ 62 (by rfl) base 70 i0 (.agg #[.int .i64 0, .int .i64 0, .int .i64 0, .int .i64 0, .int .i64 0]) 5 40 Try.underlying62 hi iz0 iz1 iz2 rfl (by decide) (.slice a l.length cap) l.length (qcells l) (by rfl) H2.out.own ⟨w1.heap.size, 0, none⟩ 1 1 [.int .i64 k.1, .int .i64 k.2, .int .i64 0, .int .i64 0, .int .i64 0] (by rfl) rfl HN.out hone (by decide) hml hby HB2.out _ rfl ?_; intro g1 cap1 w3 hown3 hgrow hloc hlt3; have hkg : Kept (fun y => some y = Value.ownBlock (.slice a l.length cap)) _ w3 := Kept.of_grown hgrow; have b3 := (hkg.block hb (lt_of H2.out.blk) (fun h => (ap2 hb h.symm).1 rfl)).trans H2.out.blk; have r1 : w3.cell? ⟨hb, 1, none⟩ = some (.slice a l.length cap) := cell_of b3; have r2 : w3.cell? ⟨hb, 2, none⟩ = some (.map (some mb)) := cell_of b3; have f1 : w3.frozen? ⟨hb, 1, none⟩ = false := frozen_of b3))
  all_goals
    have b4 : (w3.setCell ⟨hb, 1, none⟩ (.slice (some ⟨g1, 0, none⟩) (l.length + 1) cap1)).heap[hb]? = some (.cells #[fv17, .slice (some ⟨g1, 0, none⟩) (l.length + 1) cap1, .map (some mb)] 64 (0, 0)) := set_same (i := 1) _ b3
    have hks := Kept.set1 w3 hb 1 (.slice (some ⟨g1, 0, none⟩) (l.length + 1) cap1)
    have hmp4 := (H2.out.mp.kept hkg (fun h => (ap2 mb h.symm).2 rfl)).kept hks (Ne.symm ap1)
    have hg1b : g1 ≠ hb := by
      obtain ⟨cur, hg'⟩ := row_block hown3
      intro h; rw [h, b3] at hg'; cases hg'
    have hown4 := row_kept hown3 hks (fun g' h1 h2 => by cases h1; exact hg1b h2)
    have hM4 := (HM2.out.kept hkg (fun h => by have := (H0.out.own.lt _ h.symm).2; omega)).kept hks (fun h => by have := lt_of H0.out.blk; omega)
    have hA4 := (HA2.out.kept hkg (fun h => by have := (H0.out.own.lt _ h.symm).2; omega)).kept hks (fun h => by have := lt_of H0.out.blk; omega)
    have hkw : Kept (fun y => y = hb ∨ own mb (.slice a l.length cap) y) w (w3.setCell ⟨hb, 1, none⟩ (.slice (some ⟨g1, 0, none⟩) (l.length + 1) cap1)) := ((K2.out.mono (fun _ _ h => h.elim)).trans hkg (fun y _ h => .inr (.inr h))).trans hks (fun y _ h => .inl h)
    have hmv : Moved w (.slice a l.length cap) (.slice (some ⟨g1, 0, none⟩) (l.length + 1) cap1) := fun g' hg' => by
      rcases hloc with h | h
      · exact .inl (h.trans (by rw [← hg']; rfl))
      · right
        have h3 : g1 = g' := Option.some.inj hg'
        have := K2.out.size
        omega
    clear hown3 hgrow hloc hkg hks r1 r2 f1 b3 q1 q2 qa a0 a1
    generalize w3.setCell ⟨hb, 1, none⟩ (.slice (some ⟨g1, 0, none⟩) (l.length + 1) cap1) = w4 at *
    have r2 : w4.cell? ⟨hb, 2, none⟩ = some (.map (some mb)) := cell_of b4
    obtain ⟨a0, a1⟩ := hA4.cells
    have hDm : Kept (fun _ => False) w4 w4.drew := (Kept.refl _ w4).drew
    obtain ⟨D, ho, hT⟩ := hmp4.kept hDm (fun h => h)
    obtain ⟨w5, hrun5, r5a, r5b⟩ := ho.update keyY.keyed Try.underlying61 (by unfold maxLen; omega) (keyY.of k hk) (intE.R_val (l.length : Int))
    have hmp5 := gm_put ho hT k hk (l.length : Int) r5a
    have hrun5 : (Instr.mapUpdate 61 (.map (some mb)) (.agg #[.int .i64 k.1, .int .i64 k.2]) (.int .i64 (l.length : Int))).run Try.prog w4.drew = .ok () w5 := hrun5
    go_wp2_with fail
    go_region
    have hk5' : Kept (fun y => y = mb) w4.drew w5 := Kept.of_grown1 r5b
    have hk5 : Kept (fun y => y = mb) w4 w5 := (hDm.mono (fun _ _ h => h.elim)).trans hk5' (fun _ _ h => h)
    have b5 := (hk5.block hb (lt_of b4) ap1).trans b4
    have hg1m : g1 ≠ mb := by
      obtain ⟨D', ⟨es, clock, hmm, -⟩, -⟩ := hmp4
      obtain ⟨cur, hg'⟩ := row_block hown4
      intro h; rw [h, hmm] at hg'; cases hg'
    have hown5 := row_kept hown4 hk5 (fun g' h1 h2 => by cases h1; exact hg1m h2)
    have hM5 := hM4.kept hk5 (fun h => by have := H0.out.mp.lt; omega)
    clear hrun5 r5a r5b hDm ho hT r2 a0 a1 hA4 hM4 hown4 hmp4
    have s1 : w5.cell? ⟨hb, 1, none⟩ = some (.slice (some ⟨g1, 0, none⟩) (l.length + 1) cap1) := cell_of b5
    obtain ⟨m0, m1, m2⟩ := hM5.cells
    obtain ⟨t1, u1⟩ := row_cell hown5 (l.length * 5 + 2) (by omega)
    obtain ⟨t2, u2⟩ := row_cell hown5 (l.length * 5 + 3) (by omega)
    obtain ⟨t3, u3⟩ := row_cell hown5 (l.length * 5 + 4) (by omega)
    rw [(raw_get l k).1] at t1
    rw [(raw_get l k).2.1] at t2
    rw [(raw_get l k).2.2] at t3
    have ht : (l.length : Int) < ((l.length + 1) : Int) := by omega
    have hown6 := row_store (row_store (row_store hown5 (l.length * 5 + 2) (.int .i64 x.at_)) (l.length * 5 + 3) (.int .i64 x.kd)) (l.length * 5 + 4) (.int .i64 x.id)
    rw [raw_new] at hown6
    have hk6 : Kept (fun y => y = g1) w5 (((w5.setCell ⟨g1, l.length * 5 + 2, none⟩ (.int .i64 x.at_)).setCell ⟨g1, l.length * 5 + 3, none⟩ (.int .i64 x.kd)).setCell ⟨g1, l.length * 5 + 4, none⟩ (.int .i64 x.id)) := ((Kept.set1 w5 g1 _ _).trans (Kept.set1 _ g1 _ _) (fun _ _ h => h)).trans (Kept.set1 _ g1 _ _) (fun _ _ h => h)
    have hmp6 := hmp5.kept hk6 (Ne.symm hg1m)
    rw [hmi] at hmp6
    rw [show gput (mi l) k (l.length : Int) = mi (l ++ [(k, x)]) from (mi_append H0.out.inj (v := x) e).symm] at hmp6
    have hHp : Hp (((w5.setCell ⟨g1, l.length * 5 + 2, none⟩ (.int .i64 x.at_)).setCell ⟨g1, l.length * 5 + 3, none⟩ (.int .i64 x.kd)).setCell ⟨g1, l.length * 5 + 4, none⟩ (.int .i64 x.id)) base hb fv17 (.slice (some ⟨g1, 0, none⟩) (l.length + 1) cap1) mb (l ++ [(k, x)]) :=
      ⟨(hk6.block hb (lt_of b5) (Ne.symm hg1b)).trans b5, by unfold OwnQ; rw [List.length_append]; exact hown6, by rw [List.length_append]; exact hmp6, append_inj H0.out.inj e, fun y hy => by
        rcases List.mem_append.1 hy with hy | hy
        · exact H0.out.wf y hy
        · rw [List.mem_singleton.1 hy]; exact hk, by rw [List.length_append]; exact hl⟩
    have hHd : Hp (((w5.setCell ⟨g1, l.length * 5 + 2, none⟩ (.int .i64 x.at_)).setCell ⟨g1, l.length * 5 + 3, none⟩ (.int .i64 x.kd)).setCell ⟨g1, l.length * 5 + 4, none⟩ (.int .i64 x.id)).drew base hb fv17 (.slice (some ⟨g1, 0, none⟩) (l.length + 1) cap1) mb (l ++ [(k, x)]) := hHp.kept (F := fun _ => False) ((Kept.refl _ _).drew) (fun h => h) (fun h => h) (fun _ _ h => h)
    have hkE : Kept (fun y => y = hb ∨ own mb (.slice a l.length cap) y) w (((w5.setCell ⟨g1, l.length * 5 + 2, none⟩ (.int .i64 x.at_)).setCell ⟨g1, l.length * 5 + 3, none⟩ (.int .i64 x.kd)).setCell ⟨g1, l.length * 5 + 4, none⟩ (.int .i64 x.id)).drew :=
      (hkw.trans hk5 (fun y _ h => .inr (.inl h))).trans hk6.drew (fun y hy h => by
        rcases hmv y (by rw [h]; rfl) with h3 | h3
        · exact .inr (.inr h3.symm)
        · omega)
    have HHp := Lib.hid hHd
    clear hown5 hown6 hmp5 hmp6 hHp hHd hM5 hk6 hk5 hk5' b4 b5
    go_wp2_with fail
    go_region
    all_goals (go_wp2_with fail)
    all_goals refine (fix_any HL base hb (.slice (some ⟨g1, 0, none⟩) (l.length + 1) cap1) mb (l ++ [(k, x)]) l.length (by simp) _ HHp.out).mono ?_
    all_goals rintro e w7 ⟨rfl, h5, k5⟩
    all_goals (go_wp2_with fail)
    all_goals go_returns
    all_goals exact ⟨rfl, _, h5, fix_kept hkE k5 hmv, hmv⟩
end Go.Proofs.Ytkbmpmcckjhaaaa
