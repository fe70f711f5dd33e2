/- What a heap's functions do: Set, at a key that is new. -/
import Derived.Test.YtamifcgljockaaaSetThere
namespace Go.Proofs.Ytamifcgljockaaa
open Go.RowKit Go.Kpt HeapPure
set_option linter.unusedVariables false

section
variable {w w' : World} {base s n cap g : Nat} {e : TypeId} {v : Value} {raw : List Value}
theorem row_kept {F : Nat → Prop} (h : w.ownsRow base e s v n raw) (hk : Kept F w w') (hF : ∀ g, v.ownBlock = some g → ¬ F g) : w'.ownsRow base e s v n raw := by
  refine ⟨h.1, ?_⟩
  rcases h.2 with h1 | ⟨g, cap, cur, rfl, hb, hg, hr⟩
  · exact .inl h1
  · exact .inr ⟨g, cap, cur, rfl, hb, (hk.block g (lt_of hg) (hF g rfl)).trans hg, hr⟩
theorem row_cell (h : w.ownsRow base e s (.slice (some ⟨g, 0, none⟩) n cap) n raw) (i : Nat) (hi : i < n * s) : w.cell? ⟨g, i, none⟩ = raw[i]? ∧ w.frozen? ⟨g, i, none⟩ = false := by
  rcases h.2 with ⟨h1, _⟩ | ⟨g', cap', cur, h1, hb, hg, hle, hm, hs, ht⟩
  · cases h1
  · cases h1
    refine ⟨?_, frozen_of hg⟩
    rw [cell_of hg, ← ht, List.getElem?_take, if_pos hi]
    simp
theorem row_block (h : w.ownsRow base e s (.slice (some ⟨g, 0, none⟩) n cap) n raw) : ∃ cur, w.heap[g]? = some (.cells cur e (0, 0)) := by
  rcases h.2 with ⟨h1, _⟩ | ⟨g', cap', cur, h1, hb, hg, _⟩
  · cases h1
  · cases h1; exact ⟨cur, hg⟩
theorem grown_shape (h : w.ownsRow base e s v (n + 1) raw) : ∃ g cap, v = .slice (some ⟨g, 0, none⟩) (n + 1) cap := by
  rcases h.2 with ⟨_, h2⟩ | ⟨g, cap, cur, h1, -⟩
  · omega
  · exact ⟨g, cap, h1⟩
end

/-- A key with nothing that it is worth yet. -/
abbrev zraw (k : Int) : List Value := [.int .i64 k, .int .u64 0, .int .u64 0, .int .i64 0]
theorem raw_new (l : List (Int × Mk)) (k : Int) (x : Mk) : (((qcells l ++ zraw k).set (l.length * 4 + 1) (.int .u64 x.n)).set (l.length * 4 + 2) (.int .u64 x.d)).set (l.length * 4 + 3) (.int .i64 x.id) = qcells (l ++ [(k, x)]) := by
  have hl := qcells_length l
  rw [qcells_append]
  rw [List.set_append_right _ _ (by omega), List.set_append_right _ _ (by omega), List.set_append_right _ _ (by omega)]
  rw [show l.length * 4 + 1 - (qcells l).length = 1 by omega, show l.length * 4 + 2 - (qcells l).length = 2 by omega, show l.length * 4 + 3 - (qcells l).length = 3 by omega]
  rfl
theorem raw_get (l : List (Int × Mk)) (k : Int) : (qcells l ++ zraw k)[l.length * 4 + 1]? = some (.int .u64 0) ∧ (qcells l ++ zraw k)[l.length * 4 + 2]? = some (.int .u64 0) ∧ (qcells l ++ zraw k)[l.length * 4 + 3]? = some (.int .i64 0) := by
  have hl := qcells_length l
  refine ⟨?_, ?_, ?_⟩
  · rw [List.getElem?_append_right (by omega), show l.length * 4 + 1 - (qcells l).length = 1 by omega]; rfl
  · rw [List.getElem?_append_right (by omega), show l.length * 4 + 2 - (qcells l).length = 2 by omega]; rfl
  · rw [List.getElem?_append_right (by omega), show l.length * 4 + 3 - (qcells l).length = 3 by omega]; rfl

set_option maxRecDepth 1000000 in
set_option maxHeartbeats 8000000 in
theorem set_new (HL : LessC) (base hb : Nat) (v : Value) (mb : Nat) (l : List (Int × Mk)) (k : Int) (x : Mk) (hk : (Lit.int .i64 k).wf = true) (hl : l.length + 1 ≤ 100000) (e : idx l k = none) (w : World) (hbase : base ≤ w.heap.size) (h : Hp w base hb fv20 v mb l) :
    Calls Try.prog 22 #[.pointer (some ⟨hb, 0, none⟩), .int .i64 k, mv x] w fun e w' => e = .returned (.tuple #[]) ∧ ∃ v', Hp w' base hb fv20 v' mb (setAt lt l k x) ∧ Kept (fun y => y = hb ∨ own mb v y) w w' ∧ Moved w v v' := by
  obtain ⟨i0, hi, iz0, iz1, iz2⟩ := info_parts Try.info71
  have hset : setAt lt l k x = fix lt (l ++ [(k, x)]) l.length := by unfold setAt; rw [e]
  rw [hset]
  have hM : Mb (w.alloc (.cells #[.int .u64 x.n, .int .u64 x.d, .int .i64 x.id] 50)) w.heap.size x.n x.d x.id := heap_alloc_new _ _
  have k1 : Kept (fun _ => False) w (w.alloc (.cells #[.int .u64 x.n, .int .u64 x.d, .int .i64 x.id] 50)) := (Kept.refl _ w).alloc _
  obtain ⟨w1, hw1⟩ : ∃ w1, w.alloc (.cells #[.int .u64 x.n, .int .u64 x.d, .int .i64 x.id] 50) = w1 := ⟨_, rfl⟩
  rw [hw1] at hM k1
  have h1 := h.kept k1 (fun h => h) (fun h => h) (fun _ _ h => h)
  have hmi : mi l k = none := by unfold mi; rw [e]; rfl
  obtain ⟨a, cap, hv⟩ : ∃ a cap, v = .slice a l.length cap := by
    rcases h1.own.shape with ⟨rfl, rfl⟩ | ⟨g, cap, rfl, -⟩
    · exact ⟨none, 0, rfl⟩
    · exact ⟨_, _, rfl⟩
  subst hv
  have q1 : w1.cell? ⟨hb, 1, none⟩ = some (.slice a l.length cap) := cell_of h1.blk
  have q2 : w1.cell? ⟨hb, 2, none⟩ = some (.map (some mb)) := cell_of h1.blk
  obtain ⟨ap1, ap2⟩ := h1.apart
  have hkA : Kept (fun _ => False) w1 (w1.alloc (.cells #[.int .i64 k, .int .u64 0, .int .u64 0, .int .i64 0] 71)) := (Kept.refl _ w1).alloc _
  have h2 := h1.kept hkA (fun h => h) (fun h => h) (fun _ _ h => h)
  have hI : (w1.alloc (.cells #[.int .i64 k, .int .u64 0, .int .u64 0, .int .i64 0] 71)).heap[w1.heap.size]? = some (.cells #[.int .i64 k, .int .u64 0, .int .u64 0, .int .i64 0] 71 (0, 0)) := heap_alloc_new _ _
  have hM2 := hM.kept hkA (fun h => h)
  have k2 := k1.trans hkA (fun _ _ h => h)
  obtain ⟨w2, hw2⟩ : ∃ w2, w1.alloc (.cells #[.int .i64 k, .int .u64 0, .int .u64 0, .int .i64 0] 71) = w2 := ⟨_, rfl⟩
  rw [hw2] at h2 hI hM2 k2
  have hmp1 := h1.mp
  have H2 := Lib.hid h2
  have H0 := Lib.hid h
  have hb2 : base ≤ w2.heap.size := by have := k2.size; omega
  clear hM k1 h1 hkA h2 h hset
  go_enter Try.func22, Try.ntmps22
  go_wp2_with (first
    | (at_lookup; refine wpList_mp_look _ rfl _ _ rfl Try.underlying3 Try.underlying60 Try.underlying3 (zeroI _) mb l.length (mi l) rfl hmp1 k rfl hk ?_; rw [hmi])
    | (at_builtin
       go_loud (
         refine wpList_append_own_at _ rfl _ _ 61 rfl base 71 i0 (.agg #[.int .i64 0, .int .u64 0, .int .u64 0, .int .i64 0]) 4 32 Try.underlying61 hi iz0 iz1 iz2 rfl (by decide) (.slice a l.length cap) l.length (qcells l) rfl H2.out.own ⟨w1.heap.size, 0, none⟩ 1 1 [.int .i64 k, .int .u64 0, .int .u64 0, .int .i64 0] rfl rfl (fun j u hj => by
            have hplain : (⟨w1.heap.size, 0, none⟩ : Addr).add j = ⟨w1.heap.size, j, none⟩ := by unfold Addr.add; split <;> simp_all
            rw [hplain]
            exact (cell_of hI).trans (by simpa using hj)) (by intro u hu; simp at hu; rcases hu with rfl | rfl | rfl <;> rfl) (by unfold maxLen; omega) (by omega) hb2 ?_
         intro v1 w3 hown3 hgrow _ hloc
         obtain ⟨g1, cap1, rfl⟩ := grown_shape hown3
         have hkg : Kept (fun y => some y = Value.ownBlock (.slice a l.length cap)) w2 w3 := Kept.of_grown hgrow
         have b3 := (hkg.block hb (lt_of H2.out.blk) (fun h => (ap2 hb h.symm).1 rfl)).trans H2.out.blk
         have r1 : w3.cell? ⟨hb, 1, none⟩ = some (.slice a l.length cap) := cell_of b3
         have r2 : w3.cell? ⟨hb, 2, none⟩ = some (.map (some mb)) := cell_of b3
         have f1 : w3.frozen? ⟨hb, 1, none⟩ = false := frozen_of b3
         have b4 : (w3.setCell ⟨hb, 1, none⟩ (.slice (some ⟨g1, 0, none⟩) (l.length + 1) cap1)).heap[hb]? = some (.cells #[fv20, .slice (some ⟨g1, 0, none⟩) (l.length + 1) cap1, .map (some mb)] 63 (0, 0)) := set_same (i := 1) _ b3
         have hmp4 := (H2.out.mp.kept hkg (fun h => (ap2 mb h.symm).2 rfl)).kept (Kept.set1 w3 hb 1 (.slice (some ⟨g1, 0, none⟩) (l.length + 1) cap1)) (Ne.symm ap1)
         have hg1b : g1 ≠ hb := by
           obtain ⟨cur, hg'⟩ := row_block hown3
           intro h; rw [h, b3] at hg'; cases hg'
         have hown4 := row_kept hown3 (Kept.set1 w3 hb 1 (.slice (some ⟨g1, 0, none⟩) (l.length + 1) cap1)) (fun g' h1 h2 => by cases h1; exact hg1b h2)
         have hM4 := (hM2.kept hkg (fun h => by have := (H0.out.own.lt _ h.symm).2; omega)).kept (Kept.set1 w3 hb 1 (.slice (some ⟨g1, 0, none⟩) (l.length + 1) cap1)) (fun h => by have := lt_of H0.out.blk; omega)
         have hkw : Kept (fun y => y = hb ∨ own mb (.slice a l.length cap) y) w (w3.setCell ⟨hb, 1, none⟩ (.slice (some ⟨g1, 0, none⟩) (l.length + 1) cap1)) := ((k2.mono (fun _ _ h => h.elim)).trans hkg (fun y _ h => .inr (.inr h))).trans (Kept.set1 w3 hb 1 _) (fun y _ h => .inl h)
         have hmv : Moved w (.slice a l.length cap) (.slice (some ⟨g1, 0, none⟩) (l.length + 1) cap1) := fun g' hg' => by
           rcases hloc with h | h
           · exact .inl (h ▸ hg')
           · right
             rw [h] at hg'
             have := Option.some.inj hg'
             have := k2.size
             omega
         clear hown3 hgrow hloc hkg))
    | (at_mapUpdate
       go_loud (
         refine wpList_mp_put _ rfl _ _ _ rfl Try.underlying3 Try.underlying60 Try.underlying3 mb l.length (mi l) rfl hmp4 (by unfold maxLen; omega) k l.length rfl rfl hk (by exact WalkArith.wf_i64 (by omega)) ?_
         intro w5 hmp5 hk5
         have b5 := (hk5.block hb (lt_of b4) ap1).trans b4
         have s1 : w5.cell? ⟨hb, 1, none⟩ = some (.slice (some ⟨g1, 0, none⟩) (l.length + 1) cap1) := cell_of b5
         have hg1m : g1 ≠ mb := by
           obtain ⟨D, ⟨es, clock, hmm, -⟩, -⟩ := hmp4
           obtain ⟨cur, hg'⟩ := row_block hown4
           intro h; subst h; rw [hmm] at hg'; cases hg'
         have hown5 := row_kept hown4 hk5 (fun g' h1 h2 => by cases h1; exact hg1m h2)
         have hM5 := hM4.kept hk5 (fun h => by have := H0.out.mp.lt; omega)
         obtain ⟨m0, m1, m2⟩ := hM5.cells
         obtain ⟨t1, u1⟩ := row_cell hown5 (l.length * 4 + 1) (by omega)
         obtain ⟨t2, u2⟩ := row_cell hown5 (l.length * 4 + 2) (by omega)
         obtain ⟨t3, u3⟩ := row_cell hown5 (l.length * 4 + 3) (by omega)
         rw [(raw_get l k).1] at t1
         rw [(raw_get l k).2.1] at t2
         rw [(raw_get l k).2.2] at t3
         have ht : (l.length : Int) < ((l.length + 1) : Int) := by omega
         have hown6 := row_store (row_store (row_store hown5 (l.length * 4 + 1) (.int .u64 x.n)) (l.length * 4 + 2) (.int .u64 x.d)) (l.length * 4 + 3) (.int .i64 x.id)
         rw [raw_new] at hown6
         have hk6 : Kept (fun y => y = g1) w5 (((w5.setCell ⟨g1, l.length * 4 + 1, none⟩ (.int .u64 x.n)).setCell ⟨g1, l.length * 4 + 2, none⟩ (.int .u64 x.d)).setCell ⟨g1, l.length * 4 + 3, none⟩ (.int .i64 x.id)) := ((Kept.set1 w5 g1 _ _).trans (Kept.set1 _ g1 _ _) (fun _ _ h => h)).trans (Kept.set1 _ g1 _ _) (fun _ _ h => h)
         have hmp6 := hmp5.kept hk6 (Ne.symm hg1m)
         rw [hmi] at hmp6
         rw [show mput (mi l) k l.length = mi (l ++ [(k, x)]) from (mi_append H0.out.inj (v := x) e).symm] at hmp6
         have hHp : Hp (((w5.setCell ⟨g1, l.length * 4 + 1, none⟩ (.int .u64 x.n)).setCell ⟨g1, l.length * 4 + 2, none⟩ (.int .u64 x.d)).setCell ⟨g1, l.length * 4 + 3, none⟩ (.int .i64 x.id)) base hb fv20 (.slice (some ⟨g1, 0, none⟩) (l.length + 1) cap1) mb (l ++ [(k, x)]) :=
           ⟨(hk6.block hb (lt_of b5) (Ne.symm hg1b)).trans b5, by unfold OwnQ; rw [List.length_append]; exact hown6, by rw [List.length_append]; exact hmp6, append_inj H0.out.inj e, fun y hy => by
             rcases List.mem_append.1 hy with hy | hy
             · exact H0.out.wf y hy
             · rw [List.mem_singleton.1 hy]; exact hk, by rw [List.length_append]; exact hl⟩
         have hHd : Hp (((w5.setCell ⟨g1, l.length * 4 + 1, none⟩ (.int .u64 x.n)).setCell ⟨g1, l.length * 4 + 2, none⟩ (.int .u64 x.d)).setCell ⟨g1, l.length * 4 + 3, none⟩ (.int .i64 x.id)).drew base hb fv20 (.slice (some ⟨g1, 0, none⟩) (l.length + 1) cap1) mb (l ++ [(k, x)]) := hHp.kept (F := fun _ => False) ((Kept.refl _ _).drew) (fun h => h) (fun h => h) (fun _ _ h => h)
         have hkE : Kept (fun y => y = hb ∨ own mb (.slice a l.length cap) y) w (((w5.setCell ⟨g1, l.length * 4 + 1, none⟩ (.int .u64 x.n)).setCell ⟨g1, l.length * 4 + 2, none⟩ (.int .u64 x.d)).setCell ⟨g1, l.length * 4 + 3, none⟩ (.int .i64 x.id)).drew :=
           (hkw.trans hk5 (fun y _ h => .inr (.inl h))).trans hk6.drew (fun y hy h => by
             rcases hmv y (by rw [h]; rfl) with h3 | h3
             · exact .inr (.inr h3.symm)
             · omega)
         have HHp := Lib.hid hHd
         clear hown5 hown6 hmp5 hmp6 hHp hHd hM5 hk6)))
  go_region
  all_goals (go_wp2_with fail)
  all_goals refine (fix_any HL base hb (.slice (some ⟨g1, 0, none⟩) (l.length + 1) cap1) mb (l ++ [(k, x)]) l.length (by simp) _ HHp.out).mono ?_
  all_goals rintro e w7 ⟨rfl, h5, k5⟩
  all_goals (go_wp2_with fail)
  all_goals go_returns
  all_goals exact ⟨rfl, _, h5, fix_kept hkE k5 hmv, hmv⟩
end Go.Proofs.Ytamifcgljockaaa
