/- What a cache's functions do: Evict. -/
import Derived.Test.YtamifcgljockaaaCache3
namespace Go.Proofs.Ytamifcgljockaaa
open Go.RowKit Go.Kpt HeapPure RatioPure
set_option linter.unusedVariables false

set_option maxHeartbeats 1000000 in
theorem evict_none (base cb : Nat) (c : Nat) (w : World) (h : WB w base cb [] c) : Calls Try.prog 11 #[.pointer (some ⟨cb, 0, none⟩)] w fun e w' => e = .returned (.tuple #[.int .i64 0, .bool false]) ∧ Below w.heap.size w w' := by
  obtain ⟨hb, v, mb, h⟩ := h
  have q0 : w.cell? ⟨cb, 0, none⟩ = some (.pointer (some ⟨hb, 0, none⟩)) := cell_of h.blk
  go_enter Try.func11, Try.ntmps11
  go_wp2_with fail
  refine (min_none base hb v mb w h.hp).mono ?_
  rintro e w1 ⟨rfl, hB⟩
  have hB2 := hB.alloc (o := .cells #[.int .u64 0, .int .u64 0, .int .i64 0] 50) hB.size
  go_wp2_with fail
  go_returns
  exact ⟨rfl, hB2⟩

theorem kk_wf {w : World} {base hb : Nat} {fv v : Value} {mb : Nat} {l : List (Int × Mk)} (h : Hp w base hb fv v mb l) (hl : 0 < l.length) : (Lit.int .i64 (kk l 0)).wf = true := by
  refine h.wf (l.getD 0 default) ?_
  rw [List.getD_eq_getElem?_getD, List.getElem?_eq_getElem hl]
  exact List.getElem_mem hl

set_option maxRecDepth 100000 in
set_option maxHeartbeats 2000000 in
theorem evict_some (HL : LessC) (base cb : Nat) (l : List (Int × Mk)) (c : Nat) (hl : 0 < l.length) (w : World) (h : WB w base cb l c) :
    Calls Try.prog 11 #[.pointer (some ⟨cb, 0, none⟩)] w fun e w' => e = .returned (.tuple #[.int .i64 (kk l 0), .bool true]) ∧ WB w' base cb (drop lt l (kk l 0)) (max c ((vv l 0).n / (vv l 0).d)) ∧ Below base w w' ∧ Beside w w' := by
  have hsz := h.sz
  obtain ⟨hb, v, mb, h⟩ := h
  have q0 : w.cell? ⟨cb, 0, none⟩ = some (.pointer (some ⟨hb, 0, none⟩)) := cell_of h.blk
  have hkw := kk_wf h.hp hl
  have hmin := min_some base hb v mb l hl w h.hp
  obtain ⟨m, hm⟩ : ∃ m, vv l 0 = m := ⟨_, rfl⟩
  rw [hm] at hmin ⊢
  have hfl := fun W => floor_any m.n m.d m.hn m.pos W
  obtain ⟨fl, hfd⟩ : ∃ fl, m.n / m.d = fl := ⟨_, rfl⟩
  rw [hfd] at hfl ⊢
  generalize kk l 0 = K at *
  have H := Lib.hid h
  clear h hm hfd
  go_enter Try.func11, Try.ntmps11
  go_wp2_with fail
  refine hmin.mono ?_
  clear hmin
  rintro e w1 ⟨rfl, hB1⟩
  have h1 := H.out.below hB1
  have hM : Mb (w1.alloc (.cells #[.int .u64 m.n, .int .u64 m.d, .int .i64 m.id] 50)) w1.heap.size m.n m.d m.id := heap_alloc_new _ _
  have h2 := h1.below ((Below.refl _ _).alloc (Nat.le_refl _) (.cells #[.int .u64 m.n, .int .u64 m.d, .int .i64 m.id] 50))
  have hB2 : Below base w (w1.alloc (.cells #[.int .u64 m.n, .int .u64 m.d, .int .i64 m.id] 50)) := (hB1.mono hsz).alloc (by have := hB1.size; omega) _
  obtain ⟨w2, hw2⟩ : ∃ w2, w1.alloc (.cells #[.int .u64 m.n, .int .u64 m.d, .int .i64 m.id] 50) = w2 := ⟨_, rfl⟩
  have hBe : Beside w w2 := (Beside.of_below hB1).trans (Beside.of_below (show Below w1.heap.size w1 w2 from by rw [← hw2]; exact (Below.refl _ _).alloc (Nat.le_refl _) _))
  rw [hw2] at hM h2 hB2
  have p0 : w2.cell? ⟨cb, 0, none⟩ = some (.pointer (some ⟨hb, 0, none⟩)) := cell_of h2.blk
  have hdr := heapdrop_any HL base hb v mb l K hkw w2 h2.hp
  have l1 := lt_of h1.hp.blk
  have l2 := h1.hp.mp.lt
  have l3 := h1.hp.own.lt
  have H2 := Lib.hid h2
  clear h1 h2 H hkw
  go_wp2_with fail
  refine hdr.mono ?_
  clear hdr hw2
  rintro e w3 ⟨rfl, v', h3, k3, -⟩
  obtain ⟨h4, hB4⟩ := H2.out.next h3 k3
  have hS := hBe.trans (H2.out.beside k3)
  have hM3 := hM.kept k3 (fun hh => by
    rcases hh with hh | hh | hh
    · omega
    · omega
    · have := (l3 _ hh.symm).2; omega)
  have hB5 := hB2.trans hB4
  obtain ⟨n0, n1, n2⟩ := hM3.cells
  have c1 : w3.cell? ⟨cb, 1, none⟩ = some (.int .u64 c) := cell_of h4.blk
  have g1 : w3.frozen? ⟨cb, 1, none⟩ = false := frozen_of h4.blk
  have HW := Lib.hid (show ∀ W, Kept (fun _ => False) w3 W → W.cell? ⟨cb, 1, none⟩ = some (.int .u64 c) ∧ W.frozen? ⟨cb, 1, none⟩ = false from fun W k => by
    have hb := (k.block cb (lt_of h4.blk) (fun h => h)).trans h4.blk
    exact ⟨cell_of hb, frozen_of hb⟩)
  have HF := Lib.hid (show ∀ (W : World) (x : Nat), Kept (fun _ => False) w3 W → max c fl = x → WB (W.setCell ⟨cb, 1, none⟩ (.int .u64 x)) base cb (drop lt l K) (max c fl) ∧ Below base w (W.setCell ⟨cb, 1, none⟩ (.int .u64 x)) ∧ Beside w (W.setCell ⟨cb, 1, none⟩ (.int .u64 x)) from fun W x k hx => by
    obtain ⟨ap1, ap2, ap3⟩ := h4.apart
    have kk := Kept.set1 W cb 1 (.int .u64 (x : Int))
    have hb := (k.block cb (lt_of h4.blk) (fun h => h)).trans h4.blk
    have hp := (h4.hp.kept k (fun h => h) (fun h => h) (fun _ _ h => h)).kept kk (Ne.symm ap1) (Ne.symm ap2) (fun g hg => ap3 g hg)
    rw [hx]
    have hbs : Beside w3 W := fun q cs t _ _ _ hq => (k.block q (lt_of hq) (fun h => h)).trans hq
    have hwc : Wc W base cb _ v' mb (drop lt l K) c := ⟨hb, h4.hp.kept k (fun h => h) (fun h => h) (fun _ _ h => h), h4.cb, h4.hb, h4.mb, Nat.le_trans h4.sz k.size⟩
    refine ⟨⟨_, v', mb, ⟨set_same (i := 1) _ hb, hp, h4.cb, h4.hb, h4.mb, Nat.le_trans h4.sz (Nat.le_trans k.size kk.size)⟩⟩, (hB5.trans (k.below h4.sz (fun _ _ h => h))).trans (kk.below (Nat.le_trans h4.sz k.size) (fun y hy h => by have := h4.cb; omega)), (hS.trans hbs).trans (hwc.clocked _)⟩)
  clear h3 k3 h4 hB4 hM hM3 hB2 hB5
  go_wp2_with fail
  go_region_with (go_at_call 25; refine (hfl _).mono ?_; rintro e w5 ⟨rfl, hB6⟩; have hk5 : Kept (fun _ => False) w3 w5 := ((Kept.refl _ w3).drew).trans (Kept.of_below hB6) (fun _ _ h => h); obtain ⟨r1, r2⟩ := HW.out _ hk5)
  all_goals (go_wp2_with fail)
  all_goals go_returns
  all_goals first
    | (obtain ⟨h6, h7, h8⟩ := HF.out _ c hk5 (by omega)
       exact ⟨rfl, h6, h7, h8⟩)
    | (obtain ⟨h6, h7, h8⟩ := HF.out _ fl hk5 (by omega)
       exact ⟨rfl, h6, h7, h8⟩)
end Go.Proofs.Ytamifcgljockaaa
