/- Times that are set: At, Next. -/
import Derived.Test.YtkbmpmcckjhaaaaTimerX
namespace Go.Proofs.Ytkbmpmcckjhaaaa
open Go.RowKit Go.Kpt HeapPure
set_option linter.unusedVariables false

def ga : Option Tm → Int
  | none => 0
  | some m => m.at_
def gk : Option Tm → Int
  | none => 0
  | some m => m.kd
def gi : Option Tm → Int
  | none => 0
  | some m => m.id
theorem gv_eq (o : Option Tm) : gv o = .agg #[.int .i64 (ga o), .int .i64 (gk o), .int .i64 (gi o)] := by cases o <;> rfl

set_option maxRecDepth 100000 in
set_option maxHeartbeats 2000000 in
theorem tat_any (base cb : Nat) (l : List (Ke × Tm)) (k : Ke) (hk : kok k) (Q : Nat → Prop) (w : World) (h : TX w base cb l Q) :
    Calls Try.prog 15 #[.pointer (some ⟨cb, 0, none⟩), kv k] w fun e w' => e = .returned (.tuple #[.int .i64 (ga (HeapPure.get l k)), .bool (HeapPure.get l k).isSome]) ∧ Below w.heap.size w w' := by
  have kA : Below w.heap.size w (w.alloc (.cells #[.int .i64 k.1, .int .i64 k.2] 29)).drew := ((Below.refl _ _).alloc (Nat.le_refl _) _).drew
  have hA : Kb (w.alloc (.cells #[.int .i64 k.1, .int .i64 k.2] 29)) w.heap.size k := heap_alloc_new _ _
  have h1 := h.below kA
  obtain ⟨hb, v, mb, h1, hq⟩ := h1
  have q0 : (w.alloc (.cells #[.int .i64 k.1, .int .i64 k.2] 29)).cell? ⟨cb, 0, none⟩ = some (.pointer (some ⟨hb, 0, none⟩)) := cell_of (w := (w.alloc (.cells #[.int .i64 k.1, .int .i64 k.2] 29)).drew) h1.blk
  obtain ⟨a0, a1⟩ := hA.cells
  obtain ⟨w1, hw1⟩ : ∃ w1, w.alloc (.cells #[.int .i64 k.1, .int .i64 k.2] 29) = w1 := ⟨_, rfl⟩
  rw [hw1] at kA h1 q0 a0 a1
  have hg : ∀ W, Kept (fun x => w1.heap.size ≤ x) w1.drew W → Calls Try.prog 23 #[.pointer (some ⟨hb, 0, none⟩), kv k] W fun e w' => e = .returned (.tuple #[gv (HeapPure.get l k), .bool (HeapPure.get l k).isSome]) ∧ Below W.heap.size W w' := fun W hW => get_any base hb v mb l k hk W (h1.hp.kept hW (fun h => by have := lt_of h1.hp.blk; have e : w1.drew.heap.size = w1.heap.size := rfl; omega) (fun h => by have := h1.hp.mp.lt; have e : w1.drew.heap.size = w1.heap.size := rfl; omega) (fun g hg h => by have := (h1.hp.own.lt g hg).2; have e : w1.drew.heap.size = w1.heap.size := rfl; omega))
  rw [gv_eq] at hg
  generalize (HeapPure.get l k).isSome = t at *
  generalize ga (HeapPure.get l k) = x0 at *
  generalize gk (HeapPure.get l k) = x1 at *
  generalize gi (HeapPure.get l k) = x2 at *
  have hN : (w1.alloc (.cells #[.int .i64 0, .int .i64 0, .int .i64 0] 51)).drew.heap[w1.heap.size]? = some (.cells #[.int .i64 0, .int .i64 0, .int .i64 0] 51 (0, 0)) := heap_alloc_new _ _
  have HN := Lib.hid (show ∀ w4, Below (w1.alloc (.cells #[.int .i64 0, .int .i64 0, .int .i64 0] 51)).drew.heap.size (w1.alloc (.cells #[.int .i64 0, .int .i64 0, .int .i64 0] 51)).drew w4 → Mb w4 w1.heap.size 0 0 0 from fun w4 hB4 => (hB4.block _ (lt_of hN)).trans hN)
  have hcb := lt_of h1.blk
  have hkb : w.heap.size < w1.heap.size := by rw [← hw1]; simp
  have HS := Lib.hid (show ∀ W, Kept (fun x => w1.heap.size ≤ x) w1.drew W → (W.cell? ⟨cb, 0, none⟩ = some (.pointer (some ⟨hb, 0, none⟩)) ∧ W.cell? ⟨w.heap.size, 0, none⟩ = some (.int .i64 k.1) ∧ W.cell? ⟨w.heap.size, 1, none⟩ = some (.int .i64 k.2) ∧ Kept (fun x => w1.heap.size ≤ x) w1.drew W) from fun W hW => by
    have kc := fun (q : Addr) (u : Value) (hq : w1.drew.cell? q = some u) => (hW.cell (block_lt_of_cell hq) (fun h => by have := block_lt_of_cell hq; have e : w1.drew.heap.size = w1.heap.size := rfl; omega)).trans hq
    exact ⟨kc _ _ q0, kc _ _ a0, kc _ _ a1, hW⟩)
  have HT := Lib.hid (show ∀ W x y z, Kept (fun x => w1.heap.size ≤ x) w1.drew W → Kept (fun x => w1.heap.size ≤ x) w1.drew (((W.setCell ⟨w1.heap.size, 0, none⟩ x).setCell ⟨w1.heap.size, 1, none⟩ y).setCell ⟨w1.heap.size, 2, none⟩ z) from fun W x y z hW =>
    Kept.setCell (Kept.setCell (Kept.setCell hW (fun _ => Nat.le_refl _) _) (fun _ => Nat.le_refl _) _) (fun _ => Nat.le_refl _) _)
  have HG := Lib.hid (show ∀ W, Kept (fun x => w1.heap.size ≤ x) w1.drew W → Calls Try.prog 23 #[.pointer (some ⟨hb, 0, none⟩), kv k] W fun e w' => e = .returned (.tuple #[.agg #[.int .i64 x0, .int .i64 x1, .int .i64 x2], .bool t]) ∧ Below W.heap.size W w' from fun W hW => hg W hW)
  have HK := Lib.hid (show ∀ W, Kept (fun x => w1.heap.size ≤ x) w1.drew W → Below w.heap.size w W from fun W hW => kA.trans (hW.below kA.size (fun x hx h => by omega)))
  clear h1 hq h kA hA hg hN
  go_enter Try.func15, Try.ntmps15
  go_wp2_with fail
  go_region_held3 (fun W => W.cell? ⟨cb, 0, none⟩ = some (.pointer (some ⟨hb, 0, none⟩)) ∧ W.cell? ⟨w.heap.size, 0, none⟩ = some (.int .i64 k.1) ∧ W.cell? ⟨w.heap.size, 1, none⟩ = some (.int .i64 k.2) ∧ Kept (fun x => w1.heap.size ≤ x) w1.drew W)
    (first | exact HS.out _ (Kept.refl _ _) | (go_split_ands; first | exact HS.out _ (Kept.trans (by assumption) (Kept.of_below hBn) (fun _ _ h => h)) | exact HS.out _ (Kept.alloc (by assumption) _) | exact HS.out _ (Kept.alloc (Kept.of_below hBn) _) | exact HS.out _ (HT.out _ _ _ _ (by assumption))))
    (first | (go_at_call 23; go_split_ands; with_reducible refine (HG.out _ (by assumption)).mono ?_; rintro e w4 ⟨rfl, hBn⟩; try (have hN4 := HN.out _ hBn; obtain ⟨n0, n1, n2⟩ := hN4.cells; obtain ⟨f0, f1, f2⟩ := hN4.free)) | fail)
  all_goals (obtain ⟨-, -, -, hKw⟩ := ‹_ ∧ _›)
  all_goals (go_wp2_with fail)
  all_goals go_returns
  all_goals exact ⟨rfl, HK.out _ hKw⟩

set_option maxRecDepth 100000 in
set_option maxHeartbeats 2000000 in
/-- Nothing is due. -/
theorem next_none (base cb : Nat) (l : List (Ke × Tm)) (now : Int) (hn : ¬ (0 < l.length ∧ (vv l 0).at_ ≤ now)) (Q : Nat → Prop) (w : World) (h : TX w base cb l Q) :
    Calls Try.prog 12 #[.pointer (some ⟨cb, 0, none⟩), .int .i64 now] w fun e w' => e = .returned (.tuple #[kv (0, 0), .bool false]) ∧ Below w.heap.size w w' := by
  have hR : Kb (w.alloc (.cells #[.int .i64 0, .int .i64 0] 29)) w.heap.size (0, 0) := heap_alloc_new _ _
  have kA : Below w.heap.size w (w.alloc (.cells #[.int .i64 0, .int .i64 0] 29)) := (Below.refl _ _).alloc (Nat.le_refl _) _
  have h1 := h.below kA
  obtain ⟨w1, hw1⟩ : ∃ w1, w.alloc (.cells #[.int .i64 0, .int .i64 0] 29) = w1 := ⟨_, rfl⟩
  rw [hw1] at hR kA h1
  obtain ⟨hb, v, mb, h1, -⟩ := h1
  have q0 : w1.cell? ⟨cb, 0, none⟩ = some (.pointer (some ⟨hb, 0, none⟩)) := cell_of h1.blk
  have hm : ∃ (k : Ke) (m : Tm) (t : Bool), (t = false ∨ (t = true ∧ now < m.at_)) ∧ Calls Try.prog 20 #[.pointer (some ⟨hb, 0, none⟩)] w1 fun e w' => e = .returned (.tuple #[kv k, mv m, .bool t]) ∧ Below w1.heap.size w1 w' := by
    by_cases hl : 0 < l.length
    · exact ⟨kk l 0, vv l 0, true, .inr ⟨rfl, by
        by_cases h : (vv l 0).at_ ≤ now
        · exact absurd ⟨hl, h⟩ hn
        · omega⟩, min_some base hb v mb l hl w1 h1.hp⟩
    · obtain rfl : l = [] := List.eq_nil_of_length_eq_zero (by omega)
      exact ⟨(0, 0), ⟨0, 0, 0⟩, false, .inl rfl, min_none base hb v mb w1 h1.hp⟩
  obtain ⟨k, m, t, hcase, hmin⟩ := hm
  clear hn h h1
  have hfin : ∀ w2, Below w1.heap.size w1 w2 → Kb ((w2.alloc (.cells #[.int .i64 k.1, .int .i64 k.2] 29)).alloc (.cells #[.int .i64 m.at_, .int .i64 m.kd, .int .i64 m.id] 51)) w.heap.size (0, 0) ∧ Below w.heap.size w ((w2.alloc (.cells #[.int .i64 k.1, .int .i64 k.2] 29)).alloc (.cells #[.int .i64 m.at_, .int .i64 m.kd, .int .i64 m.id] 51)) := fun w2 hB => by
    have k3 : Below w2.heap.size w2 ((w2.alloc (.cells #[.int .i64 k.1, .int .i64 k.2] 29)).alloc (.cells #[.int .i64 m.at_, .int .i64 m.kd, .int .i64 m.id] 51)) := by go_grown
    have hz := lt_of hR
    have hz2 := hB.size
    exact ⟨(k3.block w.heap.size (by omega)).trans ((hB.block w.heap.size hz).trans hR), kA.trans ((hB.mono kA.size).trans (k3.mono (by have := kA.size; omega)))⟩
  have HF := Lib.hid hfin
  clear hfin hR kA
  obtain ⟨ma, mk1, mi1⟩ := m
  dsimp only at hcase HF
  rcases hcase with rfl | ⟨rfl, hlt⟩
  case' inr => have hd : ¬ ma ≤ now := by omega
  all_goals
    go_enter Try.func12, Try.ntmps12
    go_wp2_with fail
    refine hmin.mono ?_
    clear hmin
    rintro e w2 ⟨rfl, hB2⟩
    obtain ⟨r1, r2⟩ := HF.out w2 hB2
    clear hB2 q0 HF
    obtain ⟨b0, b1⟩ := r1.cells
    obtain ⟨f0, f1⟩ := r1.free
    go_wp2_with fail
    have ek := set2_kb r1 (0, 0)
    have eB : Below w.heap.size w (set2 ((w2.alloc (.cells #[.int .i64 k.1, .int .i64 k.2] 29)).alloc (.cells #[.int .i64 ma, .int .i64 mk1, .int .i64 mi1] 51)) w.heap.size (0, 0)) := r2.trans ((set2_kept _ w.heap.size (0, 0)).below r2.size (fun x hx h => by omega))
    change bodyPost _ _ _ _ _ (set2 ((w2.alloc (.cells #[.int .i64 k.1, .int .i64 k.2] 29)).alloc (.cells #[.int .i64 ma, .int .i64 mk1, .int .i64 mi1] 51)) w.heap.size (0, 0))
    generalize set2 ((w2.alloc (.cells #[.int .i64 k.1, .int .i64 k.2] 29)).alloc (.cells #[.int .i64 ma, .int .i64 mk1, .int .i64 mi1] 51)) w.heap.size (0, 0) = w6 at *
    clear b0 b1 f0 f1
    obtain ⟨b0, b1⟩ := ek.cells
    refine bodyPost_ret (by simp [results, Try.results12, go_sem, b0, b1]; try rfl) rfl ?_
    exact ⟨rfl, eB⟩

set_option maxRecDepth 100000 in
set_option maxHeartbeats 2000000 in
/-- The first one is due. -/
theorem next_some (base cb : Nat) (l : List (Ke × Tm)) (now : Int) (hl : 0 < l.length) (hn : (vv l 0).at_ ≤ now) (Q : Nat → Prop) (w : World) (h : TX w base cb l Q) :
    Calls Try.prog 12 #[.pointer (some ⟨cb, 0, none⟩), .int .i64 now] w fun e w' => e = .returned (.tuple #[kv (kk l 0), .bool true]) ∧ TX w' base cb (drop lt l (kk l 0)) Q ∧ Below base w w' ∧ Same Q w w' := by
  have hsz := h.sz
  have hR : Kb (w.alloc (.cells #[.int .i64 0, .int .i64 0] 29)) w.heap.size (0, 0) := heap_alloc_new _ _
  have kA : Below w.heap.size w (w.alloc (.cells #[.int .i64 0, .int .i64 0] 29)) := (Below.refl _ _).alloc (Nat.le_refl _) _
  obtain ⟨hb, v, mb, h0, hq⟩ := h
  have h1 := h0.kept (Kept.of_below (F := fun _ => False) kA) (fun _ _ h => h)
  obtain ⟨w1, hw1⟩ : ∃ w1, w.alloc (.cells #[.int .i64 0, .int .i64 0] 29) = w1 := ⟨_, rfl⟩
  rw [hw1] at hR kA h1
  have q0 : w1.cell? ⟨cb, 0, none⟩ = some (.pointer (some ⟨hb, 0, none⟩)) := cell_of h1.blk
  have hmin := min_some base hb v mb l hl w1 h1.hp
  have hkk : kok (kk l 0) := h0.hp.wf (l.getD 0 default) (by rw [List.getD_eq_getElem?_getD, List.getElem?_eq_getElem hl]; exact List.getElem_mem hl)
  have hd : ∀ W, Kept (fun _ => False) w1 W → Calls Try.prog 21 #[.pointer (some ⟨hb, 0, none⟩), kv (kk l 0)] W fun e w' => e = .returned (.bool (idx l (kk l 0)).isSome) ∧ ∃ v', Hp w' base hb fv17 v' mb (drop lt l (kk l 0)) ∧ Kept (fun y => y = hb ∨ own mb v y) W w' ∧ Moved W v v' :=
    fun W hW => heapdrop_any base hb v mb l (kk l 0) hkk W (h1.hp.kept hW (fun h => h) (fun h => h) (fun _ _ h => h))
  obtain ⟨m, hm⟩ : ∃ m, vv l 0 = m := ⟨_, rfl⟩
  rw [hm] at hmin hn
  generalize (idx l (kk l 0)).isSome = t at *
  generalize HeapPure.drop lt l (kk l 0) = l' at *
  generalize kk l 0 = k at *
  have hnd : ¬ now < m.at_ := by omega
  -- behind Min
  have hfin : ∀ w2, Below w1.heap.size w1 w2 → Kept (fun _ => False) w1 ((w2.alloc (.cells #[.int .i64 k.1, .int .i64 k.2] 29)).alloc (.cells #[.int .i64 m.at_, .int .i64 m.kd, .int .i64 m.id] 51)) ∧ Kb ((w2.alloc (.cells #[.int .i64 k.1, .int .i64 k.2] 29)).alloc (.cells #[.int .i64 m.at_, .int .i64 m.kd, .int .i64 m.id] 51)) w2.heap.size k := fun w2 hB =>
    ⟨((Kept.of_below hB).alloc _).alloc _, ((Below.heap_alloc _ _ _ (by simp)).trans (heap_alloc_new _ _))⟩
  have HF := Lib.hid hfin
  have HR := Lib.hid (And.intro hR kA)
  have HT := Lib.hid (And.intro h0 (And.intro h1 hq))
  have HD := Lib.hid hd
  clear hfin hR kA h0 h1 hq hd hm
  go_enter Try.func12, Try.ntmps12
  go_wp2_with fail
  refine hmin.mono ?_
  clear hmin
  rintro e w2 ⟨rfl, hB2⟩
  obtain ⟨kC, hkb⟩ := HF.out w2 hB2
  have c0 : ((w2.alloc (.cells #[.int .i64 k.1, .int .i64 k.2] 29)).alloc (.cells #[.int .i64 m.at_, .int .i64 m.kd, .int .i64 m.id] 51)).cell? ⟨cb, 0, none⟩ = some (.pointer (some ⟨hb, 0, none⟩)) := (kC.cell (p := ⟨cb, 0, none⟩) (block_lt_of_cell q0) (fun h => h)).trans q0
  have hne : w2.heap.size ≠ w.heap.size := by have := lt_of HR.out.1; have := hB2.size; omega
  have hz2 := hB2.size
  clear hB2 HF q0
  go_wp2_with fail
  obtain ⟨w3, hw3⟩ : ∃ w3, (w2.alloc (.cells #[.int .i64 k.1, .int .i64 k.2] 29)).alloc (.cells #[.int .i64 m.at_, .int .i64 m.kd, .int .i64 m.id] 51) = w3 := ⟨_, rfl⟩
  rw [hw3] at kC hkb c0 ⊢
  have hdD := HD.out w3.drew kC.drew
  obtain ⟨a0, a1⟩ := hkb.cells
  clear HD
  go_region_with (go_at_call 21; refine hdD.mono ?_; rintro e w4 ⟨rfl, v', h5, k5, hmv⟩)
  all_goals
    obtain ⟨h0, h1, hq⟩ := HT.out
    obtain ⟨hR, kA⟩ := HR.out
    have hkD : Kept (fun _ => False) w1 w3.drew := kC.drew
    have hT3 := h1.kept hkD (fun _ _ h => h)
    have hs1 := kA.size
    have hs3 : w1.heap.size ≤ w3.drew.heap.size := hkD.size
    have hnl := lt_of hR
    obtain ⟨x1, x2, x3⟩ := TX.next (Q := fun x => Q x ∨ x = w.heap.size) hT3 (fun x hx => by
      rcases hx with hx | hx
      · exact ⟨by have := (hq x hx).1; omega, (hq x hx).2⟩
      · subst hx
        exact ⟨by omega, fun hf => by have := (h0.lt hf).1; omega⟩) h5 k5 hmv
    have hR4 : Kb w4 w.heap.size (0, 0) := (x3 w.heap.size (.inr rfl)).trans ((hkD.block w.heap.size hnl (fun h => h)).trans hR)
    have hk4 : Kb w4 w2.heap.size k := (k5.block w2.heap.size (lt_of hkb) (fun hf => by have := (h1.lt (.inr hf)).1; omega)).trans hkb
    clear a0 a1 c0
    obtain ⟨a0, a1⟩ := hk4.cells
    obtain ⟨b0, b1⟩ := hR4.cells
    obtain ⟨f0, f1⟩ := hR4.free
    have ek := set2_kb hR4 k
    have ks := set2_kept w4 w.heap.size k
    have hX : TX (set2 w4 w.heap.size k) base cb l' Q := (x1.beside (ks.mono (fun x _ hx => .inr hx))).less (fun x hx => .inl hx)
    have hBe : Below base w (set2 w4 w.heap.size k) := (((kA.mono hsz).trans (hkD.below (by omega) (fun _ _ h => h))).trans x2).trans (ks.below x1.sz (fun x hx h => by omega))
    have hSa : Same Q w (set2 w4 w.heap.size k) := fun x hx => by
      have hx1 := (hq x hx).1
      exact (ks.block x (by have := k5.size; omega) (by omega)).trans ((x3 x (.inl hx)).trans ((hkD.block x (by omega) (fun h => h)).trans (kA.block x hx1)))
    clear h0 h1 hq hR kA hkD hT3 x1 x2 x3 hR4 hk4 ks HT HR h5 k5 hmv hkb kC hdD hw3
    go_wp2_with fail
    change bodyPost _ _ _ _ _ (set2 w4 w.heap.size k)
    generalize set2 w4 w.heap.size k = w6 at *
    clear a0 a1 b0 b1 f0 f1
    obtain ⟨b0, b1⟩ := ek.cells
    refine bodyPost_ret (by simp [results, Try.results12, go_sem, b0, b1]; try rfl) rfl ?_
    exact ⟨rfl, hX, hBe, hSa⟩
end Go.Proofs.Ytkbmpmcckjhaaaa
