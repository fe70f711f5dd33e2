/- Of what is set the one that comes first: the law's own look over a map. -/
import Derived.Test.YtkbmpmcckjhaaaaFirstT
namespace Go.Proofs.Ytkbmpmcckjhaaaa
open Go.RowKit Go.Kpt HeapPure
set_option linter.unusedVariables false

/-- What the law's map holds beside a set of times. -/
def mo (l : List (Ke × Tm)) (k : Ke) : Option Int := (HeapPure.get l k).map (fun v => v.at_)
theorem mo_some {l : List (Ke × Tm)} {k : Ke} {p : Int} (h : mo l k = some p) : ∃ v, HeapPure.get l k = some v ∧ p = v.at_ := by
  unfold mo at h
  cases e : HeapPure.get l k with
  | none => rw [e] at h; cases h
  | some v => rw [e] at h; exact ⟨v, rfl, by cases h; rfl⟩
theorem mo_isSome (l : List (Ke × Tm)) (k : Ke) : (mo l k).isSome = (HeapPure.get l k).isSome := by unfold mo; cases HeapPure.get l k <;> rfl
theorem mo_is {l : List (Ke × Tm)} {k : Ke} {v : Tm} (h : HeapPure.get l k = some v) : mo l k = some v.at_ := by unfold mo; rw [h]; rfl

/-- The keys are ints, and each time knows its own. -/
def Named (l : List (Ke × Tm)) : Prop := ∀ k v, HeapPure.get l k = some v → v.kd = k.1 ∧ v.id = k.2 ∧ kok k
theorem Named.eta {l : List (Ke × Tm)} (h : Named l) {k : Ke} {v : Tm} (hk : HeapPure.get l k = some v) : v = ⟨v.at_, k.1, k.2⟩ := by
  obtain ⟨h1, h2, -⟩ := h k v hk
  cases v; dsimp only at *; rw [h1, h2]

/-- So far this one comes first. -/
def Best (l : List (Ke × Tm)) (left : Ke → Bool) (ok : Bool) (b : Ke) : Prop :=
  (ok = false ∧ b = (0, 0) ∧ ∀ k, (HeapPure.get l k).isSome = true → left k = true) ∨ (ok = true ∧ ∃ v, HeapPure.get l b = some v ∧ ∀ k u, HeapPure.get l k = some u → left k = false → lt u v = false)

theorem lt_irrefl (u : Tm) : lt u u = false := by
  cases h : lt u u with
  | false => rfl
  | true => rw [lt_iff] at h; omega
theorem best_first {l : List (Ke × Tm)} {left : Ke → Bool} (h : ∀ k, (HeapPure.get l k).isSome = true → left k = true) {k : Ke} {u : Tm} (hk : HeapPure.get l k = some u) : Best l (fun z => left z && !decide (z = k)) true k := by
  refine .inr ⟨rfl, u, hk, fun k' u' hk' hl => ?_⟩
  by_cases e : k' = k
  · subst e; rw [hk] at hk'; cases hk'; exact lt_irrefl u
  · have h1 := h k' (by rw [hk']; rfl)
    simp [e, h1] at hl
theorem best_more {l : List (Ke × Tm)} {left : Ke → Bool} {b : Ke} {v : Tm} (hb : HeapPure.get l b = some v) (h : ∀ k u, HeapPure.get l k = some u → left k = false → lt u v = false) {k : Ke} {u : Tm} (hk : HeapPure.get l k = some u) :
    (lt u v = true → Best l (fun z => left z && !decide (z = k)) true k) ∧ (lt u v = false → Best l (fun z => left z && !decide (z = k)) true b) := by
  refine ⟨fun hl => .inr ⟨rfl, u, hk, fun k' u' hk' hz => ?_⟩, fun hl => .inr ⟨rfl, v, hb, fun k' u' hk' hz => ?_⟩⟩
  · by_cases e : k' = k
    · subst e; rw [hk] at hk'; cases hk'; exact lt_irrefl u
    · have hz' : left k' = false := by simpa [e] using hz
      exact ord_lt.trans u v u' (ord_lt.asym u v hl) (h k' u' hk' hz')
  · by_cases e : k' = k
    · subst e; rw [hk] at hk'; cases hk'; exact hl
    · exact h k' u' hk' (by simpa [e] using hz)
theorem best_end {l : List (Ke × Tm)} (G : HeapPure.Good lt l) (hN : Named l) {left : Ke → Bool} (hl : ∀ k, kok k → left k = false) {ok : Bool} {b : Ke} (h : Best l left ok b) : b = (if 0 < l.length then kk l 0 else (0, 0)) ∧ ok = decide (0 < l.length) := by
  rcases h with ⟨rfl, rfl, h⟩ | ⟨rfl, v, hv, h⟩
  · have : l.length = 0 := len_zero G (fun k => by
      cases e : HeapPure.get l k with
      | none => rfl
      | some v => have := h k (by rw [e]; rfl); rw [hl k (hN k v e).2.2] at this; cases this)
    rw [if_neg (by omega)]
    exact ⟨rfl, by rw [this]; rfl⟩
  · have hp := len_pos hv
    rw [if_pos hp]
    obtain ⟨m1, m2⟩ := min_spec G hp
    have h1 := h _ _ m1 (hl _ (hN _ _ m1).2.2)
    have h2 := m2 b v hv
    have d1 : ¬ lt (vv l 0) v = true := by rw [h1]; decide
    have d2 : ¬ lt v (vv l 0) = true := by rw [h2]; decide
    rw [lt_iff] at d1 d2
    obtain ⟨i1, i2, -⟩ := hN _ _ m1
    obtain ⟨j1, j2, -⟩ := hN _ _ hv
    refine ⟨Prod.ext (by omega) (by omega), by simp [hp]⟩

theorem Try.zero2 (w : World) : (zeroValue 2).run Try.prog w = .ok (intE.val 0) w := by kernel_rfl

/-- The step of a range over times. -/
theorem wpList_mo_next {ops : Array Oper} {rest : List Oper} {o : Oper} {a : Act} {Q : Exit → Act → World → Prop} (w : World) (hg : o.guard = none) (it : Operand) (hop : o.op = Op.next it false)
    (mb r c : Nat) (l : List (Ke × Tm)) (left : Ke → Bool) (cnt : Nat) (hit : a.eval it = .pointer (some ⟨r, 0, none⟩)) (h : Gr keyY intE w mb r c (mo l) left cnt)
    (hDone : cnt = 0 → (∀ k, kok k → left k = false) → wpList Try.prog ops Q rest (a.put o.dst (.tuple #[.bool false])) w)
    (hMore : ∀ (k : Ke) (v : Tm) (w' : World) (cnt' : Nat), kok k → left k = true → HeapPure.get l k = some v → Gr keyY intE w' mb r c (mo l) (fun z => left z && !decide (z = k)) cnt' → cnt' < cnt →
      Kept (fun b => b = r) w w' → w'.heap.size = w.heap.size → (Instr.entry (.pointer (some ⟨r, 0, none⟩))).run Try.prog w' = .ok (.tuple #[.agg #[.int .i64 k.1, .int .i64 k.2], .int .i64 v.at_]) w' → wpList Try.prog ops Q rest (a.put o.dst (.tuple #[.bool true, .agg #[.int .i64 k.1, .int .i64 k.2], .int .i64 v.at_])) w') :
    wpList Try.prog ops Q (o :: rest) a w :=
  wpList_gm_next (Y := keyY) (E := intE) w hg it hop mb r c (mo l) left cnt hit h hDone fun k x w' cnt' h1 h2 h3 h4 h5 h6 h7 h8 => by
    obtain ⟨v, hv, rfl⟩ := mo_some h3
    exact hMore k v w' cnt' h1 h2 hv h4 h5 h6 h7 h8

set_option maxRecDepth 100000 in
set_option maxHeartbeats 3000000 in
theorem first_any (l : List (Ke × Tm)) (G : HeapPure.Good lt l) (hN : Named l) (mb c : Nat) (w : World) (h : Gm keyY intE w mb c (mo l)) :
    Calls Try.prog 14 #[.map (some mb)] w fun e w' => e = .returned (.tuple #[kv (if 0 < l.length then kk l 0 else (0, 0)), .bool (decide (0 < l.length))]) ∧ Below w.heap.size w w' := by
  have hend := fun (left : Ke → Bool) (ok : Bool) (b : Ke) (h1 : ∀ k, kok k → left k = false) (h2 : Best l left ok b) => best_end G hN h1 h2
  generalize (if 0 < l.length then kk l 0 else (0, 0)) = R at *
  generalize decide (0 < l.length) = T at *
  have kA : Below w.heap.size w ((w.alloc (.cells #[.int .i64 0, .int .i64 0] 29)).alloc (.cells #[.int .i64 0, .int .i64 0] 29)) := by go_grown
  have hA : Kb ((w.alloc (.cells #[.int .i64 0, .int .i64 0] 29)).alloc (.cells #[.int .i64 0, .int .i64 0] 29)) w.heap.size (0, 0) := (Below.heap_alloc _ _ _ (by simp)).trans (heap_alloc_new _ _)
  have hB : Kb ((w.alloc (.cells #[.int .i64 0, .int .i64 0] 29)).alloc (.cells #[.int .i64 0, .int .i64 0] 29)) (w.heap.size + 1) (0, 0) := heap_alloc2_new _ _ _
  have hm := h.below kA
  have hsz : ((w.alloc (.cells #[.int .i64 0, .int .i64 0] 29)).alloc (.cells #[.int .i64 0, .int .i64 0] 29)).heap.size = w.heap.size + 2 := by simp
  go_enter Try.func14, Try.ntmps14
  go_wp2_with ((at_range; refine wpList_gm_range (Y := keyY) (E := intE) (et := 2) _ rfl _ rfl Try.underlying40 mb c (mo l) rfl hm ?_; intro wx hR0 kx hsz2))
  go_frame
  have hAx : Kb wx w.heap.size (0, 0) := (kx.block _ (lt_of hA)).trans hA
  have hBx : Kb wx (w.heap.size + 1) (0, 0) := (kx.block _ (lt_of hB)).trans hB
  have kw : Below w.heap.size w wx := kA.trans (kx.mono kA.size)
  have hmp := h.lt
  rw [hsz] at hR0 ⊢
  clear kA hA hB hm hsz kx hsz2 h
  obtain ⟨p, hp⟩ : ∃ p, w.heap.size = p := ⟨_, rfl⟩
  obtain ⟨q, hq⟩ : ∃ q, w.heap.size + 1 = q := ⟨_, rfl⟩
  obtain ⟨r, hr⟩ : ∃ r, w.heap.size + 2 = r := ⟨_, rfl⟩
  rw [hr] at hR0
  rw [hq] at hBx
  rw [hp] at hAx
  have hpq : p < q ∧ q < r ∧ mb < p := by omega
  rw [hr, hq, hp]
  rw [hp] at kw
  have HP := Lib.hid hp
  clear hmp hr hq hp
  go_loopw [5] (fun v wr => ∃ (ok : Bool) (b : Ke) (left : Ke → Bool) (cnt : Nat), v = .bool ok ∧ Best l left ok b ∧ Gr keyY intE wr mb r c (mo l) left cnt ∧ Kb wr p (0, 0) ∧ Kb wr q b ∧ Below p w wr) (fun _ wr => wr.rangeLeft mb r)
  case atStart => exact ⟨false, (0, 0), _, c, rfl, .inl ⟨rfl, rfl, fun k hk => by rw [mo_isSome]; exact hk⟩, hR0, hAx, hBx, kw⟩
  case round =>
    clear hR0 hAx hBx kw
    obtain ⟨ok, b, left, cnt, rfl, hb, hR, hA, hB, hw⟩ := hrel
    have hle := hR.left_eq
    have hp0 : p ≤ w.heap.size := by rw [HP.out]; exact Nat.le_refl _
    rcases hb with ⟨rfl, rfl, hb⟩ | ⟨rfl, v, hv, hb⟩
    · obtain ⟨a0, a1⟩ := hA.cells
      obtain ⟨f0, f1⟩ := hA.free
      obtain ⟨b0, b1⟩ := hB.cells
      go_wp2_with ((at_next; refine wpList_mo_next _ rfl _ rfl mb r c l left cnt rfl hR (fun hc0 hl0 => ?_) ?_))
      · obtain ⟨rfl, rfl⟩ := hend _ _ _ hl0 (.inl ⟨rfl, rfl, hb⟩)
        have ek := set2_kb hA (0, 0)
        have eB : Below w.heap.size w (set2 wr p (0, 0)) := by
          rw [HP.out]
          exact hw.trans ((set2_kept wr p (0, 0)).below (Nat.le_trans hp0 hw.size) (fun x hx h => by omega))
        change bodyPost _ _ _ _ _ (set2 wr p (0, 0))
        generalize set2 wr p (0, 0) = w6 at *
        clear a0 a1 f0 f1
        obtain ⟨a0, a1⟩ := ek.cells
        refine bodyPost_ret (by simp [results, Try.results14, go_sem, a0, a1]; try rfl) rfl ?_
        exact ⟨rfl, eB⟩
      · intro k1 k2 u wz cnt' hok hlk hu hR1 hlt kz hsz hen
        clear a0 a1 f0 f1 b0 b1
        have hA1 := hA.kept kz (by omega)
        have hB1 := hB.kept kz (by omega)
        have hw1 : Below p w wz := hw.trans (kz.below (by have := lt_of hA; omega) (fun x hx hh => by omega))
        have k5 : Below wz.heap.size wz (wz.alloc (.cells #[.int .i64 k1, .int .i64 k2] 29)) := (Below.refl _ _).alloc (Nat.le_refl _) _
        have hC : Kb (wz.alloc (.cells #[.int .i64 k1, .int .i64 k2] 29)) wz.heap.size (k1, k2) := heap_alloc_new _ _
        have hs0 : wz.heap.size ≠ q ∧ wz.heap.size ≠ p ∧ wz.heap.size ≠ mb ∧ wz.heap.size ≠ r := by have := lt_of hB1; have := lt_of hA1; have := hR1.lt; have := hR1.owns.lt; omega
        have hR2 := hR1.below k5
        have hA2 := hA1.kept (Kept.of_below (F := fun _ => False) k5) (fun h => h)
        have hB2 := hB1.kept (Kept.of_below (F := fun _ => False) k5) (fun h => h)
        have hw2 := hw1.trans (k5.mono (Nat.le_trans hp0 hw1.size))
        obtain ⟨s, hs⟩ : ∃ s, wz.heap.size = s := ⟨_, rfl⟩
        obtain ⟨wy, hwy⟩ : ∃ wy, wz.alloc (.cells #[.int .i64 k1, .int .i64 k2] 29) = wy := ⟨_, rfl⟩
        rw [hs] at hs0
        rw [hs, hwy] at hC
        rw [hwy] at hR2 hA2 hB2 hw2
        obtain ⟨c0, c1⟩ := hC.cells
        obtain ⟨b0, b1⟩ := hB2.cells
        obtain ⟨g0, g1⟩ := hB2.free
        dsimp only at c0 c1
        clear hR1 hA1 hB1 hw1 k5 kz hsz hA hB hw hR
        have HF := Lib.hid (show ∀ n, Gr keyY intE (set2 (wy.drewN n) q (k1, k2)) mb r c (mo l) (fun z => left z && !decide (z = (k1, k2))) cnt' ∧ Kb (set2 (wy.drewN n) q (k1, k2)) p (0, 0) ∧ Kb (set2 (wy.drewN n) q (k1, k2)) q (k1, k2) ∧ Below p w (set2 (wy.drewN n) q (k1, k2)) from fun n => by
          have kk9 : Kept (fun x => x = q) wy (set2 (wy.drewN n) q (k1, k2)) := ((Kept.refl (fun x => x = q) wy).drewN n).trans (set2_kept _ q (k1, k2)) (fun _ _ h => h)
          exact ⟨hR2.kept kk9 (by omega) (by omega), hA2.kept kk9 (by omega), set2_kb (w := wy.drewN n) hB2 (k1, k2), hw2.trans (kk9.below (Nat.le_trans hp0 hw2.size) (fun x hx h => by omega))⟩)
        clear hR2 hA2 hB2 hw2
        go_wp2_with fail
        go_quiet (fail)
        go_wp2_with fail
        obtain ⟨r1, r2, r3, r4⟩ := HF.out nq
        have hle2 := r1.left_eq
        have h9 : (set2 (wy.drewN nq) q (k1, k2)).rangeLeft mb r < wr.rangeLeft mb r := by rw [hle2, hle]; exact hlt
        exact ⟨⟨true, (k1, k2), _, cnt', rfl, best_first hb hu, r1, r2, r3, r4⟩, h9⟩
    · obtain ⟨a0, a1⟩ := hA.cells
      obtain ⟨f0, f1⟩ := hA.free
      obtain ⟨b0, b1⟩ := hB.cells
      go_wp2_with ((at_next; refine wpList_mo_next _ rfl _ rfl mb r c l left cnt rfl hR (fun hc0 hl0 => ?_) ?_))
      · obtain ⟨rfl, rfl⟩ := hend _ _ _ hl0 (.inr ⟨rfl, v, hv, hb⟩)
        have ek := set2_kb hA b
        have eB : Below w.heap.size w (set2 wr p b) := by
          rw [HP.out]
          exact hw.trans ((set2_kept wr p b).below (Nat.le_trans hp0 hw.size) (fun x hx h => by omega))
        change bodyPost _ _ _ _ _ (set2 wr p b)
        generalize set2 wr p b = w6 at *
        clear a0 a1 f0 f1 b0 b1
        obtain ⟨a0, a1⟩ := ek.cells
        refine bodyPost_ret (by simp [results, Try.results14, go_sem, a0, a1]; try rfl) rfl ?_
        exact ⟨rfl, eB⟩
      · intro k1 k2 u wz cnt' hok hlk hu hR1 hlt kz hsz hen
        clear a0 a1 f0 f1 b0 b1
        have hA1 := hA.kept kz (by omega)
        have hB1 := hB.kept kz (by omega)
        have hw1 : Below p w wz := hw.trans (kz.below (by have := lt_of hA; omega) (fun x hx hh => by omega))
        have k5 : Below wz.heap.size wz (wz.alloc (.cells #[.int .i64 k1, .int .i64 k2] 29)) := (Below.refl _ _).alloc (Nat.le_refl _) _
        have hC : Kb (wz.alloc (.cells #[.int .i64 k1, .int .i64 k2] 29)) wz.heap.size (k1, k2) := heap_alloc_new _ _
        have hs0 : wz.heap.size ≠ q ∧ wz.heap.size ≠ p ∧ wz.heap.size ≠ mb ∧ wz.heap.size ≠ r := by have := lt_of hB1; have := lt_of hA1; have := hR1.lt; have := hR1.owns.lt; omega
        have hR2 := hR1.below k5
        have hA2 := hA1.kept (Kept.of_below (F := fun _ => False) k5) (fun h => h)
        have hB2 := hB1.kept (Kept.of_below (F := fun _ => False) k5) (fun h => h)
        have hw2 := hw1.trans (k5.mono (Nat.le_trans hp0 hw1.size))
        obtain ⟨s, hs⟩ : ∃ s, wz.heap.size = s := ⟨_, rfl⟩
        obtain ⟨wy, hwy⟩ : ∃ wy, wz.alloc (.cells #[.int .i64 k1, .int .i64 k2] 29) = wy := ⟨_, rfl⟩
        rw [hs] at hs0
        rw [hs, hwy] at hC
        rw [hwy] at hR2 hA2 hB2 hw2
        have ev := hN.eta hv
        have eu := hN.eta hu
        have hokb := (hN b v hv).2.2
        have hah := ahead_any (k1, k2) b u.at_ v.at_
        rw [← ev, ← eu] at hah
        have hmv : (mo l b).getD 0 = v.at_ := by rw [mo_is hv]; rfl
        have HS := Lib.hid (show ∀ W, Below wy.heap.size wy W → W.cell? ⟨s, 0, none⟩ = some (.int .i64 k1) ∧ W.cell? ⟨s, 1, none⟩ = some (.int .i64 k2) ∧ W.cell? ⟨q, 0, none⟩ = some (.int .i64 b.1) ∧ W.cell? ⟨q, 1, none⟩ = some (.int .i64 b.2) ∧ (Instr.lookup 40 (.map (some mb)) (.agg #[.int .i64 b.1, .int .i64 b.2]) false).run Try.prog W = .ok (.int .i64 v.at_) W ∧ Below wy.heap.size wy W from fun W hW => by
          have k8 := Kept.of_below (F := fun _ => False) hW
          have e1 := (hC.kept k8 (fun h => h)).cells
          have e2 := (hB2.kept k8 (fun h => h)).cells
          have e3 := (hR2.owns.below hW).look (t := 40) (et := 2) Try.underlying40 0 (Try.zero2 W) b hokb
          rw [hmv] at e3
          exact ⟨e1.1, e1.2, e2.1, e2.2, e3, hW⟩)
        have HN := Lib.hid (show ∀ W, Below wy.heap.size wy W → Gr keyY intE W mb r c (mo l) (fun z => left z && !decide (z = (k1, k2))) cnt' ∧ Kb W p (0, 0) ∧ Kb W q b ∧ Below p w W from fun W hW => ⟨hR2.below hW, hA2.kept (Kept.of_below (F := fun _ => False) hW) (fun h => h), hB2.kept (Kept.of_below (F := fun _ => False) hW) (fun h => h), hw2.trans (hW.mono (Nat.le_trans hp0 hw2.size))⟩)
        have hm1 := best_more hv hb hu
        obtain ⟨t, ht⟩ : ∃ t, lt u v = t := ⟨_, rfl⟩
        rw [ht] at hah hm1
        have hI := (HS.out wy (Below.refl _ _))
        have hBd : Below wy.heap.size wy wy.drew := (Below.refl _ _).drew
        clear hR1 hA1 hB1 hw1 k5 kz hsz hA hB hw hR hC hR2 hA2 hB2 hw2 ev eu hmv hb ht
        go_wp2_with fail
        go_region_held3 (fun W => W.cell? ⟨s, 0, none⟩ = some (.int .i64 k1) ∧ W.cell? ⟨s, 1, none⟩ = some (.int .i64 k2) ∧ W.cell? ⟨q, 0, none⟩ = some (.int .i64 b.1) ∧ W.cell? ⟨q, 1, none⟩ = some (.int .i64 b.2) ∧ (Instr.lookup 40 (.map (some mb)) (.agg #[.int .i64 b.1, .int .i64 b.2]) false).run Try.prog W = .ok (.int .i64 v.at_) W ∧ Below wy.heap.size wy W)
          (first | exact HS.out _ hBd | exact HS.out _ h4)
          (first | (go_at_call 22; refine (hah _).mono ?_; rintro e w4 ⟨rfl, h4'⟩; have h4 := hBd.trans (h4'.mono hBd.size)) | fail)
        obtain ⟨r1, r2, r3, r4⟩ := HN.out _ h4
        have hI4 := HS.out _ h4
        cases t
        · have hle2 := r1.left_eq
          go_wp2_with fail
          have h9 : w4.rangeLeft mb r < wr.rangeLeft mb r := by rw [hle2, hle]; exact hlt
          exact ⟨⟨true, b, _, cnt', rfl, hm1.2 rfl, r1, r2, r3, r4⟩, h9⟩
        · obtain ⟨c0, c1, b0, b1, -, -⟩ := hI4
          obtain ⟨g0, g1⟩ := r3.free
          have kk9 : Kept (fun x => x = q) w4 (set2 w4 q (k1, k2)) := set2_kept _ q (k1, k2)
          have s1 := r1.kept kk9 (by omega) (by omega)
          have s2 := r2.kept kk9 (by omega)
          have s3 := set2_kb (w := w4) r3 (k1, k2)
          have s4 := r4.trans (kk9.below (Nat.le_trans hp0 r4.size) (fun x hx h => by omega))
          have hle2 := s1.left_eq
          clear hI r1 r2 r3 r4 kk9 h4 h4' hBd
          go_wp2_with fail
          have h9 : (set2 w4 q (k1, k2)).rangeLeft mb r < wr.rangeLeft mb r := by rw [hle2, hle]; exact hlt
          exact ⟨⟨true, (k1, k2), _, cnt', rfl, hm1.1 rfl, s1, s2, s3, s4⟩, h9⟩
end Go.Proofs.Ytkbmpmcckjhaaaa
