/- Whatever is done: each answer, and all times: the walk. -/
import Derived.Test.YtkbmpmcckjhaaaaActsP
import Derived.Test.YtkbmpmcckjhaaaaBits
import Derived.Test.YtkbmpmcckjhaaaaArgs
import Derived.Deep.CutRange
import Derived.Deep.CutBlock
namespace Go.Proofs.Ytkbmpmcckjhaaaa
open Go.RowKit Go.Kpt HeapPure
set_option linter.unusedVariables false

theorem own_form2 {w : World} {base : Nat} {v : Value} {l : List Ke} (h : OwnP w base 29 v l) : ∃ a cap, v = .slice a l.length cap := by
  rcases h.shape with ⟨rfl, rfl⟩ | ⟨g, cap, rfl, -⟩
  · exact ⟨none, 0, rfl⟩
  · exact ⟨_, _, rfl⟩
theorem lt_of_same {W V : World} {q : Nat} (h : W.heap[q]? = V.heap[q]?) (hq : q < V.heap.size) : q < W.heap.size := by
  rw [Array.getElem?_eq_getElem hq] at h
  exact (Array.getElem?_eq_some_iff.1 h).1

set_option maxRecDepth 100000 in
set_option maxHeartbeats 16000000 in
theorem timerActs_walk (a0 : Option Addr) (cap0 : Nat) (z0 : List (Nat → Int)) (w : World) (w0 : IsStructs 4 w a0 z0) :
    Calls Try.prog 5 #[.slice a0 z0.length cap0] w fun e w' => e = .returned (.bool true) ∧ Below w.heap.size w w' := by
  go_enter Try.func5, Try.ntmps5
  go_wp2_with fail
  refine (head_any w).mono ?_
  rintro e w1 ⟨rfl, hB1⟩
  by_cases hm : 100 < z0.length
  · have c1 : (100 : Int) < (z0.length : Int) := by omega
    go_wp2_with fail
    go_ret
    exact ⟨rfl, hB1⟩
  have c1 : ¬ (100 : Int) < (z0.length : Int) := by omega
  go_wp2_with fail
  refine (tnew_any w1).mono ?_
  rintro e w2 ⟨cb, rfl, h2, -, hB2⟩
  have hB3 : Below w.heap.size w w2 := hB1.trans (hB2.mono hB1.size)
  obtain ⟨base, hbs⟩ : ∃ base, w1.heap.size = base := ⟨_, rfl⟩
  have hb0 : w.heap.size ≤ base := by have := hB1.size; omega
  rw [hbs] at h2
  obtain ⟨n, hn⟩ : ∃ n, z0.length = n := ⟨_, rfl⟩
  rw [hn] at hm c1 ⊢
  have ka : Below w2.heap.size w2 (w2.alloc (.map #[] 0)) := (Below.refl _ _).alloc (Nat.le_refl _) _
  have hG0 : Ma (w2.alloc (.map #[] 0)) w2.heap.size [] := Gm.made keyY intE w2
  obtain ⟨mb, hmb⟩ : ∃ mb, w2.heap.size = mb := ⟨_, rfl⟩
  have hX0 : TX (w2.alloc (.map #[] 0)) base cb [] (fun x => x = mb) := h2.more ka (fun x hx => .inr (by rw [hmb, World.size_alloc, hmb]; omega))
  have hBm := hB3.trans (ka.mono hB3.size)
  have hmb2 : w.heap.size ≤ mb := by rw [← hmb]; exact hB3.size
  rw [hmb] at hG0
  have hA0 : AM (w2.alloc (.map #[] 0)) base cb mb [] := ⟨hX0, hG0⟩
  clear hB1 hB2 hB3 hbs h2 ka hX0 hG0
  have hmm := @run_makeMap Try.prog
  go_wp2_with fail
  generalize w2.alloc (.map #[] 0) = wm at *
  go_loopw [37] (fun x wr => ∃ (i : Nat) (l : List (Ke × Tm)), x = .int .i64 i ∧ i ≤ n ∧ HeapPure.Good lt l ∧ Named l ∧ l.length ≤ i ∧ AM wr base cb mb l ∧ Below w.heap.size w wr) (fun x _ => n - (intOf x).toNat)
  case atStart => exact ⟨0, [], rfl, by omega, HeapPure.Good.nil, Named.nil, by simp, hA0, hBm⟩
  case round =>
    clear hA0 hBm hmm hmb
    obtain ⟨i, l, rfl, hi, hG, hN, hl, h, hB⟩ := hrel
    by_cases hin : i < n
    · obtain ⟨bk, off, rfl, hcell⟩ := w0.2.2 i (by omega)
      have kc := fun j (hj : j < 4) => ((Kept.of_below (F := fun _ => False) hB).cell (p := ⟨bk, off + i * 4 + j, none⟩) (block_lt_of_cell (hcell j hj)) (fun h => h)).trans (hcell j hj)
      have c0 := kc 0 (by omega)
      rw [Nat.add_zero] at c0
      have c1' := kc 1 (by omega)
      have c2 := kc 2 (by omega)
      have c3 := kc 3 (by omega)
      have hwf := fun j => w0.2.1 (z0.getD i (fun _ => 0)) (by rw [List.getD_eq_getElem?_getD, List.getElem?_eq_getElem (by omega)]; exact List.getElem_mem _) j
      have hok : kok (z0.getD i (fun _ => 0) 1, z0.getD i (fun _ => 0) 2) := ⟨hwf 1, hwf 2⟩
      clear kc hcell hwf
      generalize z0.getD i (fun _ => 0) 0 = A at *
      generalize z0.getD i (fun _ => 0) 1 = K at *
      generalize z0.getD i (fun _ => 0) 2 = I at *
      generalize z0.getD i (fun _ => 0) 3 = T at *
      have j1 : (i : Int) < (n : Int) := by omega
      go_upto_region 11 with fail
      have kA : Below wr.heap.size wr ((wr.alloc (.cells #[.int .i64 A, .int .i64 K, .int .i64 I, .int .i64 T] 42)).alloc (.cells #[.int .i64 K, .int .i64 I] 29)) := by go_grown
      have hQ : ((wr.alloc (.cells #[.int .i64 A, .int .i64 K, .int .i64 I, .int .i64 T] 42)).alloc (.cells #[.int .i64 K, .int .i64 I] 29)).heap[wr.heap.size]? = some (.cells #[.int .i64 A, .int .i64 K, .int .i64 I, .int .i64 T] 42 (0, 0)) := (Below.heap_alloc _ _ _ (by simp)).trans (heap_alloc_new _ _)
      have hK2 : Kb ((wr.alloc (.cells #[.int .i64 A, .int .i64 K, .int .i64 I, .int .i64 T] 42)).alloc (.cells #[.int .i64 K, .int .i64 I] 29)) (wr.heap.size + 1) (K, I) := heap_alloc2_new _ _ _
      have hX : TX ((wr.alloc (.cells #[.int .i64 A, .int .i64 K, .int .i64 I, .int .i64 T] 42)).alloc (.cells #[.int .i64 K, .int .i64 I] 29)) base cb l (fun x => x = mb ∨ x = wr.heap.size ∨ x = wr.heap.size + 1) := h.tx.more kA (fun x hx => by
        rcases hx with hx | hx | hx
        · exact .inl hx
        · exact .inr ⟨by omega, by simp; omega⟩
        · exact .inr ⟨by omega, by simp; omega⟩)
      have hM := h.ma.below kA
      have hBA := hB.trans (kA.mono hB.size)
      have hqm : wr.heap.size ≠ mb ∧ wr.heap.size + 1 ≠ mb ∧ w.heap.size ≤ wr.heap.size := ⟨by have := h.ma.lt; omega, by have := h.ma.lt; omega, hB.size⟩
      obtain ⟨q, hq⟩ : ∃ q, wr.heap.size = q := ⟨_, rfl⟩
      obtain ⟨q2, hq2⟩ : ∃ q2, q + 1 = q2 := ⟨_, rfl⟩
      rw [hq, hq2] at hK2 hX hqm
      rw [hq] at hQ
      rw [hq, hq2]
      generalize (wr.alloc (.cells #[.int .i64 A, .int .i64 K, .int .i64 I, .int .i64 T] 42)).alloc (.cells #[.int .i64 K, .int .i64 I] 29) = wa at *
      have HL := Lib.hid (show ∀ W, Same (fun x => x = mb ∨ x = q ∨ x = q2) wa W → W.cell? ⟨q, 3, none⟩ = some (.int .i64 T) ∧ W.cell? ⟨q2, 0, none⟩ = some (.int .i64 K) ∧ W.cell? ⟨q2, 1, none⟩ = some (.int .i64 I) from fun W hW => by
        have e1 : W.heap[q]? = some (.cells #[.int .i64 A, .int .i64 K, .int .i64 I, .int .i64 T] 42 (0, 0)) := (hW q (.inr (.inl rfl))).trans hQ
        have e2 : Kb W q2 (K, I) := (hW q2 (.inr (.inr rfl))).trans hK2
        exact ⟨cell_of e1, e2.cells.1, e2.cells.2⟩)
      have HL2 := Lib.hid (show ∀ W : World, W.heap[q]? = wa.heap[q]? → W.cell? ⟨q, 3, none⟩ = some (.int .i64 T) from fun W hW => cell_of (hW.trans hQ))
      have hmbw : mb < wa.heap.size := hM.lt
      have hqw : q < wa.heap.size := lt_of hQ
      have p0 : wa.cell? ⟨q, 0, none⟩ = some (.int .i64 A) := cell_of hQ
      obtain ⟨p3, k0, k1⟩ := HL.out wa (Same.refl _ _)
      clear kA hQ hK2 h hB c0 c1' c2 c3 hq hq2
      have hb5 := i64_and7 A
      obtain ⟨G, hGe, hG0, hG4⟩ : ∃ G, A % 8 = G ∧ 0 ≤ G ∧ G < 8 := ⟨_, rfl, by omega, by omega⟩
      rw [hGe] at hb5
      clear hGe
      go_upto_block 2 with fail
      go_cut [37] from 37 to 194 (fun x wx => x = .int .i64 i ∧ ∃ (l2 : List (Ke × Tm)), HeapPure.Good lt l2 ∧ Named l2 ∧ l2.length ≤ i + 1 ∧ AM wx base cb mb l2 ∧ Below w.heap.size w wx)
      case first =>
        by_cases e2 : G = 2
        · have d1 : (G == 2) = true := by rw [e2]; rfl
          clear e2 p0 p3
          have hd := tdrop_any base cb l (K, I) hok _ wa hX
          rw [← get_isSome] at hd
          have hG2 := drop_good ord_lt hG (K, I)
          have hN2 := named_drop hG hN (K, I)
          have hl2 := drop_le l (K, I)
          go_wp2_with (at_lookup; refine wpList_ma_look _ rfl _ _ rfl mb l rfl hM (K, I) rfl hok ?_)
          refine hd.mono ?_
          rintro e w3 ⟨rfl, h3, k3, s3⟩
          have hM3 := hM.same (s3 mb (.inl rfl))
          obtain ⟨-, k0, k1⟩ := HL.out _ s3
          have hB3 := hBA.trans (k3.mono hb0)
          clear hd hX hM hBA
          go_wp2_with (at_delete; refine wpList_ma_del _ rfl _ _ rfl mb l hG rfl hM3 (K, I) rfl hok ?_; intro w5 hm5 hk5)
          go_meet
          case rel => exact ⟨rfl, _, hG2, hN2, by omega, ⟨(h3.less (fun x hx => .inl hx)).beside hk5, hm5⟩, hB3.trans (hk5.below hB3.size (fun x hx hh => by omega))⟩
        · have d1 : (G == 2) = false := beq_eq_false_iff_ne.2 e2
          by_cases e3 : G = 3
          · have d2 : (G == 3) = true := by rw [e3]; rfl
            have hf := first_any l hG hN mb l.length wa hM
            obtain ⟨R, hR⟩ : ∃ R, (if 0 < l.length then kk l 0 else (0, 0)) = R := ⟨_, rfl⟩
            rw [hR] at hf
            have hsame := fun W (kW : Below wa.heap.size wa W) => hX.same kW
            have h4 : ∀ w3, Below wa.heap.size wa w3 → ∃ q3 w4, w3.heap.size = q3 ∧ w3.alloc (.cells #[.int .i64 R.1, .int .i64 R.2] 29) = w4 ∧ Kb w4 q3 R ∧ TX w4 base cb l (fun x => (x = mb ∨ x = q ∨ x = q2) ∨ x = q3) ∧ Ma w4 mb l ∧ Below w.heap.size w w4 ∧ Same (fun x => x = mb ∨ x = q ∨ x = q2) wa w4 ∧ q3 ≠ mb ∧ w.heap.size ≤ q3 := fun w3 k3 => by
              have kE : Below w3.heap.size w3 (w3.alloc (.cells #[.int .i64 R.1, .int .i64 R.2] 29)) := (Below.refl _ _).alloc (Nat.le_refl _) _
              have k4 := k3.trans (kE.mono k3.size)
              have hX5 : TX (w3.alloc (.cells #[.int .i64 R.1, .int .i64 R.2] 29)) base cb l (fun x => (x = mb ∨ x = q ∨ x = q2) ∨ x = w3.heap.size) := (hX.below k3).more kE (fun x hx => by
                rcases hx with hx | hx
                · exact .inl hx
                · exact .inr ⟨by omega, by rw [World.size_alloc]; omega⟩)
              have hlt3 : mb < w3.heap.size := Gm.lt (hM.below k3)
              exact ⟨w3.heap.size, _, rfl, rfl, heap_alloc_new _ _, hX5, hM.below k4, hBA.trans (k4.mono hBA.size), hX.same k4, by omega, by have := hBA.size; have := k3.size; omega⟩
            clear e3 p0 p3 k0 k1
            by_cases hp : 0 < l.length
            · have ht : decide (0 < l.length) = true := decide_eq_true hp
              rw [ht] at hf
              rw [if_pos hp] at hR
              have hgm := (min_spec hG hp).1
              obtain ⟨V, hV⟩ : ∃ V, (vv l 0).at_ = V := ⟨_, rfl⟩
              rw [hR] at hgm
              have hokR := (hN _ _ hgm).2.2
              have hga : ga (HeapPure.get l R) = V := by rw [hgm]; exact hV
              have hgd := guard_ke
              by_cases hTV : T < V
              · have hk := neq_ke (0, 0) (0, 0)
                simp only [decide_true, Bool.not_true] at hk
                clear ht hR hgm
                go_wp2_with fail
                refine hf.mono ?_
                rintro e w3 ⟨rfl, k3⟩
                obtain ⟨q3, w4, hq3, hw4, hK3, hX4, hM4, hB4, hs4, hq3m, hq3w⟩ := h4 w3 k3
                clear hf h4 hsame hX hM hBA k3
                obtain ⟨p3, -, -⟩ := HL.out _ hs4
                obtain ⟨R0, R1⟩ := hK3.cells
                obtain ⟨g0, g1⟩ := hK3.free
                have hlk := fun m => (hM4.below (below_drewN (Below.refl w4.heap.size w4) m)).look R hokR
                rw [hga] at hlk
                have kk9 := fun m => ((Kept.refl (fun x => x = q3) w4).drewN m).trans (set2_kept (w4.drewN m) q3 (0, 0)) (fun _ _ h => h)
                have hX5 := fun m => hX4.beside ((kk9 m).mono (G := fun x => (x = mb ∨ x = q ∨ x = q2) ∨ x = q3) (fun x _ hx => .inr hx))
                have hnx := fun m => next_none base cb l T (fun hh => by have := hh.2; omega) _ _ (hX5 m)
                have hM5 := fun m => Gm.kept hM4 (kk9 m) (fun h => hq3m h.symm)
                have hK5 := fun m => set2_kb (w := w4.drewN m) (b := q3) (k := R) hK3 (0, 0)
                have hB5 := fun m => hB4.trans ((kk9 m).below hB4.size (fun x hx h => by omega))
                clear hX4 hM4 hB4 hs4 hK3 kk9
                have HH := Lib.hid (And.intro hX5 (And.intro hM5 (And.intro hK5 hB5)))
                clear hX5 hM5 hK5 hB5
                go_wp2_with fail
                go_quiet (fail)
                go_wp2_with fail
                refine (hnx nq).mono ?_
                clear hnx hlk
                rintro e w5 ⟨rfl, k5⟩
                obtain ⟨hX5, hM5, hK5, hB5⟩ := HH.out
                have kE : Below w5.heap.size w5 (w5.alloc (.cells #[.int .i64 0, .int .i64 0] 29)) := (Below.refl _ _).alloc (Nat.le_refl _) _
                have k6 := k5.trans (kE.mono k5.size)
                have hK6 := (hK5 nq).kept (Kept.of_below (F := fun _ => False) k6) (fun h => h)
                have hX6 := ((hX5 nq).below k6).less (Q' := fun x => x = mb) (fun x hx => .inl (.inl hx))
                have hM6 := Gm.below (hM5 nq) k6
                have hB6 := (hB5 nq).trans (k6.mono (hB5 nq).size)
                clear R0 R1 g0 g1 HH hX5 hM5 hK5 hB5 k6 kE k5
                obtain ⟨R0, R1⟩ := hK6.cells
                dsimp only at R0 R1
                go_wp2_with fail
                go_meet
                case rel => exact ⟨rfl, l, hG, hN, by omega, ⟨hX6, hM6⟩, hB6⟩
              · have hk := neq_ke R R
                simp only [decide_true, Bool.not_true] at hk
                have hTV2 : V ≤ T := by omega
                have hG2 := drop_good ord_lt hG R
                have hN2 := named_drop hG hN R
                have hl2 := drop_le l R
                have hxs := fun Q W (hW : TX W base cb l Q) => next_some base cb l T hp (by omega) Q W hW
                rw [hR] at hxs
                clear ht hR hgm
                go_wp2_with fail
                refine hf.mono ?_
                rintro e w3 ⟨rfl, k3⟩
                obtain ⟨q3, w4, hq3, hw4, hK3, hX4, hM4, hB4, hs4, hq3m, hq3w⟩ := h4 w3 k3
                clear hf h4 hsame hX hM hBA k3
                obtain ⟨p3, -, -⟩ := HL.out _ hs4
                obtain ⟨R0, R1⟩ := hK3.cells
                have hlk := fun m => (hM4.below (below_drewN (Below.refl w4.heap.size w4) m)).look R hokR
                rw [hga] at hlk
                have hkd := fun m => below_drewN (Below.refl w4.heap.size w4) m
                have hnx := fun m => hxs _ _ (hX4.below (hkd m))
                clear hxs
                go_wp2_with fail
                go_quiet (fail)
                go_wp2_with fail
                refine (hnx nq).mono ?_
                clear hnx hlk
                rintro e w5 ⟨rfl, h5, k5, s5⟩
                have hM5 : Ma w5 mb l := (hM4.below (hkd nq)).same (s5 mb (.inl (.inl rfl)))
                have hK5 : Kb w5 q3 R := (s5 q3 (.inr rfl)).trans (hK3.kept (Kept.of_below (F := fun _ => False) (hkd nq)) (fun h => h))
                have hB5 := (hB4.trans ((hkd nq).mono hB4.size)).trans (k5.mono hb0)
                have kE : Below w5.heap.size w5 (w5.alloc (.cells #[.int .i64 R.1, .int .i64 R.2] 29)) := (Below.refl _ _).alloc (Nat.le_refl _) _
                have hN6 : Kb (w5.alloc (.cells #[.int .i64 R.1, .int .i64 R.2] 29)) w5.heap.size R := heap_alloc_new _ _
                have hK6 := hK5.kept (Kept.of_below (F := fun _ => False) kE) (fun h => h)
                have hX6 := (h5.below kE).less (Q' := fun x => x = mb) (fun x hx => .inl (.inl hx))
                have hM6 := hM5.below kE
                have hB6 := hB5.trans (kE.mono hB5.size)
                clear R0 R1 hX4 hM4 hB4 hs4 hK3 hkd h5 k5 s5 hM5 hK5 hB5 kE hw4
                obtain ⟨w6, hw6⟩ : ∃ w6, w5.alloc (.cells #[.int .i64 R.1, .int .i64 R.2] 29) = w6 := ⟨_, rfl⟩
                obtain ⟨q5, hq5⟩ : ∃ q5, w5.heap.size = q5 := ⟨_, rfl⟩
                rw [hw6, hq5] at hN6
                rw [hw6] at hK6 hX6 hM6 hB6
                obtain ⟨R0, R1⟩ := hK6.cells
                obtain ⟨y0, y1⟩ := hN6.cells
                go_wp2_with (at_delete; refine wpList_ma_del _ rfl _ _ rfl mb l hG rfl hM6 R rfl hokR ?_; intro w7 hm7 hk7)
                go_meet
                case rel => exact ⟨rfl, _, hG2, hN2, by omega, ⟨hX6.beside hk7, hm7⟩, hB6.trans (hk7.below hB6.size (fun x hx hh => by omega))⟩
            · have ht : decide (0 < l.length) = false := decide_eq_false hp
              rw [ht] at hf
              rw [if_neg hp] at hR
              have HR := Lib.hid hR
              clear ht hR
              go_wp2_with fail
              refine hf.mono ?_
              rintro e w3 ⟨rfl, k3⟩
              obtain ⟨q3, w4, hq3, hw4, hK3, hX4, hM4, hB4, hs4, hq3m, hq3w⟩ := h4 w3 k3
              clear hf h4 hsame hX hM hBA k3
              obtain ⟨p3, -, -⟩ := HL.out _ hs4
              obtain ⟨R0, R1⟩ := hK3.cells
              have hkd := fun m => below_drewN (Below.refl w4.heap.size w4) m
              have hnx := fun m => next_none base cb l T (fun hh => hp hh.1) _ (w4.drewN m) (hX4.below (hkd m))
              have hk : ∀ w, (binOp .neq 29 (.agg #[.int .i64 0, .int .i64 0]) (.agg #[.int .i64 R.1, .int .i64 R.2])).run Try.prog w = .ok (.bool false) w := fun w => by
                have := neq_ke (0, 0) R w
                rw [decide_eq_true HR.out] at this
                exact this
              have hgd := guard_ke
              go_wp2_with fail
              go_quiet (fail)
              go_wp2_with fail
              refine (hnx nq).mono ?_
              clear hnx
              rintro e w5 ⟨rfl, k5⟩
              have kE : Below w5.heap.size w5 (w5.alloc (.cells #[.int .i64 0, .int .i64 0] 29)) := (Below.refl _ _).alloc (Nat.le_refl _) _
              have k6 : Below w4.heap.size w4 (w5.alloc (.cells #[.int .i64 0, .int .i64 0] 29)) := ((hkd nq).trans k5).trans (kE.mono ((hkd nq).trans k5).size)
              have hK6 := hK3.kept (Kept.of_below (F := fun _ => False) k6) (fun h => h)
              have hX6 := (hX4.below k6).less (Q' := fun x => x = mb) (fun x hx => .inl (.inl hx))
              have hM6 := hM4.below k6
              have hB6 := hB4.trans (k6.mono hB4.size)
              clear R0 R1
              obtain ⟨R0, R1⟩ := hK6.cells
              clear hX4 hM4 hB4 hs4 hK3 kE k6 k5
              go_wp2_with fail
              go_meet
              case rel => exact ⟨rfl, l, hG, hN, by omega, ⟨hX6, hM6⟩, hB6⟩
          · have d2 : (G == 3) = false := beq_eq_false_iff_ne.2 e3
            by_cases e4 : G = 4
            · have d3 : (G == 4) = true := by rw [e4]; rfl
              have hdu := tx_due base cb l T hG (by omega) _ wa hX
              clear p0 k0 k1 e2 e3 e4
              go_wp2_with fail
              refine hdu.mono ?_
              clear hdu
              rintro e w3 ⟨v, m, rfl, hml, hnd, hdd, hO, h3, k3, s3⟩
              obtain ⟨av, cv, rfl⟩ := own_form2 hO
              have hM3 : Ma w3 mb (after 0 l) := hM.same (s3 mb (.inl rfl))
              have hB3 := hBA.trans (k3.mono hb0)
              have hq3 : w3.heap[q]? = wa.heap[q]? := s3 q (.inr (.inl rfl))
              obtain ⟨ks, hks⟩ : ∃ ks, pops m l = ks := ⟨_, rfl⟩
              have hkm : ks.length = m := by rw [← hks]; exact pops_length m l
              have hkg : ∀ j, j < m → ks.getD j (0, 0) = kk (after j l) 0 := fun j hj => by rw [← hks]; exact pops_get l m j hj
              rw [hks] at hO h3 ⊢
              have hk60 : ks.length ≤ 100 := by omega
              have HK := Lib.hid (And.intro hkm (And.intro hkg (And.intro hnd (And.intro hdd hml))))
              obtain ⟨ob, hob⟩ : ∃ ob, wa.heap.size = ob := ⟨_, rfl⟩
              rw [hob] at hO hmbw
              clear hX hM hBA k3 s3 hks hkm hkg hnd hdd hml hob
              go_wp2_with fail
              go_loopw [116] (fun x wr => ∃ (j : Nat), x = .int .i64 j ∧ j ≤ ks.length ∧ OwnP wr ob 29 (.slice av ks.length cv) ks ∧ TX wr base cb (after m l) (fun x => (x = mb ∨ x = q ∨ x = q2) ∨ some x = (Value.slice av ks.length cv).ownBlock) ∧ Ma wr mb (after j l) ∧ wr.heap[q]? = wa.heap[q]? ∧ Below w.heap.size w wr) (fun x _ => ks.length - (intOf x).toNat)
              case atStart => exact ⟨0, rfl, Nat.zero_le _, hO, h3, hM3, hq3, hB3⟩
              case round =>
                clear hO h3 hM3 hq3 hB3 p3
                obtain ⟨j, rfl, hj, hO, hX, hM, hqb, hB⟩ := hrel
                obtain ⟨hkm, hkg, hnd, hdd, hml⟩ := HK.out
                by_cases hjn : j < ks.length
                · have hj2 : (j : Int) < (ks.length : Int) := by omega
                  have hgl := after_good hG j (by omega)
                  have hna := named_after hG hN j (by omega)
                  have hgj := hkg j (by omega)
                  obtain ⟨hdp, hdv⟩ := hdd j (by omega)
                  have hgm := (min_spec hgl.1 hdp).1
                  have hf := fun W (hW : Ma W mb (after j l)) => first_any (after j l) hgl.1 hna mb (after j l).length W hW
                  rw [if_pos hdp, decide_eq_true hdp] at hf
                  have hdel : after (j + 1) l = HeapPure.drop lt (after j l) (kk (after j l) 0) := rfl
                  obtain ⟨R, hR⟩ : ∃ R, kk (after j l) 0 = R := ⟨_, rfl⟩
                  rw [hR] at hgm hf hdel hgj
                  obtain ⟨V, hV⟩ : ∃ V, (vv (after j l) 0).at_ = V := ⟨_, rfl⟩
                  rw [hV] at hdv
                  have hokR := (hna _ _ hgm).2.2
                  have hga : ga (HeapPure.get (after j l) R) = V := by rw [hgm]; exact hV
                  have hlk0 := fun W (hW : Ma W mb (after j l)) => hW.look R hokR
                  rw [hga] at hlk0
                  have hnTV : ¬ T < V := by omega
                  have hk := neq_ke R R
                  simp only [decide_true, Bool.not_true] at hk
                  have hgd := guard_ke
                  have hO0 := hO
                  rcases hO.shape with ⟨-, he⟩ | ⟨gx, kx, hvx, -, hgx, -, -, -, hcx⟩
                  · simp [he] at hjn
                  cases hvx
                  obtain ⟨x0, x1⟩ := hcx j hjn
                  rw [hgj] at x0 x1
                  have hgo := hO.lt gx rfl
                  clear hkm hkg hnd hdd hml hcx hO hgm hV hR hgj hdp hga
                  have kE : Below wr.heap.size wr (wr.alloc (.cells #[.int .i64 R.1, .int .i64 R.2] 29)) := (Below.refl _ _).alloc (Nat.le_refl _) _
                  have hK5 : Kb (wr.alloc (.cells #[.int .i64 R.1, .int .i64 R.2] 29)) wr.heap.size R := heap_alloc_new _ _
                  have hM5 := hM.below kE
                  have h5 : ∃ q5 w5, wr.heap.size = q5 ∧ wr.alloc (.cells #[.int .i64 R.1, .int .i64 R.2] 29) = w5 := ⟨_, _, rfl, rfl⟩
                  obtain ⟨q5, w5, hq5, hw5⟩ := h5
                  rw [hw5, hq5] at hK5
                  rw [hw5] at hM5 kE
                  go_wp2_with fail
                  refine (hf _ hM5).mono ?_
                  clear hf
                  rintro e w6 ⟨rfl, k6⟩
                  have kE2 : Below w6.heap.size w6 (w6.alloc (.cells #[.int .i64 R.1, .int .i64 R.2] 29)) := (Below.refl _ _).alloc (Nat.le_refl _) _
                  have hN7 : Kb (w6.alloc (.cells #[.int .i64 R.1, .int .i64 R.2] 29)) w6.heap.size R := heap_alloc_new _ _
                  have k7 := k6.trans (kE2.mono k6.size)
                  have hK7 := hK5.kept (Kept.of_below (F := fun _ => False) k7) (fun h => h)
                  have kr7 := kE.trans (k7.mono kE.size)
                  have h7 : ∃ q7 w7, w6.heap.size = q7 ∧ w6.alloc (.cells #[.int .i64 R.1, .int .i64 R.2] 29) = w7 := ⟨_, _, rfl, rfl⟩
                  obtain ⟨q7, w7, hq7, hw7⟩ := h7
                  rw [hw7, hq7] at hN7
                  rw [hw7] at hK7 kr7
                  have hM7 := hM.below kr7
                  have hX7 := hX.below kr7
                  have hB7 := hB.trans (kr7.mono hB.size)
                  have hO7 := hO0.below kr7
                  have hq7b : w7.heap[q]? = wa.heap[q]? := (kr7.block q (lt_of_same hqb hqw)).trans hqb
                  have p3 := HL2.out _ hq7b
                  obtain ⟨y0, y1⟩ := hK7.cells
                  obtain ⟨z0', z1'⟩ := hN7.cells
                  have hlk := fun n => hlk0 _ (hM7.below (below_drewN (Below.refl w7.heap.size w7) n))
                  clear hM5 kE k6 kE2 hK5 k7 kr7 hM hX hB hO0 hqb hlk0 hw5 x0 x1
                  go_wp2_with fail
                  go_quiet (fail)
                  have hkd := below_drewN (Below.refl w7.heap.size w7) nq
                  have hM8 := hM7.below hkd
                  have hX8 := hX7.below hkd
                  have hB8 := hB7.trans (hkd.mono hB7.size)
                  have hO8 := hO7.below hkd
                  have hq8 : (w7.drewN nq).heap[q]? = wa.heap[q]? := hq7b
                  clear hM7 hX7 hB7 hO7 hkd hlk
                  go_wp2_with (at_delete; refine wpList_ma_del _ rfl _ _ rfl mb (after j l) hgl.1 rfl hM8 R rfl hokR ?_; intro w9 hm9 hk9)
                  rw [← hdel] at hm9
                  have hX9 := hX8.beside (hk9.mono (G := fun x => (x = mb ∨ x = q ∨ x = q2) ∨ some x = (Value.slice (some ⟨gx, 0, none⟩) ks.length cv).ownBlock) (fun x _ hx => .inl (.inl hx)))
                  have hO9 := hO8.kept hk9 (fun g hg hh => by have := hO8.lt g hg; omega)
                  have hq9 := (hk9.block q (lt_of_same hq8 hqw) (fun h => hqm.1 h)).trans hq8
                  have hB9 := hB8.trans (hk9.below hB8.size (fun x hx hh => by omega))
                  go_roundw
                  case rel => exact ⟨j + 1, by go_num, by omega, hO9, hX9, hm9, hq9, hB9⟩
                  case measure => simp [intOf]; omega
                · obtain rfl : j = ks.length := by omega
                  obtain ⟨hg2, hle2⟩ := after_good hG m hml
                  have hn2 := named_after hG hN m hml
                  have hl2 : (after m l).length ≤ i + 1 := by omega
                  rw [hkm] at hM
                  have p3 := HL2.out _ hqb
                  have hX2 : TX wr base cb (after m l) (fun x => x = mb) := hX.less (fun x hx => .inl (.inl hx))
                  clear hkm hkg hdd hml hO hX hqb hle2 HK
                  generalize after m l = l2 at *
                  have hf := first_any l2 hg2 hn2 mb l2.length wr hM
                  have hlook := fun W (hW : Ma W mb l2) => hW.look
                  obtain ⟨R, hR⟩ : ∃ R, (if 0 < l2.length then kk l2 0 else (0, 0)) = R := ⟨_, rfl⟩
                  rw [hR] at hf
                  by_cases hp : 0 < l2.length
                  · rw [decide_eq_true hp] at hf
                    rw [if_pos hp] at hR
                    have hgm := (min_spec hg2 hp).1
                    obtain ⟨V, hV⟩ : ∃ V, (vv l2 0).at_ = V := ⟨_, rfl⟩
                    rw [hR] at hgm
                    have hokR := (hn2 _ _ hgm).2.2
                    have hga : ga (HeapPure.get l2 R) = V := by rw [hgm]; exact hV
                    have hVT : ¬ V ≤ T := fun hh => hnd ⟨hp, by rw [hV]; exact hh⟩
                    have hlk0 := fun W (hW : Ma W mb l2) => hW.look R hokR
                    rw [hga] at hlk0
                    clear hgm hV hR hga hp hnd hlook
                    go_wp2_with fail
                    refine hf.mono ?_
                    clear hf
                    rintro e w6 ⟨rfl, k6⟩
                    have kE2 : Below w6.heap.size w6 (w6.alloc (.cells #[.int .i64 R.1, .int .i64 R.2] 29)) := (Below.refl _ _).alloc (Nat.le_refl _) _
                    have hN7 : Kb (w6.alloc (.cells #[.int .i64 R.1, .int .i64 R.2] 29)) w6.heap.size R := heap_alloc_new _ _
                    have k7 := k6.trans (kE2.mono k6.size)
                    obtain ⟨q7, w7, hq7, hw7⟩ : ∃ q7 w7, w6.heap.size = q7 ∧ w6.alloc (.cells #[.int .i64 R.1, .int .i64 R.2] 29) = w7 := ⟨_, _, rfl, rfl⟩
                    rw [hw7, hq7] at hN7
                    rw [hw7] at k7
                    have hM7 := hM.below k7
                    have hX7 := hX2.below k7
                    have hB7 := hB.trans (k7.mono hB.size)
                    have p3 := ((Kept.of_below (F := fun _ => False) k7).cell (p := ⟨q, 3, none⟩) (block_lt_of_cell p3) (fun h => h)).trans p3
                    obtain ⟨z0', z1'⟩ := hN7.cells
                    have hlk := fun n => hlk0 _ (hM7.below (below_drewN (Below.refl w7.heap.size w7) n))
                    clear hM hX2 hB k6 kE2 hN7 hlk0
                    go_wp2_with fail
                    go_quiet (fail)
                    have hkd := below_drewN (Below.refl w7.heap.size w7) nq
                    have hM8 := hM7.below hkd
                    have hX8 := hX7.below hkd
                    have hB8 := hB7.trans (hkd.mono hB7.size)
                    clear hM7 hX7 hB7 hkd hlk
                    go_wp2_with fail
                    go_meet
                    case rel => exact ⟨rfl, l2, hg2, hn2, hl2, ⟨hX8, hM8⟩, hB8⟩
                  · rw [decide_eq_false hp] at hf
                    clear hR hnd hlook
                    go_wp2_with fail
                    refine hf.mono ?_
                    clear hf
                    rintro e w6 ⟨rfl, k6⟩
                    have kE2 : Below w6.heap.size w6 (w6.alloc (.cells #[.int .i64 R.1, .int .i64 R.2] 29)) := (Below.refl _ _).alloc (Nat.le_refl _) _
                    have k7 := k6.trans (kE2.mono k6.size)
                    obtain ⟨q7, w7, hq7, hw7⟩ : ∃ q7 w7, w6.heap.size = q7 ∧ w6.alloc (.cells #[.int .i64 R.1, .int .i64 R.2] 29) = w7 := ⟨_, _, rfl, rfl⟩
                    rw [hw7] at k7
                    have hM7 := hM.below k7
                    have hX7 := hX2.below k7
                    have hB7 := hB.trans (k7.mono hB.size)
                    clear hM hX2 hB k6 kE2
                    go_wp2_with fail
                    go_quiet (fail)
                    have hkd := below_drewN (Below.refl w7.heap.size w7) nq
                    have hM8 := hM7.below hkd
                    have hX8 := hX7.below hkd
                    have hB8 := hB7.trans (hkd.mono hB7.size)
                    clear hM7 hX7 hB7 hkd
                    go_wp2_with fail
                    go_meet
                    case rel => exact ⟨rfl, l2, hg2, hn2, hl2, ⟨hX8, hM8⟩, hB8⟩
            · have d3 : (G == 4) = false := beq_eq_false_iff_ne.2 e4
              clear p0 e2 e3 e4
              have hs := tset_any base cb l (K, I) T hok (by omega) _ wa hX
              have hG2 := setAt_good ord_lt hG (K, I) ⟨T, K, I⟩
              have hN2 := named_set hG hN (K, I) T hok
              have hl2 := len_set l (K, I) ⟨T, K, I⟩
              have hcm : l.length < maxLen := by unfold maxLen; omega
              go_wp2_with fail
              refine hs.mono ?_
              rintro e w3 ⟨rfl, h3, k3, s3⟩
              have hM3 := hM.same (s3 mb (.inl rfl))
              obtain ⟨p3, k0, k1⟩ := HL.out _ s3
              have hB3 := hBA.trans (k3.mono hb0)
              clear hs hX hM hBA
              go_wp2_with (at_mapUpdate; refine wpList_ma_put _ rfl _ _ _ rfl mb l hG rfl hM3 hcm (K, I) ⟨T, K, I⟩ rfl rfl hok ?_; intro w5 hm5 hk5)
              go_meet
              case rel => exact ⟨rfl, _, hG2, hN2, by omega, ⟨(h3.less (fun x hx => .inl hx)).beside hk5, hm5⟩, hB3.trans (hk5.below hB3.size (fun x hx hh => by omega))⟩
      case rest =>
        obtain ⟨rfl, l2, hG2, hN2, hl2, h2, hB2⟩ := hcut
        clear hb5 hX hM hBA p0 p3 k0 k1 HL hG hN hl
        have hlr := h2.ma.len 3
        have s1 := tlen_any base cb l2 _ _ h2.tx
        go_wp2_with fail
        refine s1.mono ?_
        clear s1
        rintro e w3 ⟨rfl, rfl⟩
        go_wp2_with fail
        clear hlr
        go_loopw [164] (fun x wr => ∃ (j : Nat), x = .int .i64 j ∧ j ≤ n ∧ AM wr base cb mb l2 ∧ Below w.heap.size w wr) (fun x _ => n - (intOf x).toNat)
        case atStart => exact ⟨0, rfl, by omega, h2, hB2⟩
        case round =>
          clear h2 hB2
          obtain ⟨j, rfl, hj, h, hB⟩ := hrel
          by_cases hjn : j < n
          · have hj2 : (j : Int) < (n : Int) := by omega
            obtain ⟨bk', off', he, hcell⟩ := w0.2.2 j (by omega)
            cases he
            have kc := fun m (hm : m < 4) => ((Kept.of_below (F := fun _ => False) hB).cell (p := ⟨bk, off + j * 4 + m, none⟩) (block_lt_of_cell (hcell m hm)) (fun h => h)).trans (hcell m hm)
            have c0 := kc 0 (by omega)
            rw [Nat.add_zero] at c0
            have c1' := kc 1 (by omega)
            have c2 := kc 2 (by omega)
            have c3 := kc 3 (by omega)
            have hwf := fun m => w0.2.1 (z0.getD j (fun _ => 0)) (by rw [List.getD_eq_getElem?_getD, List.getElem?_eq_getElem (by omega)]; exact List.getElem_mem _) m
            have hok' : kok (z0.getD j (fun _ => 0) 1, z0.getD j (fun _ => 0) 2) := ⟨hwf 1, hwf 2⟩
            clear kc hcell hwf
            generalize z0.getD j (fun _ => 0) 0 = A' at *
            generalize z0.getD j (fun _ => 0) 1 = K' at *
            generalize z0.getD j (fun _ => 0) 2 = I' at *
            generalize z0.getD j (fun _ => 0) 3 = T' at *
            have kA : Below wr.heap.size wr ((wr.alloc (.cells #[.int .i64 A', .int .i64 K', .int .i64 I', .int .i64 T'] 42)).alloc (.cells #[.int .i64 K', .int .i64 I'] 29)) := by go_grown
            have hK3 : Kb ((wr.alloc (.cells #[.int .i64 A', .int .i64 K', .int .i64 I', .int .i64 T'] 42)).alloc (.cells #[.int .i64 K', .int .i64 I'] 29)) (wr.heap.size + 1) (K', I') := heap_alloc2_new _ _ _
            have h3 := h.below kA
            have hB3 := hB.trans (kA.mono hB.size)
            have s1 := tat_any base cb l2 (K', I') hok' _ _ h3.tx
            go_wp2_with fail
            refine s1.mono ?_
            clear s1
            rintro e w6 ⟨rfl, k6⟩
            have h6 := h3.below k6
            have hB6 := hB3.trans (k6.mono hB3.size)
            have hK6 := hK3.kept (Kept.of_below (F := fun _ => False) k6) (fun h => h)
            obtain ⟨y0, y1⟩ := hK6.cells
            dsimp only at y0 y1
            clear h hB c0 c1' c2 c3 kA hK3 h3 hB3 k6 hK6
            go_wp2_with (at_lookup; refine wpList_ma_look _ rfl _ _ rfl mb l2 rfl h6.ma (K', I') rfl hok' ?_)
            go_roundw
            case rel => exact ⟨j + 1, by go_num, by omega, h6, hB6⟩
            case measure => simp [intOf]; omega
          · obtain rfl : j = n := by omega
            go_wp2_with fail
            go_roundw
            case rel => exact ⟨i + 1, l2, by go_num, by omega, hG2, hN2, hl2, h, hB⟩
            case measure => simp [intOf]; omega
    · obtain rfl : i = n := by omega
      go_wp2_with fail
      go_ret
      exact ⟨rfl, hB⟩
end Go.Proofs.Ytkbmpmcckjhaaaa
