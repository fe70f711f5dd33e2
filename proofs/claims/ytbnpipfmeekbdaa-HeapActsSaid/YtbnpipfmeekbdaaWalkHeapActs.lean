/- Whatever is done: each answer, and the least: the walk. -/
import Derived.Test.YtbnpipfmeekbdaaActs
import Derived.Test.YtbnpipfmeekbdaaArgs
import Derived.Test.YtbnpipfmeekbdaaBits
import Derived.Deep.CutRange
import Derived.Deep.CutBlock
namespace Go.Proofs.Ytbnpipfmeekbdaa
open Go.RowKit Go.Kpt HeapPure
set_option linter.unusedVariables false
attribute [local go_sem] i64_and3

theorem set_le (l : List (Int × Int)) (k v : Int) : (setAt lt l k v).length ≤ l.length + 1 := by rw [setAt_length]; split <;> omega
theorem drop_le (l : List (Int × Int)) (k : Int) : (drop lt l k).length ≤ l.length := by rw [drop_length]; split <;> omega

set_option maxRecDepth 100000 in
set_option maxHeartbeats 16000000 in
theorem heapActs_walk (a0 : Option Addr) (cap0 : Nat) (z : List (Nat → Int)) (w : World) (w0 : IsStructs 3 w a0 z) :
    Calls Try.prog 5 #[.slice a0 z.length cap0] w fun e w' => e = .returned (.bool true) ∧ Below w.heap.size w w' := by
  go_enter Try.func5, Try.ntmps5
  go_wp2_with fail
  refine (head_any _).mono ?_
  rintro e v0 ⟨rfl, hB0⟩
  by_cases hlen : 120 < z.length
  · have g1 : (120 : Int) < (z.length : Int) := by omega
    go_wp2_with fail
    go_ret
    exact ⟨rfl, hB0⟩
  have g1 : ¬ (120 : Int) < (z.length : Int) := by omega
  go_wp2_with fail
  refine (newB v0).mono ?_
  rintro e v1 ⟨hb, rfl, h1, hBn⟩
  obtain ⟨base, hbase⟩ : ∃ base, v0.heap.size = base := ⟨_, rfl⟩
  rw [hbase] at h1
  have hwb : w.heap.size ≤ base := by have := hB0.size; omega
  have hB1 : Below w.heap.size w v1 := hB0.trans (hBn.mono hB0.size)
  clear hBn hB0 hbase
  have hmm := @run_makeMap Try.prog
  obtain ⟨h2, hB2⟩ := h1.beside
  have hB2 := hB1.trans (hB2.mono hwb)
  obtain ⟨ma, hma⟩ : ∃ ma, v1.heap.size = ma := ⟨_, rfl⟩
  go_wp2_with fail
  rw [hma] at h2
  clear hmm h1 hB1 hma
  go_loopw [34] (fun x wr => ∃ (i : Nat) (l : List (Int × Int)), x = .int .i64 i ∧ i ≤ z.length ∧ HeapPure.Good lt l ∧ l.length ≤ i ∧ HM wr base hb ma l l ∧ Below w.heap.size w wr) (fun x _ => z.length - (intOf x).toNat)
  case atStart => exact ⟨0, [], rfl, by omega, HeapPure.Good.nil, Nat.le_refl _, h2, hB2⟩
  case round =>
    clear h2 hB2
    obtain ⟨i, l, rfl, hi, hg, hll, h, hB⟩ := hrel
    by_cases hlt : i < z.length
    · obtain ⟨c, off, rfl, hcell⟩ := w0.2.2 i hlt
      have c0 := arg_cell hB (hcell 0 (by omega))
      rw [Nat.add_zero] at c0
      have c1 := arg_cell hB (hcell 1 (by omega))
      have c2 := arg_cell hB (hcell 2 (by omega))
      have hw1 : (Lit.int .i64 (z.getD i (fun _ => 0) 1)).wf = true := w0.2.1 _ (by rw [List.getD_eq_getElem?_getD, List.getElem?_eq_getElem hlt]; exact List.getElem_mem _) 1
      have hw2 : (Lit.int .i64 (z.getD i (fun _ => 0) 2)).wf = true := w0.2.1 _ (by rw [List.getD_eq_getElem?_getD, List.getElem?_eq_getElem hlt]; exact List.getElem_mem _) 2
      generalize z.getD i (fun _ => 0) 0 = A at *
      generalize z.getD i (fun _ => 0) 1 = K at *
      generalize z.getD i (fun _ => 0) 2 = V at *
      have j1 : (i : Int) < (z.length : Int) := by omega
      clear hcell
      go_upto_region 10 with fail
      obtain ⟨q, hq⟩ : ∃ q, wr.heap.size = q := ⟨_, rfl⟩
      have hbl : Below wr.heap.size wr (wr.alloc (.cells #[.int .i64 A, .int .i64 K, .int .i64 V] 37)) := (Below.refl _ _).alloc (Nat.le_refl _) _
      have hblk := heap_alloc_new wr (.cells #[.int .i64 A, .int .i64 K, .int .i64 V] 37)
      have hA := h.below hbl
      have hBA := hB.trans (hbl.mono hB.size)
      rw [hq] at hblk ⊢
      generalize wr.alloc (.cells #[.int .i64 A, .int .i64 K, .int .i64 V] 37) = wa at *
      clear hbl h hB c0 c1 c2 hq
      obtain ⟨G, hG, hG0, hG4⟩ : ∃ G, A % 4 = G ∧ 0 ≤ G ∧ G < 4 := ⟨_, rfl, by omega, by omega⟩
      have p0 : wa.cell? ⟨q, 0, none⟩ = some (.int .i64 A) := cell_of hblk
      have p1 : wa.cell? ⟨q, 1, none⟩ = some (.int .i64 K) := cell_of hblk
      have p2 : wa.cell? ⟨q, 2, none⟩ = some (.int .i64 V) := cell_of hblk
      go_upto_block 2 with fail
      go_cut [34, 7, 8, 9, 10, 11, 12, 13] from 34 to 188 (fun x _ _ _ _ _ _ _ wx => x = .int .i64 i ∧ ∃ l2, HeapPure.Good lt l2 ∧ l2.length ≤ i + 1 ∧ HM wx base hb ma l2 l2 ∧ Below w.heap.size w wx)
      case first =>
        have hdl := drop_le l K
        have hsl := set_le l K V
        by_cases e2 : G = 2
        · have d1 : (G == 2) = true := by rw [e2]; rfl
          have hd := fun W (hW : HM W base hb ma l l) => dropM base hb ma l l K hw1 W hW
          obtain ⟨t, ht⟩ : ∃ t, (HeapPure.get l K).isSome = t := ⟨_, rfl⟩
          obtain ⟨u, hu⟩ : ∃ u, (HeapPure.get l K).getD 0 = u := ⟨_, rfl⟩
          rw [ht] at hd
          clear e2
          go_wp2_with (at_lookup; refine wpList_mp_look _ rfl _ _ rfl Try.underlying3 Try.underlying35 Try.underlying3 (zeroI _) ma l.length (HeapPure.get l) rfl hA.mp K rfl hw1 ?_; rw [ht, hu])
          refine (hd _ hA).mono ?_
          rintro e w3 ⟨rfl, h3, k3, f3⟩
          have p1 : w3.cell? ⟨q, 1, none⟩ = some (.int .i64 K) := cell_of (f3 _ _ hblk)
          have hB3 := hBA.trans (k3.mono hwb)
          clear hd hA hBA hblk
          go_wp2_with (at_delete; refine wpList_mp_del _ rfl _ _ rfl Try.underlying3 Try.underlying35 ma l.length (HeapPure.get l) rfl h3.mp K rfl hw1 ?_; intro w5 hm5 hk5)
          go_meet
          case rel =>
            obtain ⟨h5, k5, f5⟩ := h3.del hg hm5 hk5
            exact ⟨rfl, _, drop_good ord_lt hg K, by omega, h5, hB3.trans (k5.mono hwb)⟩
        · have d1 : (G == 2) = false := beq_eq_false_iff_ne.2 e2
          by_cases e3 : G = 3
          · have d2 : (G == 3) = true := by rw [e3]; rfl
            clear e2 e3
            by_cases hl0 : 0 < l.length
            · have hm := minM base hb ma l l hl0 wa hA
              obtain ⟨hgm, -⟩ := min_spec hg hl0
              have hd := fun W (hW : HM W base hb ma l l) => dropM base hb ma l l (kk l 0) (hA.wf hl0) W hW
              have hwk := hA.wf hl0
              have hdl := drop_le l (kk l 0)
              have hgd := drop_good ord_lt hg (kk l 0)
              have hll' : (0 : Int) < (l.length : Int) := by omega
              have HD := fun W W' (hW : HM W base hb ma (drop lt l (kk l 0)) l) hm hk => HM.del (w := W) (w' := W') (k := kk l 0) hW hg hm hk
              have HD := Lib.hid HD
              generalize kk l 0 = km at *
              generalize vv l 0 = vm at *
              rw [hgm] at hd
              go_wp2_with fail
              refine hm.mono ?_
              rintro e w3 ⟨rfl, h3, k3, f3⟩
              have hB3 := hBA.trans (k3.mono hwb)
              clear hm hA hBA
              go_wp2_with (first | (at_len; refine wpList_mp_len _ rfl _ rfl Try.underlying35 ma l.length (HeapPure.get l) rfl h3.mp ?_) | (at_lookup; refine wpList_mp_look _ rfl _ _ rfl Try.underlying3 Try.underlying35 Try.underlying3 (zeroI _) ma l.length (HeapPure.get l) rfl h3.mp km rfl hwk ?_; rw [hgm]))
              refine (hd _ h3).mono ?_
              rintro e w4 ⟨rfl, h4, k4, f4⟩
              have hB4 := hB3.trans (k4.mono hwb)
              clear hd h3 hB3
              go_wp2_with (at_delete; refine wpList_mp_del _ rfl _ _ rfl Try.underlying3 Try.underlying35 ma l.length (HeapPure.get l) rfl h4.mp km rfl hwk ?_; intro w5 hm5 hk5)
              go_meet
              case rel =>
                obtain ⟨h5, k5, f5⟩ := HD.out _ _ h4 hm5 hk5
                exact ⟨rfl, _, hgd, by omega, h5, hB4.trans (k5.mono hwb)⟩
            · obtain rfl : l = [] := List.length_eq_zero_iff.1 (by omega)
              have hm := minM0 base hb ma [] wa hA
              go_wp2_with fail
              refine hm.mono ?_
              rintro e w3 ⟨rfl, h3, k3, f3⟩
              have hB3 := hBA.trans (k3.mono hwb)
              clear hm hA hBA
              have hmp : Mp Try.prog 3 3 w3 ma 0 (HeapPure.get []) := h3.mp
              go_wp2_with (at_len; refine wpList_mp_len _ rfl _ rfl Try.underlying35 ma 0 (HeapPure.get []) rfl hmp ?_)
              go_meet
              case rel => exact ⟨rfl, [], hg, Nat.zero_le _, h3, hB3⟩
          · have d2 : (G == 3) = false := beq_eq_false_iff_ne.2 e3
            have hs := setM base hb ma l l K V hw1 (by omega) wa hA
            clear e2 e3
            go_wp2_with fail
            refine hs.mono ?_
            rintro e w3 ⟨rfl, h3, k3, f3⟩
            have p1 : w3.cell? ⟨q, 1, none⟩ = some (.int .i64 K) := cell_of (f3 _ _ hblk)
            have p2 : w3.cell? ⟨q, 2, none⟩ = some (.int .i64 V) := cell_of (f3 _ _ hblk)
            have hB3 := hBA.trans (k3.mono hwb)
            clear hs hA hBA hblk
            go_wp2_with (at_mapUpdate; refine wpList_mp_put _ rfl _ _ _ rfl Try.underlying3 Try.underlying35 Try.underlying3 ma l.length (HeapPure.get l) rfl h3.mp (by unfold maxLen; omega) K V rfl rfl hw1 hw2 ?_; intro w5 hm5 hk5)
            go_meet
            case rel =>
              obtain ⟨h5, k5, f5⟩ := h3.put hg hm5 hk5
              exact ⟨rfl, _, setAt_good ord_lt hg K V, by omega, h5, hB3.trans (k5.mono hwb)⟩
      case rest =>
      obtain ⟨rfl, l2, hg2, hll2, h2, hB2⟩ := hcut
      by_cases hl0 : 0 < l2.length
      · have hm := minM base hb ma l2 l2 hl0 _ h2
        obtain ⟨hgm, hmin⟩ := min_spec hg2 hl0
        have hwk := h2.wf hl0
        have hll' : (0 : Int) < (l2.length : Int) := by omega
        generalize kk l2 0 = km at *
        generalize vv l2 0 = vm at *
        go_wp2_with fail
        refine hm.mono ?_
        rintro e w3 ⟨rfl, h3, k3, f3⟩
        have hB3 := hB2.trans (k3.mono hwb)
        have hlen := lenM base hb ma l2 l2 _ h3
        have hmp : Mp Try.prog 3 3 w3 ma l2.length (HeapPure.get l2) := h3.mp
        clear hm h2 hB2 hA hBA hblk p0 p1 p2
        go_wp2_with fail
        refine hlen.mono ?_
        rintro e w4 ⟨rfl, rfl⟩
        clear hlen
        go_wp2_with (at_len; first | (refine wpList_mp_len _ rfl _ rfl Try.underlying35 ma l2.length (HeapPure.get l2) rfl hmp ?_) | (refine wpList_unguard rfl ?_; refine wpList_mp_len _ rfl _ rfl Try.underlying35 ma l2.length (HeapPure.get l2) rfl hmp ?_))
        clear hmp
        go_loopw [137] (fun x wr => ∃ (j : Nat), x = .int .i64 j ∧ j ≤ z.length ∧ HM wr base hb ma l2 l2 ∧ Below w.heap.size w wr) (fun x _ => z.length - (intOf x).toNat)
        case atStart => exact ⟨0, rfl, by omega, h3, hB3⟩
        case round =>
          clear h3 hB3
          obtain ⟨j, rfl, hj, h, hB⟩ := hrel
          by_cases hlt : j < z.length
          · obtain ⟨c', off', hco, hcell⟩ := w0.2.2 j hlt
            cases hco
            have c0 := arg_cell hB (hcell 0 (by omega))
            rw [Nat.add_zero] at c0
            have c1 := arg_cell hB (hcell 1 (by omega))
            have c2 := arg_cell hB (hcell 2 (by omega))
            have hw1 : (Lit.int .i64 (z.getD j (fun _ => 0) 1)).wf = true := w0.2.1 _ (by rw [List.getD_eq_getElem?_getD, List.getElem?_eq_getElem hlt]; exact List.getElem_mem _) 1
            generalize z.getD j (fun _ => 0) 0 = A at *
            generalize z.getD j (fun _ => 0) 1 = K at *
            generalize z.getD j (fun _ => 0) 2 = V at *
            have j2 : (j : Int) < (z.length : Int) := by omega
            clear hcell
            go_upto_region 33 with fail
            obtain ⟨q, hq⟩ : ∃ q, wr.heap.size = q := ⟨_, rfl⟩
            have hbl : Below wr.heap.size wr (wr.alloc (.cells #[.int .i64 A, .int .i64 K, .int .i64 V] 37)) := (Below.refl _ _).alloc (Nat.le_refl _) _
            have hblk := heap_alloc_new wr (.cells #[.int .i64 A, .int .i64 K, .int .i64 V] 37)
            have hA := h.below hbl
            have hBA := hB.trans (hbl.mono hB.size)
            rw [hq] at hblk ⊢
            generalize wr.alloc (.cells #[.int .i64 A, .int .i64 K, .int .i64 V] 37) = wa at *
            clear hbl h hB c0 c1 c2 hq
            have p1 : wa.cell? ⟨q, 1, none⟩ = some (.int .i64 K) := cell_of hblk
            have hgt := getM base hb ma l2 l2 K hw1 wa hA
            cases hgk : HeapPure.get l2 K with
            | none =>
              rw [hgk] at hgt
              go_wp2_with fail
              refine hgt.mono ?_
              rintro e w5 ⟨rfl, h5, k5, f5⟩
              have p1 : w5.cell? ⟨q, 1, none⟩ = some (.int .i64 K) := cell_of (f5 _ _ hblk)
              have hB5 := hBA.trans (k5.mono hwb)
              have hmp : Mp Try.prog 3 3 w5 ma l2.length (HeapPure.get l2) := h5.mp
              clear hgt hA hBA hblk
              go_wp2_with (at_lookup; refine wpList_mp_look _ rfl _ _ rfl Try.underlying3 Try.underlying35 Try.underlying3 (zeroI _) ma l2.length (HeapPure.get l2) rfl hmp K rfl hw1 ?_; rw [hgk])
              go_wp2_with fail
              go_roundw
              case rel => exact ⟨j + 1, by go_num, by omega, h5, hB5⟩
              case measure => simp [intOf]; omega
            | some u =>
              have hvu : ¬ u < vm := by have := hmin K u hgk; omega
              rw [hgk] at hgt
              go_wp2_with fail
              refine hgt.mono ?_
              rintro e w5 ⟨rfl, h5, k5, f5⟩
              have p1 : w5.cell? ⟨q, 1, none⟩ = some (.int .i64 K) := cell_of (f5 _ _ hblk)
              have hB5 := hBA.trans (k5.mono hwb)
              have hmp : Mp Try.prog 3 3 w5 ma l2.length (HeapPure.get l2) := h5.mp
              clear hgt hA hBA hblk
              go_wp2_with (at_lookup; refine wpList_mp_look _ rfl _ _ rfl Try.underlying3 Try.underlying35 Try.underlying3 (zeroI _) ma l2.length (HeapPure.get l2) rfl hmp K rfl hw1 ?_; rw [hgk])
              go_wp2_with fail
              go_roundw
              case rel => exact ⟨j + 1, by go_num, by omega, h5, hB5⟩
              case measure => simp [intOf]; omega
          · have j2 : ¬ (j : Int) < (z.length : Int) := by omega
            have hmp : Mp Try.prog 3 3 wr ma l2.length (HeapPure.get l2) := h.mp
            go_wp2_with (at_lookup; refine wpList_mp_look _ rfl _ _ rfl Try.underlying3 Try.underlying35 Try.underlying3 (zeroI _) ma l2.length (HeapPure.get l2) rfl hmp km rfl hwk ?_; rw [hgm])
            go_wp2_with fail
            go_roundw
            case rel => exact ⟨i + 1, l2, by go_num, by omega, hg2, by omega, h, hB⟩
            case measure => simp [intOf]; omega
      · obtain rfl : l2 = [] := List.length_eq_zero_iff.1 (by omega)
        have hm := minM0 base hb ma [] _ h2
        have hwk : (Lit.int .i64 0).wf = true := by decide
        go_wp2_with fail
        refine hm.mono ?_
        rintro e w3 ⟨rfl, h3, k3, f3⟩
        have hB3 := hB2.trans (k3.mono hwb)
        have hlen := lenM base hb ma [] [] _ h3
        have hlen : Calls Try.prog 13 #[.pointer (some ⟨hb, 0, none⟩)] w3 fun e w' => e = .returned (.int .i64 0) ∧ w3 = w' := hlen
        have hmp : Mp Try.prog 3 3 w3 ma 0 (HeapPure.get []) := h3.mp
        clear hm h2 hB2 hA hBA hblk p0 p1 p2
        go_wp2_with fail
        refine hlen.mono ?_
        rintro e w4 ⟨rfl, rfl⟩
        clear hlen
        go_wp2_with (at_len; first | (refine wpList_mp_len _ rfl _ rfl Try.underlying35 ma 0 (HeapPure.get []) rfl hmp ?_) | (refine wpList_unguard rfl ?_; refine wpList_mp_len _ rfl _ rfl Try.underlying35 ma 0 (HeapPure.get []) rfl hmp ?_))
        clear hmp
        go_loopw [137] (fun x wr => ∃ (j : Nat), x = .int .i64 j ∧ j ≤ z.length ∧ HM wr base hb ma [] [] ∧ Below w.heap.size w wr) (fun x _ => z.length - (intOf x).toNat)
        case atStart => exact ⟨0, rfl, by omega, h3, hB3⟩
        case round =>
          clear h3 hB3
          obtain ⟨j, rfl, hj, h, hB⟩ := hrel
          by_cases hlt : j < z.length
          · obtain ⟨c', off', hco, hcell⟩ := w0.2.2 j hlt
            cases hco
            have c0 := arg_cell hB (hcell 0 (by omega))
            rw [Nat.add_zero] at c0
            have c1 := arg_cell hB (hcell 1 (by omega))
            have c2 := arg_cell hB (hcell 2 (by omega))
            have hw1 : (Lit.int .i64 (z.getD j (fun _ => 0) 1)).wf = true := w0.2.1 _ (by rw [List.getD_eq_getElem?_getD, List.getElem?_eq_getElem hlt]; exact List.getElem_mem _) 1
            generalize z.getD j (fun _ => 0) 0 = A at *
            generalize z.getD j (fun _ => 0) 1 = K at *
            generalize z.getD j (fun _ => 0) 2 = V at *
            have j2 : (j : Int) < (z.length : Int) := by omega
            clear hcell
            go_upto_region 33 with fail
            obtain ⟨q, hq⟩ : ∃ q, wr.heap.size = q := ⟨_, rfl⟩
            have hbl : Below wr.heap.size wr (wr.alloc (.cells #[.int .i64 A, .int .i64 K, .int .i64 V] 37)) := (Below.refl _ _).alloc (Nat.le_refl _) _
            have hblk := heap_alloc_new wr (.cells #[.int .i64 A, .int .i64 K, .int .i64 V] 37)
            have hA := h.below hbl
            have hBA := hB.trans (hbl.mono hB.size)
            rw [hq] at hblk ⊢
            generalize wr.alloc (.cells #[.int .i64 A, .int .i64 K, .int .i64 V] 37) = wa at *
            clear hbl h hB c0 c1 c2 hq
            have p1 : wa.cell? ⟨q, 1, none⟩ = some (.int .i64 K) := cell_of hblk
            have hgt := getM base hb ma [] [] K hw1 wa hA
            have hgk : HeapPure.get [] K = none := get_nil K
            rw [hgk] at hgt
            go_wp2_with fail
            refine hgt.mono ?_
            rintro e w5 ⟨rfl, h5, k5, f5⟩
            have p1 : w5.cell? ⟨q, 1, none⟩ = some (.int .i64 K) := cell_of (f5 _ _ hblk)
            have hB5 := hBA.trans (k5.mono hwb)
            have hmp : Mp Try.prog 3 3 w5 ma 0 (HeapPure.get []) := h5.mp
            clear hgt hA hBA hblk
            go_wp2_with (at_lookup; refine wpList_mp_look _ rfl _ _ rfl Try.underlying3 Try.underlying35 Try.underlying3 (zeroI _) ma 0 (HeapPure.get []) rfl hmp K rfl hw1 ?_; rw [hgk])
            go_wp2_with fail
            go_roundw
            case rel => exact ⟨j + 1, by go_num, by omega, h5, hB5⟩
            case measure => simp [intOf]; omega
          · have j2 : ¬ (j : Int) < (z.length : Int) := by omega
            have hmp : Mp Try.prog 3 3 wr ma 0 (HeapPure.get []) := h.mp
            have hgm := get_nil 0
            go_wp2_with (at_lookup; refine wpList_mp_look _ rfl _ _ rfl Try.underlying3 Try.underlying35 Try.underlying3 (zeroI _) ma 0 (HeapPure.get []) rfl hmp 0 rfl hwk ?_; rw [hgm])
            go_wp2_with fail
            go_roundw
            case rel => exact ⟨i + 1, [], by go_num, by omega, hg2, Nat.zero_le _, h, hB⟩
            case measure => simp [intOf]; omega
    · have j1 : ¬ (i : Int) < (z.length : Int) := by omega
      go_wp2_with fail
      go_ret
      exact ⟨rfl, hB⟩
end Go.Proofs.Ytbnpipfmeekbdaa
