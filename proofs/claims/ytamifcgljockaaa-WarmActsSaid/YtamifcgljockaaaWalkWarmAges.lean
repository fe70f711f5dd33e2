/- Behind others that went, what is set anew is worth more than one like it that was set ahead: the walk. -/
import Derived.Test.YtamifcgljockaaaHead
import Derived.Test.YtamifcgljockaaaLawCmp
import Derived.Test.YtamifcgljockaaaArgs
import Derived.Test.YtamifcgljockaaaBits
import Derived.Deep.CutRange
namespace Go.Proofs.Ytamifcgljockaaa
open Go.RowKit Go.Kpt HeapPure RatioPure
set_option linter.unusedVariables false

/-- The law's own order, told by the cross products. -/
theorem lawCompare_sgn (an ad bn bd : Nat) (ha : Sm an) (ha' : Sm ad) (hb : Sm bn) (hb' : Sm bd) (h1 : 0 < ad) (h2 : 0 < bd) (w : World) :
    Calls Try.prog 16 #[rv an ad, rv bn bd] w fun e w' => e = .returned (.int .i64 (sgn (an * bd) (bn * ad))) ∧ Below w.heap.size w w' := by
  have h := lawCompare_any an ad bn bd ha ha' hb hb' h1 h2 w
  rw [cf_enough 64 200 an ad bn bd h1 h2 ha' (by omega)] at h
  exact h

theorem len_zero {l : List (Int × Mk)} (G : HeapPure.Good lt l) (h : ∀ k, HeapPure.get l k = none) : l.length = 0 := by
  rcases Nat.eq_zero_or_pos l.length with e | e
  · exact e
  · have := (min_spec G e).1
    rw [h] at this; cases this

theorem len_pos {l : List (Int × Mk)} {k : Int} {x : Mk} (h : HeapPure.get l k = some x) : 0 < l.length := by
  obtain ⟨i, hi⟩ := get_some h
  have := (List.getElem?_eq_some_iff.1 hi).1; omega

theorem ages_round {l : List (Int × Mk)} (G : HeapPure.Good lt l) (h : ∀ k, HeapPure.get l k ≠ none → k = 1) (x : Mk) :
    ∃ l2, drop lt (setAt lt l 100 x) 1 = l2 ∧ HeapPure.Good lt l2 ∧ 0 < l2.length ∧ kk l2 0 = 100 ∧ vv l2 0 = x ∧ drop lt l2 100 = [] := by
  have G1 := setAt_good ord_lt G 100 x
  have G2 := drop_good ord_lt G1 1
  have g2 : ∀ k, HeapPure.get (drop lt (setAt lt l 100 x) 1) k = if k = 100 then some x else none := fun k => by
    rw [drop_get ord_lt G1, setAt_get ord_lt G]
    by_cases h1 : k = 1
    · rw [if_pos h1, if_neg (by omega)]
    · rw [if_neg h1]
      by_cases h2 : k = 100
      · rw [if_pos h2, if_pos h2]
      · rw [if_neg h2, if_neg h2]
        cases e : HeapPure.get l k with
        | none => rfl
        | some y => exact absurd (h k (by rw [e]; simp)) h1
  refine ⟨_, rfl, G2, len_pos (k := 100) (x := x) (by rw [g2, if_pos rfl]), ?_⟩
  have hp := len_pos (l := drop lt (setAt lt l 100 x) 1) (k := 100) (x := x) (by rw [g2, if_pos rfl])
  have hm := (min_spec G2 hp).1
  rw [g2] at hm
  by_cases e : kk (drop lt (setAt lt l 100 x) 1) 0 = 100
  · rw [if_pos e] at hm
    refine ⟨e, (Option.some.inj hm).symm, ?_⟩
    have := len_zero (drop_good ord_lt G2 100) (fun k => by
      rw [drop_get ord_lt G2, g2]
      by_cases h2 : k = 100
      · rw [if_pos h2]
      · rw [if_neg h2, if_neg h2])
    exact List.eq_nil_of_length_eq_zero this
  · rw [if_neg e] at hm; cases hm

/-- What is set, by the numbers that it holds. -/
theorem cset_at (base cb c : Nat) (k : Int) (hk : (Lit.int .i64 k).wf = true) (o co d up : Nat) (ho : o ≤ 1023) (hco : co ≤ 1023) (hd : 0 < d) (hs : Sm d) (hu : o * co = up) (hf : c * d + up < 18446744073709551616) :
    ∃ x : Mk, x.n = c * d + up ∧ x.d = d ∧ x.id = k ∧ ∀ (l : List (Int × Mk)) (hl : l.length + 1 ≤ 100000) (W : World) (h : WB W base cb l c),
      Calls Try.prog 10 #[.pointer (some ⟨cb, 0, none⟩), .int .i64 k, .int .u64 o, .int .u64 co, .int .u64 d] W fun e w' => e = .returned (.bool true) ∧ WB w' base cb (setAt lt l k x) c ∧ Below base W w' ∧ Beside W w' := by
  subst hu
  exact ⟨mk c (o * co) d k hd hf hs, rfl, rfl, rfl, fun l hl W h => cset_any lessC base cb l c k hk o co d ho hco hd hs hf hl W h⟩

theorem setAt_len_le' (l : List (Int × Mk)) (k : Int) (x : Mk) : (setAt lt l k x).length ≤ l.length + 1 := by rw [setAt_length]; split <;> omega

set_option maxRecDepth 100000 in
set_option maxHeartbeats 3000000 in
theorem warmAges_walk (a0 a1 a2 a3 : Int) (w : World) (w0 : (Lit.int .i64 a0).wf = true) (w1 : (Lit.int .i64 a1).wf = true) (w2 : (Lit.int .i64 a2).wf = true) (w3 : (Lit.int .i64 a3).wf = true) :
    Calls Try.prog 4 #[.int .i64 a0, .int .i64 a1, .int .i64 a2, .int .i64 a3] w fun e w' => e = .returned (.bool true) ∧ Below w.heap.size w w' := by
  clear w0 w1 w2 w3
  have hb1 := i64_and1023 a0
  have hb2 := i64_and1023 a1
  have hb3 := i64_and4095 a2
  have hb4 := i64_and15 a3
  obtain ⟨o, ho⟩ : ∃ o : Nat, (a0 % 1024).toNat = o := ⟨_, rfl⟩
  obtain ⟨co, hco⟩ : ∃ co : Nat, (a1 % 1024).toNat = co := ⟨_, rfl⟩
  obtain ⟨dm, hdm⟩ : ∃ dm : Nat, (a2 % 4096).toNat = dm := ⟨_, rfl⟩
  obtain ⟨gm, hgm⟩ : ∃ gm : Nat, (a3 % 16).toNat = gm := ⟨_, rfl⟩
  have ho1 : o ≤ 1023 := by omega
  have hco1 : co ≤ 1023 := by omega
  have hdm1 : dm ≤ 4095 := by omega
  have hgm1 : gm ≤ 15 := by omega
  rw [show a0 % 1024 = (o : Int) by omega] at hb1
  rw [show a1 % 1024 = (co : Int) by omega] at hb2
  rw [show a2 % 4096 = (dm : Int) by omega] at hb3
  rw [show a3 % 16 = (gm : Int) by omega] at hb4
  obtain ⟨d, hd⟩ : ∃ d, 1 + dm = d := ⟨_, rfl⟩
  obtain ⟨n, hn⟩ : ∃ n, 1 + gm = n := ⟨_, rfl⟩
  have e1 : (1 : Int) + (dm : Int) = (d : Int) := by omega
  have e2 : (1 : Int) + (gm : Int) = (n : Int) := by omega
  have hup : o * co ≤ 1023 * 1023 := Nat.mul_le_mul ho1 hco1
  have hd1 : 0 < d := by omega
  have hd2 : d ≤ 4096 := by omega
  have hn1 : 0 < n := by omega
  have hn2 : n ≤ 16 := by omega
  have hs : Sm d := by unfold Sm; omega
  obtain ⟨up, hu⟩ : ∃ up, o * co = up := ⟨_, rfl⟩
  have e3 : (o : Int) * (co : Int) = (up : Int) := by rw [← hu]; push_cast; rfl
  have hf : ∀ c, c ≤ 16 → c * d + up < 18446744073709551616 := fun c hc => by
    have := Nat.mul_le_mul hc hd2
    omega
  have x1' : IntKind.u64.wrap (o : Int) = (o : Int) := IntWalk.u64_in _ ⟨by omega, by omega⟩
  have x2' : IntKind.u64.wrap (co : Int) = (co : Int) := IntWalk.u64_in _ ⟨by omega, by omega⟩
  have x3' : IntKind.u64.wrap (d : Int) = (d : Int) := IntWalk.u64_in _ ⟨by omega, by omega⟩
  have x4' : IntKind.i64.wrap (d : Int) = (d : Int) := IntWalk.i64_in _ ⟨by omega, by omega⟩
  have x5' : IntKind.u64.wrap (up : Int) = (up : Int) := IntWalk.u64_in _ ⟨by omega, by omega⟩
  have x6' : IntKind.u64.wrap (n : Int) = (n : Int) := IntWalk.u64_in _ ⟨by omega, by omega⟩
  have x7' : IntKind.i64.wrap (n : Int) = (n : Int) := IntWalk.i64_in _ ⟨by omega, by omega⟩
  have hS := fun (base cb : Nat) (c : Nat) (hc : c ≤ 16) => cset_at base cb c 1 (by decide) o co d up ho1 hco1 hd1 hs hu (hf c hc)
  clear ho hco hdm hgm hd hn
  go_enter Try.func4, Try.ntmps4
  go_wp2_with fail
  refine (head_any w).mono ?_
  rintro e w1 ⟨rfl, hB1⟩
  go_wp2_with fail
  refine (cnew_any w1).mono ?_
  rintro e w2 ⟨cb, rfl, h2, hB2⟩
  have hB2 : Below w.heap.size w w2 := hB1.trans (hB2.mono hB1.size)
  obtain ⟨base, hbs⟩ : ∃ base, w1.heap.size = base := ⟨_, rfl⟩
  have hb0 : w.heap.size ≤ base := by have := hB1.size; omega
  rw [hbs] at h2
  clear hB1 hbs
  obtain ⟨x, y1, y2, -, hSx⟩ := hS base cb 0 (by omega)
  rw [Nat.zero_mul, Nat.zero_add] at y1
  have s1 := hSx [] (by simp) w2 h2
  have G1 := setAt_good ord_lt (HeapPure.Good.nil (lt := lt)) (1 : Int) x
  have g1 : ∀ k : Int, HeapPure.get (setAt lt [] 1 x) k = if k = 1 then some x else none := fun k => by rw [setAt_get ord_lt HeapPure.Good.nil, get_nil]
  have L1 : (setAt lt ([] : List (Int × Mk)) 1 x).length ≤ 1 := setAt_len_le' [] 1 x
  generalize setAt lt ([] : List (Int × Mk)) 1 x = l1 at *
  clear hSx
  go_wp2_with fail
  refine s1.mono ?_
  clear s1
  rintro e w3 ⟨rfl, h3, k3, -⟩
  have s2 := worth_any base cb l1 0 1 (by decide) w3 h3
  rw [g1, if_pos rfl] at s2
  simp only [wn, wd, Option.isSome_some] at s2
  rw [y1, y2] at s2
  go_wp2_with fail
  refine s2.mono ?_
  clear s2
  rintro e w4 ⟨rfl, k4⟩
  have k5 : Below w4.heap.size w4 (w4.alloc (.cells #[.int .u64 up, .int .u64 d] 34)) := (Below.refl _ _).alloc (Nat.le_refl _) _
  have hR5 : (w4.alloc (.cells #[.int .u64 up, .int .u64 d] 34)).heap[w4.heap.size]? = some (.cells #[.int .u64 up, .int .u64 d] 34 (0, 0)) := heap_alloc_new _ _
  obtain ⟨r1, hr1⟩ : ∃ r, w4.heap.size = r := ⟨_, rfl⟩
  obtain ⟨w5, hw5⟩ : ∃ w5, w4.alloc (.cells #[.int .u64 up, .int .u64 d] 34) = w5 := ⟨_, rfl⟩
  rw [hw5] at k5 hR5
  rw [hr1] at hR5
  have h5 := (h3.below k4).below k5
  have hB3 := hB2.trans (k3.mono hb0)
  have hB4 := hB3.trans (k4.mono hB3.size)
  have hB5 := hB4.trans (k5.mono hB4.size)
  have hg1 : ∀ k, HeapPure.get l1 k ≠ none → k = 1 := fun k hk => by
    rw [g1] at hk
    by_cases e : k = 1
    · exact e
    · rw [if_neg e] at hk; exact absurd rfl hk
  clear k3 k4 k5 h2 h3 hB2 hB3 hB4 g1
  go_wp2_with fail
  go_loopw [16] (fun v wr => ∃ (i : Nat) (l : List (Int × Mk)), v = .int .i64 i ∧ i ≤ n ∧ HeapPure.Good lt l ∧ l.length ≤ 1 ∧ (∀ k, HeapPure.get l k ≠ none → k = 1) ∧ WB wr base cb l i ∧ wr.heap[r1]? = some (.cells #[.int .u64 up, .int .u64 d] 34 (0, 0)) ∧ Below w.heap.size w wr) (fun v _ => n - (intOf v).toNat)
  case atStart => exact ⟨0, l1, rfl, by omega, G1, L1, hg1, h5, hR5, hB5⟩
  case round =>
    clear h5 hB5 hR5 G1 L1 hg1
    obtain ⟨i, l, rfl, hi, G, hl, hg, h, hR, hB⟩ := hrel
    by_cases hin : i < n
    · obtain ⟨z, z1, z2, -, hZ⟩ := cset_at base cb i 100 (by decide) 1 1 1 1 (by omega) (by omega) (by omega) (by unfold Sm; omega) rfl (by omega)
      have s1 := hZ l (by omega) wr h
      have z1 : z.n / z.d = i + 1 := by rw [z1, z2, Nat.div_one]; omega
      obtain ⟨l2, e2', G2, hp2, q1, q2, q3⟩ := ages_round G hg z
      have L1 := setAt_len_le' l 100 z
      generalize setAt lt l 100 z = la at *
      clear hZ z2
      have s1 : Calls Try.prog 10 #[.pointer (some ⟨cb, 0, none⟩), .int .i64 100, .int .u64 1, .int .u64 1, .int .u64 1] wr _ := s1
      go_wp2_with fail
      refine s1.mono ?_
      clear s1
      rintro e wa ⟨rfl, ha, ka, bea⟩
      have s2 := cdrop_any lessC base cb la i 1 (by decide) wa ha
      rw [e2'] at s2
      generalize (idx la 1).isSome = there at s2
      go_wp2_with fail
      refine s2.mono ?_
      clear s2
      rintro e wb ⟨rfl, hb, kb, beb⟩
      have s3 := evict_some lessC base cb l2 i hp2 wb hb
      rw [q1, q2, q3, z1, show max i (i + 1) = i + 1 by omega] at s3
      go_wp2_with fail
      refine s3.mono ?_
      clear s3
      rintro e wc ⟨rfl, hc, kc, bec⟩
      have hRc := bec _ _ _ (by decide) (by decide) (by decide) (beb _ _ _ (by decide) (by decide) (by decide) (bea _ _ _ (by decide) (by decide) (by decide) hR))
      have hBc := ((hB.trans (ka.mono hb0)).trans (kb.mono hb0)).trans (kc.mono hb0)
      clear hR hB ka kb kc bea beb bec h ha hb G2 hp2 q1 q2 q3 z1 e2' L1
      go_wp2_with fail
      go_roundw
      case rel => exact ⟨i + 1, [], by go_num, by omega, HeapPure.Good.nil, by simp, fun k hk => absurd (get_nil k) hk, hc, hRc, hBc⟩
      case measure => simp [intOf]; omega
    · obtain rfl : i = n := by omega
      obtain ⟨z, z1, z2, -, hZ⟩ := hS base cb i (by omega)
      have s1 := hZ l (by omega) wr h
      obtain ⟨nm, hnm⟩ : ∃ nm, i * d = nm := ⟨_, rfl⟩
      rw [hnm] at z1
      have g1 : HeapPure.get (setAt lt l 1 z) 1 = some z := by rw [setAt_get ord_lt G, if_pos rfl]
      generalize setAt lt l 1 z = la at *
      have hnm1 : nm + up < 18446744073709551616 := by have := hf i (by omega); omega
      have hnm2 : 0 < nm := by rw [← hnm]; exact Nat.mul_pos hn1 hd1
      clear hZ hS
      go_wp2_with fail
      refine s1.mono ?_
      clear s1
      rintro e wa ⟨rfl, ha, ka, bea⟩
      have hRa := bea _ _ _ (by decide) (by decide) (by decide) hR
      have hBa := hB.trans (ka.mono hb0)
      have s2 := worth_any base cb la i 1 (by decide) wa ha
      rw [g1] at s2
      simp only [wn, wd, Option.isSome_some] at s2
      rw [z1, z2] at s2
      obtain ⟨nu, hnu⟩ : ∃ nu, nm + up = nu := ⟨_, rfl⟩
      rw [hnu] at s2 z1 hnm1
      go_wp2_with fail
      refine s2.mono ?_
      clear s2
      rintro e wb ⟨rfl, kb⟩
      have hb := ha.below kb
      have hBb := hBa.trans (kb.mono hBa.size)
      have hRb : wb.heap[r1]? = _ := (kb.block r1 (lt_of hRa)).trans hRa
      have k5 : Below wb.heap.size wb (wb.alloc (.cells #[.int .u64 nu, .int .u64 d] 34)) := (Below.refl _ _).alloc (Nat.le_refl _) _
      have hS5 : (wb.alloc (.cells #[.int .u64 nu, .int .u64 d] 34)).heap[wb.heap.size]? = some (.cells #[.int .u64 nu, .int .u64 d] 34 (0, 0)) := heap_alloc_new _ _
      obtain ⟨r2, hr2⟩ : ∃ r, wb.heap.size = r := ⟨_, rfl⟩
      obtain ⟨wd, hwd⟩ : ∃ w5, wb.alloc (.cells #[.int .u64 nu, .int .u64 d] 34) = w5 := ⟨_, rfl⟩
      rw [hwd] at k5 hS5
      have hd' := hb.below k5
      have hBd := hBb.trans (k5.mono hBb.size)
      have hRd : wd.heap[r1]? = _ := (k5.block r1 (lt_of hRb)).trans hRb
      rw [hr2] at hS5
      have hcl := fun (W : World) (k : Below wd.heap.size wd W) => clock_any base cb la i W (hd'.below k)
      have hcm := lawCompare_sgn up d nu d (by unfold Sm; omega) hs hnm1 hs hd1 hd1
      rw [sgn_lt (Nat.mul_lt_mul_of_pos_right (by omega) hd1)] at hcm
      have e4 : (i : Int) * (d : Int) = (nm : Int) := by rw [← hnm]; push_cast; rfl
      have e5 : (nm : Int) + (up : Int) = (nu : Int) := by omega
      have x8' : IntKind.u64.wrap (nm : Int) = (nm : Int) := IntWalk.u64_in _ ⟨by omega, by omega⟩
      have x9' : IntKind.u64.wrap (nu : Int) = (nu : Int) := IntWalk.u64_in _ ⟨by omega, by omega⟩
      have HK := Lib.hid (show ∀ W, Below wd.heap.size wd W → (W.cell? ⟨r1, 0, none⟩ = some (.int .u64 up) ∧ W.cell? ⟨r1, 1, none⟩ = some (.int .u64 d) ∧ W.cell? ⟨r2, 0, none⟩ = some (.int .u64 nu) ∧ W.cell? ⟨r2, 1, none⟩ = some (.int .u64 d) ∧ Below wd.heap.size wd W) from fun W k =>
        ⟨cell_of ((k.block _ (lt_of hRd)).trans hRd), cell_of ((k.block _ (lt_of hRd)).trans hRd), cell_of ((k.block _ (lt_of hS5)).trans hS5), cell_of ((k.block _ (lt_of hS5)).trans hS5), k⟩)
      have HF := Lib.hid hBd
      have HC := Lib.hid hcl
      clear hRd hS5 hR hB ka kb k5 bea h ha hb hd' hRa hRb hBa hBb hBd hnm hnu hnm1 hnm2 hf hu hup G hl hg g1 z1 z2 hcl
      go_wp2_with fail
      refine (HC.out wd (Below.refl _ _)).mono ?_
      rintro e w' ⟨rfl, rfl⟩
      obtain ⟨p0, p1, p2, p3, -⟩ := HK.out wd (Below.refl _ _)
      go_wp2_with fail
      refine (hcm wd).mono ?_
      rintro e w' ⟨rfl, kx⟩
      clear p0 p1 p2 p3
      obtain ⟨p0, p1, p2, p3, -⟩ := HK.out w' kx
      have hfin := HF.out.trans (kx.mono HF.out.size)
      clear HK HC
      go_wp2_with fail
      go_ret
      exact ⟨rfl, hfin⟩
end Go.Proofs.Ytamifcgljockaaa
