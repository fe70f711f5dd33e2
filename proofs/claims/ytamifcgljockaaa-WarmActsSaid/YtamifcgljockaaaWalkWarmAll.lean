/- All that is there goes one by one, by rising worth, and the clock never falls: the walk. -/
import Derived.Test.YtamifcgljockaaaWalkWarmAges
import Derived.Test.YtamifcgljockaaaCacheX
namespace Go.Proofs.Ytamifcgljockaaa
open Go.RowKit Go.Kpt HeapPure RatioPure
set_option linter.unusedVariables false

theorem WB.kwf {w : World} {base cb : Nat} {l : List (Int × Mk)} {c : Nat} (h : WB w base cb l c) (hl : 0 < l.length) : (Lit.int .i64 (kk l 0)).wf = true := by
  obtain ⟨hb, v, mb, h⟩ := h
  exact kk_wf h.hp hl

theorem div_le_of_cross {a b c d : Nat} (hb : 0 < b) (hd : 0 < d) (h : a * d ≤ c * b) : a / b ≤ c / d := by
  rw [Nat.le_div_iff_mul_le hd]
  refine Nat.le_of_mul_le_mul_right (c := b) ?_ hb
  have h1 : a / b * b ≤ a := Nat.div_mul_le_self a b
  calc a / b * d * b = a / b * b * d := by rw [Nat.mul_right_comm]
    _ ≤ a * d := Nat.mul_le_mul_right d h1
    _ ≤ c * b := h

theorem WB.type34 {w w' : World} {base cb : Nat} {l : List (Int × Mk)} {c : Nat} {r : Nat} {cs : Array Value} (h : WB w base cb l c) (hr : w.heap[r]? = some (.cells cs 34 (0, 0))) (k : Kept (fun x => x = r) w w') : WB w' base cb l c := by
  obtain ⟨hb, v, mb, h⟩ := h
  refine WX.wb (Q := fun x => x = r) (WX.beside ⟨hb, v, mb, h, fun x hx => ?_⟩ k)
  subst hx
  refine ⟨lt_of hr, fun e => ?_, fun e => ?_, fun e => ?_⟩
  · have := h.blk; rw [← e, hr] at this; cases this
  · have := h.hp.blk; rw [← e, hr] at this; cases this
  · rcases e with e | e
    · obtain ⟨D, ⟨es, clock, hm, -⟩, -⟩ := h.hp.mp
      rw [← e, hr] at hm; cases hm
    · rcases h.hp.own.2 with ⟨e1, -⟩ | ⟨g', cap, cur, e1, -, hg', -⟩
      · rw [e1] at e; cases e
      · rw [e1] at e
        have e2 : some x = some g' := e
        cases e2
        rw [hr] at hg'; cases hg'

/-- Taking the least one out: what is left is worth no less. -/
theorem all_round {l : List (Int × Mk)} (G : HeapPure.Good lt l) (hp : 0 < l.length) (ln ld : Nat) (hld : 0 < ld) (h : ∀ k v, HeapPure.get l k = some v → ln * v.d ≤ v.n * ld) :
    ∃ v, vv l 0 = v ∧ HeapPure.get l (kk l 0) = some v ∧ ln * v.d ≤ v.n * ld ∧ HeapPure.Good lt (drop lt l (kk l 0)) ∧ (drop lt l (kk l 0)).length + 1 = l.length ∧
      (∀ k u, HeapPure.get (drop lt l (kk l 0)) k = some u → v.n * u.d ≤ u.n * v.d) ∧ ln / ld ≤ v.n / v.d := by
  obtain ⟨m1, m2⟩ := min_spec G hp
  refine ⟨_, rfl, m1, h _ _ m1, drop_good ord_lt G _, ?_, fun k u hk => ?_, div_le_of_cross hld (vv l 0).pos (h _ _ m1)⟩
  · rw [drop_length, ← get_isSome, m1]
    show l.length - 1 + 1 = l.length
    omega
  · rw [drop_get ord_lt G] at hk
    by_cases e : k = kk l 0
    · rw [if_pos e] at hk; cases hk
    · rw [if_neg e] at hk
      have := m2 k u hk
      rw [lt_false] at this
      omega

set_option maxRecDepth 100000 in
set_option maxHeartbeats 3000000 in
theorem warmAll_walk (a0 : Option Addr) (cap0 : Nat) (z0 : List (Nat → Int)) (w : World) (w0 : IsStructs 5 w a0 z0) :
    Calls Try.prog 6 #[.slice a0 z0.length cap0] w fun e w' => e = .returned (.bool true) ∧ Below w.heap.size w w' := by
  go_enter Try.func6, Try.ntmps6
  go_wp2_with fail
  refine (head_any w).mono ?_
  rintro e w1 ⟨rfl, hB1⟩
  by_cases hm : 100 < z0.length
  · have c1 : (100 : Int) < (z0.length : Int) := by omega
    go_wp2_with fail
    go_ret
    exact ⟨rfl, hB1⟩
  have c1 : ¬ (100 : Int) < (z0.length : Int) := by omega
  go_wp2_with fail
  refine (cnew_any w1).mono ?_
  rintro e w2 ⟨cb, rfl, h2, hB2⟩
  have hB3 : Below w.heap.size w w2 := hB1.trans (hB2.mono hB1.size)
  obtain ⟨base, hbs⟩ : ∃ base, w1.heap.size = base := ⟨_, rfl⟩
  have hb0 : w.heap.size ≤ base := by have := hB1.size; omega
  rw [hbs] at h2
  obtain ⟨n, hn⟩ : ∃ n, z0.length = n := ⟨_, rfl⟩
  rw [hn] at hm c1 ⊢
  clear hB1 hB2 hbs
  go_wp2_with fail
  go_loopw [26] (fun x wr => ∃ (i : Nat) (l : List (Int × Mk)), x = .int .i64 i ∧ i ≤ n ∧ HeapPure.Good lt l ∧ l.length ≤ i ∧ WB wr base cb l 0 ∧ Below w.heap.size w wr) (fun x _ => n - (intOf x).toNat)
  case atStart => exact ⟨0, [], rfl, by omega, HeapPure.Good.nil, by simp, h2, hB3⟩
  case round =>
    clear h2 hB3
    obtain ⟨i, l, rfl, hi, hg, hl, h, hB⟩ := hrel
    by_cases hin : i < n
    · obtain ⟨bk, off, rfl, hcell⟩ := w0.2.2 i (by omega)
      have kc := fun j (hj : j < 5) => ((Kept.of_below (F := fun _ => False) hB).cell (p := ⟨bk, off + i * 5 + j, none⟩) (block_lt_of_cell (hcell j hj)) (fun h => h)).trans (hcell j hj)
      have c0 := kc 0 (by omega)
      rw [Nat.add_zero] at c0
      have c1' := kc 1 (by omega)
      have c2 := kc 2 (by omega)
      have c3 := kc 3 (by omega)
      have c4 := kc 4 (by omega)
      clear kc hcell
      generalize z0.getD i (fun _ => 0) 0 = A at *
      generalize z0.getD i (fun _ => 0) 1 = K at *
      generalize z0.getD i (fun _ => 0) 2 = O at *
      generalize z0.getD i (fun _ => 0) 3 = C at *
      generalize z0.getD i (fun _ => 0) 4 = M at *
      have hE : (wr.alloc (.cells #[.int .i64 A, .int .i64 K, .int .i64 O, .int .i64 C, .int .i64 M] 43)).heap[wr.heap.size]? = some (.cells #[.int .i64 A, .int .i64 K, .int .i64 O, .int .i64 C, .int .i64 M] 43 (0, 0)) := heap_alloc_new _ _
      have ha : WB (wr.alloc (.cells #[.int .i64 A, .int .i64 K, .int .i64 O, .int .i64 C, .int .i64 M] 43)) base cb l 0 := h.below ((Below.refl _ _).alloc (Nat.le_refl _) _)
      have hBa : Below w.heap.size w (wr.alloc (.cells #[.int .i64 A, .int .i64 K, .int .i64 O, .int .i64 C, .int .i64 M] 43)) := hB.alloc hB.size _
      obtain ⟨wa, hwa⟩ : ∃ wa, wr.alloc (.cells #[.int .i64 A, .int .i64 K, .int .i64 O, .int .i64 C, .int .i64 M] 43) = wa := ⟨_, rfl⟩
      rw [hwa] at hE ha hBa
      have hb0 := i64_and255 K
      have hb1 := i64_and1023 O
      have hb2 := i64_and1023 C
      have hb3 := i64_and4095 M
      obtain ⟨o, ho⟩ : ∃ o : Nat, (O % 1024).toNat = o := ⟨_, rfl⟩
      obtain ⟨co, hco⟩ : ∃ co : Nat, (C % 1024).toNat = co := ⟨_, rfl⟩
      obtain ⟨dm, hdm⟩ : ∃ dm : Nat, (M % 4096).toNat = dm := ⟨_, rfl⟩
      obtain ⟨k, hk⟩ : ∃ k : Int, K % 256 = k := ⟨_, rfl⟩
      have ho1 : o ≤ 1023 := by omega
      have hco1 : co ≤ 1023 := by omega
      have hdm1 : dm ≤ 4095 := by omega
      have hwf : (Lit.int .i64 k).wf = true := by
        have h1 : 0 ≤ k := by omega
        have h2 : k < 256 := by omega
        exact WalkArith.wf_i64 (by omega)
      rw [hk] at hb0
      rw [show O % 1024 = (o : Int) by omega] at hb1
      rw [show C % 1024 = (co : Int) by omega] at hb2
      rw [show M % 4096 = (dm : Int) by omega] at hb3
      obtain ⟨d, hd⟩ : ∃ d, 1 + dm = d := ⟨_, rfl⟩
      have e1 : (1 : Int) + (dm : Int) = (d : Int) := by omega
      have hup : o * co ≤ 1023 * 1023 := Nat.mul_le_mul ho1 hco1
      have hf : 0 * d + o * co < 18446744073709551616 := by omega
      have hd1 : 0 < d := by omega
      have hs : Sm d := by unfold Sm; omega
      have s1 := cset_any lessC base cb l 0 k hwf o co d ho1 hco1 hd1 hs hf (by omega) wa ha
      have G1 := setAt_good ord_lt hg k (mk 0 (o * co) d k hd1 hf hs)
      have L1 := setAt_len_le' l k (mk 0 (o * co) d k hd1 hf hs)
      generalize setAt lt l k (mk 0 (o * co) d k hd1 hf hs) = l1 at *
      have w1' : IntKind.u64.wrap (o : Int) = (o : Int) := IntWalk.u64_in _ ⟨by omega, by omega⟩
      have w2' : IntKind.u64.wrap (co : Int) = (co : Int) := IntWalk.u64_in _ ⟨by omega, by omega⟩
      have w3' : IntKind.u64.wrap (d : Int) = (d : Int) := IntWalk.u64_in _ ⟨by omega, by omega⟩
      have w4' : IntKind.i64.wrap (d : Int) = (d : Int) := IntWalk.i64_in _ ⟨by omega, by omega⟩
      obtain ⟨q, hq⟩ : ∃ q, wr.heap.size = q := ⟨_, rfl⟩
      rw [hq] at hE
      have q1 : wa.cell? ⟨q, 1, none⟩ = some (.int .i64 K) := cell_of hE
      have q2 : wa.cell? ⟨q, 2, none⟩ = some (.int .i64 O) := cell_of hE
      have q3 : wa.cell? ⟨q, 3, none⟩ = some (.int .i64 C) := cell_of hE
      have q4 : wa.cell? ⟨q, 4, none⟩ = some (.int .i64 M) := cell_of hE
      clear hup ho hco hdm hd h hB hE hk
      go_wp2_with fail
      refine s1.mono ?_
      clear s1
      rintro e w3 ⟨rfl, h3, k3, be3⟩
      have hB3 := hBa.trans (k3.mono (by assumption))
      clear k3 be3 ha hBa
      go_wp2_with fail
      go_roundw
      case rel => exact ⟨i + 1, l1, by go_num, by omega, G1, by omega, h3, hB3⟩
      case measure => simp [intOf]; omega
    · obtain rfl : i = n := by omega
      clear w0
      have s1 := clen_any base cb l 0 wr h
      obtain ⟨m, hlm⟩ : ∃ m, l.length = m := ⟨_, rfl⟩
      have hm1 : m ≤ 100 := by omega
      rw [hlm] at s1
      go_wp2_with fail
      refine s1.mono ?_
      clear s1
      rintro e w3 ⟨rfl, rfl⟩
      have k5 : Below wr.heap.size wr (wr.alloc (.cells #[.int .u64 (0 : Nat), .int .u64 (1 : Nat)] 34)) := (Below.refl _ _).alloc (Nat.le_refl _) _
      have hR5 : (wr.alloc (.cells #[.int .u64 (0 : Nat), .int .u64 (1 : Nat)] 34)).heap[wr.heap.size]? = some (.cells #[.int .u64 (0 : Nat), .int .u64 (1 : Nat)] 34 (0, 0)) := heap_alloc_new _ _
      obtain ⟨r0, hr0⟩ : ∃ r, wr.heap.size = r := ⟨_, rfl⟩
      have hbr : base ≤ r0 := by rw [← hr0]; exact h.sz
      obtain ⟨wx, hwx⟩ : ∃ w5, wr.alloc (.cells #[.int .u64 (0 : Nat), .int .u64 (1 : Nat)] 34) = w5 := ⟨_, rfl⟩
      rw [hwx] at k5 hR5
      have hx := h.below k5
      have hBx := hB.trans (k5.mono hB.size)
      rw [hr0] at hR5
      have hwx' : wr.alloc (.cells #[.int .u64 0, .int .u64 1] 34) = wx := hwx
      clear k5 hB h hwx
      have hinit : ∀ k v, HeapPure.get l k = some v → 0 * v.d ≤ v.n * 1 := fun k v _ => by omega
      go_wp2_with fail
      go_loopw [9, 8] (fun v u wq => ∃ (j c ln ld : Nat) (l : List (Int × Mk)), v = .int .i64 j ∧ u = .int .u64 c ∧ j + l.length = m ∧ HeapPure.Good lt l ∧ WB wq base cb l c ∧ c = ln / ld ∧ 0 < ld ∧ Sm ln ∧ Sm ld ∧ (∀ k v, HeapPure.get l k = some v → ln * v.d ≤ v.n * ld) ∧
          wq.heap[r0]? = some (.cells #[.int .u64 ln, .int .u64 ld] 34 (0, 0)) ∧ Below w.heap.size w wq) (fun v _ _ => m - (intOf v).toNat)
      case atStart => exact ⟨0, 0, 0, 1, l, rfl, rfl, by omega, hg, hx, by omega, by omega, by unfold Sm; omega, by unfold Sm; omega, hinit, hR5, hBx⟩
      case round =>
        clear hinit hx hR5 hBx hg hlm hl
        obtain ⟨j, c, ln, ld, l, rfl, rfl, hj, hg, h, hc, hld, hln', hld', hlow, hR, hB⟩ := hrel
        by_cases hlt : j < m
        · have hp : 0 < l.length := by omega
          have hkw := h.kwf hp
          obtain ⟨v, q1, q2, q3, q4, q5, q6, q7⟩ := all_round hg hp ln ld hld hlow
          have s1 := cleast_some base cb l c hp wr h
          have s3 := fun W hW => evict_some lessC base cb l c hp W hW
          have s2 := fun W hW => worth_any base cb l c (kk l 0) hkw W hW
          rw [q2] at s2
          simp only [wn, wd, Option.isSome_some] at s2
          rw [q1, Nat.max_eq_right (by rw [hc]; exact q7)] at s3
          have hd1 := v.pos
          have hcm := lawCompare_sgn ln ld v.n v.d hln' hld' v.hn v.hd hld hd1
          obtain ⟨g, hg0, hgn⟩ : ∃ g, sgn (ln * v.d) (v.n * ld) = g ∧ decide ((0 : Int) < g) = false := ⟨_, rfl, by
            rcases Nat.lt_or_eq_of_le q3 with e | e
            · rw [sgn_lt e]; decide
            · rw [sgn_eq e]; decide⟩
          rw [hg0] at hcm
          have hcc : c ≤ v.n / v.d := by rw [hc]; exact q7
          have hv1 := v.hn
          have hv2 := v.hd
          have hdw := wrap_div v.d v.hn
          have hdz : ¬ v.d = 0 := by omega
          clear hg0 q7 q3 hlow hg q1 q2 hc hln' hld'
          generalize v.n = vn at *
          generalize v.d = vd at *
          generalize drop lt l (kk l 0) = l' at *
          generalize kk l 0 = K at *
          obtain ⟨c', hc'⟩ : ∃ c', vn / vd = c' := ⟨_, rfl⟩
          rw [hc'] at s3 hcc hdw
          have hcd : c' = vn / vd := hc'.symm
          have HCD := Lib.hid hcd
          clear hc' hcd
          have hcn : decide ((c' : Int) < (c : Int)) = false := by rw [decide_eq_false_iff_not]; omega
          have hcn2 : decide (c' < c) = false := by rw [decide_eq_false_iff_not]; omega
          go_wp2_with fail
          refine s1.mono ?_
          clear s1
          rintro e wa ⟨rfl, ka⟩
          have ha := h.below ka
          have hBa := hB.trans (ka.mono hB.size)
          have hRa : wa.heap[r0]? = _ := (ka.block r0 (lt_of hR)).trans hR
          clear h hB hR ka
          go_wp2_with fail
          refine (s2 wa ha).mono ?_
          clear s2
          rintro e wb ⟨rfl, kb⟩
          have hb := ha.below kb
          have hBb := hBa.trans (kb.mono hBa.size)
          have hRb : wb.heap[r0]? = _ := (kb.block r0 (lt_of hRa)).trans hRa
          have k5 : Below wb.heap.size wb (wb.alloc (.cells #[.int .u64 vn, .int .u64 vd] 34)) := (Below.refl _ _).alloc (Nat.le_refl _) _
          have hS5 : (wb.alloc (.cells #[.int .u64 vn, .int .u64 vd] 34)).heap[wb.heap.size]? = some (.cells #[.int .u64 vn, .int .u64 vd] 34 (0, 0)) := heap_alloc_new _ _
          obtain ⟨r2, hr2⟩ : ∃ r, wb.heap.size = r := ⟨_, rfl⟩
          have hne : r0 ≠ r2 := by have := lt_of hRb; omega
          obtain ⟨wd, hwd⟩ : ∃ w5, wb.alloc (.cells #[.int .u64 vn, .int .u64 vd] 34) = w5 := ⟨_, rfl⟩
          rw [hwd] at k5 hS5
          have hd' := hb.below k5
          have hBd := hBb.trans (k5.mono hBb.size)
          have hRd : wd.heap[r0]? = _ := (k5.block r0 (lt_of hRb)).trans hRb
          rw [hr2] at hS5
          clear ha hb hBa hBb hRa hRb kb k5
          go_wp2_with fail
          refine (s3 wd hd').mono ?_
          clear s3
          rintro e we ⟨rfl, he, ke, be⟩
          have hRe := be _ _ _ (by decide) (by decide) (by decide) hRd
          have hSe := be _ _ _ (by decide) (by decide) (by decide) hS5
          have hBe := hBd.trans (ke.mono hb0)
          clear hd' hBd hRd hS5 ke be hp hkw
          have p0 : we.cell? ⟨r0, 0, none⟩ = some (.int .u64 ln) := cell_of hRe
          have p1 : we.cell? ⟨r0, 1, none⟩ = some (.int .u64 ld) := cell_of hRe
          have p2 : we.cell? ⟨r2, 0, none⟩ = some (.int .u64 vn) := cell_of hSe
          have p3 : we.cell? ⟨r2, 1, none⟩ = some (.int .u64 vd) := cell_of hSe
          have HK := Lib.hid (show ∀ W, Below we.heap.size we W → (W.cell? ⟨r0, 0, none⟩ = some (.int .u64 ln) ∧ W.cell? ⟨r0, 1, none⟩ = some (.int .u64 ld) ∧ W.cell? ⟨r2, 0, none⟩ = some (.int .u64 vn) ∧ W.cell? ⟨r2, 1, none⟩ = some (.int .u64 vd) ∧ Below we.heap.size we W) from fun W k =>
            ⟨cell_of ((k.block _ (lt_of hRe)).trans hRe), cell_of ((k.block _ (lt_of hRe)).trans hRe), cell_of ((k.block _ (lt_of hSe)).trans hSe), cell_of ((k.block _ (lt_of hSe)).trans hSe), k⟩)
          have HC := Lib.hid (show ∀ W, Below we.heap.size we W → Calls Try.prog 15 #[.pointer (some ⟨cb, 0, none⟩)] W fun e w' => e = .returned (.int .u64 c') ∧ Below W.heap.size W w' from fun W k => (clock_any base cb l' c' W (he.below k)).mono (by rintro e w' ⟨rfl, rfl⟩; exact ⟨rfl, Below.refl _ _⟩))
          have HE := Lib.hid (show (∀ W, Below we.heap.size we W → WB W base cb l' c') ∧ Below w.heap.size w we ∧ we.heap[r0]? = some (.cells #[.int .u64 ln, .int .u64 ld] 34 (0, 0)) ∧ we.heap[r2]? = some (.cells #[.int .u64 vn, .int .u64 vd] 34 (0, 0)) from ⟨fun W k => he.below k, hBe, hRe, hSe⟩)
          clear he hBe hRe hSe
          go_wp2_with fail
          go_region_held3 (fun W => W.cell? ⟨r0, 0, none⟩ = some (.int .u64 ln) ∧ W.cell? ⟨r0, 1, none⟩ = some (.int .u64 ld) ∧ W.cell? ⟨r2, 0, none⟩ = some (.int .u64 vn) ∧ W.cell? ⟨r2, 1, none⟩ = some (.int .u64 vd) ∧ Below we.heap.size we W)
            (first | exact HK.out _ ((Below.refl _ _).drew) | (go_split_ands; exact HK.out _ (Below.trans (by assumption) (hBn.mono (Below.size (B := we.heap.size) (by assumption))))))
            (first | (go_at_call 16; with_reducible refine (hcm _).mono ?_; rintro e w' ⟨rfl, hBn⟩) | (go_at_call 15; go_split_ands; with_reducible refine (HC.out _ (by assumption)).mono ?_; rintro e w' ⟨rfl, hBn⟩))
          obtain ⟨-, -, p2, p3, hBw⟩ := ‹_ ∧ _›
          obtain ⟨he, hBe, hRe, hSe⟩ := HE.out
          have hw1 := he _ hBw
          have hBf := hBe.trans (hBw.mono hBe.size)
          have hRf : w'.heap[r0]? = _ := (hBw.block r0 (lt_of hRe)).trans hRe
          have p4 : w'.frozen? ⟨r0, 0, none⟩ = false := frozen_of hRf
          have p5 : w'.frozen? ⟨r0, 1, none⟩ = false := frozen_of hRf
          have hR2 : Rb (set2 w' r0 vn vd) r0 vn vd := set2_rb hRf vn vd
          have k2 := set2_kept w' r0 vn vd
          have hw2 : WB (set2 w' r0 vn vd) base cb l' c' := hw1.type34 hRf k2
          have hB2 : Below w.heap.size w (set2 w' r0 vn vd) := hBf.trans (k2.below hBf.size (fun y hy h => by omega))
          have s4 : Calls Try.prog 15 #[.pointer (some ⟨cb, 0, none⟩)] ((w'.setCell ⟨r0, 0, none⟩ (.int .u64 vn)).setCell ⟨r0, 1, none⟩ (.int .u64 vd)) fun e w' => e = .returned (.int .u64 c') ∧ _ = w' := clock_any base cb l' c' _ hw2
          clear HE HK HC hcm p0 p1 he hBe hRe hSe hw1 hBf hRf k2 hBw
          go_wp2_with fail
          refine s4.mono ?_
          clear s4
          rintro e w9 ⟨rfl, rfl⟩
          go_wp2_with fail
          go_roundw
          case rel => exact ⟨j + 1, c', vn, vd, l', by go_num, rfl, by omega, q4, hw2, HCD.out, hd1, hv1, hv2, q6, hR2, hB2⟩
          case measure => simp [intOf]; omega
        · obtain rfl : j = m := by omega
          have hl0 : l = [] := List.eq_nil_of_length_eq_zero (by omega)
          subst hl0
          have s1 := evict_none base cb c wr h
          clear hlow hj
          go_wp2_with fail
          refine s1.mono ?_
          clear s1
          rintro e w9 ⟨rfl, k9⟩
          have s2 : Calls Try.prog 12 #[.pointer (some ⟨cb, 0, none⟩)] w9 fun e w' => e = .returned (.int .i64 0) ∧ w9 = w' := clen_any base cb [] c w9 (h.below k9)
          have hfin := hB.trans (k9.mono hB.size)
          go_wp2_with fail
          refine s2.mono ?_
          rintro e w8 ⟨rfl, rfl⟩
          go_wp2_with fail
          go_ret
          exact ⟨rfl, hfin⟩
end Go.Proofs.Ytamifcgljockaaa
