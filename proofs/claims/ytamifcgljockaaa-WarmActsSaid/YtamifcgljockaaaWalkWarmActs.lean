/- Whatever is done: what each is worth, which one is worth least, and the clock: the walk. -/
import Derived.Test.YtamifcgljockaaaLeast
import Derived.Test.YtamifcgljockaaaWalkWarmDrops
import Derived.Deep.CutRange
import Derived.Deep.CutBlock
namespace Go.Proofs.Ytamifcgljockaaa
open Go.RowKit Go.Kpt HeapPure RatioPure
set_option linter.unusedVariables false

/-- Of a cache after some acts. -/
structure Kept16 (N : Nat) (l : List (Int × Mk)) (clk : Nat) : Prop where
  good : HeapPure.Good lt l
  named : Named l
  bound : ∀ k v, HeapPure.get l k = some v → v.n / v.d ≤ N
  clk : clk ≤ N

theorem mo_set {l : List (Int × Mk)} (G : HeapPure.Good lt l) (k : Int) (x : Mk) : mo (setAt lt l k x) = gput (mo l) k (vp x) := by
  funext j
  unfold mo gput
  rw [setAt_get ord_lt G]
  by_cases e : j = k
  · rw [if_pos e, if_pos e]; rfl
  · rw [if_neg e, if_neg e]
theorem mo_drop {l : List (Int × Mk)} (G : HeapPure.Good lt l) (k : Int) : mo (drop lt l k) = gdel (mo l) k := by
  funext j
  unfold mo gdel
  rw [drop_get ord_lt G]
  by_cases e : j = k
  · rw [if_pos e, if_pos e]; rfl
  · rw [if_neg e, if_neg e]
theorem k16_mono {N N' : Nat} {l : List (Int × Mk)} {clk : Nat} (h : Kept16 N l clk) (hN : N ≤ N') : Kept16 N' l clk := ⟨h.good, h.named, fun k v hk => Nat.le_trans (h.bound k v hk) hN, Nat.le_trans h.clk hN⟩
theorem k16_set {N : Nat} {l : List (Int × Mk)} {clk : Nat} (h : Kept16 N l clk) (k : Int) (h0 : 0 ≤ k) (h1 : k < 16) (x : Mk) (up d : Nat) (hx1 : x.n = clk * d + up) (hx2 : x.d = d) (hx3 : x.id = k) (hd : 0 < d) (hup : up ≤ 1046529) : Kept16 (N + 1046529) (setAt lt l k x) clk := by
  refine ⟨setAt_good ord_lt h.good k x, fun j v hj => ?_, fun j v hj => ?_, by have := h.clk; omega⟩ <;> rw [setAt_get ord_lt h.good] at hj
  · by_cases e : j = k
    · rw [if_pos e] at hj; cases hj; subst e; exact ⟨hx3, h0, h1⟩
    · rw [if_neg e] at hj; exact h.named j v hj
  · by_cases e : j = k
    · rw [if_pos e] at hj; cases hj
      rw [hx1, hx2, Nat.add_comm, Nat.add_mul_div_right _ _ hd]
      have := Nat.div_le_self up d
      have := h.clk
      omega
    · rw [if_neg e] at hj
      have := h.bound j v hj
      omega
theorem k16_drop {N : Nat} {l : List (Int × Mk)} {clk : Nat} (h : Kept16 N l clk) (k : Int) (clk' : Nat) (hc : clk' ≤ N) : Kept16 N (drop lt l k) clk' := by
  refine ⟨drop_good ord_lt h.good k, fun j v hj => ?_, fun j v hj => ?_, hc⟩ <;> rw [drop_get ord_lt h.good] at hj
  · by_cases e : j = k
    · rw [if_pos e] at hj; cases hj
    · rw [if_neg e] at hj; exact h.named j v hj
  · by_cases e : j = k
    · rw [if_pos e] at hj; cases hj
    · rw [if_neg e] at hj; exact h.bound j v hj
theorem Kept16.nil : Kept16 0 [] 0 := ⟨HeapPure.Good.nil, fun k v h => (by cases h), fun k v h => (by cases h), Nat.le_refl _⟩

/-- A cache, and the law's map beside it. -/
structure AM (w : World) (base cb mb : Nat) (l : List (Int × Mk)) (clk : Nat) : Prop where
  wx : WX w base cb l clk (fun x => x = mb)
  gm : Gm ratE Try.prog 3 w mb l.length (mo l)
theorem AM.below {w w' : World} {base cb mb : Nat} {l : List (Int × Mk)} {clk : Nat} (h : AM w base cb mb l clk) (k : Below w.heap.size w w') : AM w' base cb mb l clk := ⟨h.wx.below k, h.gm.below k⟩
theorem AM.wb {w : World} {base cb mb : Nat} {l : List (Int × Mk)} {clk : Nat} (h : AM w base cb mb l clk) : WB w base cb l clk := h.wx.wb

theorem gm_len_run {α : Type} {E : El α} {mb c : Nat} {m : Int → Option α} {w : World} {kt et t : TypeId} (h : Gm E Try.prog kt w mb c m) (ht : Try.prog.underlying t = some (.map kt et)) (ty : TypeId) : (Builtin.len_ #[t] ty #[.map (some mb)]).run Try.prog w = .ok (.int .i64 c) w := by
  obtain ⟨D, h1, h2⟩ := h
  rw [h1.len ht ty, h2.size]

theorem field_num (a b : Int) (w : World) : (Instr.field 34 (.agg #[.int .u64 a, .int .u64 b]) 0).run Try.prog w = .ok (.int .u64 a) w := by kernel_rfl
theorem field_den (a b : Int) (w : World) : (Instr.field 34 (.agg #[.int .u64 a, .int .u64 b]) 1).run Try.prog w = .ok (.int .u64 b) w := by kernel_rfl

theorem wpList_mo_look {ops : Array Oper} {rest : List Oper} {o : Oper} {a : Act} {Q : Exit → Act → World → Prop} (w : World) (hg : o.guard = none) (x y : Operand) (hop : o.op = Op.lookup 45 x y true)
    (mb c : Nat) (l : List (Int × Mk)) (hm : a.eval x = .map (some mb)) (h : Gm ratE Try.prog 3 w mb c (mo l)) (k : Int) (hx : a.eval y = .int .i64 k) (hw : (Lit.int .i64 k).wf = true) (p : Int × Int) (hp : (mo l k).getD (0, 0) = p)
    (hK : wpList Try.prog ops Q rest (a.put o.dst (.tuple #[.agg #[.int .u64 p.1, .int .u64 p.2], .bool (HeapPure.get l k).isSome])) w) : wpList Try.prog ops Q (o :: rest) a w := by
  refine wpList_gm_look (E := ratE) (et := 34) w hg x y hop Try.underlying3 Try.underlying45 (0, 0) (by kernel_rfl) mb c (mo l) hm h k hx hw ?_
  rw [hp, mo_isSome]
  exact hK

theorem AM.drop {w w1 : World} {base cb mb : Nat} {l : List (Int × Mk)} {clk clk' : Nat} (h : AM w base cb mb l clk) (G : HeapPure.Good lt l) (k : Int) (h1 : WX w1 base cb (HeapPure.drop lt l k) clk' (fun x => x = mb)) (hs : Same (fun x => x = mb) w w1) : Gm ratE Try.prog 3 w1 mb l.length (mo l) ∧
    ∀ w2, Gm ratE Try.prog 3 w2 mb (if (mo l k).isSome then l.length - 1 else l.length) (gdel (mo l) k) → Kept (fun x => x = mb) w1 w2 → AM w2 base cb mb (HeapPure.drop lt l k) clk' := by
  refine ⟨h.gm.same (hs mb rfl), fun w2 hg hk => ⟨h1.beside hk, ?_⟩⟩
  rw [mo_drop G, drop_length, ← get_isSome]
  rw [mo_isSome] at hg
  exact hg

theorem AM.set {w w1 : World} {base cb mb : Nat} {l : List (Int × Mk)} {clk : Nat} (h : AM w base cb mb l clk) (G : HeapPure.Good lt l) (k : Int) (x : Mk) (h1 : WX w1 base cb (setAt lt l k x) clk (fun x => x = mb)) (hs : Same (fun x => x = mb) w w1) : Gm ratE Try.prog 3 w1 mb l.length (mo l) ∧
    ∀ w2, Gm ratE Try.prog 3 w2 mb (if (mo l k).isSome then l.length else l.length + 1) (gput (mo l) k (vp x)) → Kept (fun x => x = mb) w1 w2 → AM w2 base cb mb (setAt lt l k x) clk := by
  refine ⟨h.gm.same (hs mb rfl), fun w2 hg hk => ⟨h1.beside hk, ?_⟩⟩
  rw [mo_set G, setAt_length, ← get_isSome]
  rw [mo_isSome] at hg
  exact hg

set_option maxRecDepth 100000 in
set_option maxHeartbeats 1000000 in
/-- Nothing can be set that has no memory. -/
theorem cset_no (base cb : Nat) (l : List (Int × Mk)) (c : Nat) (k : Int) (o co : Nat) (ho : o ≤ 1023) (hco : co ≤ 1023) (hc : Sm c) (w : World) (h : WB w base cb l c) :
    Calls Try.prog 10 #[.pointer (some ⟨cb, 0, none⟩), .int .i64 k, .int .u64 o, .int .u64 co, .int .u64 0] w fun e w' => e = .returned (.bool false) ∧ Below w.heap.size w w' := by
  obtain ⟨hb, v, mb, h⟩ := h
  have hup : o * co ≤ 1023 * 1023 := Nat.mul_le_mul ho hco
  have hab := above_no c (o * co) 0 hc (by unfold Sm; omega) (by unfold Sm; omega) (fun hf => by have := hf.1; omega) w
  obtain ⟨up, hu⟩ : ∃ up, o * co = up := ⟨_, rfl⟩
  have e1 : (o : Int) * (co : Int) = (up : Int) := by rw [← hu]; push_cast; rfl
  have e2 : IntKind.u64.wrap (up : Int) = (up : Int) := IntWalk.u64_in _ ⟨by omega, by omega⟩
  rw [hu] at hab
  have hab : Calls Try.prog 21 #[.int .u64 c, .int .u64 up, .int .u64 0] w fun e w' => e = .returned (.tuple #[rv 0 0, .bool false]) ∧ Below w.heap.size w w' := hab
  have q0 : w.cell? ⟨cb, 0, none⟩ = some (.pointer (some ⟨hb, 0, none⟩)) := cell_of h.blk
  have q1 : w.cell? ⟨cb, 1, none⟩ = some (.int .u64 c) := cell_of h.blk
  clear hu hup h
  go_enter Try.func10, Try.ntmps10
  go_wp2_with fail
  refine hab.mono ?_
  clear hab
  rintro e w1 ⟨rfl, hB1⟩
  have hB2 := hB1.alloc (o := .cells #[.int .u64 0, .int .u64 0] 34) hB1.size
  go_wp2_with fail
  go_ret
  exact ⟨rfl, hB2⟩

set_option maxRecDepth 100000 in
set_option maxHeartbeats 16000000 in
theorem warmActs_walk (a0 : Option Addr) (cap0 : Nat) (z0 : List (Nat → Int)) (w : World) (w0 : IsStructs 5 w a0 z0) :
    Calls Try.prog 7 #[.slice a0 z0.length cap0] w fun e w' => e = .returned (.bool true) ∧ Below w.heap.size w w' := by
  go_enter Try.func7, Try.ntmps7
  go_wp2_with fail
  refine (head_any w).mono ?_
  rintro e w1 ⟨rfl, hB1⟩
  by_cases hm : 100 < z0.length
  · have c1 : (100 : Int) < (z0.length : Int) := by omega
    go_wp2_with fail
    go_ret
    exact ⟨rfl, hB1⟩
  have c1 : ¬ (100 : Int) < (z0.length : Int) := by omega
  go_wp2_with fail
  refine (cnew_any w1).mono ?_
  rintro e w2 ⟨cb, rfl, h2, hB2⟩
  have hB3 : Below w.heap.size w w2 := hB1.trans (hB2.mono hB1.size)
  obtain ⟨base, hbs⟩ : ∃ base, w1.heap.size = base := ⟨_, rfl⟩
  have hb0 : w.heap.size ≤ base := by have := hB1.size; omega
  rw [hbs] at h2
  obtain ⟨n, hn⟩ : ∃ n, z0.length = n := ⟨_, rfl⟩
  rw [hn] at hm c1 ⊢
  have ka : Below w2.heap.size w2 (w2.alloc (.map #[] 0)) := (Below.refl _ _).alloc (Nat.le_refl _) _
  have hG0 : Gm ratE Try.prog 3 (w2.alloc (.map #[] 0)) w2.heap.size 0 (fun _ => none) := Gm.made ratE Try.prog 3 w2
  obtain ⟨mb, hmb⟩ : ∃ mb, w2.heap.size = mb := ⟨_, rfl⟩
  have hX0 : WX (w2.alloc (.map #[] 0)) base cb [] 0 (fun x => x = mb) := h2.wx ka (fun x hx => by subst hx; rw [hmb]; exact ⟨Nat.le_refl _, by simp; omega⟩)
  have hBm := hB3.trans (ka.mono hB3.size)
  have hmb2 : w.heap.size ≤ mb := by rw [← hmb]; exact hB3.size
  rw [hmb] at hG0
  have hA0 : AM (w2.alloc (.map #[] 0)) base cb mb [] 0 := ⟨hX0, hG0⟩
  clear hB1 hB2 hB3 hbs h2 ka hX0 hG0
  have hmm := @run_makeMap Try.prog
  go_wp2_with fail
  generalize w2.alloc (.map #[] 0) = wm at *
  go_loopw [35, 5] (fun x y wr => ∃ (i : Nat) (l : List (Int × Mk)) (clk : Nat), x = .int .i64 i ∧ y = .int .u64 clk ∧ i ≤ n ∧ Kept16 (i * 1046529) l clk ∧ l.length ≤ i ∧ AM wr base cb mb l clk ∧ Below w.heap.size w wr) (fun x _ _ => n - (intOf x).toNat)
  case atStart => exact ⟨0, [], 0, rfl, rfl, by omega, by rw [Nat.zero_mul]; exact Kept16.nil, by simp, hA0, hBm⟩
  case round =>
    clear hA0 hBm hmm hmb
    obtain ⟨i, l, clk, rfl, rfl, hi, hK, hl, h, hB⟩ := hrel
    by_cases hin : i < n
    · obtain ⟨bk, off, rfl, hcell⟩ := w0.2.2 i (by omega)
      have kc := fun j (hj : j < 5) => ((Kept.of_below (F := fun _ => False) hB).cell (p := ⟨bk, off + i * 5 + j, none⟩) (block_lt_of_cell (hcell j hj)) (fun h => h)).trans (hcell j hj)
      have c0 := kc 0 (by omega)
      rw [Nat.add_zero] at c0
      have c1' := kc 1 (by omega)
      have c2 := kc 2 (by omega)
      have c3 := kc 3 (by omega)
      have c4 := kc 4 (by omega)
      clear kc hcell
      generalize z0.getD i (fun _ => 0) 0 = A at *
      generalize z0.getD i (fun _ => 0) 1 = K at *
      generalize z0.getD i (fun _ => 0) 2 = O at *
      generalize z0.getD i (fun _ => 0) 3 = C at *
      generalize z0.getD i (fun _ => 0) 4 = M at *
      have j1 : (i : Int) < (n : Int) := by omega
      go_upto_region 11 with fail
      obtain ⟨q, hq⟩ : ∃ q, wr.heap.size = q := ⟨_, rfl⟩
      have hbl : Below wr.heap.size wr (wr.alloc (.cells #[.int .i64 A, .int .i64 K, .int .i64 O, .int .i64 C, .int .i64 M] 43)) := (Below.refl _ _).alloc (Nat.le_refl _) _
      have hblk := heap_alloc_new wr (.cells #[.int .i64 A, .int .i64 K, .int .i64 O, .int .i64 C, .int .i64 M] 43)
      have hqm : q ≠ mb := by have := h.gm.lt; omega
      have hA : AM (wr.alloc (.cells #[.int .i64 A, .int .i64 K, .int .i64 O, .int .i64 C, .int .i64 M] 43)) base cb mb l clk := h.below hbl
      have hBA := hB.trans (hbl.mono hB.size)
      rw [hq] at hblk ⊢
      generalize wr.alloc (.cells #[.int .i64 A, .int .i64 K, .int .i64 O, .int .i64 C, .int .i64 M] 43) = wa at *
      clear hbl h hB c0 c1' c2 c3 c4 hq
      have hb4 := i64_and15 K
      obtain ⟨k, hk⟩ : ∃ k : Int, K % 16 = k := ⟨_, rfl⟩
      have hk0 : 0 ≤ k := by omega
      have hk1 : k < 16 := by omega
      have hwf : (Lit.int .i64 k).wf = true := WalkArith.wf_i64 (by omega)
      rw [hk] at hb4
      have hb5 := i64_and7 A
      obtain ⟨G, hG, hG0, hG4⟩ : ∃ G, A % 8 = G ∧ 0 ≤ G ∧ G < 8 := ⟨_, rfl, by omega, by omega⟩
      rw [hG] at hb5
      clear hG hk
      have p0 : wa.cell? ⟨q, 0, none⟩ = some (.int .i64 A) := cell_of hblk
      have p1 : wa.cell? ⟨q, 1, none⟩ = some (.int .i64 K) := cell_of hblk
      have p2 : wa.cell? ⟨q, 2, none⟩ = some (.int .i64 O) := cell_of hblk
      have p3 : wa.cell? ⟨q, 3, none⟩ = some (.int .i64 C) := cell_of hblk
      have p4 : wa.cell? ⟨q, 4, none⟩ = some (.int .i64 M) := cell_of hblk
      have hK1 : i * 1046529 + 1046529 = (i + 1) * 1046529 := by omega
      go_upto_block 2 with fail
      go_cut [35, 5] from 35 to 184 (fun x y wx => x = .int .i64 i ∧ ∃ (l2 : List (Int × Mk)) (clk2 : Nat), y = .int .u64 clk2 ∧ Kept16 ((i + 1) * 1046529) l2 clk2 ∧ l2.length ≤ i + 1 ∧ AM wx base cb mb l2 clk2 ∧ Below w.heap.size w wx)
      case first =>
        by_cases e3 : G = 3
        · have d1 : (G == 3) = true := by rw [e3]; rfl
          clear e3 p0 p2 p3 p4
          obtain ⟨p, hp⟩ : ∃ p, (mo l k).getD (0, 0) = p := ⟨_, rfl⟩
          have hal := fun o : Obj => hA.below ((Below.refl _ _).alloc (Nat.le_refl _) o)
          have hBal := fun o : Obj => hBA.trans (((Below.refl _ _).alloc (Nat.le_refl _) o).mono hBA.size)
          have hd := fun W (hW : AM W base cb mb l clk) => xdrop_any lessC base cb l clk k hwf (fun x => x = mb) W hW.wx
          have hdl := drop_len_le l k
          have hkd := k16_mono (k16_drop hK k clk hK.clk) (N' := (i + 1) * 1046529) (by omega)
          rw [← get_isSome] at hd
          have HAD := Lib.hid (show ∀ W W1, AM W base cb mb l clk → WX W1 base cb (HeapPure.drop lt l k) clk (fun x => x = mb) → Same (fun x => x = mb) W W1 → _ from fun W W1 hW h1 hs => AM.drop (clk' := clk) hW hK.good k h1 hs)
          clear hK
          generalize HeapPure.drop lt l k = l' at *
          go_wp2_with (at_lookup; refine wpList_mo_look _ rfl _ _ rfl mb l.length l rfl hA.gm k rfl hwf p hp ?_)
          refine (hd _ (hal _)).mono ?_
          rintro e w3 ⟨rfl, h3, k3, s3⟩
          obtain ⟨hg3, hAM⟩ := HAD.out _ _ (hal _) h3 s3
          have hB3 := (hBal (.cells #[.int .u64 p.1, .int .u64 p.2] 34)).trans (k3.mono hb0)
          clear hd hal hBal hA hBA hblk HAD hp
          go_wp2_with (at_delete; refine wpList_gm_del (E := ratE) (et := 34) _ rfl _ _ rfl Try.underlying3 Try.underlying45 mb l.length (mo l) rfl hg3 k rfl hwf ?_; intro w5 hm5 hk5)
          go_meet
          case rel => exact ⟨rfl, l', clk, rfl, hkd, by omega, hAM _ hm5 hk5, hB3.trans (hk5.below hB3.size (fun x hx hh => by omega))⟩
        · have d1 : (G == 3) = false := beq_eq_false_iff_ne.2 e3
          by_cases e45 : G = 4 ∨ G = 5
          · clear p0 p1 p2 p3 p4 e3
            have hle := fun W (hW : AM W base cb mb l clk) => least_any l hK.good hK.named mb l.length W hW.gm
            by_cases hp : 0 < l.length
            · rw [if_pos hp] at hle
              obtain ⟨v, hv⟩ : ∃ v, vv l 0 = v := ⟨_, rfl⟩
              have hgm := (min_spec hK.good hp).1
              rw [hv] at hgm
              have hk0' := (hK.named _ _ hgm).2.1
              have hkw := hA.wb.kwf hp
              have hvb := hK.bound _ _ hgm
              have hd := fun W (hW : AM W base cb mb l clk) => xevict_some lessC base cb l clk hp (fun x => x = mb) W hW.wx
              rw [hv] at hd
              obtain ⟨f, hf⟩ : ∃ f, v.n / v.d = f := ⟨_, rfl⟩
              rw [hf] at hd hvb
              have hdw := wrap_div v.d v.hn
              rw [hf] at hdw
              have hdz : ¬ v.d = 0 := by have := v.pos; omega
              have hfa := fun W => field_num v.n v.d W
              have hfb := fun W => field_den v.n v.d W
              have hdl := drop_len_le l (kk l 0)
              obtain ⟨clk', hc'⟩ : ∃ clk', max clk f = clk' := ⟨_, rfl⟩
              rw [hc'] at hd
              have hcN : clk' ≤ i * 1046529 := by have := hK.clk; omega
              have hkd := k16_mono (k16_drop hK (kk l 0) clk' hcN) (N' := (i + 1) * 1046529) (by omega)
              have HAD := Lib.hid (show ∀ W W1, AM W base cb mb l clk → WX W1 base cb (HeapPure.drop lt l (kk l 0)) clk' (fun x => x = mb) → Same (fun x => x = mb) W W1 → _ from fun W W1 hW h1 hs => AM.drop (clk' := clk') hW hK.good (kk l 0) h1 hs)
              have hgeq : (0 : Int) ≤ kk l 0 := hk0'
              have hmax : max (kk l 0) 0 = kk l 0 := by omega
              clear hK hv hf hcN
              generalize HeapPure.drop lt l (kk l 0) = l' at *
              generalize kk l 0 = Kd at *
              rcases e45 with rfl | rfl
              all_goals
                go_wp2_with fail
                refine (hle _ hA).mono ?_
                clear hle
                rintro e w3 ⟨rfl, k3⟩
                have hA3 := hA.below k3
                have hB3 := hBA.trans (k3.mono hBA.size)
                clear hA hBA k3 hblk
                go_wp2_with fail
                refine (hd _ hA3).mono ?_
                clear hd
                rintro e w4 ⟨rfl, h4, k4, s4⟩
                obtain ⟨hg4, hAM⟩ := HAD.out _ _ hA3 h4 s4
                have hB4 := hB3.trans (k4.mono hb0)
                clear hA3 hB3 k4 s4 h4 HAD
                by_cases hcf : clk < f
                · have hcf1 : (clk : Int) < (f : Int) := by omega
                  obtain rfl : clk' = f := by omega
                  clear hc'
                  go_wp2_with (first
                    | (at_lookup; refine wpList_mo_get _ rfl _ _ rfl mb l.length l rfl hg4 Kd rfl hkw v hgm ?_)
                    | (at_delete; refine wpList_gm_del (E := ratE) (et := 34) _ rfl _ _ rfl Try.underlying3 Try.underlying45 mb l.length (mo l) rfl hg4 Kd rfl hkw ?_; intro w5 hm5 hk5))
                  go_meet
                  case rel => exact ⟨rfl, l', clk', rfl, hkd, by omega, hAM _ hm5 hk5, hB4.trans (hk5.below hB4.size (fun x hx hh => by omega))⟩
                · have hcf1 : ¬ (clk : Int) < (f : Int) := by omega
                  obtain rfl : clk' = clk := by omega
                  clear hc'
                  go_wp2_with (first
                    | (at_lookup; refine wpList_mo_get _ rfl _ _ rfl mb l.length l rfl hg4 Kd rfl hkw v hgm ?_)
                    | (at_delete; refine wpList_gm_del (E := ratE) (et := 34) _ rfl _ _ rfl Try.underlying3 Try.underlying45 mb l.length (mo l) rfl hg4 Kd rfl hkw ?_; intro w5 hm5 hk5))
                  go_meet
                  case rel => exact ⟨rfl, l', clk', rfl, hkd, by omega, hAM _ hm5 hk5, hB4.trans (hk5.below hB4.size (fun x hx hh => by omega))⟩
            · rw [if_neg hp] at hle
              obtain rfl : l = [] := List.eq_nil_of_length_eq_zero (by omega)
              have hd := fun W (hW : AM W base cb mb [] clk) => evict_none base cb clk W hW.wb
              have hkd := k16_mono hK (N' := (i + 1) * 1046529) (by omega)
              clear hK hp hl
              rcases e45 with rfl | rfl
              all_goals
                go_wp2_with fail
                refine (hle _ hA).mono ?_
                clear hle
                rintro e w3 ⟨rfl, k3⟩
                have hA3 := hA.below k3
                have hB3 := hBA.trans (k3.mono hBA.size)
                clear hA hBA k3 hblk
                go_wp2_with fail
                refine (hd _ hA3).mono ?_
                clear hd
                rintro e w4 ⟨rfl, k4⟩
                have hA4 := hA3.below k4
                have hB4 := hB3.trans (k4.mono hB3.size)
                clear hA3 hB3 k4
                go_wp2_with fail
                go_meet
                case rel => exact ⟨rfl, [], clk, rfl, hkd, Nat.zero_le _, hA4, hB4⟩
          · have d2 : (G == 4) = false := beq_eq_false_iff_ne.2 (fun h => e45 (.inl h))
            have d3 : (G == 5) = false := beq_eq_false_iff_ne.2 (fun h => e45 (.inr h))
            have hb1 := i64_and1023 O
            have hb2 := i64_and1023 C
            have hb3 := i64_and4095 M
            obtain ⟨o, ho⟩ : ∃ o : Nat, (O % 1024).toNat = o := ⟨_, rfl⟩
            obtain ⟨co, hco⟩ : ∃ co : Nat, (C % 1024).toNat = co := ⟨_, rfl⟩
            obtain ⟨d, hdm⟩ : ∃ d : Nat, (M % 4096).toNat = d := ⟨_, rfl⟩
            have ho1 : o ≤ 1023 := by omega
            have hco1 : co ≤ 1023 := by omega
            have hdm1 : d ≤ 4095 := by omega
            rw [show O % 1024 = (o : Int) by omega] at hb1
            rw [show C % 1024 = (co : Int) by omega] at hb2
            rw [show M % 4096 = (d : Int) by omega] at hb3
            have hup : o * co ≤ 1023 * 1023 := Nat.mul_le_mul ho1 hco1
            have hclk := hK.clk
            have x1' : IntKind.u64.wrap (o : Int) = (o : Int) := IntWalk.u64_in _ ⟨by omega, by omega⟩
            have x2' : IntKind.u64.wrap (co : Int) = (co : Int) := IntWalk.u64_in _ ⟨by omega, by omega⟩
            have x3' : IntKind.u64.wrap (d : Int) = (d : Int) := IntWalk.u64_in _ ⟨by omega, by omega⟩
            clear e3 e45 ho hco hdm p0
            by_cases hd0 : d = 0
            · subst hd0
              have hs := fun W (hW : AM W base cb mb l clk) => cset_no base cb l clk k o co ho1 hco1 (by unfold Sm; omega) W hW.wb
              have hkd := k16_mono hK (N' := (i + 1) * 1046529) (by omega)
              have hb3 : bits .and .i64 M 4095 = 0 := hb3
              clear hK hup hdm1 x3'
              go_wp2_with fail
              refine (hs _ hA).mono ?_
              clear hs
              rintro e w3 ⟨rfl, k3⟩
              have hA3 := hA.below k3
              have hB3 := hBA.trans (k3.mono hBA.size)
              clear hA hBA k3 hblk
              go_wp2_with fail
              go_meet
              case rel => exact ⟨rfl, l, clk, rfl, hkd, by omega, hA3, hB3⟩
            · have hd1 : 0 < d := by omega
              have hd2 : (0 : Int) < (d : Int) := by omega
              have hsm : Sm d := by unfold Sm; omega
              obtain ⟨up, hu⟩ : ∃ up, o * co = up := ⟨_, rfl⟩
              have hc100 : clk ≤ 104652900 := by omega
              have hcd := Nat.mul_le_mul hc100 hdm1
              obtain ⟨x, y1, y2, y3, hx⟩ := xset_at base cb clk k hwf o co d up ho1 hco1 hd1 hsm hu (by omega)
              have hs := fun W (hW : AM W base cb mb l clk) => hx (fun x => x = mb) l (by omega) W hW.wx
              have hkd := k16_set hK k hk0 hk1 x up d y1 y2 y3 hd1 (by omega)
              rw [hK1] at hkd
              have hsl := setAt_len_le' l k x
              have HAD := Lib.hid (show ∀ W W1, AM W base cb mb l clk → WX W1 base cb (setAt lt l k x) clk (fun x => x = mb) → Same (fun x => x = mb) W W1 → _ from fun W W1 hW h1 hs => AM.set hW hK.good k x h1 hs)
              obtain ⟨nm, hnm⟩ : ∃ nm, clk * d = nm := ⟨_, rfl⟩
              obtain ⟨nu, hnu⟩ : ∃ nu, nm + up = nu := ⟨_, rfl⟩
              have e1 : (clk : Int) * (d : Int) = (nm : Int) := by rw [← hnm]; push_cast; rfl
              have e2 : (o : Int) * (co : Int) = (up : Int) := by rw [← hu]; push_cast; rfl
              have e4 : (nm : Int) + (up : Int) = (nu : Int) := by omega
              have x4' : IntKind.u64.wrap (nm : Int) = (nm : Int) := IntWalk.u64_in _ ⟨by omega, by omega⟩
              have x5' : IntKind.u64.wrap (up : Int) = (up : Int) := IntWalk.u64_in _ ⟨by omega, by omega⟩
              have x6' : IntKind.u64.wrap (nu : Int) = (nu : Int) := IntWalk.u64_in _ ⟨by omega, by omega⟩
              have hvx : vp x = ((nu : Int), (d : Int)) := by unfold vp; rw [y1, y2, hnm, hnu]
              have hcm : l.length < maxLen := by unfold maxLen; omega
              rw [hvx] at HAD
              clear hK hup hdm1 hx y1 y2 y3 hnm hnu hu hcd hvx hclk
              generalize setAt lt l k x = l' at *
              go_wp2_with fail
              refine (hs _ hA).mono ?_
              clear hs
              rintro e w3 ⟨rfl, h3, k3, s3⟩
              obtain ⟨hg3, hAM⟩ := HAD.out _ _ hA h3 s3
              have hB3 := hBA.trans (k3.mono hb0)
              clear hA hBA k3 hblk s3 h3 HAD
              go_wp2_with (at_mapUpdate; refine wpList_gm_put (E := ratE) (et := 34) _ rfl _ _ _ rfl Try.underlying3 Try.underlying45 mb l.length (mo l) rfl hg3 hcm k ((nu : Int), (d : Int)) rfl rfl hwf ?_; intro w5 hm5 hk5)
              go_meet
              case rel => exact ⟨rfl, l', clk, rfl, hkd, by omega, hAM _ hm5 hk5, hB3.trans (hk5.below hB3.size (fun x hx hh => by omega))⟩
      case rest =>
        clear hblk hA hBA p0 p1 p2 p3 p4 hb4 hb5 hK hl
        obtain ⟨rfl, l2, clk2, rfl, hK2, hl2, h2, hB2⟩ := hcut
        have hle := fun W (hW : AM W base cb mb l2 clk2) => least_any l2 hK2.good hK2.named mb l2.length W hW.gm
        have hln := fun W (hW : AM W base cb mb l2 clk2) => clen_any base cb l2 clk2 W hW.wb
        have hck := fun W (hW : AM W base cb mb l2 clk2) => clock_any base cb l2 clk2 W hW.wb
        have hwo := fun (j : Nat) (hj : j < 16) W (hW : AM W base cb mb l2 clk2) => worth_any base cb l2 clk2 (j : Int) (WalkArith.wf_i64 (by omega)) W hW.wb
        have hcl : ∃ (R K0 : Int) (b : Bool), (if 0 < l2.length then kk l2 0 else -1) = R ∧ (∀ W, AM W base cb mb l2 clk2 → Calls Try.prog 17 #[.pointer (some ⟨cb, 0, none⟩)] W fun e w' => e = .returned (.tuple #[.int .i64 K0, .bool b]) ∧ Below W.heap.size W w') ∧ ((0 ≤ R ∧ K0 = R ∧ b = true) ∨ (R = -1 ∧ K0 = 0 ∧ b = false)) := by
          by_cases hp : 0 < l2.length
          · exact ⟨kk l2 0, kk l2 0, true, if_pos hp, fun W hW => cleast_some base cb l2 clk2 hp W hW.wb, .inl ⟨(hK2.named _ _ (min_spec hK2.good hp).1).2.1, rfl, rfl⟩⟩
          · obtain rfl : l2 = [] := List.eq_nil_of_length_eq_zero (by omega)
            exact ⟨-1, 0, false, rfl, fun W hW => cleast_none base cb clk2 W hW.wb, .inr ⟨rfl, rfl, rfl⟩⟩
        obtain ⟨R, K0, b, hR, hcl, hcase⟩ := hcl
        rw [hR] at hle
        clear hR
        rcases hcase with ⟨hge, rfl, rfl⟩ | ⟨rfl, rfl, rfl⟩
        case' inl => have hmax : max K0 0 = K0 := by omega
        all_goals
          go_wp2_with fail
          refine (hle _ h2).mono ?_
          clear hle
          rintro e w3 ⟨rfl, k3⟩
          have h3 := h2.below k3
          have hB3 := hB2.trans (k3.mono hB2.size)
          clear h2 hB2 k3
          go_wp2_with fail
          refine (hcl _ h3).mono ?_
          clear hcl
          rintro e w4 ⟨rfl, k4⟩
          have h4 := h3.below k4
          have hB4 := hB3.trans (k4.mono hB3.size)
          clear h3 hB3 k4
          go_wp2_with fail
          refine (hln _ h4).mono ?_
          clear hln
          rintro e w5 ⟨rfl, rfl⟩
          have hlr := gm_len_run h4.gm Try.underlying45 3
          go_wp2_with fail
          refine (hck _ h4).mono ?_
          clear hck
          rintro e w5 ⟨rfl, rfl⟩
          go_wp2_with fail
          go_loopw [21] (fun x wr => ∃ (j : Nat), x = .int .i64 j ∧ j ≤ 16 ∧ AM wr base cb mb l2 clk2 ∧ Below w.heap.size w wr) (fun x _ => 16 - (intOf x).toNat)
          case atStart => exact ⟨0, rfl, by omega, h4, hB4⟩
          case round =>
            clear h4 hB4
            obtain ⟨j, rfl, hj, h, hB⟩ := hrel
            by_cases hj16 : j < 16
            · have hj2 : (j : Int) < 16 := by omega
              have hwj : (Lit.int .i64 (j : Int)).wf = true := WalkArith.wf_i64 (by omega)
              have s1 := hwo j hj16 wr h
              obtain ⟨p, hp⟩ : ∃ p, (mo l2 (j : Int)).getD (0, 0) = p := ⟨_, rfl⟩
              have hpw : p = (((wn (HeapPure.get l2 (j : Int)) : Nat) : Int), ((wd (HeapPure.get l2 (j : Int)) : Nat) : Int)) := by
                rw [← hp]; unfold mo
                cases HeapPure.get l2 (j : Int) <;> rfl
              have hp1 : p.1 = ((wn (HeapPure.get l2 (j : Int)) : Nat) : Int) := by rw [hpw]
              have hp2 : p.2 = ((wd (HeapPure.get l2 (j : Int)) : Nat) : Int) := by rw [hpw]
              clear hpw
              generalize wn (HeapPure.get l2 (j : Int)) = pn at *
              generalize wd (HeapPure.get l2 (j : Int)) = pd at *
              have hne := neq_rt pn pd
              have hgd := guard_rt
              go_wp2_with fail
              refine s1.mono ?_
              clear s1
              rintro e w6 ⟨rfl, k6⟩
              have h6 := h.below k6
              have hB6 := hB.trans (k6.mono hB.size)
              have k7 : Below w6.heap.size w6 (w6.alloc (.cells #[.int .u64 pn, .int .u64 pd] 34)) := (Below.refl _ _).alloc (Nat.le_refl _) _
              have h7 := h6.below k7
              have hB7 := hB6.trans (k7.mono hB6.size)
              clear h hB k6 h6 k7 hB6
              go_wp2_with (at_lookup; refine wpList_mo_look _ rfl _ _ rfl mb l2.length l2 rfl h7.gm (j : Int) rfl hwj p hp ?_; rw [hp1, hp2])
              have k8 : ∀ W : World, Below W.heap.size W (W.alloc (.cells #[.int .u64 pn, .int .u64 pd] 34)) := fun W => (Below.refl _ _).alloc (Nat.le_refl _) _
              have h8 := h7.below (k8 _)
              have hB8 := hB7.trans ((k8 _).mono hB7.size)
              clear h7 hB7 k8
              go_roundw
              case rel => exact ⟨j + 1, by go_num, by omega, h8, hB8⟩
              case measure => simp [intOf]; omega
            · obtain rfl : j = 16 := by omega
              go_wp2_with fail
              go_roundw
              case rel => exact ⟨i + 1, l2, clk2, by go_num, rfl, by omega, hK2, hl2, h, hB⟩
              case measure => simp [intOf]; omega
    · obtain rfl : i = n := by omega
      go_wp2_with fail
      go_ret
      exact ⟨rfl, hB⟩
end Go.Proofs.Ytamifcgljockaaa
