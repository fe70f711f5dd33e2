/- What is taken out, and set again, is worth what it was: the walk. -/
import Derived.Test.YtamifcgljockaaaHead
import Derived.Test.YtamifcgljockaaaArgs
import Derived.Test.YtamifcgljockaaaBits
import Derived.Laws.StructEq
import Derived.Deep.CutRange
namespace Go.Proofs.Ytamifcgljockaaa
open Go.RowKit Go.Kpt HeapPure RatioPure
set_option linter.unusedVariables false

theorem step_rt (xs ys : Array Value) (fd : Field) (fs : List Field) (a : Int) (w : World) (hn : fd.name ≠ "_") (ht : Try.prog.underlying fd.type = some (.int .u64)) (ha : xs[fd.offset]? = some (.int .u64 a)) (hb : ys[fd.offset]? = some (.int .u64 a)) :
    (Op.eqFields 9999 xs ys (fd :: fs)).run Try.prog w = (Op.eqFields 9999 xs ys fs).run Try.prog w := by
  have p1 : (part fd.type xs fd.offset).run Try.prog w = .ok (.int .u64 a) w := by simp [part, isAgg, run_underlying ht, ha]
  have p2 : (part fd.type ys fd.offset).run Try.prog w = .ok (.int .u64 a) w := by simp [part, isAgg, run_underlying ht, hb]
  have p3 := run_equalIn_int (P := Try.prog) w 9998 fd.type .u64 .u64 a a ht
  simp only [Op.eqFields, hn, ne_eq, not_false_eq_true, if_true, Sem.run_bind, p1, p2, p3, Result.andThen_ok]
  simp
theorem neq_rt (n d : Nat) (w : World) : (binOp .neq 34 (.agg #[.int .u64 n, .int .u64 d]) (.agg #[.int .u64 n, .int .u64 d])).run Try.prog w = .ok (.bool false) w := by
  have hs : Try.prog.stoodInHeld 34 = false := by kernel_rfl
  have hu := Try.underlying34
  rw [run_neq_struct, run_equalIn_struct (P := Try.prog) w 9999 34 _ _ (by unfold Program.fieldsOf; rw [hu]) hs]
  unfold Program.fieldsOf
  rw [hu]
  dsimp only
  rw [step_rt _ _ _ _ (n : Int) w (by simp) Try.underlying28 rfl rfl, step_rt _ _ _ _ (d : Int) w (by simp) Try.underlying28 rfl rfl]
  simp [Op.eqFields]
theorem guard_rt (op : BinOp) (x y : Operand) (xs ys : Array Value) (w : World) : (eqGuard op 34 x y (.agg xs) (.agg ys)).run Try.prog w = .ok () w := run_eqGuard_agg (P := Try.prog) w op 34 x y xs ys (by kernel_rfl)

theorem setAt_len_le (l : List (Int × Mk)) (k : Int) (x : Mk) : (setAt lt l k x).length ≤ l.length + 1 := by rw [setAt_length]; split <;> omega
theorem drop_len_le (l : List (Int × Mk)) (k : Int) : (drop lt l k).length ≤ l.length := by rw [drop_length]; split <;> omega

set_option maxRecDepth 100000 in
set_option maxHeartbeats 3000000 in
theorem warmDrops_walk (a0 : Option Addr) (cap0 : Nat) (z0 : List (Nat → Int)) (w : World) (w0 : IsStructs 5 w a0 z0) :
    Calls Try.prog 5 #[.slice a0 z0.length cap0] w fun e w' => e = .returned (.bool true) ∧ Below w.heap.size w w' := by
  go_enter Try.func5, Try.ntmps5
  go_wp2_with fail
  refine (head_any w).mono ?_
  rintro e w1 ⟨rfl, hB1⟩
  by_cases hm : 60 < z0.length
  · have c1 : (60 : Int) < (z0.length : Int) := by omega
    go_wp2_with fail
    go_ret
    exact ⟨rfl, hB1⟩
  have c1 : ¬ (60 : Int) < (z0.length : Int) := by omega
  go_wp2_with fail
  refine (cnew_any w1).mono ?_
  rintro e w2 ⟨cb, rfl, h2, hB2⟩
  have hB3 : Below w.heap.size w w2 := hB1.trans (hB2.mono hB1.size)
  obtain ⟨base, hbs⟩ : ∃ base, w1.heap.size = base := ⟨_, rfl⟩
  have hb0 : w.heap.size ≤ base := by have := hB1.size; omega
  rw [hbs] at h2
  obtain ⟨n, hn⟩ : ∃ n, z0.length = n := ⟨_, rfl⟩
  rw [hn] at hm c1 ⊢
  clear hB1 hB2 hbs
  go_wp2_with fail
  go_loopw [24] (fun x wr => ∃ (i : Nat) (l : List (Int × Mk)), x = .int .i64 i ∧ i ≤ n ∧ HeapPure.Good lt l ∧ l.length ≤ i ∧ WB wr base cb l 0 ∧ Below w.heap.size w wr) (fun x _ => n - (intOf x).toNat)
  case atStart => exact ⟨0, [], rfl, by omega, HeapPure.Good.nil, by simp, h2, hB3⟩
  case round =>
    clear h2 hB3
    obtain ⟨i, l, rfl, hi, hg, hl, h, hB⟩ := hrel
    by_cases hin : i < n
    · obtain ⟨bk, off, rfl, hcell⟩ := w0.2.2 i (by omega)
      have kc := fun j (hj : j < 5) => ((Kept.of_below (F := fun _ => False) hB).cell (p := ⟨bk, off + i * 5 + j, none⟩) (block_lt_of_cell (hcell j hj)) (fun h => h)).trans (hcell j hj)
      have c0 := kc 0 (by omega)
      rw [Nat.add_zero] at c0
      have c1' := kc 1 (by omega)
      have c2 := kc 2 (by omega)
      have c3 := kc 3 (by omega)
      have c4 := kc 4 (by omega)
      have hwf : (Lit.int .i64 (z0.getD i (fun _ => 0) 1)).wf = true := w0.2.1 _ (by rw [List.getD_eq_getElem?_getD, List.getElem?_eq_getElem (by omega)]; exact List.getElem_mem _) 1
      clear kc hcell
      generalize z0.getD i (fun _ => 0) 0 = A at *
      generalize z0.getD i (fun _ => 0) 1 = K at *
      generalize z0.getD i (fun _ => 0) 2 = O at *
      generalize z0.getD i (fun _ => 0) 3 = C at *
      generalize z0.getD i (fun _ => 0) 4 = M at *
      have hE : (wr.alloc (.cells #[.int .i64 A, .int .i64 K, .int .i64 O, .int .i64 C, .int .i64 M] 43)).heap[wr.heap.size]? = some (.cells #[.int .i64 A, .int .i64 K, .int .i64 O, .int .i64 C, .int .i64 M] 43 (0, 0)) := heap_alloc_new _ _
      have hz : (wr.alloc (.cells #[.int .i64 A, .int .i64 K, .int .i64 O, .int .i64 C, .int .i64 M] 43)).heap.size = wr.heap.size + 1 := by simp
      have ha : WB (wr.alloc (.cells #[.int .i64 A, .int .i64 K, .int .i64 O, .int .i64 C, .int .i64 M] 43)) base cb l 0 := h.below ((Below.refl _ _).alloc (Nat.le_refl _) _)
      have hBa : Below w.heap.size w (wr.alloc (.cells #[.int .i64 A, .int .i64 K, .int .i64 O, .int .i64 C, .int .i64 M] 43)) := hB.alloc hB.size _
      obtain ⟨wa, hwa⟩ : ∃ wa, wr.alloc (.cells #[.int .i64 A, .int .i64 K, .int .i64 O, .int .i64 C, .int .i64 M] 43) = wa := ⟨_, rfl⟩
      rw [hwa] at hE hz ha hBa
      have hb1 := i64_and1023 O
      have hb2 := i64_and1023 C
      have hb3 := i64_and4095 M
      obtain ⟨o, ho⟩ : ∃ o : Nat, (O % 1024).toNat = o := ⟨_, rfl⟩
      obtain ⟨co, hco⟩ : ∃ co : Nat, (C % 1024).toNat = co := ⟨_, rfl⟩
      obtain ⟨dm, hdm⟩ : ∃ dm : Nat, (M % 4096).toNat = dm := ⟨_, rfl⟩
      have ho1 : o ≤ 1023 := by omega
      have hco1 : co ≤ 1023 := by omega
      have hdm1 : dm ≤ 4095 := by omega
      rw [show O % 1024 = (o : Int) by omega] at hb1
      rw [show C % 1024 = (co : Int) by omega] at hb2
      rw [show M % 4096 = (dm : Int) by omega] at hb3
      obtain ⟨d, hd⟩ : ∃ d, 1 + dm = d := ⟨_, rfl⟩
      have e1 : (1 : Int) + (dm : Int) = (d : Int) := by omega
      have hup : o * co ≤ 1023 * 1023 := Nat.mul_le_mul ho1 hco1
      have hf : 0 * d + o * co < 18446744073709551616 := by omega
      have hd1 : 0 < d := by omega
      have hs : Sm d := by unfold Sm; omega
      obtain ⟨x, hx⟩ : ∃ x, mk 0 (o * co) d K hd1 hf hs = x := ⟨_, rfl⟩
      obtain ⟨up, hu⟩ : ∃ up, o * co = up := ⟨_, rfl⟩
      have x1 : x.n = up := by rw [← hx, ← hu]; rw [show (mk 0 (o * co) d K hd1 hf hs).n = 0 * d + o * co from rfl, Nat.zero_mul, Nat.zero_add]
      have x2 : x.d = d := by rw [← hx]; rfl
      have e2 : (o : Int) * (co : Int) = (up : Int) := by rw [← hu]; push_cast; rfl
      have hS := fun (l : List (Int × Mk)) (hl : l.length + 1 ≤ 100000) (W : World) (h : WB W base cb l 0) => cset_any lessC base cb l 0 K hwf o co d ho1 hco1 hd1 hs hf hl W h
      rw [hx] at hS
      have w1' : IntKind.u64.wrap (o : Int) = (o : Int) := IntWalk.u64_in _ ⟨by omega, by omega⟩
      have w2' : IntKind.u64.wrap (co : Int) = (co : Int) := IntWalk.u64_in _ ⟨by omega, by omega⟩
      have w3' : IntKind.u64.wrap (d : Int) = (d : Int) := IntWalk.u64_in _ ⟨by omega, by omega⟩
      have w4' : IntKind.i64.wrap (d : Int) = (d : Int) := IntWalk.i64_in _ ⟨by omega, by omega⟩
      have w5' : IntKind.u64.wrap (up : Int) = (up : Int) := IntWalk.u64_in _ ⟨by omega, by omega⟩
      have s1 := hS l (by omega) wa ha
      have g1 : HeapPure.get (setAt lt l K x) K = some x := by rw [setAt_get ord_lt hg, if_pos rfl]
      have G1 := setAt_good ord_lt hg K x
      have L1 := setAt_len_le l K x
      generalize setAt lt l K x = l1 at *
      obtain ⟨q, hq⟩ : ∃ q, wr.heap.size = q := ⟨_, rfl⟩
      rw [hq] at hE
      have q1 : wa.cell? ⟨q, 1, none⟩ = some (.int .i64 K) := cell_of hE
      have q2 : wa.cell? ⟨q, 2, none⟩ = some (.int .i64 O) := cell_of hE
      have q3 : wa.cell? ⟨q, 3, none⟩ = some (.int .i64 C) := cell_of hE
      have q4 : wa.cell? ⟨q, 4, none⟩ = some (.int .i64 M) := cell_of hE
      clear hz hx hu hf hup ho hco hdm hd h hB
      go_wp2_with fail
      refine s1.mono ?_
      clear s1
      rintro e w3 ⟨rfl, h3, k3, be3⟩
      have hE3 := be3 _ _ _ (by decide) (by decide) (by decide) hE
      have q1 : w3.cell? ⟨q, 1, none⟩ = some (.int .i64 K) := cell_of hE3
      have s2 := worth_any base cb l1 0 K hwf w3 h3
      rw [g1] at s2
      simp only [wn, wd, Option.isSome_some] at s2
      rw [x1, x2] at s2
      go_wp2_with fail
      refine s2.mono ?_
      clear s2
      rintro e w4 ⟨rfl, k4⟩
      have hB4 : Below w.heap.size w w4 := (hBa.trans (k3.mono hb0)).trans (k4.mono (by have := hBa.size; have := k3.size; omega))
      have h4 := h3.below k4
      have hE4 := Beside.of_below k4 _ _ _ (by decide) (by decide) (by decide) hE3
      have k5 : Below w4.heap.size w4 (w4.alloc (.cells #[.int .u64 up, .int .u64 d] 34)) := (Below.refl _ _).alloc (Nat.le_refl _) _
      have hR5 : (w4.alloc (.cells #[.int .u64 up, .int .u64 d] 34)).heap[w4.heap.size]? = some (.cells #[.int .u64 up, .int .u64 d] 34 (0, 0)) := heap_alloc_new _ _
      obtain ⟨r1, hr1⟩ : ∃ r, w4.heap.size = r := ⟨_, rfl⟩
      obtain ⟨w5, hw5⟩ : ∃ w5, w4.alloc (.cells #[.int .u64 up, .int .u64 d] 34) = w5 := ⟨_, rfl⟩
      rw [hw5] at k5 hR5
      have h5 := h4.below k5
      have hE5 := Beside.of_below k5 _ _ _ (by decide) (by decide) (by decide) hE4
      have hB5 := hB4.trans (k5.mono hB4.size)
      rw [hr1] at hR5
      have q1 : w5.cell? ⟨q, 1, none⟩ = some (.int .i64 K) := cell_of hE5
      have s3 := cdrop_any lessC base cb l1 0 K hwf w5 h5
      rw [← get_isSome, g1] at s3
      have hLL0 : (drop lt l1 K).length = l1.length - 1 := by rw [drop_length, ← get_isSome, g1]; rfl
      have hpos1 : 0 < l1.length := by
        obtain ⟨j, hj⟩ := (get_eq_some G1.inj).1 g1
        have := (List.getElem?_eq_some_iff.1 hj).1; omega
      have hLL : l1.length ≤ i + 1 ∧ (drop lt l1 K).length + 1 = l1.length := by omega
      clear hLL0 hpos1
      have g2 : HeapPure.get (drop lt l1 K) K = none := by rw [drop_get ord_lt G1, if_pos rfl]
      have G2 := drop_good ord_lt G1 K
      have L2 := drop_len_le l1 K
      generalize drop lt l1 K = l2 at *
      clear h3 h4 k3 k4 k5 hE3 hE4 hB4 hBa
      go_wp2_with fail
      refine s3.mono ?_
      clear s3
      rintro e w6 ⟨rfl, h6, k6, be6⟩
      have hE6 := be6 _ _ _ (by decide) (by decide) (by decide) hE5
      have hR6 := be6 _ _ _ (by decide) (by decide) (by decide) hR5
      have hB6 := hB5.trans (k6.mono hb0)
      have q1 : w6.cell? ⟨q, 1, none⟩ = some (.int .i64 K) := cell_of hE6
      have s4 := worth_any base cb l2 0 K hwf w6 h6
      rw [g2] at s4
      simp only [Option.isSome_none] at s4
      generalize wn none = zn at s4
      generalize wd none = zd at s4
      clear h5 k6 be6 hE5 hR5 hB5
      go_wp2_with fail
      refine s4.mono ?_
      clear s4
      rintro e w7 ⟨rfl, k7⟩
      have k8 : Below w7.heap.size w7 (w7.alloc (.cells #[.int .u64 zn, .int .u64 zd] 34)) := (Below.refl _ _).alloc (Nat.le_refl _) _
      obtain ⟨w8, hw8⟩ : ∃ w8, w7.alloc (.cells #[.int .u64 zn, .int .u64 zd] 34) = w8 := ⟨_, rfl⟩
      rw [hw8] at k8
      have h8 := (h6.below k7).below k8
      have be8 := (Beside.of_below k7).trans (Beside.of_below k8)
      have hE8 := be8 _ _ _ (by decide) (by decide) (by decide) hE6
      have hR8 := be8 _ _ _ (by decide) (by decide) (by decide) hR6
      have hB7 := hB6.trans (k7.mono hB6.size)
      have hB8 := hB7.trans (k8.mono hB7.size)
      have q1 : w8.cell? ⟨q, 1, none⟩ = some (.int .i64 K) := cell_of hE8
      have s5 := hS l2 (by omega) w8 h8
      have g3 : HeapPure.get (setAt lt l2 K x) K = some x := by rw [setAt_get ord_lt G2, if_pos rfl]
      have G3 := setAt_good ord_lt G2 K x
      have L3 := setAt_len_le l2 K x
      have hlen3 : (setAt lt l2 K x).length ≤ l2.length + (if (idx l2 K).isSome then 0 else 1) := by rw [setAt_length]; split <;> omega
      generalize setAt lt l2 K x = l3 at *
      clear h6 k7 k8 be8 hE6 hR6 hB6 hB7
      go_wp2_with fail
      refine s5.mono ?_
      clear s5
      rintro e w9 ⟨rfl, h9, k9, be9⟩
      have hE9 := be9 _ _ _ (by decide) (by decide) (by decide) hE8
      have hR9 := be9 _ _ _ (by decide) (by decide) (by decide) hR8
      have hB9 := hB8.trans (k9.mono hb0)
      have q1 : w9.cell? ⟨q, 1, none⟩ = some (.int .i64 K) := cell_of hE9
      have s6 := worth_any base cb l3 0 K hwf w9 h9
      rw [g3] at s6
      simp only [wn, wd, Option.isSome_some] at s6
      rw [x1, x2] at s6
      clear k9 be9 hE8 hR8 hB8 h8
      go_wp2_with fail
      refine s6.mono ?_
      clear s6
      rintro e w10 ⟨rfl, k10⟩
      have k11 : Below w10.heap.size w10 (w10.alloc (.cells #[.int .u64 up, .int .u64 d] 34)) := (Below.refl _ _).alloc (Nat.le_refl _) _
      have hR11 : (w10.alloc (.cells #[.int .u64 up, .int .u64 d] 34)).heap[w10.heap.size]? = some (.cells #[.int .u64 up, .int .u64 d] 34 (0, 0)) := heap_alloc_new _ _
      obtain ⟨w11, hw11⟩ : ∃ w11, w10.alloc (.cells #[.int .u64 up, .int .u64 d] 34) = w11 := ⟨_, rfl⟩
      rw [hw11] at k11 hR11
      have h11 := (h9.below k10).below k11
      have be11 := (Beside.of_below k10).trans (Beside.of_below k11)
      have hS11 := be11 _ _ _ (by decide) (by decide) (by decide) hR9
      have hB10 := hB9.trans (k10.mono hB9.size)
      have hB11 := hB10.trans (k11.mono hB10.size)
      have d0 : w11.cell? ⟨r1, 0, none⟩ = some (.int .u64 up) := cell_of hS11
      have d1 : w11.cell? ⟨r1, 1, none⟩ = some (.int .u64 d) := cell_of hS11
      have d2 : w11.cell? ⟨w10.heap.size, 0, none⟩ = some (.int .u64 up) := cell_of hR11
      have d3 : w11.cell? ⟨w10.heap.size, 1, none⟩ = some (.int .u64 d) := cell_of hR11
      have hne := neq_rt up d
      have hgd := guard_rt
      have hl3 : l3.length ≤ i + 1 := by have := hLL; omega
      clear k10 k11 hR11 hS11 hR9 be11 hE9 hB9 hB10 h9
      go_wp2_with fail
      go_roundw
      case rel => exact ⟨i + 1, l3, rfl, by omega, G3, hl3, h11, hB11⟩
      case measure => simp [intOf]; omega
    · obtain rfl : i = n := by omega
      have s1 : Calls Try.prog 15 #[.pointer (some ⟨cb, 0, none⟩)] wr fun e w' => e = .returned (.int .u64 0) ∧ wr = w' := clock_any base cb l 0 wr h
      go_wp2_with fail
      refine s1.mono ?_
      rintro e w5 ⟨rfl, rfl⟩
      go_wp2_with fail
      go_ret
      exact ⟨rfl, hB⟩
end Go.Proofs.Ytamifcgljockaaa
