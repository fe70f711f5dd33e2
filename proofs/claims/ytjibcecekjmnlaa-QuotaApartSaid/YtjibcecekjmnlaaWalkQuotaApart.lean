/- What runs of one account makes no difference to another one: the walk. -/
import Derived.Test.YtjibcecekjmnlaaSolo
namespace Go.Proofs.Ytjibcecekjmnlaa
open Go.RowKit Go.Kpt
set_option linter.unusedVariables false
attribute [local go_sem] i64_and1

/-- Two functions, without reserved calls, of two accounts. -/
def duo (m n : Int) : Lg := ⟨put (put l0.ac 0 ⟨true, 5⟩) 1 ⟨true, 5⟩, put (put l0.fs 0 ⟨true, 0, 0, m⟩) 1 ⟨true, 1, 0, n⟩⟩
/-- The first of them alone. -/
def duo1 : Lg := ⟨put l0.ac 0 ⟨true, 5⟩, put l0.fs 0 ⟨true, 0, 0, 0⟩⟩
theorem duo1_good : Good duo1 := good_setF (good_setA good_l0 0 ⟨true, 5⟩ (by decide)) 0 ⟨true, 0, 0, 0⟩ (gf _ _ _ (by decide))
theorem duo_good {m n : Int} (h1 : 0 ≤ m) (h2 : m ≤ 5) (h3 : 0 ≤ n) (h4 : n ≤ 5) : Good (duo m n) := by
  have h5 : Good ⟨put (put l0.ac 0 ⟨true, 5⟩) 1 ⟨true, 5⟩, l0.fs⟩ := good_setA (good_setA good_l0 0 ⟨true, 5⟩ (by decide)) 1 ⟨true, 5⟩ (by decide)
  have h6 := good_setF h5 0 ⟨true, 0, 0, m⟩ ⟨(by decide : (0 : Nat) < 16), (by decide : (0 : Int) ≤ 0), (by decide : (0 : Int) ≤ 1000), h1, by show m ≤ 100000; omega⟩
  exact good_setF h6 1 ⟨true, 1, 0, n⟩ ⟨(by decide : (1 : Nat) < 16), (by decide : (0 : Int) ≤ 0), (by decide : (0 : Int) ≤ 1000), h3, by show n ≤ 100000; omega⟩
theorem duo_rs0 (m n : Int) : rs (duo m n).fs 0 64 = 0 := by rw [duo, rs_put, rs_put, rs_l0]; simp [cr, l0, put]
theorem duo_bs0 (m n : Int) : bs (duo m n).fs 0 64 = m := by rw [duo, bs_put, bs_put, bs_l0]; simp [cb, l0, put]
theorem duo_os0 (m n : Int) : os (duo m n).fs 0 64 = m := by rw [duo, os_put, os_put, os_l0]; simp [co, l0, put]
theorem duo_ask0 (m n : Int) : askR (duo m n) 0 = if 5 ≤ m then 2 else 0 := by
  have h0 : (duo m n).fs 0 = ⟨true, 0, 0, m⟩ := rfl
  have h1 : ((duo m n).ac 0).lim = 5 := rfl
  unfold askR
  rw [h0]
  dsimp only
  rw [h1, duo_bs0, duo_rs0, duo_os0, if_neg (by omega)]
  by_cases h : 5 ≤ m
  · rw [if_pos h, if_pos h]
  · rw [if_neg h, if_neg h, if_neg (by omega)]
theorem duo_rs1 (m n : Int) : rs (duo m n).fs 1 64 = 0 := by rw [duo, rs_put, rs_put, rs_l0]; simp [cr, l0, put]
theorem duo_bs1 (m n : Int) : bs (duo m n).fs 1 64 = n := by rw [duo, bs_put, bs_put, bs_l0]; simp [cb, l0, put]
theorem duo_os1 (m n : Int) : os (duo m n).fs 1 64 = n := by rw [duo, os_put, os_put, os_l0]; simp [co, l0, put]
theorem duo_ask1 (m n : Int) : askR (duo m n) 1 = if 5 ≤ n then 2 else 0 := by
  have h0 : (duo m n).fs 1 = ⟨true, 1, 0, n⟩ := rfl
  have h1 : ((duo m n).ac 1).lim = 5 := rfl
  unfold askR
  rw [h0]
  dsimp only
  rw [h1, duo_bs1, duo_rs1, duo_os1, if_neg (by omega)]
  by_cases h : 5 ≤ n
  · rw [if_pos h, if_pos h]
  · rw [if_neg h, if_neg h, if_neg (by omega)]
theorem duo_set0 (m n k : Int) : (duo m n).setF 0 ⟨true, 0, 0, k⟩ = duo k n := by
  simp only [Lg.setF, duo]
  congr 1
  funext j
  simp only [put]
  by_cases h : j = 0
  · subst h; simp
  · simp [h]
theorem duo_set1 (m n k : Int) : (duo m n).setF 1 ⟨true, 1, 0, k⟩ = duo m k := by simp only [Lg.setF, duo, put_put]
section
variable (b : Nat) (m n : Int) (h1 : 0 ≤ m) (h2 : m ≤ 5) (h3 : 0 ≤ n) (h4 : n ≤ 5) (w : World) (q : Lq w b (duo m n))
include h1 h2 h3 h4 q
theorem duo_begin0 (h : m < 5) : Calls Try.prog 12 #[.pointer (some ⟨b, 0, none⟩), .int .i64 0] w fun e w' => e = .returned (.bool true) ∧ Lq w' b (duo (m + 1) n) ∧ Kept (fun x => x = b) w w' := by
  have h := begin_t b (duo m n) (duo_good h1 h2 h3 h4) 0 (by omega) rfl (by rw [duo_ask0, if_neg (by omega)]) w q
  rw [show (duo m n).setF 0 { (duo m n).fs 0 with bu := ((duo m n).fs 0).bu + 1 } = duo (m + 1) n from duo_set0 m n (m + 1)] at h
  exact h
theorem duo_begin_f0 (h : ¬ m < 5) : Calls Try.prog 12 #[.pointer (some ⟨b, 0, none⟩), .int .i64 0] w fun e w' => e = .returned (.bool false) ∧ Lq w' b (duo m n) ∧ Kept (fun x => x = b) w w' :=
  (begin_f b (duo m n) (duo_good h1 h2 h3 h4) 0 (by omega) rfl (by rw [duo_ask0, if_pos (by omega)]; omega) w q).mono fun e w' ⟨h, k⟩ => ⟨h, q.below k, Kept.of_below k⟩
theorem duo_end0 (h : m ≠ 0) : Calls Try.prog 13 #[.pointer (some ⟨b, 0, none⟩), .int .i64 0] w fun e w' => e = .returned (.bool true) ∧ Lq w' b (duo (m - 1) n) ∧ Kept (fun x => x = b) w w' := by
  have h := end_t b (duo m n) 0 (by omega) ((duo_good h1 h2 h3 h4).1 0 (by omega)) rfl h w q
  rw [show (duo m n).setF 0 { (duo m n).fs 0 with bu := ((duo m n).fs 0).bu - 1 } = duo (m - 1) n from duo_set0 m n (m - 1)] at h
  exact h
theorem duo_begin1 (h : n < 5) : Calls Try.prog 12 #[.pointer (some ⟨b, 0, none⟩), .int .i64 1] w fun e w' => e = .returned (.bool true) ∧ Lq w' b (duo m (n + 1)) ∧ Kept (fun x => x = b) w w' := by
  have h := begin_t b (duo m n) (duo_good h1 h2 h3 h4) 1 (by omega) rfl (by rw [duo_ask1, if_neg (by omega)]) w q
  rw [show (duo m n).setF 1 { (duo m n).fs 1 with bu := ((duo m n).fs 1).bu + 1 } = duo m (n + 1) from duo_set1 m n (n + 1)] at h
  exact h
theorem duo_begin_f1 (h : ¬ n < 5) : Calls Try.prog 12 #[.pointer (some ⟨b, 0, none⟩), .int .i64 1] w fun e w' => e = .returned (.bool false) ∧ Lq w' b (duo m n) ∧ Kept (fun x => x = b) w w' :=
  (begin_f b (duo m n) (duo_good h1 h2 h3 h4) 1 (by omega) rfl (by rw [duo_ask1, if_pos (by omega)]; omega) w q).mono fun e w' ⟨h, k⟩ => ⟨h, q.below k, Kept.of_below k⟩
theorem duo_end1 (h : n ≠ 0) : Calls Try.prog 13 #[.pointer (some ⟨b, 0, none⟩), .int .i64 1] w fun e w' => e = .returned (.bool true) ∧ Lq w' b (duo m (n - 1)) ∧ Kept (fun x => x = b) w w' := by
  have h := end_t b (duo m n) 1 (by omega) ((duo_good h1 h2 h3 h4).1 1 (by omega)) rfl h w q
  rw [show (duo m n).setF 1 { (duo m n).fs 1 with bu := ((duo m n).fs 1).bu - 1 } = duo m (n - 1) from duo_set1 m n (n - 1)] at h
  exact h
end
theorem duo_end_f0 (b : Nat) (m n : Int) (w : World) (q : Lq w b (duo m n)) (h : m = 0) : Calls Try.prog 13 #[.pointer (some ⟨b, 0, none⟩), .int .i64 0] w fun e w' => e = .returned (.bool false) ∧ Lq w' b (duo m n) ∧ Kept (fun x => x = b) w w' :=
  (end_f b (duo m n) 0 (by omega) (.inr h) w q).mono fun e w' ⟨h, k⟩ => ⟨h, k ▸ q, k ▸ Kept.refl _ _⟩
theorem duo_busy0 (b : Nat) (m n : Int) (w : World) (q : Lq w b (duo m n)) : Calls Try.prog 14 #[.pointer (some ⟨b, 0, none⟩), .int .i64 0] w fun e w' => e = .returned (.int .i64 m) ∧ w = w' :=
  busy_any b (duo m n) 0 (by omega) (fun h => by cases h) w q
theorem duo_end_f1 (b : Nat) (m n : Int) (w : World) (q : Lq w b (duo m n)) (h : n = 0) : Calls Try.prog 13 #[.pointer (some ⟨b, 0, none⟩), .int .i64 1] w fun e w' => e = .returned (.bool false) ∧ Lq w' b (duo m n) ∧ Kept (fun x => x = b) w w' :=
  (end_f b (duo m n) 1 (by omega) (.inr h) w q).mono fun e w' ⟨h, k⟩ => ⟨h, k ▸ q, k ▸ Kept.refl _ _⟩
theorem duo_busy1 (b : Nat) (m n : Int) (w : World) (q : Lq w b (duo m n)) : Calls Try.prog 14 #[.pointer (some ⟨b, 0, none⟩), .int .i64 1] w fun e w' => e = .returned (.int .i64 n) ∧ w = w' :=
  busy_any b (duo m n) 1 (by omega) (fun h => by cases h) w q

theorem duo_a0 (b : Nat) (w : World) (q : Lq w b l0) : Calls Try.prog 10 #[.pointer (some ⟨b, 0, none⟩), .int .i64 0, .int .i64 5] w fun e w' => e = .returned (.int .i64 0) ∧ Lq w' b (l0.setA 0 ⟨true, 5⟩) ∧ Kept (fun x => x = b) w w' :=
  setA_t b l0 good_l0 0 (by omega) 5 (by omega) (by omega) (by decide +kernel) w q
theorem duo_f0 (b : Nat) (w : World) (q : Lq w b (l0.setA 0 ⟨true, 5⟩)) : Calls Try.prog 11 #[.pointer (some ⟨b, 0, none⟩), .int .i64 0, .int .i64 0, .int .i64 0] w fun e w' => e = .returned (.int .i64 0) ∧ Lq w' b duo1 ∧ Kept (fun x => x = b) w w' :=
  setF_t b (l0.setA 0 ⟨true, 5⟩) (good_setA good_l0 0 ⟨true, 5⟩ (by decide)) 0 0 (by omega) (by omega) 0 (by omega) (by omega) rfl (.inl rfl) (by decide +kernel) w q
theorem duo_a1 (b : Nat) (w : World) (q : Lq w b duo1) : Calls Try.prog 10 #[.pointer (some ⟨b, 0, none⟩), .int .i64 1, .int .i64 5] w fun e w' => e = .returned (.int .i64 0) ∧ Lq w' b (duo1.setA 1 ⟨true, 5⟩) ∧ Kept (fun x => x = b) w w' :=
  setA_t b duo1 duo1_good 1 (by omega) 5 (by omega) (by omega) (by decide +kernel) w q
theorem duo_f1 (b : Nat) (w : World) (q : Lq w b (duo1.setA 1 ⟨true, 5⟩)) : Calls Try.prog 11 #[.pointer (some ⟨b, 0, none⟩), .int .i64 1, .int .i64 1, .int .i64 0] w fun e w' => e = .returned (.int .i64 0) ∧ Lq w' b (duo 0 0) ∧ Kept (fun x => x = b) w w' :=
  setF_t b (duo1.setA 1 ⟨true, 5⟩) (good_setA duo1_good 1 ⟨true, 5⟩ (by decide)) 1 1 (by omega) (by omega) 0 (by omega) (by omega) rfl (.inl rfl) (by decide +kernel) w q

set_option maxRecDepth 100000 in
set_option maxHeartbeats 16000000 in
theorem quotaApart_walk (a0 : Option Addr) (cap0 : Nat) (z : List (Nat → Int)) (w : World) (w0 : IsStructs 4 w a0 z) :
    Calls Try.prog 6 #[.slice a0 z.length cap0] w fun e w' => e = .returned (.bool true) ∧ Below w.heap.size w w' := by
  go_enter Try.func6, Try.ntmps6
  go_wp2_with fail
  refine (head_any _).mono ?_
  rintro e v0 ⟨rfl, hB0⟩
  by_cases hlen : 100 < z.length
  · have g1 : (100 : Int) < (z.length : Int) := by omega
    go_wp2_with fail
    go_ret
    exact ⟨rfl, hB0⟩
  have g1 : ¬ (100 : Int) < (z.length : Int) := by omega
  go_wp2_with fail
  refine (new_any v0).mono ?_
  rintro e v1 ⟨rfl, hq1, hBn, hs1⟩
  have hB1 : Below w.heap.size w v1 := hB0.trans (hBn.mono hB0.size)
  obtain ⟨b, hb⟩ : ∃ b, v0.heap.size = b := ⟨_, rfl⟩
  have hbw : w.heap.size ≤ b := by have := hB0.size; omega
  rw [hb] at hq1 ⊢
  have hbl := hq1.lt
  clear hs1 hb hBn hB0
  go_wp2_with fail
  refine (new_any v1).mono ?_
  rintro e v2 ⟨rfl, hr2, hBn, hs1⟩
  have hB2 : Below w.heap.size w v2 := hB1.trans (hBn.mono hB1.size)
  have hq2 := hq1.below hBn
  obtain ⟨c, hcc⟩ : ∃ c, v1.heap.size = c := ⟨_, rfl⟩
  rw [hcc] at hr2 ⊢
  have hbc : b < c := by omega
  have hcw : w.heap.size ≤ c := by omega
  clear hs1 hcc hBn hB1 hq1 hbl
  go_wp2_with fail
  go_loopw [5] (fun x wr => Below w.heap.size w wr ∧ ((x = .int .i64 0 ∧ Lq wr b l0 ∧ Lq wr c l0) ∨ (x = .int .i64 1 ∧ Lq wr b duo1 ∧ Lq wr c duo1) ∨ (x = .int .i64 2 ∧ Lq wr b (duo 0 0) ∧ Lq wr c (duo 0 0)))) (fun x _ => 2 - (intOf x).toNat)
  case atStart => exact ⟨hB2, .inl ⟨rfl, hq2, hr2⟩⟩
  case round =>
    clear hq2 hr2 hB2
    obtain ⟨hB, h⟩ := hrel
    rcases h with ⟨rfl, hq, hr⟩ | ⟨rfl, hq, hr⟩ | ⟨rfl, hq, hr⟩
    · have c1 := duo_a0 b wr hq
      go_wp2_with fail
      refine c1.mono ?_
      rintro e u0 ⟨rfl, hn0, k1⟩
      have hB0 := hk_below hbw hB k1
      have ho0 := hr.kept k1 (by omega)
      clear c1 k1 hq hr hB
      have c1 := duo_a0 c u0 ho0
      go_wp2_with fail
      refine c1.mono ?_
      rintro e u1 ⟨rfl, hn1, k1⟩
      have hB1 := hk_below hcw hB0 k1
      have ho1 := hn0.kept k1 (by omega)
      clear c1 k1 hn0 ho0 hB0
      have c1 := duo_f0 b u1 ho1
      go_wp2_with fail
      refine c1.mono ?_
      rintro e u2 ⟨rfl, hn2, k1⟩
      have hB2 := hk_below hbw hB1 k1
      have ho2 := hn1.kept k1 (by omega)
      clear c1 k1 ho1 hn1 hB1
      have c1 := duo_f0 c u2 ho2
      go_wp2_with fail
      refine c1.mono ?_
      rintro e u3 ⟨rfl, hn3, k1⟩
      have hB3 := hk_below hcw hB2 k1
      have ho3 := hn2.kept k1 (by omega)
      clear c1 k1 hn2 ho2 hB2
      go_wp2_with fail
      go_roundw
      case rel => exact ⟨hB3, .inr (.inl ⟨rfl, ho3, hn3⟩)⟩
      case measure => simp [intOf]
    · have c1 := duo_a1 b wr hq
      go_wp2_with fail
      refine c1.mono ?_
      rintro e u0 ⟨rfl, hn0, k1⟩
      have hB0 := hk_below hbw hB k1
      have ho0 := hr.kept k1 (by omega)
      clear c1 k1 hq hr hB
      have c1 := duo_a1 c u0 ho0
      go_wp2_with fail
      refine c1.mono ?_
      rintro e u1 ⟨rfl, hn1, k1⟩
      have hB1 := hk_below hcw hB0 k1
      have ho1 := hn0.kept k1 (by omega)
      clear c1 k1 hn0 ho0 hB0
      have c1 := duo_f1 b u1 ho1
      go_wp2_with fail
      refine c1.mono ?_
      rintro e u2 ⟨rfl, hn2, k1⟩
      have hB2 := hk_below hbw hB1 k1
      have ho2 := hn1.kept k1 (by omega)
      clear c1 k1 ho1 hn1 hB1
      have c1 := duo_f1 c u2 ho2
      go_wp2_with fail
      refine c1.mono ?_
      rintro e u3 ⟨rfl, hn3, k1⟩
      have hB3 := hk_below hcw hB2 k1
      have ho3 := hn2.kept k1 (by omega)
      clear c1 k1 hn2 ho2 hB2
      go_wp2_with fail
      go_roundw
      case rel => exact ⟨hB3, .inr (.inr ⟨rfl, ho3, hn3⟩)⟩
      case measure => simp [intOf]
    · go_wp2_with fail
      go_loopw [37] (fun x wr => ∃ (i : Nat) (m n : Int), x = .int .i64 i ∧ i ≤ z.length ∧ 0 ≤ m ∧ m ≤ 5 ∧ 0 ≤ n ∧ n ≤ 5 ∧ Lq wr b (duo m n) ∧ Lq wr c (duo 0 n) ∧ Below w.heap.size w wr) (fun x _ => z.length - (intOf x).toNat)
      case atStart => exact ⟨0, 0, 0, rfl, by omega, by omega, by omega, by omega, by omega, hq, hr, hB⟩
      case round =>
        clear hq hr hB
        obtain ⟨i, m, n, rfl, hi, hm0, hm1, hn0, hn1, hq, hr, hB⟩ := hrel
        by_cases hlt : i < z.length
        · obtain ⟨ab, off, rfl, hc⟩ := w0.2.2 i hlt
          have j1 : (i : Int) < (z.length : Int) := by omega
          have c0 : wr.cell? ⟨ab, off + i * 4, none⟩ = _ := arg_cell hB (hc 0 (by omega))
          have c1 := arg_cell hB (hc 1 (by omega))
          have c2 := arg_cell hB (hc 2 (by omega))
          have c3 := arg_cell hB (hc 3 (by omega))
          clear hc
          generalize z.getD i (fun _ => 0) = f at *
          obtain ⟨x0, hx0⟩ : ∃ x, f 0 = x := ⟨_, rfl⟩
          obtain ⟨x1, hx1⟩ : ∃ x, f 1 = x := ⟨_, rfl⟩
          generalize f 2 = x2 at *
          generalize f 3 = x3 at *
          rw [hx0] at c0
          rw [hx1] at c1
          clear hx0 hx1
          have hblt := hq.lt
          have hclt := hr.lt
          obtain ⟨ob, hob⟩ : ∃ ob, wr.heap.size = ob := ⟨_, rfl⟩
          have hqA : Lq (wr.alloc (.cells #[.int .i64 x0, .int .i64 x1, .int .i64 x2, .int .i64 x3] 38)) b (duo m n) := hq.below ((Below.refl _ _).alloc (Nat.le_refl _) _)
          have hrA : Lq (wr.alloc (.cells #[.int .i64 x0, .int .i64 x1, .int .i64 x2, .int .i64 x3] 38)) c (duo 0 n) := hr.below ((Below.refl _ _).alloc (Nat.le_refl _) _)
          have hBA := hB.alloc hB.size (.cells #[.int .i64 x0, .int .i64 x1, .int .i64 x2, .int .i64 x3] 38)
          have hA : (wr.alloc (.cells #[.int .i64 x0, .int .i64 x1, .int .i64 x2, .int .i64 x3] 38)).heap[ob]? = some (.cells #[.int .i64 x0, .int .i64 x1, .int .i64 x2, .int .i64 x3] 38 (0, 0)) := by rw [← hob]; exact heap_alloc_new _ _
          have hways : (x1 % 2 = 0 ∧ x0 % 2 = 0 ∧ m < 5) ∨ (x1 % 2 = 0 ∧ x0 % 2 = 0 ∧ ¬ m < 5) ∨ (x1 % 2 = 0 ∧ x0 % 2 = 1 ∧ m ≠ 0) ∨ (x1 % 2 = 0 ∧ x0 % 2 = 1 ∧ m = 0) ∨ (x1 % 2 = 1 ∧ x0 % 2 = 0 ∧ n < 5) ∨ (x1 % 2 = 1 ∧ x0 % 2 = 0 ∧ ¬ n < 5) ∨ (x1 % 2 = 1 ∧ x0 % 2 = 1 ∧ n ≠ 0) ∨ (x1 % 2 = 1 ∧ x0 % 2 = 1 ∧ n = 0) := by omega
          rcases hways with ⟨p1, p0, h5⟩ | ⟨p1, p0, h5⟩ | ⟨p1, p0, h5⟩ | ⟨p1, p0, h5⟩ | ⟨p1, p0, h5⟩ | ⟨p1, p0, h5⟩ | ⟨p1, p0, h5⟩ | ⟨p1, p0, h5⟩
          · go_wp2_with fail
            obtain ⟨v0, hv0⟩ : ∃ v0, wr.alloc (.cells #[.int .i64 x0, .int .i64 x1, .int .i64 x2, .int .i64 x3] 38) = v0 := ⟨_, rfl⟩
            rw [hv0] at hqA hrA hBA hA ⊢
            have hne : ob ≠ b ∧ ob ≠ c := by omega
            clear hv0 hob hq hr hB c0 c1 c2 c3
            refine (duo_begin0 b m n (by omega) (by omega) hn0 hn1 v0 hqA (by omega)).mono ?_
            rintro e v1 ⟨rfl, hq1, k1⟩
            have hr1 := hrA.kept k1 (by omega)
            have hB1 := hk_below hbw hBA k1
            have hA1 := (k1.block ob (lt_of hA) hne.1).trans hA
            have e0 : v1.cell? ⟨ob, 0, none⟩ = some (.int .i64 x0) := cell_of hA1
            clear hqA hrA hBA hA k1
            go_wp2_with fail
            go_roundw
            case rel => exact ⟨i + 1, (m + 1), n, by go_num, by omega, by omega, by omega, by omega, by omega, hq1, hr1, hB1⟩
            case measure => simp [intOf]; omega
          · go_wp2_with fail
            obtain ⟨v0, hv0⟩ : ∃ v0, wr.alloc (.cells #[.int .i64 x0, .int .i64 x1, .int .i64 x2, .int .i64 x3] 38) = v0 := ⟨_, rfl⟩
            rw [hv0] at hqA hrA hBA hA ⊢
            have hne : ob ≠ b ∧ ob ≠ c := by omega
            clear hv0 hob hq hr hB c0 c1 c2 c3
            refine (duo_begin_f0 b m n (by omega) (by omega) hn0 hn1 v0 hqA (by omega)).mono ?_
            rintro e v1 ⟨rfl, hq1, k1⟩
            have hr1 := hrA.kept k1 (by omega)
            have hB1 := hk_below hbw hBA k1
            have hA1 := (k1.block ob (lt_of hA) hne.1).trans hA
            have e0 : v1.cell? ⟨ob, 0, none⟩ = some (.int .i64 x0) := cell_of hA1
            clear hqA hrA hBA hA k1
            go_wp2_with fail
            go_roundw
            case rel => exact ⟨i + 1, m, n, by go_num, by omega, by omega, by omega, by omega, by omega, hq1, hr1, hB1⟩
            case measure => simp [intOf]; omega
          · go_wp2_with fail
            obtain ⟨v0, hv0⟩ : ∃ v0, wr.alloc (.cells #[.int .i64 x0, .int .i64 x1, .int .i64 x2, .int .i64 x3] 38) = v0 := ⟨_, rfl⟩
            rw [hv0] at hqA hrA hBA hA ⊢
            have hne : ob ≠ b ∧ ob ≠ c := by omega
            clear hv0 hob hq hr hB c0 c1 c2 c3
            refine (duo_end0 b m n (by omega) (by omega) hn0 hn1 v0 hqA (by omega)).mono ?_
            rintro e v1 ⟨rfl, hq1, k1⟩
            have hr1 := hrA.kept k1 (by omega)
            have hB1 := hk_below hbw hBA k1
            have hA1 := (k1.block ob (lt_of hA) hne.1).trans hA
            have e0 : v1.cell? ⟨ob, 0, none⟩ = some (.int .i64 x0) := cell_of hA1
            clear hqA hrA hBA hA k1
            go_wp2_with fail
            go_roundw
            case rel => exact ⟨i + 1, (m - 1), n, by go_num, by omega, by omega, by omega, by omega, by omega, hq1, hr1, hB1⟩
            case measure => simp [intOf]; omega
          · go_wp2_with fail
            obtain ⟨v0, hv0⟩ : ∃ v0, wr.alloc (.cells #[.int .i64 x0, .int .i64 x1, .int .i64 x2, .int .i64 x3] 38) = v0 := ⟨_, rfl⟩
            rw [hv0] at hqA hrA hBA hA ⊢
            have hne : ob ≠ b ∧ ob ≠ c := by omega
            clear hv0 hob hq hr hB c0 c1 c2 c3
            refine (duo_end_f0 b m n v0 hqA h5).mono ?_
            rintro e v1 ⟨rfl, hq1, k1⟩
            have hr1 := hrA.kept k1 (by omega)
            have hB1 := hk_below hbw hBA k1
            have hA1 := (k1.block ob (lt_of hA) hne.1).trans hA
            have e0 : v1.cell? ⟨ob, 0, none⟩ = some (.int .i64 x0) := cell_of hA1
            clear hqA hrA hBA hA k1
            go_wp2_with fail
            go_roundw
            case rel => exact ⟨i + 1, m, n, by go_num, by omega, by omega, by omega, by omega, by omega, hq1, hr1, hB1⟩
            case measure => simp [intOf]; omega
          · go_wp2_with fail
            obtain ⟨v0, hv0⟩ : ∃ v0, wr.alloc (.cells #[.int .i64 x0, .int .i64 x1, .int .i64 x2, .int .i64 x3] 38) = v0 := ⟨_, rfl⟩
            rw [hv0] at hqA hrA hBA hA ⊢
            have hne : ob ≠ b ∧ ob ≠ c := by omega
            clear hv0 hob hq hr hB c0 c1 c2 c3
            refine (duo_begin1 b m n (by omega) (by omega) hn0 hn1 v0 hqA (by omega)).mono ?_
            rintro e v1 ⟨rfl, hq1, k1⟩
            have hr1 := hrA.kept k1 (by omega)
            have hB1 := hk_below hbw hBA k1
            have hA1 := (k1.block ob (lt_of hA) hne.1).trans hA
            have e0 : v1.cell? ⟨ob, 0, none⟩ = some (.int .i64 x0) := cell_of hA1
            clear hqA hrA hBA hA k1
            go_wp2_with fail
            refine (duo_begin1 c 0 n (by omega) (by omega) hn0 hn1 v1 hr1 (by omega)).mono ?_
            rintro e v2 ⟨rfl, hr2, k2⟩
            have hq2 := hq1.kept k2 (by omega)
            have hB2 := hk_below hcw hB1 k2
            clear e0
            have e0 : v2.cell? ⟨ob, 0, none⟩ = some (.int .i64 x0) := cell_of ((k2.block ob (lt_of hA1) hne.2).trans hA1)
            go_wp2_with fail
            go_roundw
            case rel => exact ⟨i + 1, m, (n + 1), by go_num, by omega, by omega, by omega, by omega, by omega, hq2, hr2, hB2⟩
            case measure => simp [intOf]; omega
          · go_wp2_with fail
            obtain ⟨v0, hv0⟩ : ∃ v0, wr.alloc (.cells #[.int .i64 x0, .int .i64 x1, .int .i64 x2, .int .i64 x3] 38) = v0 := ⟨_, rfl⟩
            rw [hv0] at hqA hrA hBA hA ⊢
            have hne : ob ≠ b ∧ ob ≠ c := by omega
            clear hv0 hob hq hr hB c0 c1 c2 c3
            refine (duo_begin_f1 b m n (by omega) (by omega) hn0 hn1 v0 hqA (by omega)).mono ?_
            rintro e v1 ⟨rfl, hq1, k1⟩
            have hr1 := hrA.kept k1 (by omega)
            have hB1 := hk_below hbw hBA k1
            have hA1 := (k1.block ob (lt_of hA) hne.1).trans hA
            have e0 : v1.cell? ⟨ob, 0, none⟩ = some (.int .i64 x0) := cell_of hA1
            clear hqA hrA hBA hA k1
            go_wp2_with fail
            refine (duo_begin_f1 c 0 n (by omega) (by omega) hn0 hn1 v1 hr1 (by omega)).mono ?_
            rintro e v2 ⟨rfl, hr2, k2⟩
            have hq2 := hq1.kept k2 (by omega)
            have hB2 := hk_below hcw hB1 k2
            clear e0
            have e0 : v2.cell? ⟨ob, 0, none⟩ = some (.int .i64 x0) := cell_of ((k2.block ob (lt_of hA1) hne.2).trans hA1)
            go_wp2_with fail
            go_roundw
            case rel => exact ⟨i + 1, m, n, by go_num, by omega, by omega, by omega, by omega, by omega, hq2, hr2, hB2⟩
            case measure => simp [intOf]; omega
          · go_wp2_with fail
            obtain ⟨v0, hv0⟩ : ∃ v0, wr.alloc (.cells #[.int .i64 x0, .int .i64 x1, .int .i64 x2, .int .i64 x3] 38) = v0 := ⟨_, rfl⟩
            rw [hv0] at hqA hrA hBA hA ⊢
            have hne : ob ≠ b ∧ ob ≠ c := by omega
            clear hv0 hob hq hr hB c0 c1 c2 c3
            refine (duo_end1 b m n (by omega) (by omega) hn0 hn1 v0 hqA (by omega)).mono ?_
            rintro e v1 ⟨rfl, hq1, k1⟩
            have hr1 := hrA.kept k1 (by omega)
            have hB1 := hk_below hbw hBA k1
            have hA1 := (k1.block ob (lt_of hA) hne.1).trans hA
            have e0 : v1.cell? ⟨ob, 0, none⟩ = some (.int .i64 x0) := cell_of hA1
            clear hqA hrA hBA hA k1
            go_wp2_with fail
            refine (duo_end1 c 0 n (by omega) (by omega) hn0 hn1 v1 hr1 (by omega)).mono ?_
            rintro e v2 ⟨rfl, hr2, k2⟩
            have hq2 := hq1.kept k2 (by omega)
            have hB2 := hk_below hcw hB1 k2
            clear e0
            have e0 : v2.cell? ⟨ob, 0, none⟩ = some (.int .i64 x0) := cell_of ((k2.block ob (lt_of hA1) hne.2).trans hA1)
            go_wp2_with fail
            go_roundw
            case rel => exact ⟨i + 1, m, (n - 1), by go_num, by omega, by omega, by omega, by omega, by omega, hq2, hr2, hB2⟩
            case measure => simp [intOf]; omega
          · go_wp2_with fail
            obtain ⟨v0, hv0⟩ : ∃ v0, wr.alloc (.cells #[.int .i64 x0, .int .i64 x1, .int .i64 x2, .int .i64 x3] 38) = v0 := ⟨_, rfl⟩
            rw [hv0] at hqA hrA hBA hA ⊢
            have hne : ob ≠ b ∧ ob ≠ c := by omega
            clear hv0 hob hq hr hB c0 c1 c2 c3
            refine (duo_end_f1 b m n v0 hqA h5).mono ?_
            rintro e v1 ⟨rfl, hq1, k1⟩
            have hr1 := hrA.kept k1 (by omega)
            have hB1 := hk_below hbw hBA k1
            have hA1 := (k1.block ob (lt_of hA) hne.1).trans hA
            have e0 : v1.cell? ⟨ob, 0, none⟩ = some (.int .i64 x0) := cell_of hA1
            clear hqA hrA hBA hA k1
            go_wp2_with fail
            refine (duo_end_f1 c 0 n v1 hr1 h5).mono ?_
            rintro e v2 ⟨rfl, hr2, k2⟩
            have hq2 := hq1.kept k2 (by omega)
            have hB2 := hk_below hcw hB1 k2
            clear e0
            have e0 : v2.cell? ⟨ob, 0, none⟩ = some (.int .i64 x0) := cell_of ((k2.block ob (lt_of hA1) hne.2).trans hA1)
            go_wp2_with fail
            go_roundw
            case rel => exact ⟨i + 1, m, n, by go_num, by omega, by omega, by omega, by omega, by omega, hq2, hr2, hB2⟩
            case measure => simp [intOf]; omega
        · obtain rfl : i = z.length := by omega
          have c1 := duo_busy1 b m n wr hq
          have c2 := duo_busy1 c 0 n wr hr
          have c3 := duo_busy0 c 0 n wr hr
          go_wp2_with fail
          refine c1.mono ?_
          rintro e v1 ⟨rfl, rfl⟩
          go_wp2_with fail
          refine c2.mono ?_
          rintro e v1 ⟨rfl, rfl⟩
          go_wp2_with fail
          refine c3.mono ?_
          rintro e v1 ⟨rfl, rfl⟩
          go_wp2_with fail
          go_ret
          exact ⟨rfl, hB⟩
end Go.Proofs.Ytjibcecekjmnlaa
