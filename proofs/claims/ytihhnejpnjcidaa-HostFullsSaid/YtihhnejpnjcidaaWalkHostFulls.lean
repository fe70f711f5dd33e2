/- What is taken of a host is never more than it has: the walk. -/
import Derived.Test.YtihhnejpnjcidaaHead
import Derived.Test.YtihhnejpnjcidaaOwn
import Derived.Test.YtihhnejpnjcidaaSpread
namespace Go.Proofs.Ytihhnejpnjcidaa
open Go.RowKit Go.Kpt
set_option linter.unusedVariables false
attribute [local go_sem] i64_and4095 i64_and255

theorem Try.info3 : (Try.prog.info? 3).map (fun i => (i.zero, i.size, i.bytes)) = some (some (.int .i64 0), 1, 8) := by kernel_rfl

/-- One host alone, of which so much is taken. -/
def one (S s : Int) : Nat → Ma := put z0 7 ⟨true, false, S, s⟩
theorem one_at (S s : Int) : one S s 7 = ⟨true, false, S, s⟩ := rfl
theorem one_put (S s t : Int) : put (one S s) 7 ⟨true, false, S, t⟩ = one S t := put_put _ _ _ _

theorem sum_nonneg : ∀ L : List Int, (∀ m ∈ L, 0 ≤ m) → 0 ≤ L.sum := by
  intro L
  induction L with
  | nil => intro _; simp
  | cons a l ih =>
    intro h
    have h1 := h a (by simp)
    have h2 := ih fun m hm => h m (by simp [hm])
    simp only [List.sum_cons]; omega
theorem sum_snoc (L : List Int) (a : Int) : (L ++ [a]).sum = L.sum + a := by simp
theorem sum_drop (L : List Int) (j : Nat) (hj : j < L.length) : (L.drop j).sum = L.getD j 0 + (L.drop (j + 1)).sum := by
  rw [List.drop_eq_getElem_cons hj, List.sum_cons]
  simp [List.getD_eq_getElem?_getD, hj]

theorem take_t (b : Nat) (S s M : Int) (h0 : 0 ≤ s) (h1 : s ≤ S) (h2 : S ≤ 4096) (hM : 0 ≤ M) (hle : M ≤ S - s) (w : World) (q : Hq w b (one S s)) :
    Calls Try.prog 9 #[.pointer (some ⟨b, 0, none⟩), .int .i64 7, .int .i64 M] w fun e w' => e = .returned (.bool true) ∧ Hq w' b (one S (s + M)) ∧ Kept (fun x => x = b) w w' := by
  have h := take_any b (one S s) 7 (by omega) ⟨h0, h1, h2⟩ M hM w q
  have hm : mayTake (one S s 7) M = true := by show (true && !false && decide (M ≤ S - s)) = true; simp; omega
  have ht : took (one S s 7) M = ⟨true, false, S, s + M⟩ := by unfold took; rw [hm]; rfl
  rw [ht, hm, one_put] at h
  exact h
theorem take_f (b : Nat) (S s M : Int) (h0 : 0 ≤ s) (h1 : s ≤ S) (h2 : S ≤ 4096) (hM : 0 ≤ M) (hle : ¬ M ≤ S - s) (w : World) (q : Hq w b (one S s)) :
    Calls Try.prog 9 #[.pointer (some ⟨b, 0, none⟩), .int .i64 7, .int .i64 M] w fun e w' => e = .returned (.bool false) ∧ Hq w' b (one S s) ∧ Kept (fun x => x = b) w w' := by
  have h := take_any b (one S s) 7 (by omega) ⟨h0, h1, h2⟩ M hM w q
  have hm : mayTake (one S s 7) M = false := by show (true && !false && decide (M ≤ S - s)) = false; simp; omega
  have ht : took (one S s 7) M = ⟨true, false, S, s⟩ := by unfold took; rw [hm]; rfl
  rw [ht, hm, one_put] at h
  exact h
theorem give_t (b : Nat) (S s M : Int) (h0 : 0 ≤ s) (h1 : s ≤ S) (h2 : S ≤ 4096) (hM : 0 ≤ M) (hle : M ≤ s) (w : World) (q : Hq w b (one S s)) :
    Calls Try.prog 11 #[.pointer (some ⟨b, 0, none⟩), .int .i64 7, .int .i64 M] w fun e w' => e = .returned (.bool true) ∧ Hq w' b (one S (s - M)) ∧ Kept (fun x => x = b) w w' := by
  have h := give_any b (one S s) 7 (by omega) ⟨h0, h1, h2⟩ M hM w q
  have hm : mayGive (one S s 7) M = true := by show (true && decide (M ≤ s)) = true; simp; omega
  have ht : gave (one S s 7) M = ⟨true, false, S, s - M⟩ := by unfold gave; rw [hm]; rfl
  rw [ht, hm, one_put] at h
  exact h
theorem give_f (b : Nat) (S s M : Int) (h0 : 0 ≤ s) (h1 : s ≤ S) (h2 : S ≤ 4096) (hM : 0 ≤ M) (hle : ¬ M ≤ s) (w : World) (q : Hq w b (one S s)) :
    Calls Try.prog 11 #[.pointer (some ⟨b, 0, none⟩), .int .i64 7, .int .i64 M] w fun e w' => e = .returned (.bool false) ∧ Hq w' b (one S s) ∧ Kept (fun x => x = b) w w' := by
  have h := give_any b (one S s) 7 (by omega) ⟨h0, h1, h2⟩ M hM w q
  have hm : mayGive (one S s 7) M = false := by show (true && decide (M ≤ s)) = false; simp; omega
  have ht : gave (one S s 7) M = ⟨true, false, S, s⟩ := by unfold gave; rw [hm]; rfl
  rw [ht, hm, one_put] at h
  exact h
theorem free_one (b : Nat) (S s : Int) (h0 : 0 ≤ s) (h1 : s ≤ S) (h2 : S ≤ 4096) (w : World) (q : Hq w b (one S s)) :
    Calls Try.prog 10 #[.pointer (some ⟨b, 0, none⟩), .int .i64 7] w fun e w' => e = .returned (.int .i64 (S - s)) ∧ ∃ m, w' = w.drewN m :=
  free_any b (one S s) 7 (by omega) ⟨h0, h1, h2⟩ w q
theorem up_one (b : Nat) (S s : Int) (w : World) (q : Hq w b (one S s)) :
    Calls Try.prog 12 #[.pointer (some ⟨b, 0, none⟩), .int .i64 7] w fun e w' => e = .returned (.bool true) ∧ w = w' :=
  up_any b (one S s) 7 (by omega) w q
theorem add_one' (b : Nat) (S : Int) (h1 : 1 ≤ S) (h2 : S ≤ 4096) (w : World) (q : Hq w b z0) :
    Calls Try.prog 8 #[.pointer (some ⟨b, 0, none⟩), .int .i64 7, .int .i64 S] w fun e w' => e = .returned (.int .i64 0) ∧ Hq w' b (one S 0) ∧ Kept (fun x => x = b) w w' :=
  add_any b z0 7 (by omega) S h1 h2 rfl w q
theorem hk_below {w u u' : World} {b : Nat} (hbw : w.heap.size ≤ b) (hB : Below w.heap.size w u) (k : Kept (fun x => x = b) u u') : Below w.heap.size w u' := hB.trans (k.below hB.size (fun x hx h => by omega))

set_option maxRecDepth 100000 in
set_option maxHeartbeats 8000000 in
theorem hostFulls_walk (size : Int) (a1 : Option Addr) (cap1 : Nat) (z : List Int) (w : World) (_ : (Lit.int .i64 size).wf = true) (w1 : IsInts .i64 w a1 z) :
    Calls Try.prog 3 #[.int .i64 size, .slice a1 z.length cap1] w fun e w' => e = .returned (.bool true) ∧ Below w.heap.size w w' := by
  obtain ⟨i0, hi, hz0, hz1, hz2⟩ := info_parts Try.info3
  have ha : 0 ≤ size % 4096 ∧ size % 4096 < 4096 := ⟨by omega, by omega⟩
  obtain ⟨S0, hS⟩ : ∃ S0, size % 4096 = S0 := ⟨_, rfl⟩
  rw [hS] at ha
  go_enter Try.func3, Try.ntmps3
  go_wp2_with fail
  refine (head_any _).mono ?_
  rintro e v0 ⟨rfl, hB0⟩
  by_cases hlen : 100 < z.length
  · have g1 : (100 : Int) < (z.length : Int) := by omega
    go_wp2_with fail
    go_ret
    exact ⟨rfl, hB0⟩
  have g1 : ¬ (100 : Int) < (z.length : Int) := by omega
  go_wp2_with fail
  obtain ⟨S, hS'⟩ : ∃ S, 1 + S0 = S := ⟨_, rfl⟩
  rw [hS']
  have hS1 : 1 ≤ S ∧ S ≤ 4096 := by omega
  clear hS hS' ha
  obtain ⟨hSa, hSb⟩ := hS1
  refine (new_any v0).mono ?_
  rintro e v1 ⟨rfl, hq1, hBn, hs1⟩
  have hB1 : Below w.heap.size w v1 := hB0.trans (hBn.mono hB0.size)
  obtain ⟨b, hb⟩ : ∃ b, v0.heap.size = b := ⟨_, rfl⟩
  have hbw : w.heap.size ≤ b := by have := hB0.size; omega
  rw [hb] at hq1 ⊢
  clear hs1 hb hBn hB0
  have c1 := add_one' b S hSa hSb v1 hq1
  go_wp2_with fail
  refine c1.mono ?_
  rintro e v2 ⟨rfl, hq2, hk2⟩
  have hB2 := hk_below hbw hB1 hk2
  have hbl : b + 1 ≤ v2.heap.size := hq2.lt
  have hB3 := hB2.alloc hB2.size (.cells #[] 3)
  have hq3 : Hq (v2.alloc (.cells #[] 3)) b (one S 0) := hq2.below ((Below.refl _ _).alloc (Nat.le_refl _) _)
  have ho3 := OwnI.empty v2 (b + 1) 3 .i64 hbl
  clear c1 hq1 hB1 hk2 hq2 hB2
  go_wp2_with fail
  go_loopw [28, 6, 7] (fun x t y wr => ∃ (i : Nat) (T : List Int), x = .int .i64 i ∧ i ≤ z.length ∧ y = .int .i64 T.sum ∧ OwnI wr (b + 1) 3 .i64 t T ∧ T.length ≤ i ∧ (∀ m ∈ T, 0 ≤ m) ∧ T.sum ≤ S ∧ Hq wr b (one S T.sum) ∧ Below w.heap.size w wr) (fun x _ _ _ => z.length - (intOf x).toNat)
  case atStart => exact ⟨0, [], rfl, by omega, rfl, ho3, Nat.le_refl _, fun m hm => by simp at hm, by simp; omega, hq3, hB3⟩
  case round =>
    clear hq3 ho3 hB3 hbl
    obtain ⟨i, T, rfl, hi', rfl, hown, hTl, hT0, hTS, hq, hB⟩ := hrel
    have hs0 := sum_nonneg T hT0
    have hblr : b + 1 ≤ wr.heap.size := hq.lt
    by_cases hlt : i < z.length
    · obtain ⟨c, off, rfl, hcell⟩ := w1.2.2 i hlt
      have hcell := arg_cell hB hcell
      have j1 : (i : Int) < (z.length : Int) := by omega
      obtain ⟨n, hn⟩ : ∃ n, z.getD i 0 = n := ⟨_, rfl⟩
      rw [hn] at hcell
      obtain ⟨M, hM⟩ : ∃ M, n % 256 = M := ⟨_, rfl⟩
      have hM0 : 0 ≤ M ∧ M < 256 := by omega
      obtain ⟨hMa, hMb⟩ := hM0
      have hsn := sum_snoc T M
      have hT1 : ∀ m ∈ T ++ [M], 0 ≤ m := fun m hm => by rcases List.mem_append.1 hm with h | h; exact hT0 m h; simp at h; omega
      obtain ⟨s, hs⟩ : ∃ s, T.sum = s := ⟨_, rfl⟩
      rw [hs] at hs0 hTS hq hsn ⊢
      by_cases hle : M ≤ S - s
      · have c2 := take_t b S s M hs0 hTS hSb hMa hle wr hq
        obtain ⟨s', hs'⟩ : ∃ s', s + M = s' := ⟨_, rfl⟩
        have c3 := fun W (h : Hq W b (one S s')) => free_one b S s' (by omega) (by omega) hSb W h
        rw [hs'] at c2 hsn
        have j2 : ¬ S < s' := by omega
        have hs2 : 0 ≤ s' ∧ s' ≤ S := by omega
        clear hs hn hT0
        go_wp2_with fail
        refine c2.mono ?_
        rintro e v3 ⟨rfl, hq3, hk3⟩
        have hB3 := hk_below hbw hB hk3
        have hown3 : OwnI v3 (b + 1) 3 .i64 _ T := hown.kept hk3 (fun g hg h => by have := (hown.lt g hg).1; omega)
        have hbl3 : b + 1 ≤ v3.heap.size := hq3.lt
        clear c2 hq hk3 hB hown hblr hcell
        go_wp2_with (at_builtin; refine wpList_append_ints rfl _ _ _ rfl (b + 1) 3 .i64 i0 (.int .i64 0) 8 Try.underlying22 hi hz0 hz1 hz2 rfl _ _ rfl (hown3.alloc _) (some ⟨v3.heap.size, 0, none⟩) 1 [M] _ rfl (Sl.one _ _ _ _) (by unfold maxLen; simp; omega) (by simp; omega) (by simp; omega) ?_; intro v4 w4 hown4 hgrow hloc)
        have hq4 : Hq w4 b (one S s') := (hq3.below ((Below.refl _ _).alloc (Nat.le_refl _) _)).kept (Kept.of_grown hgrow) (fun h => by have := (hown3.lt b h.symm).1; omega)
        have hB4 : Below w.heap.size w w4 := (hB3.alloc hB3.size _).trans ((Kept.of_grown hgrow).below (by have := hB3.size; simp; omega) (fun x hx h => by have := (hown3.lt x h.symm).1; omega))
        clear hgrow hloc hown3 hq3 hB3
        go_wp2_with fail
        refine (c3 _ hq4).mono ?_
        rintro e v5 ⟨rfl, m5, rfl⟩
        go_wp2_with fail
        go_roundw
        case rel => exact ⟨i + 1, T ++ [M], by go_num, by omega, by rw [hsn], hown4.kept ((Kept.refl (fun _ => False) _).drewN m5) (fun _ _ h => h), by simp; omega, hT1, by rw [hsn]; omega, by rw [hsn]; exact hq4.below (below_drewN (Below.refl _ _) m5), below_drewN hB4 m5⟩
        case measure => simp [intOf]; omega
      · have c2 := take_f b S s M hs0 hTS hSb hMa hle wr hq
        have c3 := fun W (h : Hq W b (one S s)) => free_one b S s (by omega) (by omega) hSb W h
        have j2 : ¬ S < s := by omega
        have j3 : ¬ s + M ≤ S := by omega
        clear hn
        go_wp2_with fail
        refine c2.mono ?_
        rintro e v3 ⟨rfl, hq3, hk3⟩
        have hB3 := hk_below hbw hB hk3
        have hown3 : OwnI v3 (b + 1) 3 .i64 _ T := hown.kept hk3 (fun g hg h => by have := (hown.lt g hg).1; omega)
        clear c2 hq hk3 hB hown hblr hcell
        go_wp2_with fail
        refine (c3 _ hq3).mono ?_
        rintro e v5 ⟨rfl, m5, rfl⟩
        go_wp2_with fail
        go_roundw
        case rel => exact ⟨i + 1, T, by go_num, by omega, by rw [hs], hown3.kept ((Kept.refl (fun _ => False) _).drewN m5) (fun _ _ h => h), by omega, hT0, by omega, by rw [hs]; exact hq3.below (below_drewN (Below.refl _ _) m5), below_drewN hB3 m5⟩
        case measure => simp [intOf]; omega
    · obtain rfl : i = z.length := by omega
      obtain ⟨ta, tc, rfl, -, -, hsl⟩ := hown.sl
      have hlT : T.length ≤ 100 := by omega
      have hsl : Sl .i64 wr (fun x => b + 1 ≤ x) ta T := hsl.mono fun x h => h.1
      clear hown
      go_wp2_with fail
      go_loopw [63] (fun x wr => ∃ (j : Nat), x = .int .i64 j ∧ j ≤ T.length ∧ Sl .i64 wr (fun x => b + 1 ≤ x) ta T ∧ Hq wr b (one S (T.drop j).sum) ∧ (T.drop j).sum ≤ S ∧ Below w.heap.size w wr) (fun x _ => T.length - (intOf x).toNat)
      case atStart => exact ⟨0, rfl, by omega, hsl, hq, hTS, hB⟩
      case round =>
        clear hsl hq hB
        obtain ⟨j, rfl, hj, hsl, hq, hdS, hB⟩ := hrel
        have hd0 := sum_nonneg (T.drop j) (fun m hm => hT0 m (List.mem_of_mem_drop hm))
        by_cases hjl : j < T.length
        · have k1 : (j : Int) < (T.length : Int) := by omega
          obtain ⟨g, off, rfl, hg, hc⟩ := hsl j hjl
          have hd1 := sum_nonneg (T.drop (j + 1)) (fun m hm => hT0 m (List.mem_of_mem_drop hm))
          have hsd := sum_drop T j hjl
          have hM0 : 0 ≤ T.getD j 0 := hT0 _ (by simp [List.getD_eq_getElem?_getD, hjl])
          obtain ⟨M, hM⟩ : ∃ M, T.getD j 0 = M := ⟨_, rfl⟩
          obtain ⟨s, hs⟩ : ∃ s, (T.drop j).sum = s := ⟨_, rfl⟩
          rw [hM] at hc hsd hM0
          rw [hs] at hq hdS hsd hd0
          have c2 := give_t b S s M hd0 hdS hSb hM0 (by omega) wr hq
          have e1 : s - M = (T.drop (j + 1)).sum := by omega
          rw [e1] at c2
          have hdS' : (T.drop (j + 1)).sum ≤ S := by omega
          clear hM hs hsd e1
          go_wp2_with fail
          refine c2.mono ?_
          rintro e v3 ⟨rfl, hq3, hk3⟩
          have hB3 := hk_below hbw hB hk3
          have hsl3 := hsl.kept hk3 (fun x hx h => by omega)
          clear c2 hq hk3 hB hsl hc
          go_wp2_with fail
          go_roundw
          case rel => exact ⟨j + 1, by go_num, by omega, hsl3, hq3, hdS', hB3⟩
          case measure => simp [intOf]; omega
        · obtain rfl : j = T.length := by omega
          rw [List.drop_length, List.sum_nil] at hq
          have c2 := free_one b S 0 (by omega) (by omega) hSb wr hq
          rw [Int.sub_zero] at c2
          go_wp2_with fail
          refine c2.mono ?_
          rintro e v3 ⟨rfl, m, rfl⟩
          have hq3 := hq.below (below_drewN (Below.refl _ _) m)
          have hB3 := below_drewN hB m
          clear c2 hq hB hsl
          generalize wr.drewN m = v3 at *
          have c3 := give_f b S 0 1 (by omega) (by omega) hSb (by omega) (by omega) v3 hq3
          go_wp2_with fail
          refine c3.mono ?_
          rintro e v4 ⟨rfl, hq4, hk4⟩
          have c4 := up_one b S 0 v4 hq4
          have hB4 := hk_below hbw hB3 hk4
          clear c3
          go_wp2_with fail
          refine c4.mono ?_
          rintro e v5 ⟨rfl, rfl⟩
          go_wp2_with fail
          go_ret
          exact ⟨rfl, hB4⟩
end Go.Proofs.Ytihhnejpnjcidaa
