/- So much memory goes to the host on which least is left then: the walk. -/
import Derived.Test.YtihhnejpnjcidaaHead
namespace Go.Proofs.Ytihhnejpnjcidaa
open Go.RowKit Go.Kpt
set_option linter.unusedVariables false
attribute [local go_sem] i64_and4095

theorem took_th (m : Ma) (n : Int) : (took m n).th = m.th := by unfold took; split <;> rfl
theorem took_dr (m : Ma) (n : Int) : (took m n).dr = m.dr := by unfold took; split <;> rfl
theorem took_good {m : Ma} {n : Int} (hn : 0 ≤ n) (h : good m) : good (took m n) := by
  obtain ⟨h1, h2, h3⟩ := h
  unfold took
  split
  · rename_i hm
    simp [mayTake] at hm
    refine ⟨?_, ?_, h3⟩ <;> dsimp only <;> omega
  · exact ⟨h1, h2, h3⟩
theorem hk_below {w u u' : World} {b : Nat} (hbw : w.heap.size ≤ b) (hB : Below w.heap.size w u) (k : Kept (fun x => x = b) u u') : Below w.heap.size w u' := hB.trans (k.below hB.size (fun x hx h => by omega))

/-- The first i hosts are there, the rest not. -/
def Upto (f : Nat → Ma) (i : Nat) : Prop := (∀ h, h < 32 → good (f h)) ∧ (∀ h, h < i → (f h).th = true ∧ (f h).dr = false) ∧ ∀ h, i ≤ h → (f h).th = false
theorem upto_add {f : Nat → Ma} {i : Nat} (u : Upto f i) (m : Ma) (ht : m.th = true) (hd : m.dr = false) (hg : good m) : Upto (put f i m) (i + 1) := by
  refine ⟨fun h hh => ?_, fun h hh => ?_, fun h hh => ?_⟩
  · by_cases e : h = i
    · subst e; rw [put_same]; exact hg
    · rw [put_ne _ _ _ _ e]; exact u.1 h hh
  · by_cases e : h = i
    · subst e; rw [put_same]; exact ⟨ht, hd⟩
    · rw [put_ne _ _ _ _ e]; exact u.2.1 h (by omega)
  · rw [put_ne _ _ _ _ (by omega)]; exact u.2.2 h (by omega)

set_option maxRecDepth 100000 in
set_option maxHeartbeats 8000000 in
theorem hostTight_walk (a0 : Option Addr) (cap0 : Nat) (z0' : List Int) (a1 : Option Addr) (cap1 : Nat) (z1 : List Int) (mem : Int) (w : World) (w0 : IsInts .i64 w a0 z0') (w1 : IsInts .i64 w a1 z1) (_ : (Lit.int .i64 mem).wf = true) :
    Calls Try.prog 4 #[.slice a0 z0'.length cap0, .slice a1 z1.length cap1, .int .i64 mem] w fun e w' => e = .returned (.bool true) ∧ Below w.heap.size w w' := by
  have ha : 0 ≤ mem % 4096 ∧ mem % 4096 < 4096 := ⟨by omega, by omega⟩
  obtain ⟨M, hM⟩ : ∃ M, mem % 4096 = M := ⟨_, rfl⟩
  rw [hM] at ha
  obtain ⟨hM0, hM1⟩ := ha
  go_enter Try.func4, Try.ntmps4
  go_wp2_with fail
  refine (head_any _).mono ?_
  rintro e v0 ⟨rfl, hB0⟩
  by_cases hlen : 32 < z0'.length
  · have g1 : (32 : Int) < (z0'.length : Int) := by omega
    go_wp2_with fail
    go_ret
    exact ⟨rfl, hB0⟩
  have g1 : ¬ (32 : Int) < (z0'.length : Int) := by omega
  by_cases hlen1 : 32 < z1.length
  · have g1 : (32 : Int) < (z1.length : Int) := by omega
    go_wp2_with fail
    go_ret
    exact ⟨rfl, hB0⟩
  have g2 : ¬ (32 : Int) < (z1.length : Int) := by omega
  go_wp2_with fail
  refine (new_any v0).mono ?_
  rintro e v1 ⟨rfl, hq1, hBn, hs1⟩
  have hB1 : Below w.heap.size w v1 := hB0.trans (hBn.mono hB0.size)
  obtain ⟨b, hb⟩ : ∃ b, v0.heap.size = b := ⟨_, rfl⟩
  have hbw : w.heap.size ≤ b := by have := hB0.size; omega
  rw [hb] at hq1 ⊢
  clear hs1 hb hBn hB0
  go_wp2_with fail
  go_loopw [27] (fun x wr => ∃ (i : Nat) (f : Nat → Ma), x = .int .i64 i ∧ i ≤ z0'.length ∧ Upto f i ∧ Hq wr b f ∧ Below w.heap.size w wr) (fun x _ => z0'.length - (intOf x).toNat)
  case atStart => exact ⟨0, z0, rfl, by omega, ⟨fun _ _ => ⟨Int.le_refl 0, Int.le_refl 0, (by decide : (0 : Int) ≤ 4096)⟩, fun h hh => by omega, fun h hh => rfl⟩, hq1, hB1⟩
  case round =>
    clear hq1 hB1
    obtain ⟨i, f, rfl, hi, hu, hqr, hBr⟩ := hrel
    by_cases hlt : i < z0'.length
    · obtain ⟨c, off, rfl, hcell⟩ := w0.2.2 i hlt
      have hcell := arg_cell hBr hcell
      have j1 : (i : Int) < (z0'.length : Int) := by omega
      obtain ⟨n, hn⟩ : ∃ n, z0'.getD i 0 = n := ⟨_, rfl⟩
      rw [hn] at hcell
      obtain ⟨N, hN⟩ : ∃ N, n % 4096 = N := ⟨_, rfl⟩
      have hN0 : 0 ≤ N ∧ N < 4096 := by omega
      obtain ⟨hNa, hNb⟩ := hN0
      have hfi := hu.2.2 i (Nat.le_refl _)
      have hg1 : good ⟨true, false, 1 + N, 0⟩ := ⟨Int.le_refl 0, by show (0 : Int) ≤ 1 + N; omega, by show (1 + N : Int) ≤ 4096; omega⟩
      have c2 := add_any b f i (by omega) (1 + N) (by omega) (by omega) hfi wr hqr
      clear hn
      by_cases hl1 : i < z1.length
      · obtain ⟨c', off', rfl, hcell1⟩ := w1.2.2 i hl1
        have j2 : (i : Int) < (z1.length : Int) := by omega
        obtain ⟨k, hk⟩ : ∃ k, z1.getD i 0 = k := ⟨_, rfl⟩
        rw [hk] at hcell1
        obtain ⟨K, hK⟩ : ∃ K, k % 4096 = K := ⟨_, rfl⟩
        have hK0 : 0 ≤ K := by omega
        clear hk
        go_wp2_with fail
        refine c2.mono ?_
        rintro e v3 ⟨rfl, hq3, hk3⟩
        have hB3 := hk_below hbw hBr hk3
        have hcell1 := arg_cell hB3 hcell1
        have c3 := take_any b _ i (by omega) (by rw [put_same]; exact hg1) K hK0 v3 hq3
        rw [put_same, put_put] at c3
        have hu2 := upto_add hu (took ⟨true, false, 1 + N, 0⟩ K) (took_th _ _) (took_dr _ _) (took_good hK0 hg1)
        generalize mayTake ⟨true, false, 1 + N, 0⟩ K = tk at *
        clear c2 hqr hk3 hBr hcell hq3
        go_wp2_with fail
        refine c3.mono ?_
        rintro e v4 ⟨rfl, hq4, hk4⟩
        have hB4 := hk_below hbw hB3 hk4
        clear c3 hk4 hB3 hcell1
        go_wp2_with fail
        go_roundw
        case rel => exact ⟨i + 1, _, by go_num, by omega, hu2, hq4, hB4⟩
        case measure => simp [intOf]; omega
      · have j2 : ¬ (i : Int) < (z1.length : Int) := by omega
        go_wp2_with fail
        refine c2.mono ?_
        rintro e v3 ⟨rfl, hq3, hk3⟩
        have hB3 := hk_below hbw hBr hk3
        have hu2 := upto_add hu ⟨true, false, 1 + N, 0⟩ rfl rfl hg1
        clear c2 hqr hk3 hBr hcell
        go_wp2_with fail
        go_roundw
        case rel => exact ⟨i + 1, _, by go_num, by omega, hu2, hq3, hB3⟩
        case measure => simp [intOf]; omega
    · obtain rfl : i = z0'.length := by omega
      have c2 := fit_any b f hu.1 M hM0 wr hqr
      have hfree := fun h (hh : h < 32) W (hq : Hq W b f) => free_any b f h hh (hu.1 h hh) W hq
      cases ho : fitK f M 32 with
      | none =>
        have hno := fitK_none f M 32 ho
        rw [ho] at c2
        have c2 : Calls Try.prog 13 #[.pointer (some ⟨b, 0, none⟩), .int .i64 M] wr fun e w' => e = .returned (.tuple #[.int .i64 0, .bool false]) ∧ Hq w' b f ∧ Below wr.heap.size wr w' := c2
        go_wp2_with fail
        refine c2.mono ?_
        rintro e v3 ⟨rfl, hq3, hB3'⟩
        have hB3 := hBr.trans (hB3'.mono hBr.size)
        clear c2 hqr hBr hB3' hM
        go_wp2_with fail
        go_loopw [62, 12] (fun x y wr => ∃ (j : Nat), x = .int .i64 j ∧ j ≤ z0'.length ∧ y = .bool false ∧ Hq wr b f ∧ Below w.heap.size w wr) (fun x _ _ => z0'.length - (intOf x).toNat)
        case atStart => exact ⟨0, rfl, by omega, rfl, hq3, hB3⟩
        case round =>
          clear hq3 hB3
          obtain ⟨j, rfl, hj, rfl, hqr, hBr⟩ := hrel
          by_cases hjl : j < z0'.length
          · have k1 : (j : Int) < (z0'.length : Int) := by omega
            have hfj := hfree j (by omega)
            have hlow := hno j (by omega) (by have := hu.2.1 j hjl; simp [up, this])
            obtain ⟨F, hF⟩ : ∃ F, free (f j) = F := ⟨_, rfl⟩
            rw [hF] at hfj hlow
            go_wp2_with fail
            refine (hfj _ hqr).mono ?_
            rintro e _ ⟨rfl, m, rfl⟩
            have hqv5 := hqr.below (below_drewN (Below.refl _ _) m)
            have hBv5 := below_drewN hBr m
            clear hqr hBr
            generalize wr.drewN m = v5 at *
            go_wp2_with fail
            go_roundw
            case rel => exact ⟨j + 1, by go_num, by omega, rfl, hqv5, hBv5⟩
            case measure => simp [intOf]; omega
          · obtain rfl : j = z0'.length := by omega
            go_wp2_with fail
            go_ret
            exact ⟨rfl, hBr⟩
      | some c =>
        have hso := fitK_some f M 32 c ho
        have hcl := fitK_lt f M 32 c ho
        have hcth : (f c).th = true := by have := hso.1; simp [up] at this; exact this.1
        have hcdr : (f c).dr = false := by have := hso.1; simp [up] at this; exact this.2
        have hcz : c < z0'.length := by
          refine Nat.lt_of_not_le fun h => ?_
          have := hu.2.2 c h
          rw [hcth] at this; cases this
        rw [ho] at c2
        have c2 : Calls Try.prog 13 #[.pointer (some ⟨b, 0, none⟩), .int .i64 M] wr fun e w' => e = .returned (.tuple #[.int .i64 c, .bool true]) ∧ Hq w' b f ∧ Below wr.heap.size wr w' := by
          rw [show max (bi (some c)) 0 = (c : Int) by simp [bi]] at c2; exact c2
        have hfc := hfree c hcl
        have hFc : M ≤ free (f c) := hso.2.1
        have hmt : mayTake (f c) M = true := by simp [mayTake, hcth, hcdr]; have := hFc; simp [free, hcth] at this; exact this
        obtain ⟨G, hG⟩ : ∃ G, free (f c) = G := ⟨_, rfl⟩
        have hsm : ∀ h, h < 32 → up (f h) = true → M ≤ free (f h) → G < free (f h) ∨ (G = free (f h) ∧ c ≤ h) := by rw [← hG]; exact hso.2.2
        rw [hG] at hfc hFc
        go_wp2_with fail
        refine c2.mono ?_
        rintro e v3 ⟨rfl, hq3, hB3'⟩
        have hB3 := hBr.trans (hB3'.mono hBr.size)
        clear c2 hqr hBr hB3' hM
        go_wp2_with fail
        go_loopw [62, 12] (fun x y wr => ∃ (j : Nat) (t : Bool), x = .int .i64 j ∧ j ≤ z0'.length ∧ y = .bool t ∧ (c < j → t = true) ∧ Hq wr b f ∧ Below w.heap.size w wr) (fun x _ _ => z0'.length - (intOf x).toNat)
        case atStart => exact ⟨0, false, rfl, by omega, rfl, fun h => by omega, hq3, hB3⟩
        case round =>
          clear hq3 hB3
          obtain ⟨j, t, rfl, hj, rfl, ht, hqr, hBr⟩ := hrel
          by_cases hjl : j < z0'.length
          · have k1 : (j : Int) < (z0'.length : Int) := by omega
            have hfj := hfree j (by omega)
            have hcmp := hsm j (by omega) (by have := hu.2.1 j hjl; simp [up, this])
            have hjc : j = c → free (f j) = G := fun h => by rw [h, hG]
            obtain ⟨F, hF⟩ : ∃ F, free (f j) = F := ⟨_, rfl⟩
            rw [hF] at hfj hcmp hjc
            by_cases hlow : F < M
            · have hjne : j ≠ c := fun h => by have := hjc h; omega
              go_wp2_with fail
              refine (hfj _ hqr).mono ?_
              rintro e _ ⟨rfl, m, rfl⟩
              have hqv5 := hqr.below (below_drewN (Below.refl _ _) m)
              have hBv5 := below_drewN hBr m
              clear hqr hBr
              generalize wr.drewN m = v5 at *
              go_wp2_with fail
              go_roundw
              case rel => exact ⟨j + 1, t, by go_num, by omega, rfl, fun h => ht (by omega), hqv5, hBv5⟩
              case measure => simp [intOf]; omega
            · have hlow' : M ≤ F := by omega
              have hcmp := hcmp hlow'
              have hng : ¬ F < G := by omega
              by_cases heq : F = G
              · have hcj : ¬ (j : Int) < (c : Int) := by omega
                have heq' : ((F : Int) == G) = true := by simp [heq]
                clear heq hjc hF
                go_wp2_with fail
                refine (hfj _ hqr).mono ?_
                rintro e _ ⟨rfl, m, rfl⟩
                have hqv5 := hqr.below (below_drewN (Below.refl _ _) m)
                have hBv5 := below_drewN hBr m
                clear hqr hBr
                generalize wr.drewN m = v5 at *
                go_wp2_with fail
                refine (hfj _ hqv5).mono ?_
                rintro e _ ⟨rfl, m, rfl⟩
                have hqv6 := hqv5.below (below_drewN (Below.refl _ _) m)
                have hBv6 := below_drewN hBv5 m
                clear hqv5 hBv5
                generalize v5.drewN m = v6 at *
                go_wp2_with fail
                refine (hfc _ hqv6).mono ?_
                rintro e _ ⟨rfl, m, rfl⟩
                have hqv7 := hqv6.below (below_drewN (Below.refl _ _) m)
                have hBv7 := below_drewN hBv6 m
                clear hqv6 hBv6
                generalize v6.drewN m = v7 at *
                go_wp2_with fail
                refine (hfj _ hqv7).mono ?_
                rintro e _ ⟨rfl, m, rfl⟩
                have hqv8 := hqv7.below (below_drewN (Below.refl _ _) m)
                have hBv8 := below_drewN hBv7 m
                clear hqv7 hBv7
                generalize v7.drewN m = v8 at *
                go_wp2_with fail
                refine (hfc _ hqv8).mono ?_
                rintro e _ ⟨rfl, m, rfl⟩
                have hqv9 := hqv8.below (below_drewN (Below.refl _ _) m)
                have hBv9 := below_drewN hBv8 m
                clear hqv8 hBv8
                generalize v8.drewN m = v9 at *
                go_wp2_with fail
                go_roundw
                case rel => exact ⟨j + 1, true, by go_num, by omega, rfl, fun _ => rfl, hqv9, hBv9⟩
                case measure => simp [intOf]; omega
              · have heq' : ((F : Int) == G) = false := by simp [heq]
                clear hjc hF
                go_wp2_with fail
                refine (hfj _ hqr).mono ?_
                rintro e _ ⟨rfl, m, rfl⟩
                have hqv5 := hqr.below (below_drewN (Below.refl _ _) m)
                have hBv5 := below_drewN hBr m
                clear hqr hBr
                generalize wr.drewN m = v5 at *
                go_wp2_with fail
                refine (hfj _ hqv5).mono ?_
                rintro e _ ⟨rfl, m, rfl⟩
                have hqv6 := hqv5.below (below_drewN (Below.refl _ _) m)
                have hBv6 := below_drewN hBv5 m
                clear hqv5 hBv5
                generalize v5.drewN m = v6 at *
                go_wp2_with fail
                refine (hfc _ hqv6).mono ?_
                rintro e _ ⟨rfl, m, rfl⟩
                have hqv7 := hqv6.below (below_drewN (Below.refl _ _) m)
                have hBv7 := below_drewN hBv6 m
                clear hqv6 hBv6
                generalize v6.drewN m = v7 at *
                go_wp2_with fail
                refine (hfj _ hqv7).mono ?_
                rintro e _ ⟨rfl, m, rfl⟩
                have hqv8 := hqv7.below (below_drewN (Below.refl _ _) m)
                have hBv8 := below_drewN hBv7 m
                clear hqv7 hBv7
                generalize v7.drewN m = v8 at *
                go_wp2_with fail
                refine (hfc _ hqv8).mono ?_
                rintro e _ ⟨rfl, m, rfl⟩
                have hqv9 := hqv8.below (below_drewN (Below.refl _ _) m)
                have hBv9 := below_drewN hBv8 m
                clear hqv8 hBv8
                generalize v8.drewN m = v9 at *
                go_wp2_with fail
                go_roundw
                case rel => exact ⟨j + 1, true, by go_num, by omega, rfl, fun _ => rfl, hqv9, hBv9⟩
                case measure => simp [intOf]; omega
          · obtain rfl : j = z0'.length := by omega
            obtain rfl := ht hcz
            have c3 := take_any b f c hcl (hu.1 c hcl) M hM0 wr hqr
            rw [hmt] at c3
            go_wp2_with fail
            refine c3.mono ?_
            rintro e v4 ⟨rfl, hq4, hk4⟩
            have hB4 := hk_below hbw hBr hk4
            go_wp2_with fail
            go_ret
            exact ⟨rfl, hB4⟩
end Go.Proofs.Ytihhnejpnjcidaa
