/- The law's own: whether an event can be written. -/
import Derived.Test.YtbdkbhicjbaffaaLawR
import Derived.Test.YtbdkbhicjbaffaaLawW
import Derived.Deep.RegionWith
namespace Go.Proofs.Ytbdkbhicjbaffaa
open Go.RowKit Go.Kpt WirePure
set_option linter.unusedVariables false

theorem nums_ok {f : Evt} (h : kOK (f 0)) : nums f = (parts (f 0)).map f := by
  unfold nums nparts
  rw [if_pos (show 0 ≤ f 0 ∧ f 0 ≤ 9 from h)]

theorem map_getD (l : List (Fin 10)) (f : Evt) (i : Nat) (h : i < l.length) : (l.map f).getD i 0 = f (l.getD i 0) := by
  simp [List.getD_eq_getElem?_getD, h]

set_option maxRecDepth 100000 in
set_option maxHeartbeats 400000 in
theorem lright_any (f : Evt) (w : World) : Calls Try.prog 9 #[.agg (evc f)] w fun e w' => e = .returned (.bool (decide (right f))) ∧ Below w.heap.size w w' := by
  obtain ⟨R, hR⟩ : ∃ R, decide (right f) = R := ⟨_, rfl⟩
  rw [hR]
  have HR := Lib.hid hR
  clear hR
  have hE := Ev.new w f
  have hB : Below w.heap.size w (w.alloc (.cells (evc f) 24)) := by go_grown
  have hz : w.heap.size < (w.alloc (.cells (evc f) 24)).heap.size := by simp
  obtain ⟨w1, hw1⟩ : ∃ w1, w.alloc (.cells (evc f) 24) = w1 := ⟨_, rfl⟩
  rw [hw1] at hE hB hz
  obtain ⟨a0, a1, a2, a3, a4, a5, a6, a7, a8, a9⟩ := hE.ten
  have hnum := numbers_any f w1
  simp only [evc] at hnum
  go_enter Try.func9, Try.ntmps9
  go_wp2_with fail
  refine hnum.mono ?_
  clear hnum hw1
  rintro e w2 ⟨v, rfl, hown, hB2⟩
  have hE2 : Ev w2 w.heap.size f := hE.kept (Kept.of_below (F := fun _ => False) hB2) (fun h => h)
  have hB3 : Below w.heap.size w w2 := hB.trans (hB2.mono (by omega))
  clear a0 a1 a2 a3 a4 a5 a6 a7 a8 a9 hE hB
  obtain ⟨a0, a1, a2, a3, a4, a5, a6, a7, a8, a9⟩ := hE2.ten
  by_cases hk : kOK (f 0)
  · have hkb : kB (f 0) = true := decide_eq_true hk
    rw [hkb]
    rw [nums_ok hk] at hown
    obtain ⟨a, cap, rfl, hle, hmx, hsl⟩ := hown.sl
    rw [List.length_map] at hle ⊢
    have hwith := with_any f a cap (parts (f 0)).length _ w2.drew hk hsl rfl (fun x hx => hx.2)
    have hn6 := parts_len (f 0)
    have hdec : R = (decide (cpy f (parts (f 0)) = f) && decide (∀ j ∈ parts (f 0), 0 ≤ f j ∧ f j ≤ 2147483647)) := by
      rw [← HR.out, Bool.eq_iff_iff]
      simp only [decide_eq_true_eq, Bool.and_eq_true]
      rw [cpy_eq]
      unfold right
      unfold kOK at hk
      constructor
      · rintro ⟨_, h2, h3⟩; exact ⟨h3, h2⟩
      · rintro ⟨h3, h2⟩; exact ⟨hk, h2, h3⟩
    have HD := Lib.hid hdec
    clear hdec HR
    generalize parts (f 0) = ps at *
    generalize hgg : cpy f ps = g at *
    obtain ⟨n, hn⟩ : ∃ n, ps.length = n := ⟨_, rfl⟩
    rw [hn] at hwith hn6 hle ⊢
    have heq := neq_ev g f
    have hgd := guard_ev
    simp only [evc] at heq hwith
    have HS := Lib.hid hsl
    have HK := Lib.hid (show ∀ w3, Below w2.drew.heap.size w2.drew w3 → Ev w3 w.heap.size f from fun w3 h => (show Ev w2.drew w.heap.size f from hE2).kept (Kept.of_below (F := fun _ => False) h) (fun h => h))
    have HB := Lib.hid (show ∀ w3, Below w2.drew.heap.size w2.drew w3 → Below w.heap.size w w3 from fun w3 h => hB3.drew.trans (h.mono hB3.size))
    clear hown hsl hgg hE2
    by_cases hgf : g = f
    · have dgf : decide (g = f) = true := decide_eq_true hgf
      clear hgf
      go_wp2_with fail
      go_region_with (go_at_call 16; refine hwith.mono ?_; rintro e w3 ⟨rfl, hB4⟩; obtain ⟨b0, b1, b2, b3, b4, b5, b6, b7, b8, b9⟩ := (HK.out _ hB4).ten)
      all_goals (go_wp2_with fail)
      · have hB4 : Below w2.drew.heap.size w2.drew w3 := by assumption
        have hB5 := HB.out _ hB4
        have hsl3 : Sl .i64 w3 (fun x => w1.heap.size ≤ x ∧ x < w2.heap.size) a (ps.map f) := (show Sl .i64 w2.drew (fun x => w1.heap.size ≤ x ∧ x < w2.heap.size) a (ps.map f) from HS.out).kept (Kept.of_below (F := fun _ => False) hB4) (fun _ _ h => h)
        clear a0 a1 a2 a3 a4 a5 a6 a7 a8 a9 heq hgd hwith
        go_loop [24] (fun x => ∃ i : Nat, x = .int .i64 i ∧ i ≤ n ∧ Hid (∀ j ∈ ps.take i, 0 ≤ f j ∧ f j ≤ 2147483647)) (fun x => n - (intOf x).toNat)
        case atStart => exact ⟨0, rfl, by omega, Lib.hid (by simp)⟩
        case round =>
          obtain ⟨i, rfl, hi, HP⟩ := hrel
          by_cases hin : i < n
          · obtain ⟨b, off, rfl, hb, hc⟩ := hsl3 i (by rw [List.length_map]; omega)
            rw [map_getD ps f i (by omega)] at hc
            have hj : ps.getD i 0 ∈ ps := getD_mem ps i (by omega) 0
            have ht := take_snoc ps i (by omega) 0
            have hPo := HP.out
            generalize ps.getD i 0 = j at *
            by_cases hlo : f j < 0
            · have hr : R = false := by
                rw [HD.out]
                simp only [Bool.and_eq_false_iff, decide_eq_false_iff_not]
                exact .inr (fun h => by have := h j hj; omega)
              subst hr
              clear hPo HP
              go_wp2_with fail
              go_returns
              exact ⟨rfl, hB5⟩
            · by_cases hhi : 2147483647 < f j
              · have hr : R = false := by
                  rw [HD.out]
                  simp only [Bool.and_eq_false_iff, decide_eq_false_iff_not]
                  exact .inr (fun h => by have := h j hj; omega)
                subst hr
                clear hPo HP
                go_wp2_with fail
                go_returns
                exact ⟨rfl, hB5⟩
              · have HP2 : Hid (∀ j ∈ ps.take (i + 1), 0 ≤ f j ∧ f j ≤ 2147483647) := Lib.hid (by
                  rw [ht]
                  intro x hx
                  rcases List.mem_append.1 hx with hx | hx
                  · exact hPo x hx
                  · obtain rfl : x = j := by simpa using hx
                    omega)
                clear hPo HP ht
                go_wp2_with fail
                go_round
                case rel => exact ⟨i + 1, rfl, by omega, HP2⟩
                case measure => simp [intOf]; omega
          · obtain rfl : i = n := by omega
            rw [List.take_of_length_le (by omega)] at HP
            have hr : R = true := by
              rw [HD.out, dgf, Bool.true_and]
              exact decide_eq_true HP.out
            subst hr
            go_wp2_with fail
            go_returns
            exact ⟨rfl, hB5⟩
      · have hB4 : Below w2.drew.heap.size w2.drew w3 := by assumption
        have hB5 := HB.out _ hB4
        have hsl3 : Sl .i64 w3 (fun x => w1.heap.size ≤ x ∧ x < w2.heap.size) a (ps.map f) := (show Sl .i64 w2.drew (fun x => w1.heap.size ≤ x ∧ x < w2.heap.size) a (ps.map f) from HS.out).kept (Kept.of_below (F := fun _ => False) hB4) (fun _ _ h => h)
        clear a0 a1 a2 a3 a4 a5 a6 a7 a8 a9 heq hgd hwith
        go_loop [24] (fun x => ∃ i : Nat, x = .int .i64 i ∧ i ≤ n ∧ Hid (∀ j ∈ ps.take i, 0 ≤ f j ∧ f j ≤ 2147483647)) (fun x => n - (intOf x).toNat)
        case atStart => exact ⟨0, rfl, by omega, Lib.hid (by simp)⟩
        case round =>
          obtain ⟨i, rfl, hi, HP⟩ := hrel
          by_cases hin : i < n
          · obtain ⟨b, off, rfl, hb, hc⟩ := hsl3 i (by rw [List.length_map]; omega)
            rw [map_getD ps f i (by omega)] at hc
            have hj : ps.getD i 0 ∈ ps := getD_mem ps i (by omega) 0
            have ht := take_snoc ps i (by omega) 0
            have hPo := HP.out
            generalize ps.getD i 0 = j at *
            by_cases hlo : f j < 0
            · have hr : R = false := by
                rw [HD.out]
                simp only [Bool.and_eq_false_iff, decide_eq_false_iff_not]
                exact .inr (fun h => by have := h j hj; omega)
              subst hr
              clear hPo HP
              go_wp2_with fail
              go_returns
              exact ⟨rfl, hB5⟩
            · by_cases hhi : 2147483647 < f j
              · have hr : R = false := by
                  rw [HD.out]
                  simp only [Bool.and_eq_false_iff, decide_eq_false_iff_not]
                  exact .inr (fun h => by have := h j hj; omega)
                subst hr
                clear hPo HP
                go_wp2_with fail
                go_returns
                exact ⟨rfl, hB5⟩
              · have HP2 : Hid (∀ j ∈ ps.take (i + 1), 0 ≤ f j ∧ f j ≤ 2147483647) := Lib.hid (by
                  rw [ht]
                  intro x hx
                  rcases List.mem_append.1 hx with hx | hx
                  · exact hPo x hx
                  · obtain rfl : x = j := by simpa using hx
                    omega)
                clear hPo HP ht
                go_wp2_with fail
                go_round
                case rel => exact ⟨i + 1, rfl, by omega, HP2⟩
                case measure => simp [intOf]; omega
          · obtain rfl : i = n := by omega
            rw [List.take_of_length_le (by omega)] at HP
            have hr : R = true := by
              rw [HD.out, dgf, Bool.true_and]
              exact decide_eq_true HP.out
            subst hr
            go_wp2_with fail
            go_returns
            exact ⟨rfl, hB5⟩
      · have hB4 : Below w2.drew.heap.size w2.drew w3 := by assumption
        have hB5 := HB.out _ hB4
        have hsl3 : Sl .i64 w3 (fun x => w1.heap.size ≤ x ∧ x < w2.heap.size) a (ps.map f) := (show Sl .i64 w2.drew (fun x => w1.heap.size ≤ x ∧ x < w2.heap.size) a (ps.map f) from HS.out).kept (Kept.of_below (F := fun _ => False) hB4) (fun _ _ h => h)
        clear a0 a1 a2 a3 a4 a5 a6 a7 a8 a9 heq hgd hwith
        go_loop [24] (fun x => ∃ i : Nat, x = .int .i64 i ∧ i ≤ n ∧ Hid (∀ j ∈ ps.take i, 0 ≤ f j ∧ f j ≤ 2147483647)) (fun x => n - (intOf x).toNat)
        case atStart => exact ⟨0, rfl, by omega, Lib.hid (by simp)⟩
        case round =>
          obtain ⟨i, rfl, hi, HP⟩ := hrel
          by_cases hin : i < n
          · obtain ⟨b, off, rfl, hb, hc⟩ := hsl3 i (by rw [List.length_map]; omega)
            rw [map_getD ps f i (by omega)] at hc
            have hj : ps.getD i 0 ∈ ps := getD_mem ps i (by omega) 0
            have ht := take_snoc ps i (by omega) 0
            have hPo := HP.out
            generalize ps.getD i 0 = j at *
            by_cases hlo : f j < 0
            · have hr : R = false := by
                rw [HD.out]
                simp only [Bool.and_eq_false_iff, decide_eq_false_iff_not]
                exact .inr (fun h => by have := h j hj; omega)
              subst hr
              clear hPo HP
              go_wp2_with fail
              go_returns
              exact ⟨rfl, hB5⟩
            · by_cases hhi : 2147483647 < f j
              · have hr : R = false := by
                  rw [HD.out]
                  simp only [Bool.and_eq_false_iff, decide_eq_false_iff_not]
                  exact .inr (fun h => by have := h j hj; omega)
                subst hr
                clear hPo HP
                go_wp2_with fail
                go_returns
                exact ⟨rfl, hB5⟩
              · have HP2 : Hid (∀ j ∈ ps.take (i + 1), 0 ≤ f j ∧ f j ≤ 2147483647) := Lib.hid (by
                  rw [ht]
                  intro x hx
                  rcases List.mem_append.1 hx with hx | hx
                  · exact hPo x hx
                  · obtain rfl : x = j := by simpa using hx
                    omega)
                clear hPo HP ht
                go_wp2_with fail
                go_round
                case rel => exact ⟨i + 1, rfl, by omega, HP2⟩
                case measure => simp [intOf]; omega
          · obtain rfl : i = n := by omega
            rw [List.take_of_length_le (by omega)] at HP
            have hr : R = true := by
              rw [HD.out, dgf, Bool.true_and]
              exact decide_eq_true HP.out
            subst hr
            go_wp2_with fail
            go_returns
            exact ⟨rfl, hB5⟩
    · have dgf : decide (g = f) = false := decide_eq_false hgf
      have hr : R = false := by rw [HD.out, dgf, Bool.false_and]
      subst hr
      clear hgf
      go_wp2_with fail
      go_region_with (go_at_call 16; refine hwith.mono ?_; rintro e w3 ⟨rfl, hB4⟩; obtain ⟨b0, b1, b2, b3, b4, b5, b6, b7, b8, b9⟩ := (HK.out _ hB4).ten)
      all_goals (go_wp2_with fail)
      all_goals go_returns
      all_goals exact ⟨rfl, HB.out _ (by assumption)⟩
  · have hkb : kB (f 0) = false := decide_eq_false hk
    rw [hkb]
    have hr : R = false := by
      rw [← HR.out]
      exact decide_eq_false fun h => hk h.1
    subst hr
    go_wp2_with fail
    go_quiet (fail)
    go_wp2_with fail
    go_returns
    exact ⟨rfl, below_drewN hB3 _⟩
end Go.Proofs.Ytbdkbhicjbaffaa
