/- Whether an event can be written. -/
import Derived.Test.YtbdkbhicjbaffaaEvEq
import Derived.WalkSpells
namespace Go.Proofs.Ytbdkbhicjbaffaa
open Go.RowKit Go.Kpt WirePure
set_option linter.unusedVariables false

theorem Ev.new (w : World) (f : Evt) : Ev (w.alloc (.cells (evc f) 24)) w.heap.size f := heap_alloc_new _ _

theorem PV.kept {F : Nat → Prop} {w w' : World} {base b : Nat} {f : Evt} {v : Value} (h : PV w base b f v) (k : Kept F w w') (hF : ∀ x, base ≤ x → ¬ F x) : PV w' base b f v := by
  rcases h with ⟨h1, g, h2, h3, h4, h5⟩ | h
  · exact .inl ⟨h1, g, h2, h3, Nat.lt_of_lt_of_le h4 k.size, fun i hi => (k.cell (p := ⟨g, i, none⟩) h4 (hF g h3)).trans (h5 i hi)⟩
  · exact .inr h

theorem PV.ok {w : World} {base b : Nat} {f : Evt} {v : Value} (h : PV w base b f v) (hk : kOK (f 0)) : ∃ g, v = .slice (some ⟨g, 0, none⟩) (parts (f 0)).length (parts (f 0)).length ∧ base ≤ g ∧ g < w.heap.size ∧ PL w g b (parts (f 0)) := by
  rcases h with ⟨_, h⟩ | ⟨h, _⟩
  · exact h
  · exact absurd hk h
theorem PV.no {w : World} {base b : Nat} {f : Evt} {v : Value} (h : PV w base b f v) (hk : ¬ kOK (f 0)) : v = .slice none 0 0 := by
  rcases h with ⟨h, _⟩ | ⟨_, h, _⟩
  · exact absurd h hk
  · exact h

theorem Ev.ten {w : World} {b : Nat} {f : Evt} (h : Ev w b f) : w.cell? ⟨b, 0, none⟩ = some (.int .i64 (f 0)) ∧ w.cell? ⟨b, 1, none⟩ = some (.int .i64 (f 1)) ∧ w.cell? ⟨b, 2, none⟩ = some (.int .i64 (f 2)) ∧ w.cell? ⟨b, 3, none⟩ = some (.int .i64 (f 3)) ∧ w.cell? ⟨b, 4, none⟩ = some (.int .i64 (f 4)) ∧ w.cell? ⟨b, 5, none⟩ = some (.int .i64 (f 5)) ∧ w.cell? ⟨b, 6, none⟩ = some (.int .i64 (f 6)) ∧ w.cell? ⟨b, 7, none⟩ = some (.int .i64 (f 7)) ∧ w.cell? ⟨b, 8, none⟩ = some (.int .i64 (f 8)) ∧ w.cell? ⟨b, 9, none⟩ = some (.int .i64 (f 9)) :=
  ⟨h.cell 0, h.cell 1, h.cell 2, h.cell 3, h.cell 4, h.cell 5, h.cell 6, h.cell 7, h.cell 8, h.cell 9⟩

def cpy (f : Evt) (l : List (Fin 10)) : Evt := fun i => if i = 0 ∨ i ∈ l then f i else 0
theorem cpy_nil (f : Evt) : cpy f [] = ev0 (f 0) := by
  funext i
  by_cases h : i = 0
  · subst h; simp [cpy, ev0, upd]
  · simp [cpy, ev0, upd, noev, h]
theorem cpy_snoc (f : Evt) (l : List (Fin 10)) (j : Fin 10) : cpy f (l ++ [j]) = upd (cpy f l) j (f j) := by
  funext i
  by_cases h : i = j
  · subst h; simp [cpy, upd]
  · simp [cpy, upd, h]
theorem take_snoc {α : Type} (l : List α) (i : Nat) (h : i < l.length) (d : α) : l.take (i + 1) = l.take i ++ [l.getD i d] := by
  rw [List.take_add_one]; simp [h]
theorem getD_mem {α : Type} (l : List α) (i : Nat) (h : i < l.length) (d : α) : l.getD i d ∈ l := by
  rw [List.getD_eq_getElem?_getD, List.getElem?_eq_getElem h]; exact List.getElem_mem h
theorem cpy_eq (f : Evt) : (cpy f (parts (f 0)) = f) ↔ ∀ j, j = 0 ∨ j ∈ parts (f 0) ∨ f j = 0 := by
  constructor
  · intro h j
    have := congrFun h j
    by_cases h1 : j = 0 ∨ j ∈ parts (f 0)
    · rcases h1 with h1 | h1
      · exact .inl h1
      · exact .inr (.inl h1)
    · rw [cpy, if_neg h1] at this
      exact .inr (.inr this.symm)
  · intro h
    funext j
    rcases h j with h1 | h1 | h1
    · simp [cpy, h1]
    · simp [cpy, h1]
    · by_cases h2 : j = 0 ∨ j ∈ parts (f 0)
      · rw [cpy, if_pos h2]
      · rw [cpy, if_neg h2, h1]

set_option maxRecDepth 100000 in
set_option maxHeartbeats 1000000 in
theorem right_any (f : Evt) (w : World) : Calls Try.prog 12 #[.agg (evc f)] w fun e w' => e = .returned (.bool (decide (right f))) ∧ Below w.heap.size w w' := by
  obtain ⟨R, hR⟩ : ∃ R, decide (right f) = R := ⟨_, rfl⟩
  rw [hR]
  have HR := Lib.hid hR
  clear hR
  go_enter Try.func12, Try.ntmps12
  go_wp2_with fail
  have hE := Ev.new w f
  have hB : Below w.heap.size w (w.alloc (.cells (evc f) 24)) := by go_grown
  have hz : (w.alloc (.cells (evc f) 24)).heap.size = w.heap.size + 1 := by simp
  generalize w.alloc (.cells (evc f) 24) = w1 at *
  refine (parts_any _ f w1 hE).mono ?_
  rintro e w2 ⟨v, rfl, hpv, hB2⟩
  have hE2 : Ev w2 w.heap.size f := hE.kept (Kept.of_below (F := fun _ => False) hB2) (fun h => h)
  have hz2 : w1.heap.size ≤ w2.heap.size := hB2.size
  have c0 : w2.cell? ⟨w.heap.size, 0, none⟩ = some (.int .i64 (f 0)) := hE2.cell 0
  have hE3 : Ev (w2.alloc (.cells (evc (ev0 (f 0))) 24)) w2.heap.size (ev0 (f 0)) := Ev.new _ _
  have hpv2 : PV (w2.alloc (.cells (evc (ev0 (f 0))) 24)) w1.heap.size w.heap.size f v := hpv.kept ((Kept.refl (fun _ => False) w2).alloc _) (fun _ _ h => h)
  have hE4 : Ev (w2.alloc (.cells (evc (ev0 (f 0))) 24)) w.heap.size f := hE2.kept ((Kept.refl (fun _ => False) w2).alloc _) (fun h => h)
  have hB3 : Below w.heap.size w (w2.alloc (.cells (evc (ev0 (f 0))) 24)) := (hB.trans (hB2.mono (by omega))).alloc (by omega) _
  have hz3 : (w2.alloc (.cells (evc (ev0 (f 0))) 24)).heap.size = w2.heap.size + 1 := by simp
  go_wp2_with fail
  change Calls _ _ _ (w2.alloc (.cells (evc (ev0 (f 0))) 24)) _
  generalize w2.alloc (.cells (evc (ev0 (f 0))) 24) = w3 at *
  refine (parts_any _ _ w3 hE3).mono ?_
  rintro e w4 ⟨v2, rfl, hqv, hB4⟩
  have k4 := Kept.of_below (F := fun _ => False) hB4
  have hf : Ev w4 w.heap.size f := hE4.kept k4 (fun h => h)
  have hb : Ev w4 w2.heap.size (ev0 (f 0)) := hE3.kept k4 (fun h => h)
  have hp := hpv2.kept k4 (fun _ _ h => h)
  have hB5 : Below w.heap.size w w4 := hB3.trans (hB4.mono (by omega))
  have hz4 := hB4.size
  clear hE hE2 hE3 hE4 hpv hpv2 hB hB2 hB3 hB4 k4 c0
  by_cases hk : kOK (f 0)
  · obtain ⟨g, rfl, hg1, hg2, hg3⟩ := hp.ok hk
    obtain ⟨q, rfl, hq1, hq2, hq3⟩ := hqv.ok hk
    have hn6 := parts_len (f 0)
    obtain ⟨ps, hps⟩ : ∃ ps, parts (f 0) = ps := ⟨_, rfl⟩
    rw [show (ev0 (f 0)) 0 = f 0 from rfl] at hq3 ⊢
    rw [hps] at hg3 hq3 hn6 ⊢
    have hnd := (parts_nodup (f 0)).2
    rw [hps] at hnd
    rw [← cpy_nil] at hb
    obtain ⟨n, hn⟩ : ∃ n, ps.length = n := ⟨_, rfl⟩
    rw [hn] at hn6 ⊢
    generalize hbb : w.heap.size = bb at *
    generalize hcc : w2.heap.size = cc at *
    have hqc : q ≠ cc := by omega
    have hbc : bb ≠ cc := by omega
    have hlc : bb ≤ cc := by omega
    have hl4 : cc < w4.heap.size := by omega
    clear hz hz3 hz4
    go_wp2_with fail
    go_loopw [15] (fun x wr => ∃ i, x = .int .i64 (i : Nat) ∧ i ≤ n ∧ Kept (fun x => x = cc) w4 wr ∧ Ev wr cc (cpy f (ps.take i)) ∧ Hid (∀ j ∈ ps.take i, 0 ≤ f j ∧ f j ≤ 2147483647)) (fun x _ => n - (intOf x).toNat)
    case atStart => exact ⟨0, rfl, by omega, Kept.refl _ _, hb, Lib.hid (by simp)⟩
    case round =>
      obtain ⟨i, rfl, hi, hK, hcp, HP⟩ := hrel
      have ef : Ev wr bb f := hf.kept hK hbc
      by_cases hin : i < n
      · have hgc : g ≠ cc := by
          rintro rfl
          have h1 := hg3 i (by omega)
          rw [show (⟨g, i, none⟩ : Addr) = ⟨g, (⟨i, by omega⟩ : Fin 10).val, none⟩ from rfl, hb.cell] at h1
          simp at h1
        have c1 : wr.cell? ⟨g, i, none⟩ = _ := (hK.cell (p := ⟨g, i, none⟩) hg2 hgc).trans (hg3 i (by omega))
        have c2 : wr.cell? ⟨q, i, none⟩ = _ := (hK.cell (p := ⟨q, i, none⟩) hq2 hqc).trans (hq3 i (by omega))
        have hj : ps.getD i 0 ∈ ps := getD_mem ps i (by omega) 0
        have ht := take_snoc ps i (by omega) 0
        have hR := HR.out
        have HPo := HP.out
        generalize ps.getD i 0 = j at *
        have d1 := ef.cell j
        have d3 := hcp.cell j
        have d2 : wr.frozen? ⟨cc, j.val, none⟩ = false := hcp.free j
        have hst := hcp.set j (f j)
        rw [← cpy_snoc, ← ht] at hst
        have hst2 := hK.trans (Kept.set1 wr cc j.val (.int .i64 (f j))) (fun _ _ h => h)
        by_cases hlo : f j < 0
        · have hr : R = false := by
            rw [← hR]
            refine decide_eq_false fun h => ?_
            have := h.2.1 j (by rw [hps]; exact hj)
            omega
          subst hr
          clear HPo hR HP HR hst hst2
          go_wp2_with fail
          go_ret
          exact ⟨rfl, by first | exact hB5.trans (hK.below (by omega) (by intro x hx h; omega)) | (rw [hbb]; exact hB5.trans (hK.below (by omega) (by intro x hx h; omega)))⟩
        · by_cases hhi : 2147483647 < f j
          · have hr : R = false := by
              rw [← hR]
              refine decide_eq_false fun h => ?_
              have := h.2.1 j (by rw [hps]; exact hj)
              omega
            subst hr
            clear HPo hR HP HR hst hst2
            go_wp2_with fail
            go_ret
            exact ⟨rfl, by first | exact hB5.trans (hK.below (by omega) (by intro x hx h; omega)) | (rw [hbb]; exact hB5.trans (hK.below (by omega) (by intro x hx h; omega)))⟩
          · have HP2 : Hid (∀ j ∈ ps.take (i + 1), 0 ≤ f j ∧ f j ≤ 2147483647) := Lib.hid (by
              rw [ht]
              intro x hx
              rcases List.mem_append.1 hx with hx | hx
              · exact HPo x hx
              · obtain rfl : x = j := by simpa using hx
                omega)
            clear HPo hR HP HR
            go_wp2_with fail
            go_region
            all_goals (go_wp2_with fail)
            all_goals exact ⟨⟨i + 1, rfl, by omega, hst2.drew, hst, HP2⟩, by simp [intOf]; omega⟩
      · obtain rfl : i = n := by omega
        rw [List.take_of_length_le (by omega)] at hcp HP
        have hdec : R = decide (cpy f ps = f) := by
          rw [← HR.out]
          have h1 := cpy_eq f
          rw [hps] at h1
          have h2 := HP.out
          by_cases h3 : cpy f ps = f
          · rw [decide_eq_true h3]
            refine decide_eq_true ⟨hk, by rw [hps]; exact h2, by rw [hps]; exact h1.1 h3⟩
          · rw [decide_eq_false h3]
            refine decide_eq_false fun h => h3 (h1.2 ?_)
            have := h.2.2
            rw [hps] at this
            exact this
        have HD := Lib.hid hdec
        clear hdec HP
        generalize cpy f ps = m at *
        obtain ⟨a0, a1, a2, a3, a4, a5, a6, a7, a8, a9⟩ := hcp.ten
        obtain ⟨b0, b1, b2, b3, b4, b5, b6, b7, b8, b9⟩ := ef.ten
        have hnil := fun (w : World) (a : Option Addr) (n c : Nat) => run_neq_slice_nil_any (P := Try.prog) w 48 _ a n c 0 0 Try.underlying48
        have heq := eql_ev m f
        have hgd := guard_ev
        simp only [evc] at heq
        go_wp2_with fail
        go_ret
        exact ⟨by rw [HD.out]; rfl, by rw [hbb]; exact hB5.trans (hK.below (by omega) (by intro x hx h; omega))⟩
  · obtain rfl := hp.no hk
    obtain rfl := hqv.no hk
    have hr : R = false := by
      rw [← HR.out]
      exact decide_eq_false fun h => hk h.1
    subst hr
    have hnil := fun (w : World) (a : Option Addr) (n c : Nat) => run_neq_slice_nil_any (P := Try.prog) w 48 _ a n c 0 0 Try.underlying48
    clear hp hqv
    go_wp2_with fail
    refine wp_loop_rounds 1 ?_
    rw [rounds_succ]
    go_wp2_with fail
    go_ret
    exact ⟨rfl, hB5⟩
end Go.Proofs.Ytbdkbhicjbaffaa
