/- Time by time, or at once: the same keys come, in the same order: the walk. -/
import Derived.Test.YtkbmpmcckjhaaaaSpreadP
import Derived.Deep.CutRange
namespace Go.Proofs.Ytkbmpmcckjhaaaa
open Go.RowKit Go.Kpt HeapPure
set_option linter.unusedVariables false

theorem t2_set (base a b : Nat) (l m : List (Ke × Tm)) (k : Ke) (at_ : Int) (hk : kok k) (hl : l.length + 1 ≤ 100000) (Q : Nat → Prop) (w : World) (h : T2 w base a b l m Q) :
    Calls Try.prog 8 #[.pointer (some ⟨a, 0, none⟩), kv k, .int .i64 at_] w fun e w' => e = .returned (.tuple #[]) ∧ T2 w' base a b (setAt lt l k ⟨at_, k.1, k.2⟩) m Q ∧ Below base w w' ∧ Same Q w w' := by
  refine (T2.op (R := fun e _ X l' => e = .returned (.tuple #[]) ∧ l' = setAt lt l k ⟨at_, k.1, k.2⟩) h fun Q' hX => (tset_any base a l k at_ hk hl Q' w hX).mono ?_).mono ?_
  · rintro e w' ⟨rfl, h1, h2, h3⟩
    exact ⟨fun _ => False, _, ⟨rfl, rfl⟩, h1.less (fun x hx => hx.elim id False.elim), fun x hx => hx.elim, h2, h3⟩
  · rintro e w' ⟨X, l', ⟨rfl, rfl⟩, h1, h2, h3⟩
    exact ⟨rfl, h1.less (fun x hx => .inl hx), h2, h3⟩
theorem t2_due (base a b : Nat) (l m : List (Ke × Tm)) (now : Int) (G : HeapPure.Good lt l) (hle : l.length ≤ 100000) (Q : Nat → Prop) (w : World) (h : T2 w base a b l m Q) :
    Calls Try.prog 9 #[.pointer (some ⟨a, 0, none⟩), .int .i64 now] w fun e w' => ∃ v n, e = .returned v ∧ n ≤ l.length ∧ ¬ Dues (after n l) now ∧ OwnP w' w.heap.size 29 v (pops n l) ∧ T2 w' base a b (after n l) m (fun x => Q x ∨ some x = v.ownBlock) ∧ Below base w w' ∧ Same Q w w' := by
  refine (T2.op (R := fun e w' X l' => ∃ v n, e = .returned v ∧ l' = after n l ∧ n ≤ l.length ∧ ¬ Dues (after n l) now ∧ OwnP w' w.heap.size 29 v (pops n l) ∧ X = fun x => some x = v.ownBlock) h fun Q' hX => (due_any base a l now G hle Q' w hX).mono ?_).mono ?_
  · rintro e w' ⟨v, ks, l', rfl, h1, h2, h3, h4, h5, h6, h7, h8⟩
    obtain ⟨e1, e2, -⟩ := steps_n h1
    rw [e2] at h2
    refine ⟨fun x => some x = v.ownBlock, l', ⟨v, ks.length, rfl, e2, by omega, h2, by rw [← e1]; exact h5, rfl⟩, h6, fun x hx => (h5.lt x hx.symm).1, h7, h8⟩
  · rintro e w' ⟨X, l', ⟨v, n, rfl, rfl, h1, h2, h3, rfl⟩, h4, h5, h6⟩
    exact ⟨v, n, rfl, h1, h2, h3, h4, h5, h6⟩
theorem own_form {w : World} {base : Nat} {v : Value} {l : List Ke} (h : OwnP w base 29 v l) : ∃ a cap, v = .slice a l.length cap := by
  rcases h.shape with ⟨rfl, rfl⟩ | ⟨g, cap, rfl, -⟩
  · exact ⟨none, 0, rfl⟩
  · exact ⟨_, _, rfl⟩
theorem own_same {w w' : World} {base : Nat} {v : Value} {l : List Ke} (h : OwnP w base 29 v l) (hs : Same (fun x => some x = v.ownBlock) w w') : OwnP w' base 29 v l := by
  refine ⟨h.1, ?_⟩
  rcases h.2 with h1 | ⟨g, cap, cur, h0, hb, hg, hr⟩
  · exact .inl h1
  · exact .inr ⟨g, cap, cur, h0, hb, (hs g (by rw [h0]; rfl)).trans hg, hr⟩

set_option maxRecDepth 100000 in
set_option maxHeartbeats 6000000 in
theorem timerSteps_walk (a0 : Option Addr) (cap0 : Nat) (z0 : List Int) (a1 : Option Addr) (cap1 : Nat) (z1 : List Int) (w : World) (w0 : IsInts .i64 w a0 z0) (w1 : IsInts .i64 w a1 z1) :
    Calls Try.prog 3 #[.slice a0 z0.length cap0, .slice a1 z1.length cap1] w fun e w' => e = .returned (.bool true) ∧ Below w.heap.size w w' := by
  go_enter Try.func3, Try.ntmps3
  go_wp2_with fail
  refine (head_any w).mono ?_
  rintro e v1 ⟨rfl, hB1⟩
  by_cases hm : 60 < z0.length
  · have c1 : (60 : Int) < (z0.length : Int) := by omega
    go_wp2_with fail
    go_ret
    exact ⟨rfl, hB1⟩
  have c1 : ¬ (60 : Int) < (z0.length : Int) := by omega
  by_cases hm2 : z1.length < z0.length
  · have c2 : (z1.length : Int) < (z0.length : Int) := by omega
    go_wp2_with fail
    go_ret
    exact ⟨rfl, hB1⟩
  have c2 : ¬ (z1.length : Int) < (z0.length : Int) := by omega
  go_wp2_with fail
  refine (tnew_any v1).mono ?_
  rintro e v2 ⟨ca, rfl, h2, -, hB2⟩
  go_wp2_with fail
  refine (tnew_any v2).mono ?_
  rintro e v3 ⟨cb, rfl, h3, -, hB3⟩
  have hT := T2.of_new h2 hB3 h3
  have hBw : Below w.heap.size w v3 := (hB1.trans (hB2.mono hB1.size)).trans (hB3.mono (by have := hB1.size; have := hB2.size; omega))
  obtain ⟨base, hbs⟩ : ∃ base, v1.heap.size = base := ⟨_, rfl⟩
  have hb0 : w.heap.size ≤ base := by have := hB1.size; omega
  rw [hbs] at hT
  clear hB1 hB2 hB3 h2 h3 hbs
  obtain ⟨n, hn⟩ : ∃ n, z0.length = n := ⟨_, rfl⟩
  obtain ⟨n1, hn1⟩ : ∃ n, z1.length = n := ⟨_, rfl⟩
  rw [hn] at hm hm2 c1 c2 ⊢
  rw [hn1] at hm2 c2 ⊢
  go_wp2_with fail
  go_loopw [30] (fun x wr => ∃ (i : Nat) (l : List (Ke × Tm)), x = .int .i64 i ∧ i ≤ n ∧ HeapPure.Good lt l ∧ l.length ≤ i ∧ (∀ k v, HeapPure.get l k = some v → v.at_ ≤ 63) ∧ T2 wr base ca cb l l (fun _ => False) ∧ Below w.heap.size w wr) (fun x _ => n - (intOf x).toNat)
  case atStart => exact ⟨0, [], rfl, by omega, HeapPure.Good.nil, by simp, fun k v h => (by cases h), hT, hBw⟩
  case round =>
    clear hT hBw
    obtain ⟨i, l, rfl, hi, hG, hl, hat, hT, hB⟩ := hrel
    by_cases hin : i < n
    · obtain ⟨bk, off, rfl, hcell⟩ := w0.2.2 i (by omega)
      obtain ⟨bk1, off1, rfl, hcell1⟩ := w1.2.2 i (by omega)
      have kc := fun W (k : Below w.heap.size w W) (p : Addr) (u : Value) (hp : w.cell? p = some u) => ((Kept.of_below (F := fun _ => False) k).cell (p := p) (block_lt_of_cell hp) (fun h => h)).trans hp
      have c0 := kc _ hB _ _ hcell
      have hwf : (Lit.int .i64 (z0.getD i 0)).wf = true := w0.2.1 _ (by rw [List.getD_eq_getElem?_getD, List.getElem?_eq_getElem (by omega)]; exact List.getElem_mem _)
      have j1 : (i : Int) < (n : Int) := by omega
      have j2 : (i : Int) < (n1 : Int) := by omega
      generalize z0.getD i 0 = K at *
      generalize z1.getD i 0 = T at *
      have hb3 := i64_and3 K
      have hb4 := fun x : Int => i64_and31 x
      have hb5 := i64_and63 T
      go_wp2_with fail
      obtain ⟨k1, hk1⟩ : ∃ k1, K % 4 = k1 := ⟨_, rfl⟩
      obtain ⟨k2, hk2⟩ : ∃ k2, K / 4 % 32 = k2 := ⟨_, rfl⟩
      obtain ⟨T', hT'⟩ : ∃ T', T % 64 = T' := ⟨_, rfl⟩
      have hok : kok (k1, k2) := ⟨WalkArith.wf_i64 (by omega), WalkArith.wf_i64 (by omega)⟩
      have hTle : T' ≤ 63 := by omega
      rw [hk1, hk2]
      rw [hT'] at hb5
      clear hb3 hb4 hk1 hk2 hT' hwf c0
      have kA : Below wr.heap.size wr (wr.alloc (.cells #[.int .i64 k1, .int .i64 k2] 29)) := (Below.refl _ _).alloc (Nat.le_refl _) _
      have hA : Kb (wr.alloc (.cells #[.int .i64 k1, .int .i64 k2] 29)) wr.heap.size (k1, k2) := heap_alloc_new _ _
      have hTa : T2 (wr.alloc (.cells #[.int .i64 k1, .int .i64 k2] 29)) base ca cb l l (fun x => x = wr.heap.size) := hT.turn (Kept.of_below kA) (fun x hx => .inr ⟨by omega, by simp; omega⟩)
      have hBa := hB.trans (kA.mono hB.size)
      obtain ⟨q, hq⟩ : ∃ q, wr.heap.size = q := ⟨_, rfl⟩
      rw [hq] at hA hTa ⊢
      generalize wr.alloc (.cells #[.int .i64 k1, .int .i64 k2] 29) = wa at *
      obtain ⟨e0, e1⟩ := hA.cells
      dsimp only at e0 e1
      have t0 := kc _ hBa _ _ hcell1
      have hDa : Below wa.heap.size wa wa.drew := (Below.refl _ _).drew
      have s1 : Calls Try.prog 8 #[.pointer (some ⟨ca, 0, none⟩), .agg #[.int .i64 k1, .int .i64 k2], .int .i64 T'] wa.drew _ := t2_set base ca cb l l (k1, k2) T' hok (by omega) _ wa.drew (hTa.below hDa)
      have HT := Lib.hid hBa
      clear kA hT hB hTa hq hBa hcell
      go_wp2_with fail
      go_region_with (go_at_call 8; refine s1.mono ?_; rintro e w4 ⟨rfl, h4, k4, q4⟩)
      all_goals
        have hA4 : Kb w4 q (k1, k2) := (q4 q rfl).trans hA
        have hB4 : Below w.heap.size w w4 := (HT.out.drew).trans (k4.mono hb0)
        clear e0 e1 t0 s1 k4 q4
        obtain ⟨e0, e1⟩ := hA4.cells
        dsimp only at e0 e1
        have t0 := kc _ hB4 _ _ hcell1
        have hD4 : Below w4.heap.size w4 w4.drew := (Below.refl _ _).drew
        have s2 : Calls Try.prog 8 #[.pointer (some ⟨cb, 0, none⟩), .agg #[.int .i64 k1, .int .i64 k2], .int .i64 T'] w4.drew _ := t2_set base cb ca l (setAt lt l (k1, k2) ⟨T', k1, k2⟩) (k1, k2) T' hok (by omega) _ w4.drew (h4.symm.below hD4)
        have HB := Lib.hid (hB4.drew)
        clear h4 hB4 HT
        go_wp2_with fail
        go_region_with (go_at_call 8; refine s2.mono ?_; rintro e w5 ⟨rfl, h5, k5, q5⟩)
      all_goals
        have hT5 : T2 w5 base ca cb (setAt lt l (k1, k2) ⟨T', k1, k2⟩) (setAt lt l (k1, k2) ⟨T', k1, k2⟩) (fun _ => False) := h5.symm.less (fun x hx => hx.elim)
        have hB5 := HB.out.trans (k5.mono hb0)
        have hat5 : ∀ k v, HeapPure.get (setAt lt l (k1, k2) ⟨T', k1, k2⟩) k = some v → v.at_ ≤ 63 := fun k v hk => by
          rw [setAt_get ord_lt hG] at hk
          by_cases e : k = (k1, k2)
          · rw [if_pos e] at hk; cases hk; exact hTle
          · rw [if_neg e] at hk; exact hat k v hk
        have hls := len_set l (k1, k2) ⟨T', k1, k2⟩
        have hG5 := setAt_good ord_lt hG (k1, k2) ⟨T', k1, k2⟩
        generalize setAt lt l (k1, k2) ⟨T', k1, k2⟩ = l5 at *
        clear h5 k5 q5 HB e0 e1 t0 s2 hA hA4
        go_wp2_with fail
        go_roundw
        case rel => exact ⟨i + 1, l5, by go_num, by omega, hG5, by omega, hat5, hT5, hB5⟩
        case measure => simp [intOf]; omega
    · obtain rfl : i = n := by omega
      clear w0 w1
      have hle : l.length ≤ 100000 := by omega
      have hx := fun W (hW : T2 W base ca cb l l (fun _ => False)) => t2_due base ca cb l l 63 hG hle _ W hW
      go_wp2_with fail
      refine (hx _ hT).mono ?_
      clear hx
      rintro e w2 ⟨vx, nx, rfl, hnx, hdx, hOx, hT2, hB2, -⟩
      obtain rfl := all_due hG hat hnx hdx
      have ha0 : after l.length l = [] := List.eq_nil_of_length_eq_zero (by have := (after_good hG l.length (Nat.le_refl _)).2; omega)
      rw [ha0] at hT2
      have hBw2 := hB.trans (hB2.mono hb0)
      have hbx : ∀ g, vx.ownBlock = some g → w.heap.size ≤ g ∧ g < w2.heap.size := fun g hg => ⟨by have := (hOx.lt g hg).1; have := hB.size; omega, (hOx.lt g hg).2⟩
      obtain ⟨bx, hbxe⟩ : ∃ bx, wr.heap.size = bx := ⟨_, rfl⟩
      rw [hbxe] at hOx
      clear hT hB hB2 hdx hbxe
      have kE : Below w2.heap.size w2 (w2.alloc (.cells #[] 29)) := (Below.refl _ _).alloc (Nat.le_refl _) _
      have hOe : OwnP (w2.alloc (.cells #[] 29)) w2.heap.size 29 (.slice (some ⟨w2.heap.size, 0, none⟩) 0 0) [] := ⟨rfl, .inr ⟨w2.heap.size, 0, #[], rfl, Nat.le_refl _, heap_alloc_new _ _, Nat.le_refl _, by unfold maxLen; omega, rfl, rfl⟩⟩
      have hOx2 : OwnP (w2.alloc (.cells #[] 29)) bx 29 vx (pops l.length l) := hOx.below kE
      have hTe : T2 (w2.alloc (.cells #[] 29)) base cb ca l [] (fun x => some x = vx.ownBlock ∨ some x = (Value.slice (some ⟨w2.heap.size, 0, none⟩) 0 0).ownBlock) := (hT2.turn (Q' := fun x => some x = vx.ownBlock ∨ some x = (Value.slice (some ⟨w2.heap.size, 0, none⟩) 0 0).ownBlock) (Kept.of_below kE) (fun x hx => by
        rcases hx with hx | hx
        · exact .inl (.inr hx)
        · have h3 : x = w2.heap.size := Option.some.inj hx
          exact .inr ⟨by omega, by rw [World.size_alloc]; omega⟩)).symm
      have hBe := hBw2.trans (kE.mono hBw2.size)
      have hse := kE.size
      obtain ⟨by0, hby⟩ : ∃ b, w2.heap.size = b := ⟨_, rfl⟩
      have hwy : w.heap.size ≤ by0 := by rw [← hby]; exact hBw2.size
      rw [hby] at hOe hTe hbx hse
      obtain ⟨m, hml⟩ : ∃ m, l.length = m := ⟨_, rfl⟩
      rw [hml] at hOx2 hl
      clear hOx hT2 hBw2 kE ha0 hnx hle
      go_wp2_with fail
      generalize w2.alloc (.cells #[] 29) = we at *
      go_loopw [12, 11] (fun x vy wq => ∃ (i j : Nat), x = .int .i64 i ∧ i ≤ 64 ∧ j ≤ m ∧ (i = 64 → ¬ Dues (after j l) 63) ∧ OwnP wq by0 29 vy (pops j l) ∧ OwnP wq bx 29 vx (pops m l) ∧ T2 wq base cb ca (after j l) [] (fun x => some x = vx.ownBlock ∨ some x = vy.ownBlock) ∧ by0 ≤ wq.heap.size ∧ Below w.heap.size w wq) (fun x _ _ => 64 - (intOf x).toNat)
      case atStart => exact ⟨0, 0, rfl, by omega, by omega, fun h => (by omega), hOe, hOx2, hTe, hse, hBe⟩
      case round =>
        clear hOe hOx2 hTe hBe hse
        obtain ⟨i, j, rfl, hi64, hj, hlast, hOy, hOx, hT, hse, hB⟩ := hrel
        by_cases hi : i < 64
        · have hi2 : (i : Int) < 64 := by omega
          obtain ⟨hgj, hlj⟩ := after_good hG j (by omega)
          have s1 := t2_due base cb ca (after j l) [] (i : Int) hgj (by omega) _ wr hT
          have hwr := hB.size
          have hyb := hOy.lt
          go_wp2_with fail
          refine s1.mono ?_
          clear s1
          rintro e w3 ⟨vz, n', rfl, hn', hd', hOz, hT3, hB3, hS3⟩
          have hOy3 := own_same hOy (fun x hx => hS3 x (.inr hx))
          have hOx3 := own_same hOx (fun x hx => hS3 x (.inl hx))
          have hBw3 := hB.trans (hB3.mono hb0)
          obtain ⟨ad1, ad2⟩ := after_add j l n'
          rw [← ad1] at hd' hT3
          have hlen : (pops j l).length + (pops n' (after j l)).length ≤ 100000 := by rw [pops_length, pops_length]; omega
          have hbb : by0 ≤ w3.heap.size := Nat.le_trans hse hB3.size
          clear hOy hOx hT hB hB3 hS3
          go_wp2_with (at_builtin
                       go_loud (
                         refine wpList_append_pairs rfl _ _ rfl by0 _ u11 (pops j l) rfl hOy3 vz (pops n' (after j l)) rfl hOz hlen hbb ?_
                         intro v5 w5 hO5 hgrow hloc
                         have hkg : Kept (fun y => some y = u11.ownBlock) w3 w5 := Kept.of_grown hgrow
                         have hlt5 := hO5.lt
                         have hOx5 : OwnP w5 bx 29 vx (pops m l) := hOx3.kept hkg (fun g hg hh => by have := (hbx g hg).2; have := (hyb g hh.symm).1; omega)
                         have hT5 : T2 w5 base cb ca (after (j + n') l) [] (fun x => some x = vx.ownBlock ∨ some x = v5.ownBlock) := hT3.turn (hkg.mono (fun x _ hx => .inl (.inr hx))) (fun x hx => by
                           rcases hx with hx | hx
                           · exact .inl (.inl (.inl hx))
                           · rcases hloc with h | h
                             · exact .inl (.inl (.inr (hx.trans h)))
                             · have h6 := (hlt5 x hx.symm).2
                               rw [h] at hx
                               have h7 := Option.some.inj hx
                               exact .inr ⟨by omega, h6⟩)
                         have hB5 : Below w.heap.size w w5 := hBw3.trans (hkg.below hBw3.size (fun x hx hh => by have := (hyb x hh.symm).1; omega))
                         rw [← ad2] at hO5
                         have hse5 : by0 ≤ w5.heap.size := Nat.le_trans hbb hgrow.size
                         clear hgrow hloc hkg hOy3 hOx3 hT3 hBw3 hOz))
          go_roundw
          case rel => exact ⟨i + 1, j + n', by go_num, by omega, by omega, fun h => by obtain rfl : i = 63 := by omega
                                                                                       exact hd', hO5, hOx5, hT5, hse5, hB5⟩
          case measure => simp [intOf]; omega
        · obtain rfl : i = 64 := by omega
          obtain rfl := all_due hG hat (n := j) (by omega) (hlast rfl)
          have hmm : m = l.length := hml.symm
          subst hmm
          have ha0 : (after l.length l).length = 0 := by have := (after_good hG l.length (Nat.le_refl _)).2; omega
          have hla := fun W (hW : T2 W base cb ca (after l.length l) [] (fun x => some x = vx.ownBlock ∨ some x = u11.ownBlock)) => tlen_any base ca [] _ W hW.symm.left
          have hlb := fun W (hW : T2 W base cb ca (after l.length l) [] (fun x => some x = vx.ownBlock ∨ some x = u11.ownBlock)) => tlen_any base cb (after l.length l) _ W hW.left
          rw [ha0] at hlb
          have hla : ∀ W, T2 W base cb ca (after l.length l) [] (fun x => some x = vx.ownBlock ∨ some x = u11.ownBlock) → Calls Try.prog 10 #[.pointer (some ⟨ca, 0, none⟩)] W fun e w' => e = .returned (.int .i64 0) ∧ W = w' := hla
          have hlb : ∀ W, T2 W base cb ca (after l.length l) [] (fun x => some x = vx.ownBlock ∨ some x = u11.ownBlock) → Calls Try.prog 10 #[.pointer (some ⟨cb, 0, none⟩)] W fun e w' => e = .returned (.int .i64 0) ∧ W = w' := hlb
          have s1 := hla wr hT
          have s2 := hlb wr hT
          obtain ⟨ax, capx, rfl⟩ := own_form hOx
          obtain ⟨ay, capy, rfl⟩ := own_form hOy
          obtain ⟨ks, hks⟩ : ∃ ks, pops l.length l = ks := ⟨_, rfl⟩
          rw [hks] at hOx hOy ⊢
          have hk60 : ks.length ≤ 60 := by rw [← hks, pops_length]; omega
          clear hks
          clear hT hla hlb hlast ha0
          go_wp2_with fail
          refine s1.mono ?_
          rintro e w4 ⟨rfl, rfl⟩
          go_wp2_with fail
          refine s2.mono ?_
          rintro e w4 ⟨rfl, rfl⟩
          go_wp2_with fail
          clear s1 s2
          go_loopw [87] (fun x wq => ∃ (i : Nat), x = .int .i64 i ∧ i ≤ ks.length ∧ OwnP wq bx 29 (.slice ax ks.length capx) ks ∧ OwnP wq by0 29 (.slice ay ks.length capy) ks ∧ Below w.heap.size w wq) (fun x _ => ks.length - (intOf x).toNat)
          case atStart => exact ⟨0, rfl, Nat.zero_le _, hOx, hOy, hB⟩
          case round =>
            clear hOx hOy hB
            obtain ⟨i, rfl, hi, hOx, hOy, hB⟩ := hrel
            by_cases hin : i < ks.length
            · have j1 : (i : Int) < (ks.length : Int) := by omega
              have hOx0 := hOx
              have hOy0 := hOy
              rcases hOx.shape with ⟨-, he⟩ | ⟨gx, kx, hvx, -, hgx, -, -, -, hcx⟩
              · simp [he] at hin
              rcases hOy.shape with ⟨-, he⟩ | ⟨gy, ky, hvy, -, hgy, -, -, -, hcy⟩
              · simp [he] at hin
              cases hvx
              cases hvy
              obtain ⟨x0, x1⟩ := hcx i hin
              obtain ⟨y0, y1⟩ := hcy i hin
              have hk := neq_ke (ks.getD i (0, 0)) (ks.getD i (0, 0))
              simp only [decide_true, Bool.not_true] at hk
              have hg := guard_ke
              generalize ks.getD i (0, 0) = K at *
              clear hcx hcy hOx hOy hla hlb hbx
              go_wp2_with fail
              go_quiet (fail)
              go_wp2_with fail
              exact ⟨⟨i + 1, by go_num, by omega, hOx0.kept ((Kept.refl (fun _ => False) wr).drewN nq) (fun _ _ h => h), hOy0.kept ((Kept.refl (fun _ => False) wr).drewN nq) (fun _ _ h => h), below_drewN hB nq⟩, by simp [intOf]; omega⟩
            · obtain rfl : i = ks.length := by omega
              go_wp2_with fail
              first
                | go_ret; exact ⟨rfl, hB⟩
                | refine bodyPost_ret (v := .bool true) ?_ ?_ ⟨rfl, hB⟩
                  · exact results_tmp (t := 4) rfl _ _ _
                  · rfl
                | go_returns; exact ⟨rfl, hB⟩
end Go.Proofs.Ytkbmpmcckjhaaaa
