/- Any events as bytes, and back: the walk. -/
import Derived.Test.YtbdkbhicjbaffaaLists
import Derived.Deep.CutBlock
namespace Go.Proofs.Ytbdkbhicjbaffaa
open Go.RowKit Go.Kpt WirePure
set_option linter.unusedVariables false

theorem encR_next (l : List Evt) (i : Nat) (h : i < l.length) (hr : right (l.getD i noev)) : encR (l.take (i + 1)) = encR (l.take i) ++ encE (l.getD i noev) ∧ rl (l.take (i + 1)) = rl (l.take i) ++ [l.getD i noev] := by
  rw [take_snoc l i h noev, encR_snoc, rl_snoc]
  unfold enc1
  rw [if_pos hr, if_pos hr]
  exact ⟨rfl, rfl⟩
theorem encR_same (l : List Evt) (i : Nat) (h : i < l.length) (hr : ¬ right (l.getD i noev)) : encR (l.take (i + 1)) = encR (l.take i) ∧ rl (l.take (i + 1)) = rl (l.take i) := by
  rw [take_snoc l i h noev, encR_snoc, rl_snoc]
  unfold enc1
  rw [if_neg hr, if_neg hr]
  simp

theorem own_apart {w : World} {b1 b2 : Nat} {v1 v2 : Value} {xs : List Int} {l : List Evt} (h1 : OwnI w b1 5 .u8 v1 xs) (h2 : OwnE w b2 v2 l) : ∀ g, v1.ownBlock = some g → v2.ownBlock = some g → False := by
  intro g e1 e2
  rcases h1.2 with ⟨rfl, _⟩ | ⟨g1, c1, cur1, rfl, _, hg1, _⟩
  · cases e1
  · rcases h2.2 with ⟨rfl, _⟩ | ⟨g2, c2, cur2, rfl, _, hg2, _⟩
    · cases e2
    · have a1 : some g1 = some g := e1
      have a2 : some g2 = some g := e2
      cases a1; cases a2
      rw [hg1] at hg2
      cases hg2

theorem own_q {w : World} {b1 q : Nat} {v1 : Value} {xs : List Int} {f : Evt} (h1 : OwnI w b1 5 .u8 v1 xs) (h2 : Ev w q f) (h : some q = v1.ownBlock) : False := by
  rcases h1.2 with ⟨rfl, _⟩ | ⟨g1, c1, cur1, rfl, _, hg1, _⟩
  · cases h
  · have a1 : some q = some g1 := h
    cases a1
    unfold Ev at h2
    rw [hg1] at h2
    cases h2

theorem OwnE.here {w : World} {base : Nat} {a : Option Addr} {n cap : Nat} {l : List Evt} (h : OwnE w base (.slice a n cap) l) : n = l.length ∧ SE w (fun x => base ≤ x ∧ x < w.heap.size) a l := by
  obtain ⟨a2, c2, he, h1, _, h2⟩ := OwnE.se h
  simp only [Value.slice.injEq] at he
  obtain ⟨rfl, rfl, rfl⟩ := he
  exact ⟨rfl, h2⟩

set_option maxRecDepth 100000 in
set_option maxHeartbeats 4000000 in
theorem eventPuts_any (a : Option Addr) (ca : Nat) (la : List Evt) (w : World) (ha : SE w (fun x => x < w.heap.size) a la) :
    Calls Try.prog 4 #[.slice a la.length ca] w fun e w' => e = .returned (.bool true) ∧ Below w.heap.size w w' := by
  obtain ⟨i0, hi0, iz0, iz1, iz2⟩ := info_parts Try.info5
  go_enter Try.func4, Try.ntmps4
  go_wp2_with fail
  refine (head_any w).mono ?_
  rintro e w1 ⟨rfl, hB1⟩
  have k1 := Kept.of_below (F := fun _ => False) hB1
  have ha1 := ha.kept k1 (fun _ _ h => h)
  clear ha k1
  by_cases hla : 60 < la.length
  · have c1 : (60 : Int) < (la.length : Int) := by omega
    go_wp2_with fail
    go_ret
    exact ⟨rfl, hB1⟩
  have c1 : ¬ (60 : Int) < (la.length : Int) := by omega
  have hx0 : OwnI (((w1.alloc (.cells #[] 5)).alloc (.cells #[] 5)).alloc (.cells #[] 24)) w1.heap.size 5 .u8 (.slice (some ⟨w1.heap.size, 0, none⟩) 0 0) (ib []) := ((OwnI.empty w1 w1.heap.size 5 .u8 (Nat.le_refl _)).alloc _).alloc _
  have hy0 : OwnI (((w1.alloc (.cells #[] 5)).alloc (.cells #[] 5)).alloc (.cells #[] 24)) w1.heap.size 5 .u8 (.slice (some ⟨(w1.alloc (.cells #[] 5)).heap.size, 0, none⟩) 0 0) (ib []) := (OwnI.empty (w1.alloc (.cells #[] 5)) w1.heap.size 5 .u8 (by simp)).alloc _
  have hv0 : OwnE (((w1.alloc (.cells #[] 5)).alloc (.cells #[] 5)).alloc (.cells #[] 24)) w1.heap.size (.slice (some ⟨((w1.alloc (.cells #[] 5)).alloc (.cells #[] 5)).heap.size, 0, none⟩) 0 0) [] :=
    ⟨rfl, .inr ⟨_, 0, #[], rfl, by simp; omega, heap_alloc_new _ _, Nat.le_refl _, by unfold maxLen; omega, rfl, rfl⟩⟩
  have kk : Kept (fun _ => False) w1 (((w1.alloc (.cells #[] 5)).alloc (.cells #[] 5)).alloc (.cells #[] 24)) := (((Kept.refl _ w1).alloc _).alloc _).alloc _
  have ha2 := ha1.kept kk (fun _ _ h => h)
  have hB2 : Below w.heap.size w (((w1.alloc (.cells #[] 5)).alloc (.cells #[] 5)).alloc (.cells #[] 24)) := hB1.trans (kk.below hB1.size (fun _ _ h => h))
  have hz2 := kk.size
  have hz1 := hB1.size
  rw [World.size_alloc] at hy0 hv0
  rw [World.size_alloc] at hv0
  obtain ⟨w2, hw2⟩ : ∃ w2, ((w1.alloc (.cells #[] 5)).alloc (.cells #[] 5)).alloc (.cells #[] 24) = w2 := ⟨_, rfl⟩
  rw [hw2] at hx0 hy0 hv0 ha2 hB2 hz2
  clear ha1 kk hB1
  obtain ⟨n, hn⟩ : ∃ n, la.length = n := ⟨_, rfl⟩
  rw [hn] at hla c1 ⊢
  go_wp2_with fail
  go_loopw [3, 4, 5, 22] (fun x y v c wr => ∃ i : Nat, c = .int .i64 i ∧ i ≤ n ∧ Kept (fun x => w1.heap.size ≤ x) w2 wr ∧ OwnI wr w1.heap.size 5 .u8 x (ib (encR (la.take i))) ∧ OwnI wr w1.heap.size 5 .u8 y (ib (encR (la.take i))) ∧ OwnE wr w1.heap.size v (rl (la.take i)) ∧ (∀ g, x.ownBlock = some g → y.ownBlock = some g → False)) (fun _ _ _ c _ => n - (intOf c).toNat)
  case atStart => exact ⟨0, rfl, by omega, Kept.refl _ _, hx0, hy0, hv0, fun g h1 h2 => by
    have h1' : some w1.heap.size = some g := h1
    have h2' : some (w1.heap.size + 1) = some g := h2
    rw [← h1'] at h2'
    simp at h2'⟩
  case round =>
    obtain ⟨i, rfl, hi, hK, hx, hy, hv, hap⟩ := hrel
    clear hx0 hy0 hv0 hw2
    by_cases hin : i < n
    · have hse := ha2.kept hK (fun x hx h => by omega)
      obtain ⟨bk, off, rfl, hbk, e0, e1, e2, e3, e4, e5, e6, e7, e8, e9⟩ := SE.ten hse i (by omega)
      have hnx := encR_next la i (by omega)
      have hsm := encR_same la i (by omega)
      have hlen := encR_len (la.take i)
      have hrl := rl_len (la.take i)
      rw [List.length_take] at hlen hrl
      generalize la.getD i noev = f at *
      have hE : Ev (wr.alloc (.cells (evc f) 24)) wr.heap.size f := Ev.new _ _
      have hx1 := hx.alloc (.cells (evc f) 24)
      have hy1 := hy.alloc (.cells (evc f) 24)
      have hv1 := hv.alloc (.cells (evc f) 24)
      have hK1 := hK.alloc (.cells (evc f) 24)
      have hqb : w1.heap.size ≤ wr.heap.size := by have := hK.size; omega
      have hza : wr.heap.size < (wr.alloc (.cells (evc f) 24)).heap.size := by simp
      obtain ⟨q, hq⟩ : ∃ q, wr.heap.size = q := ⟨_, rfl⟩
      obtain ⟨wa, hwa⟩ : ∃ wa, wr.alloc (.cells (evc f) 24) = wa := ⟨_, rfl⟩
      rw [hwa] at hE hx1 hy1 hv1 hK1 hza
      simp only [evc] at hwa
      go_upto_region 11 with fail
      rw [hq] at hE hqb hza
      clear hwa hx hy hv hK e0 e1 e2 e3 e4 e5 e6 e7 e8 e9 hse hq
      obtain ⟨e0, e1, e2, e3, e4, e5, e6, e7, e8, e9⟩ := hE.ten
      have hr1 := fun W => right_any f W
      have hr2 := fun W => lright_any f W
      obtain ⟨R, hR⟩ : ∃ R, decide (right f) = R := ⟨_, rfl⟩
      rw [hR] at hr1 hr2
      simp only [evc] at hr1 hr2
      have HE := Lib.hid (show ∀ W, Kept (fun _ => False) wa W → Ev W q f from fun W k => hE.kept k (fun h => h))
      go_cut [22, 30] from 22 to 44 (fun x y wx => x = .int .i64 i ∧ y = .bool false ∧ Kept (fun _ => False) wa wx)
      case first =>
        clear hx1 hy1 hv1 hK1 hE hnx hsm hap
        go_region_with (first | (go_at_call 12; refine (hr1 _).mono ?_; rintro e wb ⟨rfl, hBb⟩; have hkk : Kept (fun _ => False) wa wb := (by first | exact Kept.trans (by assumption) (Kept.of_below hBb) (fun _ _ h => h) | exact ((Kept.refl _ wa).drew).trans (Kept.of_below hBb) (fun _ _ h => h)); obtain ⟨b0, b1, b2, b3, b4, b5, b6, b7, b8, b9⟩ := (HE.out _ hkk).ten) | (go_at_call 9; refine (hr2 _).mono ?_; rintro e wb ⟨rfl, hBb⟩; have hkk : Kept (fun _ => False) wa wb := (by first | exact Kept.trans (by assumption) (Kept.of_below hBb) (fun _ _ h => h) | exact ((Kept.refl _ wa).drew).trans (Kept.of_below hBb) (fun _ _ h => h)); obtain ⟨b0, b1, b2, b3, b4, b5, b6, b7, b8, b9⟩ := (HE.out _ hkk).ten))
        all_goals (go_wp2_with fail)
        all_goals go_meet
        all_goals exact ⟨rfl, rfl, by assumption⟩
      case rest =>
        obtain ⟨rfl, rfl, hKw⟩ := hcut
        rename World => wb
        have hEb := HE.out _ hKw
        have hxb := hx1.kept hKw (fun _ _ h => h)
        have hyb := hy1.kept hKw (fun _ _ h => h)
        have hvb := hv1.kept hKw (fun _ _ h => h)
        have hKb := hK1.trans hKw (fun _ _ h => h.elim)
        have hzb := hKw.size
        clear hx1 hy1 hv1 hK1 hKw hE HE e0 e1 e2 e3 e4 e5 e6 e7 e8 e9 hr1
        obtain ⟨e0, e1, e2, e3, e4, e5, e6, e7, e8, e9⟩ := hEb.ten
        obtain ⟨ax, cx, rfl, -, -, hslx⟩ := hxb.sl
        rw [ib_length] at hxb hap ⊢
        by_cases hrt : right f
        · obtain ⟨hn1, hn2⟩ := hnx hrt
          have hRt : R = true := by rw [← hR]; exact decide_eq_true hrt
          subst hRt
          have hput := putE_any ax cx (encR (la.take i)) f _ wb hslx (by omega) hrt (fun x hx => hx.2)
          simp only [evc] at hput
          clear hsm hR
          go_wp2_with fail
          refine hput.mono ?_
          clear hput
          rintro e w5 ⟨v3, rfl, hx5, hB5⟩
          have k5 := Kept.of_below (F := fun _ => False) hB5
          have hE5 := hEb.kept k5 (fun h => h)
          have hy5 := hyb.kept k5 (fun _ _ h => h)
          have hv5 := hvb.kept k5 (fun _ _ h => h)
          have hK5 := hKb.trans k5 (fun _ _ h => h.elim)
          have hz5 := hB5.size
          have hx5b : ∀ g, v3.ownBlock = some g → wb.heap.size ≤ g ∧ g < w5.heap.size := hx5.lt
          have hx5' : OwnI w5 w1.heap.size 5 .u8 v3 (ib (encR (la.take (i + 1)))) := by rw [hn1]; exact hx5.mono (by omega)
          have hy5b : ∀ g, u4.ownBlock = some g → g < wb.heap.size := fun g h => (hyb.lt g h).2
          clear hEb hxb hyb hvb hKb hslx hB5 k5 e0 e1 e2 e3 e4 e5 e6 e7 e8 e9 hx5 hap
          obtain ⟨e0, e1, e2, e3, e4, e5, e6, e7, e8, e9⟩ := hE5.ten
          go_wp2_with fail
          refine (hr2 _).mono ?_
          rintro e w6 ⟨rfl, hB6⟩
          have k6 := Kept.of_below (F := fun _ => False) hB6
          have hE6 := hE5.kept k6 (fun h => h)
          have hx6 := hx5'.kept k6 (fun _ _ h => h)
          have hy6 := hy5.kept k6 (fun _ _ h => h)
          have hv6 := hv5.kept k6 (fun _ _ h => h)
          have hK6 := hK5.trans k6 (fun _ _ h => h.elim)
          have hz6 := hB6.size
          clear hE5 hx5' hy5 hv5 hK5 k6 hB6 e0 e1 e2 e3 e4 e5 e6 e7 e8 e9 hr2
          obtain ⟨e0, e1, e2, e3, e4, e5, e6, e7, e8, e9⟩ := hE6.ten
          have hlb := lbytes_any f hrt w6
          simp only [evc] at hlb
          go_wp2_with fail
          refine hlb.mono ?_
          clear hlb
          rintro e w7 ⟨v6, rfl, hown7, hB7⟩
          have k7 := Kept.of_below (F := fun _ => False) hB7
          have hE7 := hE6.kept k7 (fun h => h)
          have hx7 := hx6.kept k7 (fun _ _ h => h)
          have hy7 := hy6.kept k7 (fun _ _ h => h)
          have hv7 := hv6.kept k7 (fun _ _ h => h)
          have hK7 := hK6.trans k7 (fun _ _ h => h.elim)
          have hz7 := hB7.size
          obtain ⟨a6, c6, rfl, -, -, hsl7⟩ := hown7.sl
          rw [ib_length]
          have hel := encE_len hrt
          have hb7 : w1.heap.size ≤ w7.heap.size := by omega
          clear hE6 hx6 hy6 hv6 hK6 k7 hB7 hown7 e0 e1 e2 e3 e4 e5 e6 e7 e8 e9
          obtain ⟨e0, e1, e2, e3, e4, e5, e6, e7, e8, e9⟩ := hE7.ten
          go_wp2_with (first
            | (at_builtin; go_loud (
               refine wpList_append_ints rfl _ _ _ rfl w1.heap.size 5 .u8 i0 (.int .u8 0) 1 Try.underlying25 hi0 iz0 iz1 iz2 rfl u4 _ rfl hy7 a6 c6 (ib (encE f)) _ (by rw [ib_length]; rfl) hsl7 (by rw [ib_length, ib_length]; unfold maxLen; omega) (by rw [ib_length, ib_length]; omega) hb7 ?_
               intro v8 w8 hown8 hgrow hloc
               have k8 : Kept (fun x => some x = u4.ownBlock) w7 w8 := Kept.of_grown hgrow
               have hy8 : OwnI w8 w1.heap.size 5 .u8 v8 (ib (encR (la.take (i + 1)))) := by rw [hn1, ib_append]; exact hown8
               have hx8 := hx7.kept k8 (fun g h1 h2 => by have := hx5b g h1; have := hy5b g h2.symm; omega)
               have hv8 := hv7.kept k8 (fun g h1 h2 => own_apart hy7 hv7 g h2.symm h1)
               have hK8 : Kept (fun x => w1.heap.size ≤ x) w2 w8 := hK7.trans k8 (fun x _ h => (hy7.lt x h.symm).1)
               have hap8 : ∀ g, v3.ownBlock = some g → v8.ownBlock = some g → False := fun g h1 h2 => by
                 have := hx5b g h1
                 rcases hloc with h | h
                 · have := hy5b g (h.symm.trans h2); omega
                 · rw [h] at h2; cases h2; omega
               have hE8 : Ev w8 q f := hE7.kept k8 (fun h => own_q hy7 hE7 h)
               have hz8 := k8.size
               have hE9 : Ev (w8.alloc (.cells (evc f) 24)) w8.heap.size f := Ev.new _ _
               have hx9 := hx8.alloc (.cells (evc f) 24)
               have hy9 := hy8.alloc (.cells (evc f) 24)
               have hv9 := hv8.alloc (.cells (evc f) 24)
               have hK9 := hK8.alloc (.cells (evc f) 24)
               have hz9 : w1.heap.size ≤ (w8.alloc (.cells (evc f) 24)).heap.size := by have := hK9.size; omega
               obtain ⟨b0, b1, b2, b3, b4, b5, b6, b7, b8, b9⟩ := hE8.ten
               obtain ⟨w9, hw9⟩ : ∃ w9, w8.alloc (.cells (evc f) 24) = w9 := ⟨_, rfl⟩
               rw [hw9] at hE9 hx9 hy9 hv9 hK9 hz9
               simp only [evc] at hw9
               clear hE7 hx7 hy7 hv7 hK7 hgrow hown8 hloc k8 hx8 hy8 hv8 hK8 hE8))
            | (at_builtin; go_loud (
               refine wpList_append_ev rfl _ _ rfl w1.heap.size u5 (rl (la.take i)) rfl hv9 _ _ f rfl hE9 (by omega) hz9 ?_
               intro v10 w10 hown10 hgrow hloc
               have k10 : Kept (fun x => some x = u5.ownBlock) w9 w10 := Kept.of_grown hgrow
               have hx10 := hx9.kept k10 (fun g h1 h2 => own_apart hx9 hv9 g h1 h2.symm)
               have hy10 := hy9.kept k10 (fun g h1 h2 => own_apart hy9 hv9 g h1 h2.symm)
               have hv10 : OwnE w10 w1.heap.size v10 (rl (la.take (i + 1))) := by rw [hn2]; exact hown10
               have hK10 : Kept (fun x => w1.heap.size ≤ x) w2 w10 := hK9.trans k10 (fun x _ h => (hv9.lt x h.symm).1)
               have hap10 := hap8
               clear hw9 hE9 hx9 hy9 hv9 hK9 hgrow hown10 hloc k10)))
          exact ⟨⟨i + 1, rfl, by omega, hK10, hx10, hy10, hv10, hap10⟩, by simp [intOf]; omega⟩
        · obtain ⟨hn1, hn2⟩ := hsm hrt
          have hRt : R = false := by rw [← hR]; exact decide_eq_false hrt
          subst hRt
          have hput := putE_no ax cx (encR (la.take i)).length f wb hrt
          simp only [evc] at hput
          go_wp2_with fail
          refine hput.mono ?_
          clear hput
          rintro e w5 ⟨rfl, hB5⟩
          have k5 := Kept.of_below (F := fun _ => False) hB5
          have hE5 := hEb.kept k5 (fun h => h)
          have hx5 := hxb.kept k5 (fun _ _ h => h)
          have hy5 := hyb.kept k5 (fun _ _ h => h)
          have hv5 := hvb.kept k5 (fun _ _ h => h)
          have hK5 := hKb.trans k5 (fun _ _ h => h.elim)
          clear hEb hxb hyb hvb hKb hslx hB5 k5 e0 e1 e2 e3 e4 e5 e6 e7 e8 e9
          obtain ⟨e0, e1, e2, e3, e4, e5, e6, e7, e8, e9⟩ := hE5.ten
          go_wp2_with fail
          refine (hr2 _).mono ?_
          rintro e w6 ⟨rfl, hB6⟩
          have k6 := Kept.of_below (F := fun _ => False) hB6
          have hx6 := hx5.kept k6 (fun _ _ h => h)
          have hy6 := hy5.kept k6 (fun _ _ h => h)
          have hv6 := hv5.kept k6 (fun _ _ h => h)
          have hK6 := hK5.trans k6 (fun _ _ h => h.elim)
          have hx7 : OwnI w6 w1.heap.size 5 .u8 (.slice ax (encR (la.take i)).length cx) (ib (encR (la.take (i + 1)))) := by rw [hn1]; exact hx6
          have hy7 : OwnI w6 w1.heap.size 5 .u8 u4 (ib (encR (la.take (i + 1)))) := by rw [hn1]; exact hy6
          have hv7 : OwnE w6 w1.heap.size u5 (rl (la.take (i + 1))) := by rw [hn2]; exact hv6
          clear hE5 hx5 hy5 hv5 hK5 k6 hB6 e0 e1 e2 e3 e4 e5 e6 e7 e8 e9 hr2
          go_wp2_with fail
          exact ⟨⟨i + 1, rfl, by omega, hK6, hx7, hy7, hv7, hap⟩, by simp [intOf]; omega⟩
    · obtain rfl : i = n := by omega
      rw [List.take_of_length_le (by omega)] at hx hy hv
      have hBr : Below w.heap.size w wr := hB2.trans (hK.below hB2.size (fun x hx h => by omega))
      have hlX := encR_len la
      have hbX := encR_byte la
      have haX := all_encR la (by omega)
      have hlr := rl_len la
      obtain ⟨ax, cx, rfl, hlx, -, hslx⟩ := hx.sl
      obtain ⟨ay, cy, rfl, hly, -, hsly⟩ := hy.sl
      obtain ⟨va, cv, rfl, -, -, hsv⟩ := hv.se
      rw [ib_length] at hlx hly ⊢
      generalize encR la = X at *
      generalize rl la = L at *
      obtain ⟨m, hm⟩ : ∃ m, L.length = m := ⟨_, rfl⟩
      have hall := all_any ax cx X _ wr hslx (fun x hx => hx.2) hlx (by omega) hbX L X.length 0 haX
      rw [hm] at hlr ⊢
      clear ha2 hB2 hK hx hy hv hap haX hbX
      go_wp2_with fail
      refine hall.mono ?_
      clear hall
      rintro e w3 ⟨vp, rfl, hp3, hB3⟩
      have k3 := Kept.of_below (F := fun _ => False) hB3
      have hsx3 := hslx.kept k3 (fun _ _ h => h)
      have hsy3 := hsly.kept k3 (fun _ _ h => h)
      have hsv3 := hsv.kept k3 (fun _ _ h => h)
      have hB4 : Below w.heap.size w w3 := hBr.trans (hB3.mono hBr.size)
      obtain ⟨pa, pc, rfl, -, -, hsp3⟩ := hp3.se
      rw [hm]
      have hcx := conv_any hsx3 cx
      have hcy := conv_any hsy3 cy
      generalize bstr X = S at *
      clear hslx hsly hsv hsx3 hsy3 hp3 hB3 hBr k3
      go_wp2_with fail
      go_loopw [75] (fun x wr => ∃ i : Nat, x = .int .i64 i ∧ i ≤ m ∧ Kept (fun _ => False) w3 wr) (fun x _ => m - (intOf x).toNat)
      case atStart => exact ⟨0, rfl, by omega, Kept.refl _ _⟩
      case round =>
        obtain ⟨j, rfl, hj, hK⟩ := hrel
        by_cases hjn : j < m
        · obtain ⟨bk, off, rfl, hbk, e0, e1, e2, e3, e4, e5, e6, e7, e8, e9⟩ := SE.ten (hsp3.kept hK (fun _ _ h => h)) j (by omega)
          obtain ⟨bv, ofv, rfl, hbv, d0, d1, d2, d3, d4, d5, d6, d7, d8, d9⟩ := SE.ten (hsv3.kept hK (fun _ _ h => h)) j (by omega)
          generalize L.getD j noev = f at *
          have hneq := neq_ev f f
          rw [show (!decide (f = f)) = false by simp] at hneq
          simp only [evc] at hneq
          have hgd := guard_ev
          clear hcx hcy
          go_wp2_with fail
          go_big_region
          all_goals (go_wp2_with fail)
          all_goals exact ⟨⟨j + 1, rfl, by omega, by first | exact hK.drew | exact hK.drewN _⟩, by simp [intOf]; omega⟩
        · obtain rfl : j = m := by omega
          go_wp2_with fail
          go_ret
          exact ⟨rfl, hB4.trans (hK.below hB4.size (fun _ _ h => h))⟩

theorem eventPuts_walk (a0 : Option Addr) (cap0 : Nat) (z0 : List (Nat → Int)) (w : World) (w0 : IsStructs 10 w a0 z0) :
    Calls Try.prog 4 #[.slice a0 z0.length cap0] w fun e w' => e = .returned (.bool true) ∧ Below w.heap.size w w' := by
  have := eventPuts_any a0 cap0 (evs z0) w (isEvents w0)
  simpa [evs] using this
end Go.Proofs.Ytbdkbhicjbaffaa
