/- Down, fix over a 'less' that counts. -/
import Derived.Test.YtbnpipfmeekbdaaDown
import Derived.Test.YtbnpipfmeekbdaaCheapUp
namespace Go.Proofs.Ytbnpipfmeekbdaa
open Go.RowKit Go.Kpt HeapPure
set_option linter.unusedVariables false

theorem least_child (l : List (Int × Int)) (i : Nat) : least lt l i = i ∨ 2 * i + 1 ≤ least lt l i := by
  by_cases h : 2 * i + 2 < l.length
  · rw [least_two h]; unfold least1; split <;> (try split) <;> omega
  · by_cases h1 : 2 * i + 1 < l.length
    · rw [least_one h1 h]; unfold least1; split <;> omega
    · rw [least_none h1]; exact .inl rfl

set_option maxRecDepth 1000000 in
set_option maxHeartbeats 16000000 in
theorem downc_any (base hb : Nat) (v : Value) (mb : Nat) (l : List (Int × Int)) (i0 cb N : Nat) (hi0 : i0 < l.length) (hl0 : l.length ≤ 4096) (hN : N ≤ 900000) (w : World) (h : Hc w base hb v mb l cb N) :
    Calls Try.prog 19 #[.pointer (some ⟨hb, 0, none⟩), .int .i64 i0] w fun e w' => e = .returned (.tuple #[]) ∧ ∃ N', N' ≤ N + 26 ∧ N ≤ N' ∧ Hc w' base hb v mb (down lt l i0) cb N' ∧ Kept (ownc mb v cb) w w' := by
  have hbe0 := beneath_le (n := l.length) (i := i0) hl0
  go_enter Try.func19, Try.ntmps19
  go_wp2_with fail
  go_loopw [1] (fun x wr => ∃ (i : Nat) (l' : List (Int × Int)) (Nc : Nat), x = .int .i64 i ∧ i < l'.length ∧ l'.length = l.length ∧ down lt l' i = down lt l i0 ∧ Hc wr base hb v mb l' cb Nc ∧ Nc + 2 * beneath l.length i ≤ N + 2 * beneath l.length i0 ∧ N ≤ Nc ∧ Kept (ownc mb v cb) w wr) (fun x _ => l.length - (intOf x).toNat)
  case atStart => exact ⟨i0, l, N, rfl, hi0, rfl, rfl, h, Nat.le_refl _, Nat.le_refl _, Kept.refl _ _⟩
  case round =>
    clear h
    obtain ⟨i, l', Nc, rfl, hi, hll, hdn, h, hN1, hN2, hk⟩ := hrel
    rcases h.hp.own.shape with ⟨-, rfl⟩ | ⟨g, cap, rfl, hg1, hg2, hlc, hcm, -, -⟩
    · simp at hi
    have hlen := h.hp.len
    clear hg1 hg2
    go_wp2_with fail
    go_loopw [5, 4] (fun x y wr => ∃ (c m Nd : Nat), x = .int .i64 c ∧ y = .int .i64 m ∧ m < l'.length ∧ ((c = 2 * i + 1 ∧ m = i) ∨ (c = 2 * i + 2 ∧ 2 * i + 1 < l'.length ∧ m = least1 l' i) ∨ (c = 2 * i + 3 ∧ 2 * i + 2 < l'.length ∧ m = least lt l' i)) ∧ Hc wr base hb (.slice (some ⟨g, 0, none⟩) l'.length cap) mb l' cb Nd ∧ Nd + (2 * i + 1) = Nc + c ∧ Kept (ownc mb (.slice (some ⟨g, 0, none⟩) l'.length cap) cb) w wr) (fun x _ _ => 2 * i + 3 - (intOf x).toNat)
    case atStart => exact ⟨2 * i + 1, i, Nc, by go_num, rfl, hi, .inl ⟨rfl, rfl⟩, h, rfl, hk⟩
    case round =>
      clear h hk
      obtain ⟨c, m, Nd, rfl, rfl, hm, hcm', hc, hNd, hk⟩ := hrel
      have h := hc.hp
      rcases h.own.shape with ⟨-, rfl⟩ | ⟨g', cap', hsh, -, -, -, -, -, hcl⟩
      · simp at hi
      injection hsh with e1 e2 e3
      injection e1 with e1
      injection e1 with e1 e4 e5
      subst e1
      subst e3
      clear e2 e4 e5
      have q0 : wr.cell? ⟨hb, 0, none⟩ = some (fc cb) := cell_of h.blk
      have q1 : wr.cell? ⟨hb, 1, none⟩ = some (.slice (some ⟨g, 0, none⟩) l'.length cap) := cell_of h.blk
      have HH := Lib.hid hc
      have HK := Lib.hid hk
      have hcle : c ≤ 2 * i + 3 := by omega
      have hclo : 2 * i + 1 ≤ c := by omega
      by_cases hgo : c ≤ 2 * i + 2 ∧ c < l'.length
      · obtain ⟨hg1, hg2⟩ := hgo
        have cc := (hcl c hg2).2
        have cm := (hcl m hm).2
        rw [← vv_getD] at cc cm
        have j1 : (c : Int) ≤ 2 * (i : Int) + 2 := by omega
        have j2 : (c : Int) < (l'.length : Int) := by omega
        have j3 : (m : Int) < (l'.length : Int) := by omega
        have hnext : ∀ t, lt (vv l' c) (vv l' m) = t → ((c + 1 = 2 * i + 1 ∧ (if t = true then c else m) = i) ∨ (c + 1 = 2 * i + 2 ∧ 2 * i + 1 < l'.length ∧ (if t = true then c else m) = least1 l' i) ∨ (c + 1 = 2 * i + 3 ∧ 2 * i + 2 < l'.length ∧ (if t = true then c else m) = least lt l' i)) := by
          intro t ht
          rcases hcm' with ⟨rfl, rfl⟩ | ⟨rfl, h2, rfl⟩ | ⟨rfl, h2, rfl⟩
          · right; left
            refine ⟨by omega, hg2, ?_⟩
            unfold least1
            rw [ht]
          · right; right
            refine ⟨by omega, hg2, ?_⟩
            rw [least_two hg2, ht]
          · omega
        obtain ⟨a, ha⟩ : ∃ a, vv l' c = a := ⟨_, rfl⟩
        obtain ⟨b, hb'⟩ : ∃ b, vv l' m = b := ⟨_, rfl⟩
        rw [ha] at cc
        rw [hb'] at cm
        rw [ha, hb'] at hnext
        have hls := lessn_any cb Nd (by omega) a b wr.drew hc.cn
        have hch := hc.nh
        have hcg := hc.ng g rfl
        have HS := Lib.hid (show ∀ W, Kept (fun x => x = cb) wr W → (W.cell? ⟨hb, 0, none⟩ = some (fc cb) ∧ W.cell? ⟨hb, 1, none⟩ = some (.slice (some ⟨g, 0, none⟩) l'.length cap) ∧ W.cell? ⟨g, c * 2 + 1, none⟩ = some (.int .i64 a) ∧ W.cell? ⟨g, m * 2 + 1, none⟩ = some (.int .i64 b) ∧ Kept (fun x => x = cb) wr W) from fun W k =>
          ⟨(k.cell (p := ⟨hb, 0, none⟩) (block_lt_of_cell q0) (fun e => hch e.symm)).trans q0, (k.cell (p := ⟨hb, 1, none⟩) (block_lt_of_cell q1) (fun e => hch e.symm)).trans q1, (k.cell (p := ⟨g, c * 2 + 1, none⟩) (block_lt_of_cell cc) (fun e => hcg e)).trans cc, (k.cell (p := ⟨g, m * 2 + 1, none⟩) (block_lt_of_cell cm) (fun e => hcg e)).trans cm, k⟩)
        have hkd : Kept (fun x => x = cb) wr wr.drew := (Kept.refl _ _).drew
        have n5 : (0 : Int) ≤ (c : Int) := Int.natCast_nonneg _
        have n6 : (0 : Int) ≤ (m : Int) := Int.natCast_nonneg _
        generalize lt a b = R at *
        clear hcl h hk ha hb' hcm' hc hch hcg
        go_upto_region 4 with fail
        go_cut [5, 4, 46] from 10 to 47 (fun x y z wx => x = .int .i64 c ∧ y = .int .i64 m ∧ z = .bool R ∧ Cn wx cb (Nd + 1) ∧ Kept (fun x => x = cb) wr wx)
        case first =>
          clear hnext HH HK hll
          go_region_held3 (fun W => W.cell? ⟨hb, 0, none⟩ = some (fc cb) ∧ W.cell? ⟨hb, 1, none⟩ = some (.slice (some ⟨g, 0, none⟩) l'.length cap) ∧ W.cell? ⟨g, c * 2 + 1, none⟩ = some (.int .i64 a) ∧ W.cell? ⟨g, m * 2 + 1, none⟩ = some (.int .i64 b) ∧ Kept (fun x => x = cb) wr W)
            (first | exact HS.out _ hkd | exact HS.out _ hk4)
            (first | (go_at_call 15; refine hls.mono ?_; rintro e w4 ⟨rfl, hc4, hk4'⟩; have hk4 := hkd.trans hk4' (fun _ _ h => h)) | fail)
          go_wp2_with fail
          go_meet
          case rel => exact ⟨rfl, rfl, rfl, hc4, hk4⟩
        case rest =>
          obtain ⟨rfl, rfl, rfl, hc4, hk4⟩ := hcut
          have h2 := HH.out.asked hc4 hk4
          have k2 := HK.out.trans hk4 (fun _ _ h => .inr h)
          have hnext := hnext _ rfl
          clear q0 q1 cc cm HS HH HK hls hkd
          cases R
          · go_wp2_with fail
            go_roundw
            case rel => exact ⟨c + 1, m, Nd + 1, by go_num, rfl, hm, hnext, h2, by omega, k2⟩
            case measure => simp [intOf]; omega
          · go_wp2_with fail
            go_roundw
            case rel => exact ⟨c + 1, c, Nd + 1, by go_num, rfl, hg2, hnext, h2, by omega, k2⟩
            case measure => simp [intOf]; omega
      · have hml : m = least lt l' i := by
          rcases hcm' with ⟨rfl, rfl⟩ | ⟨rfl, h2, rfl⟩ | ⟨rfl, h2, rfl⟩
          · rw [least_none (by omega)]
          · rw [least_one h2 (by omega)]
          · rfl
        have hcm2 : m = i ∨ 2 * i + 1 ≤ m := by
          rcases least_cases lt l' i with h1 | ⟨h1, h3⟩
          · exact .inl (hml.trans h1)
          · right
            have := least_child l' i
            rw [← hml] at this
            rcases this with h5 | h5 <;> omega
        have hstop : (¬ (c : Int) ≤ 2 * (i : Int) + 2) ∨ ((c : Int) ≤ 2 * (i : Int) + 2 ∧ ¬ (c : Int) < (l'.length : Int)) := by omega
        have hsw := fun W (hW : Hp W base hb (fc cb) (.slice (some ⟨g, 0, none⟩) l'.length cap) mb l') => swap_any base hb (fc cb) _ mb l' i m hi hm W hW
        clear hcl h hk hcm' hgo hc
        by_cases hmi : m = i
        · have hds := down_stop (l := l') (i := i) (by rw [← hml]; exact hmi)
          rw [hds] at hdn
          have heq : ((m : Int) == (i : Int)) = true := by rw [hmi]; simp
          have HDN := Lib.hid hdn
          clear hml hsw hdn
          subst hmi
          rcases hstop with hs | ⟨hs1, hs2⟩
          all_goals
            go_wp2_with fail
            go_returns
            rw [← HDN.out, ← hll]
            exact ⟨rfl, Nd, by omega, by omega, HH.out, HK.out⟩
        · have hdg := down_go (l := l') (i := i) (by rw [← hml]; exact hmi)
          rw [← hml] at hdg
          rw [hdg] at hdn
          have hlt : i < m := by
            rcases least_cases lt l' i with h1 | ⟨h1, -⟩
            · exact absurd (hml.trans h1) hmi
            · rw [hml]; exact h1
          have hm2 : 2 * i + 1 ≤ m := by
            rcases hcm2 with h1 | h1 <;> omega
          have hbc := beneath_child (n := l.length) hm2 (by omega)
          have heq : ((m : Int) == (i : Int)) = false := beq_eq_false_iff_ne.2 (by omega)
          clear hml hdg
          rcases hstop with hs | ⟨hs1, hs2⟩
          all_goals
            go_wp2_with fail
            refine (hsw _ HH.out.hp).mono ?_
            rintro e w2 ⟨rfl, h2, k2⟩
            have hc5 : Cn w2 cb Nd := HH.out.cn.kept k2 (fun hh => by
              rcases hh with hh | hh
              · exact HH.out.nm hh
              · exact HH.out.ng cb hh.symm rfl)
            have h5 : Hc w2 base hb (.slice (some ⟨g, 0, none⟩) l'.length cap) mb (swp l' i m) cb Nd := ⟨h2, hc5, HH.out.nh, HH.out.nm, HH.out.ng⟩
            have hk2 : Kept (ownc mb (.slice (some ⟨g, 0, none⟩) l'.length cap) cb) w w2 := HK.out.trans k2 (fun _ _ h => .inl h)
            clear hsw q0 q1 HH HK k2 h2 hc5
            go_wp2_with fail
            go_roundw
            case rel => exact ⟨m, _, Nd, rfl, by rw [length_swp]; exact hm, by rw [length_swp]; exact hll, hdn, h5, by omega, by omega, hk2⟩
            case measure => simp [intOf]; omega

end Go.Proofs.Ytbnpipfmeekbdaa
