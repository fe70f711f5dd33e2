/- What a heap's functions do: down, fix. -/
import Derived.Test.YtbnpipfmeekbdaaUp
namespace Go.Proofs.Ytbnpipfmeekbdaa
open Go.RowKit Go.Kpt HeapPure
set_option linter.unusedVariables false

/-- Of one and what is beneath it at first. -/
def least1 (l : List (Int × Int)) (i : Nat) : Nat := if lt (vv l (2 * i + 1)) (vv l i) = true then 2 * i + 1 else i
theorem least_none {l : List (Int × Int)} {i : Nat} (h : ¬ 2 * i + 1 < l.length) : least lt l i = i := by
  unfold least
  rw [if_neg (fun hh => by have := hh.1; omega), if_neg (fun hh => h hh.1)]
theorem least_one {l : List (Int × Int)} {i : Nat} (h1 : 2 * i + 1 < l.length) (h : ¬ 2 * i + 2 < l.length) : least lt l i = least1 l i := by
  unfold least least1
  dsimp only
  rw [if_neg (fun hh => h hh.1)]
  by_cases hl : lt (vv l (2 * i + 1)) (vv l i) = true
  · rw [if_pos ⟨h1, hl⟩, if_pos hl]
  · rw [if_neg (fun hh => hl hh.2), if_neg hl]
theorem least_two {l : List (Int × Int)} {i : Nat} (h : 2 * i + 2 < l.length) : least lt l i = if lt (vv l (2 * i + 2)) (vv l (least1 l i)) = true then 2 * i + 2 else least1 l i := by
  have e : (if 2 * i + 1 < l.length ∧ lt (vv l (2 * i + 1)) (vv l i) = true then 2 * i + 1 else i) = least1 l i := by
    unfold least1
    by_cases hl : lt (vv l (2 * i + 1)) (vv l i) = true
    · rw [if_pos ⟨by omega, hl⟩, if_pos hl]
    · rw [if_neg (fun hh => hl hh.2), if_neg hl]
  unfold least
  dsimp only
  rw [e]
  by_cases hl : lt (vv l (2 * i + 2)) (vv l (least1 l i)) = true
  · rw [if_pos ⟨h, hl⟩, if_pos hl]
  · rw [if_neg (fun hh => hl hh.2), if_neg hl]
theorem least1_le (l : List (Int × Int)) (i : Nat) : least1 l i ≤ 2 * i + 1 := by unfold least1; split <;> omega

set_option maxRecDepth 1000000 in
set_option maxHeartbeats 16000000 in
theorem down_any (base hb : Nat) (v : Value) (mb : Nat) (l : List (Int × Int)) (i0 : Nat) (hi0 : i0 < l.length) (w : World) (h : Hp w base hb fv9 v mb l) :
    Calls Try.prog 19 #[.pointer (some ⟨hb, 0, none⟩), .int .i64 i0] w fun e w' => e = .returned (.tuple #[]) ∧ Hp w' base hb fv9 v mb (down lt l i0) ∧ Kept (own mb v) w w' := by
  go_enter Try.func19, Try.ntmps19
  go_wp2_with fail
  go_loopw [1] (fun x wr => ∃ (i : Nat) (l' : List (Int × Int)), x = .int .i64 i ∧ i < l'.length ∧ l'.length = l.length ∧ down lt l' i = down lt l i0 ∧ Hp wr base hb fv9 v mb l' ∧ Kept (own mb v) w wr) (fun x _ => l.length - (intOf x).toNat)
  case atStart => exact ⟨i0, l, rfl, hi0, rfl, rfl, h, Kept.refl _ _⟩
  case round =>
    clear h
    obtain ⟨i, l', rfl, hi, hll, hdn, h, hk⟩ := hrel
    rcases h.own.shape with ⟨-, rfl⟩ | ⟨g, cap, rfl, hg1, hg2, hlc, hcm, -, -⟩
    · simp at hi
    have hlen := h.len
    clear hg1 hg2
    go_wp2_with fail
    go_loopw [5, 4] (fun x y wr => ∃ (c m : Nat), x = .int .i64 c ∧ y = .int .i64 m ∧ m < l'.length ∧ ((c = 2 * i + 1 ∧ m = i) ∨ (c = 2 * i + 2 ∧ 2 * i + 1 < l'.length ∧ m = least1 l' i) ∨ (c = 2 * i + 3 ∧ 2 * i + 2 < l'.length ∧ m = least lt l' i)) ∧ Hp wr base hb fv9 (.slice (some ⟨g, 0, none⟩) l'.length cap) mb l' ∧ Kept (own mb (.slice (some ⟨g, 0, none⟩) l'.length cap)) w wr) (fun x _ _ => 2 * i + 3 - (intOf x).toNat)
    case atStart => exact ⟨2 * i + 1, i, by go_num, rfl, hi, .inl ⟨rfl, rfl⟩, h, hk⟩
    case round =>
      clear h hk
      obtain ⟨c, m, rfl, rfl, hm, hcm', h, hk⟩ := hrel
      rcases h.own.shape with ⟨-, rfl⟩ | ⟨g', cap', hsh, -, -, -, -, -, hcl⟩
      · simp at hi
      injection hsh with e1 e2 e3
      injection e1 with e1
      injection e1 with e1 e4 e5
      subst e1
      subst e3
      clear e2 e4 e5
      have q0 : wr.cell? ⟨hb, 0, none⟩ = some fv9 := cell_of h.blk
      have q1 : wr.cell? ⟨hb, 1, none⟩ = some (.slice (some ⟨g, 0, none⟩) l'.length cap) := cell_of h.blk
      have HH := Lib.hid h
      have HK := Lib.hid hk
      have hcle : c ≤ 2 * i + 3 := by omega
      by_cases hgo : c ≤ 2 * i + 2 ∧ c < l'.length
      · obtain ⟨hg1, hg2⟩ := hgo
        have cc := (hcl c hg2).2
        have cm := (hcl m hm).2
        rw [← vv_getD] at cc cm
        have j1 : (c : Int) ≤ 2 * (i : Int) + 2 := by omega
        have j2 : (c : Int) < (l'.length : Int) := by omega
        have j3 : (m : Int) < (l'.length : Int) := by omega
        have hnext : ∀ t, lt (vv l' c) (vv l' m) = t → ((c + 1 = 2 * i + 1 ∧ (if t = true then c else m) = i) ∨ (c + 1 = 2 * i + 2 ∧ 2 * i + 1 < l'.length ∧ (if t = true then c else m) = least1 l' i) ∨ (c + 1 = 2 * i + 3 ∧ 2 * i + 2 < l'.length ∧ (if t = true then c else m) = least lt l' i)) := by
          intro t ht
          rcases hcm' with ⟨rfl, rfl⟩ | ⟨rfl, h2, rfl⟩ | ⟨rfl, h2, rfl⟩
          · right; left
            refine ⟨by omega, hg2, ?_⟩
            unfold least1
            rw [ht]
          · right; right
            refine ⟨by omega, hg2, ?_⟩
            rw [least_two hg2, ht]
          · omega
        obtain ⟨a, ha⟩ : ∃ a, vv l' c = a := ⟨_, rfl⟩
        obtain ⟨b, hb'⟩ : ∃ b, vv l' m = b := ⟨_, rfl⟩
        rw [ha] at cc
        rw [hb'] at cm
        rw [ha, hb'] at hnext
        have hls := fun n => less_any a b (wr.drewN n)
        cases hab : lt a b
        · have hnext := hnext _ hab
          rw [hab] at hls
          clear hcl h hk ha hb' hcm' hab
          go_wp2_with fail
          go_quiet ((go_at_call 9; exact Calls.quiet_of_same (hls _)))
          go_wp2_with fail
          go_roundw
          case rel => exact ⟨c + 1, m, by go_num, rfl, hm, hnext, HH.out.drewN _, HK.out.drewN _⟩
          case measure => simp [intOf]; omega
        · have hnext := hnext _ hab
          rw [hab] at hls
          clear hcl h hk ha hb' hcm' hab
          go_wp2_with fail
          go_quiet ((go_at_call 9; exact Calls.quiet_of_same (hls _)))
          go_wp2_with fail
          go_roundw
          case rel => exact ⟨c + 1, c, by go_num, rfl, hg2, hnext, HH.out.drewN _, HK.out.drewN _⟩
          case measure => simp [intOf]; omega
      · have hml : m = least lt l' i := by
          rcases hcm' with ⟨rfl, rfl⟩ | ⟨rfl, h2, rfl⟩ | ⟨rfl, h2, rfl⟩
          · rw [least_none (by omega)]
          · rw [least_one h2 (by omega)]
          · rfl
        have hstop : (¬ (c : Int) ≤ 2 * (i : Int) + 2) ∨ ((c : Int) ≤ 2 * (i : Int) + 2 ∧ ¬ (c : Int) < (l'.length : Int)) := by omega
        have hsw := fun W (hW : Hp W base hb fv9 (.slice (some ⟨g, 0, none⟩) l'.length cap) mb l') => swap_any base hb fv9 _ mb l' i m hi hm W hW
        clear hcl h hk hcm' hgo
        by_cases hmi : m = i
        · have hds := down_stop (l := l') (i := i) (by rw [← hml]; exact hmi)
          rw [hds] at hdn
          have heq : ((m : Int) == (i : Int)) = true := by rw [hmi]; simp
          have HDN := Lib.hid hdn
          clear hml hsw hdn
          subst hmi
          rcases hstop with hs | ⟨hs1, hs2⟩
          all_goals
            go_wp2_with fail
            go_returns
            rw [← HDN.out, ← hll]
            exact ⟨rfl, HH.out, HK.out⟩
        · have hdg := down_go (l := l') (i := i) (by rw [← hml]; exact hmi)
          rw [← hml] at hdg
          rw [hdg] at hdn
          have hlt : i < m := by
            rcases least_cases lt l' i with h1 | ⟨h1, -⟩
            · exact absurd (hml.trans h1) hmi
            · rw [hml]; exact h1
          have heq : ((m : Int) == (i : Int)) = false := beq_eq_false_iff_ne.2 (by omega)
          clear hml hdg
          rcases hstop with hs | ⟨hs1, hs2⟩
          all_goals
            go_wp2_with fail
            refine (hsw _ HH.out).mono ?_
            rintro e w2 ⟨rfl, h2, k2⟩
            have hk2 : Kept (own mb (.slice (some ⟨g, 0, none⟩) l'.length cap)) w w2 := HK.out.trans k2 (fun _ _ h => h)
            clear hsw q0 q1 HH HK k2
            go_wp2_with fail
            go_roundw
            case rel => exact ⟨m, _, rfl, by rw [length_swp]; exact hm, by rw [length_swp]; exact hll, hdn, h2, hk2⟩
            case measure => simp [intOf]; omega

set_option maxHeartbeats 2000000 in
theorem fix_any (base hb : Nat) (v : Value) (mb : Nat) (l : List (Int × Int)) (i : Nat) (hi : i < l.length) (w : World) (h : Hp w base hb fv9 v mb l) :
    Calls Try.prog 16 #[.pointer (some ⟨hb, 0, none⟩), .int .i64 i] w fun e w' => e = .returned (.tuple #[]) ∧ Hp w' base hb fv9 v mb (fix lt l i) ∧ Kept (own mb v) w w' := by
  have hu := up_any base hb v mb l i hi w h
  obtain ⟨hal, hle⟩ := up_alike lt i l hi
  have hlen : (up lt l i).1.length = l.length := hal.len
  have hd := fun W (hW : Hp W base hb fv9 v mb (up lt l i).1) => down_any base hb v mb (up lt l i).1 i (by rw [hlen]; exact hi) W hW
  by_cases hc : (up lt l i).2 = i
  · have hf : fix lt l i = down lt (up lt l i).1 i := by unfold fix; rw [if_pos hc]
    rw [hc] at hu
    rw [show (((i : Nat) : Int) != (i : Int)) = false by simp] at hu
    rw [hf]
    go_enter Try.func16, Try.ntmps16
    go_wp2_with fail
    refine hu.mono ?_
    rintro e w1 ⟨rfl, h1, k1⟩
    go_wp2_with fail
    refine (hd _ h1).mono ?_
    rintro e w2 ⟨rfl, h2, k2⟩
    go_wp2_with fail
    go_end0
    exact ⟨rfl, h2, k1.trans k2 (fun _ _ h => h)⟩
  · have hf : fix lt l i = (up lt l i).1 := by unfold fix; rw [if_neg hc]
    rw [show ((((up lt l i).2 : Nat) : Int) != (i : Int)) = true by simp; omega] at hu
    rw [hf]
    go_enter Try.func16, Try.ntmps16
    go_wp2_with fail
    refine hu.mono ?_
    rintro e w1 ⟨rfl, h1, k1⟩
    go_wp2_with fail
    go_end0
    exact ⟨rfl, h1, k1⟩
end Go.Proofs.Ytbnpipfmeekbdaa
