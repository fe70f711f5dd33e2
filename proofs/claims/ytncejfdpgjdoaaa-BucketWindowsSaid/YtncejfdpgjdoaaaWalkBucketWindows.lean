/- Within any ticks side by side no more are taken than there may be, and come in these: the walk. -/
import Derived.Test.YtncejfdpgjdoaaaHead
import Derived.Test.YtncejfdpgjdoaaaArgs
import Derived.Test.YtncejfdpgjdoaaaBits
import Derived.Test.YtncejfdpgjdoaaaOwn
import Derived.Test.YtncejfdpgjdoaaaWindowPure
import Derived.Handy
namespace Go.Proofs.Ytncejfdpgjdoaaa
open Go.RowKit Go.Kpt WindowPure
set_option linter.unusedVariables false
attribute [local go_sem] i64_and63 i64_and15

theorem Try.info3 : (Try.prog.info? 3).map (fun i => (i.zero, i.size, i.bytes)) = some (some (.int .i64 0), 1, 8) := by kernel_rfl

set_option maxRecDepth 100000 in
set_option maxHeartbeats 4000000 in
theorem bucketWindows_walk (size refill : Int) (a2 : Option Addr) (cap2 : Nat) (z2 : List Int) (w : World)
    (w0 : (Lit.int .i64 size).wf = true) (w1 : (Lit.int .i64 refill).wf = true) (w2 : IsInts .i64 w a2 z2) :
    Calls Try.prog 3 #[.int .i64 size, .int .i64 refill, .slice a2 z2.length cap2] w fun e w' => e = .returned (.bool true) ∧ Below w.heap.size w w' := by
  have hl := w2.1
  unfold maxLen at hl
  obtain ⟨i0, hi, hz0, hz1, hz2⟩ := info_parts Try.info3
  by_cases h60 : 60 < z2.length
  · go_enter Try.func3, Try.ntmps3
    go_wp2_with fail
    refine (head_any _).mono ?_
    rintro e wa ⟨rfl, hB⟩
    go_wp2_with fail
    go_ret
    exact ⟨rfl, hB⟩
  · go_enter Try.func3, Try.ntmps3
    go_wp2_with fail
    refine (head_any _).mono ?_
    rintro e wa ⟨rfl, hB⟩
    go_wp2_with fail
    refine (new_any _ _ _).mono ?_
    rintro e wb ⟨rfl, hb1, hB1, hs1⟩
    rw [bnd_id (by omega) (by omega), bnd_id (by omega) (by omega)] at hb1
    have hab := hB.size
    have hBb : Below w.heap.size w wb := hB.trans (hB1.mono (by omega))
    generalize wa.heap.size = ba at *
    clear hB hB1
    go_wp2_with fail
    have hE := OwnI.empty wb (ba + 1) 3 .i64 (by omega)
    rw [hs1] at hE
    have hb2 := hb1.alloc (.cells #[] 3)
    have hB2 := hBb.alloc hBb.size (.cells #[] 3)
    go_loopw [8, 32] (fun v i wr => ∃ (k : Nat) (gs : List Int) (t : Int), k ≤ z2.length ∧ i = .int .i64 k ∧ gs.length = k ∧ OwnI wr (ba + 1) 3 .i64 v gs ∧ Bk wr ba (size % 64) (refill % 16) t ∧ 0 ≤ t ∧ t ≤ size % 64 ∧ Wins gs (size % 64) (refill % 16) ∧ Due gs (size % 64) (refill % 16) t ∧ (∀ g ∈ gs, 0 ≤ g) ∧ Below w.heap.size w wr) (fun _ i _ => z2.length - (intOf i).toNat)
    case atStart => exact ⟨0, [], _, by omega, rfl, rfl, hE, hb2, by omega, by omega, wins_nil _ _, due_nil (by omega), by simp, hB2⟩
    case round =>
      clear hb1 hBb hb2 hB2 hE hs1
      obtain ⟨k, gs, t, hk, rfl, hgl, hown, hb, h0, h1, hW, hD, hG, hB⟩ := hrel
      have HW := Lib.hid hW
      have HD := Lib.hid hD
      have HG := Lib.hid hG
      have HL := Lib.hid hgl
      have hgl2 : gs.length ≤ 60 := by omega
      clear hW hD hG hgl
      by_cases hlt : k < z2.length
      · obtain ⟨b, off, rfl, hc⟩ := w2.2.2 k hlt
        have c0 := arg_cell hB hc
        have hbs := hb.lt
        clear hc
        generalize z2.getD k 0 = n at *
        obtain ⟨wo, hwo⟩ : ∃ wo : World, wo = wr := ⟨_, rfl⟩
        have HWO := Lib.hid hwo
        clear hwo
        go_wp2_with fail
        go_loopw [11, 12] (fun c i wx => ∃ (g j : Nat), (j : Int) ≤ n % 64 ∧ g ≤ j ∧ (g : Int) ≤ t ∧ c = .int .i64 g ∧ i = .int .i64 j ∧ Bk wx ba (size % 64) (refill % 16) (t - g) ∧ Kept (fun x => x = ba) wr wx) (fun _ i _ => 64 - (intOf i).toNat)
        case atStart => exact ⟨0, 0, by omega, by omega, by omega, rfl, rfl, by simpa using hb, Kept.refl _ _⟩
        case round =>
          obtain ⟨g, j, hj, hgj, hgt, rfl, rfl, hbx, hkx⟩ := hrel
          by_cases hjn : (j : Int) < n % 64
          · by_cases hp : 0 < t - g
            · go_wp2_with fail
              refine (take_yes _ _ _ _ _ hbx (by omega) (by omega)).mono ?_
              rintro e wd ⟨rfl, hd, kd⟩
              go_wp2_with fail
              go_roundw
              case rel => exact ⟨g + 1, j + 1, by omega, by omega, by omega, by go_num, by go_num, by rw [show t - ((g + 1 : Nat) : Int) = t - g - 1 by omega]; exact hd, hkx.trans kd (fun _ _ h => h)⟩
              case measure => simp [intOf]; omega
            · rw [show t - (g : Int) = 0 by omega] at hbx
              go_wp2_with fail
              refine (take_no _ _ _ _ hbx).mono ?_
              rintro e wd ⟨rfl, rfl⟩
              go_wp2_with fail
              go_roundw
              case rel => exact ⟨g, j + 1, by omega, by omega, by omega, rfl, by go_num, by rw [show t - (g : Int) = 0 by omega]; exact hbx, hkx⟩
              case measure => simp [intOf]; omega
          · have hx := hown.kept hkx (fun g' hg' e => by have := (hown.lt g' hg').1; omega)
            have hz := hkx.size
            have hB' := hB.trans (hkx.below hB.size (fun x hx e => by omega))
            clear hown hb hkx
            have hbs' := hbx.lt
            go_wp2_with (at_builtin; refine wpList_append_own_at _ rfl _ _ 22 rfl (ba + 1) 3 i0 (.int .i64 0) 1 8 Try.underlying22 hi hz0 hz1 hz2 rfl (by decide) _ _ _ rfl (hx.alloc _) ⟨wr.heap.size, 0, none⟩ 1 1 [.int .i64 (g : Int)] rfl rfl (cell_one_new _ _ _) (ints_oneCell .i64 [(g : Int)]) (by unfold maxLen; omega) (by omega) (by simp; omega) ?_; intro v' w1 hown' hgrow hnil hloc)
            have hkw := Kept.of_grown hgrow
            have hx' := OwnI.snoc hown'
            have hlt8 := hx.lt
            have hne : ∀ x, x < ba + 1 → ¬ (some x = u8.ownBlock) := fun x hx e => by have := (hlt8 x e.symm).1; omega
            have hbw := (hbx.alloc (.cells #[.int .i64 (g : Int)] 3)).kept hkw (hne _ (by omega))
            have hBw := (hB'.alloc hB'.size (.cells #[.int .i64 (g : Int)] 3)).trans (hkw.below (by simp; have := hB'.size; omega) (fun x hx => hne x (by omega)))
            have hsw := hkw.size
            clear hown' hgrow hnil hloc hkw hx hbx hB'
            refine (tick_any _ _ _ _ _ hbw (by omega) (by omega) (by omega) (by omega)).mono ?_
            rintro e wd ⟨rfl, hd, kd⟩
            have hxd := hx'.kept kd (fun g' hg' e => by have := (hx'.lt g' hg').1; omega)
            have hBd := hBw.trans (kd.below hBw.size (fun x hx e => by omega))
            clear kd hBw hbw hne
            go_wp2_with fail
            go_roundw
            case rel => exact ⟨k + 1, gs ++ [(g : Int)], _, by omega, by go_num, by simp [HL.out], hxd, hd, by split <;> omega, by split <;> omega, wins_snoc HW.out HD.out hgt, due_snoc HD.out (by split <;> omega) (by split <;> omega), fun x hx => by rcases List.mem_append.1 hx with h | h; exact HG.out x h; simp at h; omega, hBd⟩
            case measure => simp [intOf]; omega
      · rcases hown.shape with ⟨rfl, rfl⟩ | ⟨g, cap, rfl, hbg, hgl, hle, hcm, hc⟩
        · go_wp2_with fail
          refine wp_loop_rounds 1 ?_
          rw [rounds_succ]
          go_wp2_with fail
          go_ret
          exact ⟨rfl, hB⟩
        · unfold maxLen at hcm
          have hmono := psum_mono HG.out
          have HM := Lib.hid hmono
          have HC := Lib.hid hc
          clear hmono hc hown hb
          go_wp2_with fail
          go_loop [55] (fun a => ∃ i : Nat, i ≤ gs.length ∧ a = .int .i64 i) (fun a => gs.length - (intOf a).toNat)
          case atStart => exact ⟨0, by omega, rfl⟩
          case round =>
            obtain ⟨i, hi', rfl⟩ := hrel
            by_cases hil : i < gs.length
            · have hn1 : (0 : Int) ≤ i := by omega
              go_wp2_with fail
              go_loop [62, 14] (fun q sm => ∃ j : Nat, i + j ≤ gs.length ∧ q = .int .i64 j ∧ sm = .int .i64 (psum gs (i + j) - psum gs i)) (fun q _ => gs.length - (intOf q).toNat)
              case atStart => exact ⟨0, by omega, rfl, by simp⟩
              case round =>
                obtain ⟨j, hj, rfl, rfl⟩ := hrel
                by_cases hjl : i + j < gs.length
                · have hcell := HC.out (i + j) hjl
                  have m1 := HM.out i (i + j) (by omega)
                  have m2 := HM.out (i + j) (i + j + 1) (by omega)
                  have m3 := HW.out i (i + j) (by omega) hjl
                  have e3 : i + j - i = j := by omega
                  rw [e3] at m3
                  clear e3
                  have m4 : psum gs (i + j + 1) = psum gs (i + j) + gs.getD (i + j) 0 := rfl
                  have HS := Lib.hid m4
                  rw [m4] at m2 m3
                  clear m4
                  have hr0 : 0 ≤ refill % 16 * (j : Int) := Int.mul_nonneg (by omega) (by omega)
                  have hr1 : refill % 16 * (j : Int) ≤ 15 * 60 := by
                    calc refill % 16 * (j : Int) ≤ 15 * (j : Int) := Int.mul_le_mul_of_nonneg_right (by omega) (by omega)
                      _ ≤ 15 * 60 := Int.mul_le_mul_of_nonneg_left (by omega) (by omega)
                  generalize gs.getD (i + j) 0 = x at *
                  go_wp2_with fail
                  go_round
                  case rel => exact ⟨j + 1, by omega, by go_num, by rw [show i + (j + 1) = i + j + 1 by omega, HS.out, show psum gs (i + j) + x - psum gs i = psum gs (i + j) - psum gs i + x by omega]⟩
                  case measure => simp [intOf]; omega
                · go_wp2_with fail
                  go_round
                  case rel => exact ⟨i + 1, by omega, by go_num⟩
                  case measure => simp [intOf]; omega
            · go_wp2_with fail
              go_ret
              exact ⟨rfl, hB⟩
end Go.Proofs.Ytncejfdpgjdoaaa
