/- Fix over a 'less' that counts. -/
import Derived.Test.YtbnpipfmeekbdaaCheapDown
namespace Go.Proofs.Ytbnpipfmeekbdaa
open Go.RowKit Go.Kpt HeapPure
set_option linter.unusedVariables false

set_option maxHeartbeats 2000000 in
theorem fixc_any (base hb : Nat) (v : Value) (mb : Nat) (l : List (Int × Int)) (i cb N : Nat) (hi : i < l.length) (hl0 : l.length ≤ 4096) (hN : N ≤ 800000) (w : World) (h : Hc w base hb v mb l cb N) :
    Calls Try.prog 16 #[.pointer (some ⟨hb, 0, none⟩), .int .i64 i] w fun e w' => e = .returned (.tuple #[]) ∧ ∃ N', N' ≤ N + 39 ∧ N ≤ N' ∧ Hc w' base hb v mb (fix lt l i) cb N' ∧ Kept (ownc mb v cb) w w' := by
  have hu := upc_any base hb v mb l i cb N hi (by omega) (by omega) w h
  obtain ⟨hal, hle⟩ := up_alike lt i l hi
  have hlen : (up lt l i).1.length = l.length := hal.len
  have hd := fun N' (hN' : N' ≤ 900000) W (hW : Hc W base hb v mb (up lt l i).1 cb N') => downc_any base hb v mb (up lt l i).1 i cb N' (by rw [hlen]; exact hi) (by rw [hlen]; exact hl0) hN' W hW
  by_cases hc : (up lt l i).2 = i
  · have hf : fix lt l i = down lt (up lt l i).1 i := by unfold fix; rw [if_pos hc]
    rw [hc] at hu
    rw [show (((i : Nat) : Int) != (i : Int)) = false by simp] at hu
    rw [hf]
    go_enter Try.func16, Try.ntmps16
    go_wp2_with fail
    refine hu.mono ?_
    rintro e w1 ⟨rfl, N1, hN1, hN2, h1, k1⟩
    go_wp2_with fail
    refine (hd N1 (by omega) _ h1).mono ?_
    rintro e w2 ⟨rfl, N2, hN3, hN4, h2, k2⟩
    go_wp2_with fail
    go_end0
    exact ⟨rfl, N2, by omega, by omega, h2, k1.trans k2 (fun _ _ h => h)⟩
  · have hf : fix lt l i = (up lt l i).1 := by unfold fix; rw [if_neg hc]
    rw [show ((((up lt l i).2 : Nat) : Int) != (i : Int)) = true by simp; omega] at hu
    rw [hf]
    go_enter Try.func16, Try.ntmps16
    go_wp2_with fail
    refine hu.mono ?_
    rintro e w1 ⟨rfl, N1, hN1, hN2, h1, k1⟩
    go_wp2_with fail
    go_end0
    exact ⟨rfl, N1, by omega, by omega, h1, k1⟩
end Go.Proofs.Ytbnpipfmeekbdaa
