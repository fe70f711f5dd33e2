/- The document's example holds. -/
import Derived.Test.YtncejfdpgjdoaaaWalks
namespace Go.Proofs.Ytncejfdpgjdoaaa
open Go.RowKit Go.Kpt

theorem bnd2 : bnd 2 = 2 := by decide
theorem bnd1 : bnd 1 = 1 := by decide

set_option maxHeartbeats 800000 in
theorem head_any (w : World) : Calls Try.prog 7 #[] w fun e w' => e = .returned (.bool true) ∧ Below w.heap.size w w' := by
  go_enter Try.func7, Try.ntmps7
  go_wp2_with fail
  refine (new_any _ _ _).mono ?_
  rintro e w1 ⟨rfl, hb1, hB1, hs⟩
  rw [bnd2, bnd1] at hb1
  go_wp2_with fail
  refine (take_yes _ _ _ _ _ hb1 (by omega) (by omega)).mono ?_
  rintro e w2 ⟨rfl, hb2, hk2⟩
  go_wp2_with fail
  refine (take_yes _ _ _ _ _ hb2 (by omega) (by omega)).mono ?_
  rintro e w3 ⟨rfl, hb3, hk3⟩
  go_wp2_with fail
  refine (take_no _ _ _ _ hb3).mono ?_
  rintro e w4 ⟨rfl, rfl⟩
  go_wp2_with fail
  refine (tick_any _ _ _ _ _ hb3 (by omega) (by omega) (by omega) (by omega)).mono ?_
  rintro e w4 ⟨rfl, hb4, hk4⟩
  go_wp2_with fail
  refine (take_yes _ _ _ _ _ hb4 (by decide) (by decide)).mono ?_
  rintro e w5 ⟨rfl, hb5, hk5⟩
  go_wp2_with fail
  refine (tokens_any _ _ _ _ _ hb5).mono ?_
  rintro e w6 ⟨rfl, rfl⟩
  go_wp2_with fail
  go_ret
  have hk : Kept (fun x => x = w.heap.size) w1 w5 := ((hk2.trans hk3 (fun _ _ h => h)).trans hk4 (fun _ _ h => h)).trans hk5 (fun _ _ h => h)
  exact ⟨rfl, hB1.trans (hk.below (by omega) (fun x hx h => by omega))⟩
end Go.Proofs.Ytncejfdpgjdoaaa
