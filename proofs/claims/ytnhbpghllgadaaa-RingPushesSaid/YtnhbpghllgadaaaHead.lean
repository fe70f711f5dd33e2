/- The document's example of the ring holds. -/
import Derived.Test.YtnhbpghllgadaaaWalks
import Derived.Test.YtnhbpghllgadaaaArgs
import Derived.Test.YtnhbpghllgadaaaBits
namespace Go.Proofs.Ytnhbpghllgadaaa
open Go.RowKit Go.Kpt RingPure
set_option linter.unusedVariables false

theorem take_push (z : List Int) {k : Nat} (h : k < z.length) : z.take (k + 1) = z.take k ++ [z.getD k 0] := by
  rw [List.take_succ_eq_append_getElem h, List.getD_eq_getElem?_getD, List.getElem?_eq_getElem h]; rfl

def upto (k : Nat) : List Int := (List.range k).map fun i : Nat => (i : Int) + 1

theorem upto_succ (k : Nat) : upto (k + 1) = upto k ++ [(k : Int) + 1] := by unfold upto; rw [List.range_succ]; simp

set_option maxRecDepth 100000 in
set_option maxHeartbeats 1600000 in
theorem head_any (w : World) : Calls Try.prog 7 #[] w fun e w' => e = .returned (.bool true) ∧ Below w.heap.size w w' := by
  go_enter Try.func7, Try.ntmps7
  go_wp2_with fail
  refine (new_any _).mono ?_
  rintro e wb ⟨rfl, hb, hB, hs⟩
  have HE := Lib.hid (show lastl (upto 10) = [3, 4, 5, 6, 7, 8, 9, 10] by decide)
  go_wp2_with fail
  go_loopw [2] (fun i wr => ∃ k : Nat, k ≤ 10 ∧ i = .int .i64 ((k : Int) + 1) ∧ Rg wr w.heap.size (upto k) ∧ Below w.heap.size w wr) (fun i _ => 12 - (intOf i).toNat)
  case atStart => exact ⟨0, by omega, rfl, hb, hB⟩
  case round =>
    clear hb hB
    obtain ⟨k, hk, rfl, hb, hB⟩ := hrel
    by_cases hlt : k < 10
    · have HS := Lib.hid (upto_succ k)
      go_wp2_with fail
      refine (push_any _ _ _ _ hb).mono ?_
      rintro e wd ⟨rfl, hd, kd⟩
      go_wp2_with fail
      go_roundw
      case rel => exact ⟨k + 1, by omega, by go_num, by rw [HS.out]; exact hd, hB.trans (kd.below hB.size (fun y hy e => by omega))⟩
      case measure => simp [intOf]; omega
    · obtain rfl : k = 10 := by omega
      go_wp2_with fail
      refine (list_any _ _ _ hb).mono ?_
      rintro e wd ⟨v, rfl, hv, hBd⟩
      have hd := hb.kept (Kept.of_below (F := fun _ => False) hBd) id
      have hB' := hB.trans (hBd.mono hB.size)
      clear hBd hB hb
      have hlen := len_any _ _ _ hd
      rw [HE.out] at hv hlen
      rcases hv.shape with ⟨_, e1⟩ | ⟨g, cp, rfl, hg, hl, hle, hm, hc⟩
      · cases e1
      have c0 := hc 0 (by decide)
      have c7 := hc 7 (by decide)
      simp only [List.length_cons, List.length_nil] at c0 c7 hlen hle
      clear hc hv
      go_wp2_with fail
      refine hlen.mono ?_
      rintro e we ⟨rfl, rfl⟩
      go_wp2_with fail
      go_ret
      exact ⟨rfl, hB'⟩
end Go.Proofs.Ytnhbpghllgadaaa
