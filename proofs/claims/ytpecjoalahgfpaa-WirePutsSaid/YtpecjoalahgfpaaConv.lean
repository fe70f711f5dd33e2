/- Bytes as a string. -/
import Derived.Test.YtpecjoalahgfpaaWalkWireCuts
import Derived.Test.YtpecjoalahgfpaaWalkWireReads
namespace Go.Proofs.Ytpecjoalahgfpaa
open Go.RowKit Go.Kpt WirePure
set_option linter.unusedVariables false

def bstr (zs : List Nat) : ByteArray := strOfNums (ib zs)

theorem conv_any {w : World} {p : Nat → Prop} {a : Option Addr} {zs : List Nat} (hsl : Sl .u8 w p a (ib zs)) (cap : Nat) :
    (convert 23 9 (.slice a zs.length cap)).run Try.prog w = .ok (.string (bstr zs)) w := by
  have hs : Try.prog.underlying 23 = some (.slice 5) := Try.underlying23
  have he : Try.prog.underlying 5 = some (.int .u8) := Try.underlying5
  have hd : Try.prog.underlying 9 = some .string := Try.underlying9
  by_cases h0 : zs = []
  · subst h0
    cases a with
    | none => exact run_convert_bytes_nil w 23 5 hs he _ cap 9 hd
    | some ad =>
      rw [run_convert_bytes_string w 23 9 5 _ _ cap hs he hd]
      exact run_bytesToString w ad 0 cap [] (by simp [loadCells, loadCellsFrom])
  · obtain ⟨b, off, rfl, _, _⟩ := hsl 0 (by rw [ib_length]; exact List.length_pos_iff.2 h0)
    refine run_convert_bytes_arg w 23 5 hs he b off zs.length cap (ib zs) (ib_length zs) (fun i hi => ?_) 9 hd
    obtain ⟨b', off', e', _, hc⟩ := hsl i (by rw [ib_length]; exact hi)
    cases e'
    exact hc
end Go.Proofs.Ytpecjoalahgfpaa
