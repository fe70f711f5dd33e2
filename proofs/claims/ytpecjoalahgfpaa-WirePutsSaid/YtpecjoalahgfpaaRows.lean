/-
  No cell of these rows narrows 'for every input' (looked for: loops, veiled, ifaces, maps, wideKeys, modest, calm, conditions, laid).
  DERIVED. THE GIVEN ROWS OF THIS SEAT. 7 by the template 'for every input the law returns true; each argument reads behind the call as it read before'; 0 by the template 'total and deterministic' (their statements: YtpecjoalahgfpaaTotals.lean).
  GIVEN WITH THE SEED: the statements are not yours to turn. If you find one false, say at which input.
  Laid BY PROGRAM, IN A SANDBOX (cutbox-rows.mjs): the forced cells as the released guide's own fill.sh prints them over the translation 2ab8cdcc2d08b0d6… (all of the seat's roots in one cut). By AI agents, Wed Nov 11 2026. No macro, syntax, notation, axiom, sorry.
-/
import Derived.Test.YtpecjoalahgfpaaChecked
import GoSem.Claim
import GoSem.ClaimJoined
import GoSem.ClaimMapViews
import Derived.JoinedTies
import Derived.KernelRfl
namespace Go.Proofs.Ytpecjoalahgfpaa
/- THE CELL 'sum', in the pinned program and in every row, IS THE sha256 OF THE DUMP (.gsa) THAT YtpecjoalahgfpaaProg.lean LOADS. Nothing in Lean hashes anything: it is a label: what it is worth is what the hold of that sum in a sandbox is worth. -/
noncomputable def Try.pinned : Pinned := { name := "ytpecjoalahgfpaa", sum := "2ab8cdcc2d08b0d66af952fe0991e4e34199acecc51c08f0adcfe290f1ba7ba2", checked := Try.checked }
namespace Rows
def none {H : Type} : Left H := { results := [], args := [] }

/-- 'greenhouselaw03.WirePuts': WHATEVER THE INPUT: true; the input reads as it did. -/
def wirePutsSpec : ChangeSpec := { name := "wirePuts", fn := fun _ => fun
  | [d1, d2] => { results := [.lit (.bool true)], args := [d1, d2] }
  | _ => none }
def wirePutsRow : OpenClaim := { program := "ytpecjoalahgfpaa", sum := "2ab8cdcc2d08b0d66af952fe0991e4e34199acecc51c08f0adcfe290f1ba7ba2", func := "greenhouse/greenhouselaw03.WirePuts", spec := "wirePuts", apart := false }
def WirePutsSaid : Prop := wirePutsRow.holds Try.pinned (OpenSpec.ofChange wirePutsSpec)

/-- ITS FALSE NEIGHBOUR: 'it returns false'. Refute it at one input. -/
def wirePutsWrong : ChangeSpec := { name := "wirePuts", fn := fun _ => fun
  | [d1, d2] => { results := [.lit (.bool false)], args := [d1, d2] }
  | _ => none }
def WirePutsWrongFalsely : Prop := wirePutsRow.holds Try.pinned (OpenSpec.ofChange wirePutsWrong)

/-- 'greenhouselaw03.WireReads': WHATEVER THE INPUT: true; the input reads as it did. -/
def wireReadsSpec : ChangeSpec := { name := "wireReads", fn := fun _ => fun
  | [d1, d2] => { results := [.lit (.bool true)], args := [d1, d2] }
  | _ => none }
def wireReadsRow : OpenClaim := { program := "ytpecjoalahgfpaa", sum := "2ab8cdcc2d08b0d66af952fe0991e4e34199acecc51c08f0adcfe290f1ba7ba2", func := "greenhouse/greenhouselaw03.WireReads", spec := "wireReads", apart := false }
def WireReadsSaid : Prop := wireReadsRow.holds Try.pinned (OpenSpec.ofChange wireReadsSpec)

/-- ITS FALSE NEIGHBOUR: 'it returns false'. Refute it at one input. -/
def wireReadsWrong : ChangeSpec := { name := "wireReads", fn := fun _ => fun
  | [d1, d2] => { results := [.lit (.bool false)], args := [d1, d2] }
  | _ => none }
def WireReadsWrongFalsely : Prop := wireReadsRow.holds Try.pinned (OpenSpec.ofChange wireReadsWrong)

/-- 'greenhouselaw03.WireOnes': WHATEVER THE INPUT: true; the input reads as it did. -/
def wireOnesSpec : ChangeSpec := { name := "wireOnes", fn := fun _ => fun
  | [d] => { results := [.lit (.bool true)], args := [d] }
  | _ => none }
def wireOnesRow : OpenClaim := { program := "ytpecjoalahgfpaa", sum := "2ab8cdcc2d08b0d66af952fe0991e4e34199acecc51c08f0adcfe290f1ba7ba2", func := "greenhouse/greenhouselaw03.WireOnes", spec := "wireOnes", apart := false }
def WireOnesSaid : Prop := wireOnesRow.holds Try.pinned (OpenSpec.ofChange wireOnesSpec)

/-- ITS FALSE NEIGHBOUR: 'it returns false'. Refute it at one input. -/
def wireOnesWrong : ChangeSpec := { name := "wireOnes", fn := fun _ => fun
  | [d] => { results := [.lit (.bool false)], args := [d] }
  | _ => none }
def WireOnesWrongFalsely : Prop := wireOnesRow.holds Try.pinned (OpenSpec.ofChange wireOnesWrong)

/-- 'greenhouselaw03.WireSizes': WHATEVER THE INPUT: true; the input reads as it did. -/
def wireSizesSpec : ChangeSpec := { name := "wireSizes", fn := fun _ => fun
  | [d1, d2] => { results := [.lit (.bool true)], args := [d1, d2] }
  | _ => none }
def wireSizesRow : OpenClaim := { program := "ytpecjoalahgfpaa", sum := "2ab8cdcc2d08b0d66af952fe0991e4e34199acecc51c08f0adcfe290f1ba7ba2", func := "greenhouse/greenhouselaw03.WireSizes", spec := "wireSizes", apart := false }
def WireSizesSaid : Prop := wireSizesRow.holds Try.pinned (OpenSpec.ofChange wireSizesSpec)

/-- ITS FALSE NEIGHBOUR: 'it returns false'. Refute it at one input. -/
def wireSizesWrong : ChangeSpec := { name := "wireSizes", fn := fun _ => fun
  | [d1, d2] => { results := [.lit (.bool false)], args := [d1, d2] }
  | _ => none }
def WireSizesWrongFalsely : Prop := wireSizesRow.holds Try.pinned (OpenSpec.ofChange wireSizesWrong)

/-- 'greenhouselaw03.WireCuts': WHATEVER THE INPUT: true; the input reads as it did. -/
def wireCutsSpec : ChangeSpec := { name := "wireCuts", fn := fun _ => fun
  | [d1, d2] => { results := [.lit (.bool true)], args := [d1, d2] }
  | _ => none }
def wireCutsRow : OpenClaim := { program := "ytpecjoalahgfpaa", sum := "2ab8cdcc2d08b0d66af952fe0991e4e34199acecc51c08f0adcfe290f1ba7ba2", func := "greenhouse/greenhouselaw03.WireCuts", spec := "wireCuts", apart := false }
def WireCutsSaid : Prop := wireCutsRow.holds Try.pinned (OpenSpec.ofChange wireCutsSpec)

/-- ITS FALSE NEIGHBOUR: 'it returns false'. Refute it at one input. -/
def wireCutsWrong : ChangeSpec := { name := "wireCuts", fn := fun _ => fun
  | [d1, d2] => { results := [.lit (.bool false)], args := [d1, d2] }
  | _ => none }
def WireCutsWrongFalsely : Prop := wireCutsRow.holds Try.pinned (OpenSpec.ofChange wireCutsWrong)

/-- 'greenhouselaw03.WireMosts': WHATEVER THE INPUT: true; the input reads as it did. -/
def wireMostsSpec : ChangeSpec := { name := "wireMosts", fn := fun _ => fun
  | [d1, d2] => { results := [.lit (.bool true)], args := [d1, d2] }
  | _ => none }
def wireMostsRow : OpenClaim := { program := "ytpecjoalahgfpaa", sum := "2ab8cdcc2d08b0d66af952fe0991e4e34199acecc51c08f0adcfe290f1ba7ba2", func := "greenhouse/greenhouselaw03.WireMosts", spec := "wireMosts", apart := false }
def WireMostsSaid : Prop := wireMostsRow.holds Try.pinned (OpenSpec.ofChange wireMostsSpec)

/-- ITS FALSE NEIGHBOUR: 'it returns false'. Refute it at one input. -/
def wireMostsWrong : ChangeSpec := { name := "wireMosts", fn := fun _ => fun
  | [d1, d2] => { results := [.lit (.bool false)], args := [d1, d2] }
  | _ => none }
def WireMostsWrongFalsely : Prop := wireMostsRow.holds Try.pinned (OpenSpec.ofChange wireMostsWrong)

/-- 'greenhouselaw03.WireFlags': WHATEVER THE INPUT: true; the input reads as it did. -/
def wireFlagsSpec : ChangeSpec := { name := "wireFlags", fn := fun _ => fun
  | [d1, d2] => { results := [.lit (.bool true)], args := [d1, d2] }
  | _ => none }
def wireFlagsRow : OpenClaim := { program := "ytpecjoalahgfpaa", sum := "2ab8cdcc2d08b0d66af952fe0991e4e34199acecc51c08f0adcfe290f1ba7ba2", func := "greenhouse/greenhouselaw03.WireFlags", spec := "wireFlags", apart := false }
def WireFlagsSaid : Prop := wireFlagsRow.holds Try.pinned (OpenSpec.ofChange wireFlagsSpec)

/-- ITS FALSE NEIGHBOUR: 'it returns false'. Refute it at one input. -/
def wireFlagsWrong : ChangeSpec := { name := "wireFlags", fn := fun _ => fun
  | [d1, d2] => { results := [.lit (.bool false)], args := [d1, d2] }
  | _ => none }
def WireFlagsWrongFalsely : Prop := wireFlagsRow.holds Try.pinned (OpenSpec.ofChange wireFlagsWrong)

/- THE SECOND FORM. 'bulk': how many values and letters a reading holds, each counted each time it is reached (what is shared counts as often as it is met; a slice's spare places count too). A statement '..UptoSaid' is the law's where the arguments, and the package variables that the reading takes, are together of bulk at most 1048576: NARROWER than '..Said'. Prove '..Said' where nothing that the law and all that it calls make is longer than what came in: it says more and counts as full. Else prove '..UptoSaid'. A law counts once. -/
mutual
def uptoBulk {H : Type} : DataW H → Nat
  | .lit (.string bytes) => bytes.length + 1
  | .lit _ => 1
  | .nil => 1
  | .ptr d => uptoBulk d + 1
  | .slice elems spare => uptoBulkAll elems + uptoBulkAll spare + 1
  | .agg parts => uptoBulkAll parts + 1
  | .iface _ d => uptoBulk d + 1
  | .map entries => uptoBulkEntries entries + 1
  | .held _ => 1
def uptoBulkAll {H : Type} : List (DataW H) → Nat
  | [] => 0
  | d :: r => uptoBulk d + uptoBulkAll r
def uptoBulkEntries {H : Type} : List (Lit × DataW H) → Nat
  | [] => 0
  | x :: r => uptoBulkEntry x + uptoBulkEntries r
def uptoBulkEntry {H : Type} : Lit × DataW H → Nat
  | (.string bytes, d) => bytes.length + uptoBulk d + 1
  | (_, d) => uptoBulk d + 1
 end
def uptoSmall : (H : Type) → List (DataW H) → Bool := fun _ ds => decide (uptoBulkAll ds ≤ 1048576)
def OpenSpec.upto (s : _root_.Go.ChangeSpec) : _root_.Go.OpenSpec := { _root_.Go.OpenSpec.ofChange s with cond := some uptoSmall }

/-- 'greenhouselaw03.WirePuts', WHERE WHAT IT READS IS OF BULK AT MOST 1048576: true; the input reads as it did. -/
def wirePutsUptoRow : OpenClaim := { program := "ytpecjoalahgfpaa", sum := "2ab8cdcc2d08b0d66af952fe0991e4e34199acecc51c08f0adcfe290f1ba7ba2", func := "greenhouse/greenhouselaw03.WirePuts", spec := "wirePuts", apart := false, narrowed := true }
def WirePutsUptoSaid : Prop := wirePutsUptoRow.holds Try.pinned (OpenSpec.upto wirePutsSpec)

/-- 'greenhouselaw03.WireReads', WHERE WHAT IT READS IS OF BULK AT MOST 1048576: true; the input reads as it did. -/
def wireReadsUptoRow : OpenClaim := { program := "ytpecjoalahgfpaa", sum := "2ab8cdcc2d08b0d66af952fe0991e4e34199acecc51c08f0adcfe290f1ba7ba2", func := "greenhouse/greenhouselaw03.WireReads", spec := "wireReads", apart := false, narrowed := true }
def WireReadsUptoSaid : Prop := wireReadsUptoRow.holds Try.pinned (OpenSpec.upto wireReadsSpec)

/-- 'greenhouselaw03.WireOnes', WHERE WHAT IT READS IS OF BULK AT MOST 1048576: true; the input reads as it did. -/
def wireOnesUptoRow : OpenClaim := { program := "ytpecjoalahgfpaa", sum := "2ab8cdcc2d08b0d66af952fe0991e4e34199acecc51c08f0adcfe290f1ba7ba2", func := "greenhouse/greenhouselaw03.WireOnes", spec := "wireOnes", apart := false, narrowed := true }
def WireOnesUptoSaid : Prop := wireOnesUptoRow.holds Try.pinned (OpenSpec.upto wireOnesSpec)

/-- 'greenhouselaw03.WireSizes', WHERE WHAT IT READS IS OF BULK AT MOST 1048576: true; the input reads as it did. -/
def wireSizesUptoRow : OpenClaim := { program := "ytpecjoalahgfpaa", sum := "2ab8cdcc2d08b0d66af952fe0991e4e34199acecc51c08f0adcfe290f1ba7ba2", func := "greenhouse/greenhouselaw03.WireSizes", spec := "wireSizes", apart := false, narrowed := true }
def WireSizesUptoSaid : Prop := wireSizesUptoRow.holds Try.pinned (OpenSpec.upto wireSizesSpec)

/-- 'greenhouselaw03.WireCuts', WHERE WHAT IT READS IS OF BULK AT MOST 1048576: true; the input reads as it did. -/
def wireCutsUptoRow : OpenClaim := { program := "ytpecjoalahgfpaa", sum := "2ab8cdcc2d08b0d66af952fe0991e4e34199acecc51c08f0adcfe290f1ba7ba2", func := "greenhouse/greenhouselaw03.WireCuts", spec := "wireCuts", apart := false, narrowed := true }
def WireCutsUptoSaid : Prop := wireCutsUptoRow.holds Try.pinned (OpenSpec.upto wireCutsSpec)

/-- 'greenhouselaw03.WireMosts', WHERE WHAT IT READS IS OF BULK AT MOST 1048576: true; the input reads as it did. -/
def wireMostsUptoRow : OpenClaim := { program := "ytpecjoalahgfpaa", sum := "2ab8cdcc2d08b0d66af952fe0991e4e34199acecc51c08f0adcfe290f1ba7ba2", func := "greenhouse/greenhouselaw03.WireMosts", spec := "wireMosts", apart := false, narrowed := true }
def WireMostsUptoSaid : Prop := wireMostsUptoRow.holds Try.pinned (OpenSpec.upto wireMostsSpec)

/-- 'greenhouselaw03.WireFlags', WHERE WHAT IT READS IS OF BULK AT MOST 1048576: true; the input reads as it did. -/
def wireFlagsUptoRow : OpenClaim := { program := "ytpecjoalahgfpaa", sum := "2ab8cdcc2d08b0d66af952fe0991e4e34199acecc51c08f0adcfe290f1ba7ba2", func := "greenhouse/greenhouselaw03.WireFlags", spec := "wireFlags", apart := false, narrowed := true }
def WireFlagsUptoSaid : Prop := wireFlagsUptoRow.holds Try.pinned (OpenSpec.upto wireFlagsSpec)

end Rows
end Go.Proofs.Ytpecjoalahgfpaa
