/-
  No cell of these rows narrows 'for every input' (looked for: loops, veiled, ifaces, maps, wideKeys, modest, calm, conditions, laid).
  DERIVED. THE GIVEN ROWS OF THIS SEAT. 5 by the template 'for every input the law returns true; each argument reads behind the call as it read before'; 0 by the template 'total and deterministic' (their statements: YtamifcgljockaaaTotals.lean).
  GIVEN WITH THE SEED: the statements are not yours to turn. If you find one false, say at which input.
  Laid BY PROGRAM, IN A SANDBOX (cutbox-rows.mjs): the forced cells as the released guide's own fill.sh prints them over the translation ba288c8365c7a989… (all of the seat's roots in one cut). By AI agents, Wed Nov 11 2026. No macro, syntax, notation, axiom, sorry.
-/
import Derived.Test.YtamifcgljockaaaChecked
import GoSem.Claim
import GoSem.ClaimJoined
import GoSem.ClaimMapViews
import Derived.JoinedTies
import Derived.KernelRfl
namespace Go.Proofs.Ytamifcgljockaaa
/- THE CELL 'sum', in the pinned program and in every row, IS THE sha256 OF THE DUMP (.gsa) THAT YtamifcgljockaaaProg.lean LOADS. Nothing in Lean hashes anything: it is a label: what it is worth is what the hold of that sum in a sandbox is worth. -/
noncomputable def Try.pinned : Pinned := { name := "ytamifcgljockaaa", sum := "ba288c8365c7a989a8d9a04a7ede7d3a4c0b410290388f733331af1a101f4383", checked := Try.checked }
namespace Rows
def none {H : Type} : Left H := { results := [], args := [] }

/-- 'greenhouselaw09.WarmTies': WHATEVER THE INPUT: true; the input reads as it did. -/
def warmTiesSpec : ChangeSpec := { name := "warmTies", fn := fun _ => fun
  | [d1, d2, d3, d4] => { results := [.lit (.bool true)], args := [d1, d2, d3, d4] }
  | _ => none }
def warmTiesRow : OpenClaim := { program := "ytamifcgljockaaa", sum := "ba288c8365c7a989a8d9a04a7ede7d3a4c0b410290388f733331af1a101f4383", func := "greenhouse/greenhouselaw09.WarmTies", spec := "warmTies", inPlace := ["math/bits.Add64"], unfollowed := true, recurses := true, apart := false }
def WarmTiesSaid : Prop := warmTiesRow.holds Try.pinned (OpenSpec.ofChange warmTiesSpec)

/-- ITS FALSE NEIGHBOUR: 'it returns false'. Refute it at one input. -/
def warmTiesWrong : ChangeSpec := { name := "warmTies", fn := fun _ => fun
  | [d1, d2, d3, d4] => { results := [.lit (.bool false)], args := [d1, d2, d3, d4] }
  | _ => none }
def WarmTiesWrongFalsely : Prop := warmTiesRow.holds Try.pinned (OpenSpec.ofChange warmTiesWrong)

/-- 'greenhouselaw09.WarmAges': WHATEVER THE INPUT: true; the input reads as it did. -/
def warmAgesSpec : ChangeSpec := { name := "warmAges", fn := fun _ => fun
  | [d1, d2, d3, d4] => { results := [.lit (.bool true)], args := [d1, d2, d3, d4] }
  | _ => none }
def warmAgesRow : OpenClaim := { program := "ytamifcgljockaaa", sum := "ba288c8365c7a989a8d9a04a7ede7d3a4c0b410290388f733331af1a101f4383", func := "greenhouse/greenhouselaw09.WarmAges", spec := "warmAges", inPlace := ["math/bits.Add64"], unfollowed := true, recurses := true, apart := false }
def WarmAgesSaid : Prop := warmAgesRow.holds Try.pinned (OpenSpec.ofChange warmAgesSpec)

/-- ITS FALSE NEIGHBOUR: 'it returns false'. Refute it at one input. -/
def warmAgesWrong : ChangeSpec := { name := "warmAges", fn := fun _ => fun
  | [d1, d2, d3, d4] => { results := [.lit (.bool false)], args := [d1, d2, d3, d4] }
  | _ => none }
def WarmAgesWrongFalsely : Prop := warmAgesRow.holds Try.pinned (OpenSpec.ofChange warmAgesWrong)

/-- 'greenhouselaw09.WarmDrops': WHATEVER THE INPUT: true; the input reads as it did. -/
def warmDropsSpec : ChangeSpec := { name := "warmDrops", fn := fun _ => fun
  | [d] => { results := [.lit (.bool true)], args := [d] }
  | _ => none }
def warmDropsRow : OpenClaim := { program := "ytamifcgljockaaa", sum := "ba288c8365c7a989a8d9a04a7ede7d3a4c0b410290388f733331af1a101f4383", func := "greenhouse/greenhouselaw09.WarmDrops", spec := "warmDrops", inPlace := ["math/bits.Add64"], unfollowed := true, recurses := true, apart := false }
def WarmDropsSaid : Prop := warmDropsRow.holds Try.pinned (OpenSpec.ofChange warmDropsSpec)

/-- ITS FALSE NEIGHBOUR: 'it returns false'. Refute it at one input. -/
def warmDropsWrong : ChangeSpec := { name := "warmDrops", fn := fun _ => fun
  | [d] => { results := [.lit (.bool false)], args := [d] }
  | _ => none }
def WarmDropsWrongFalsely : Prop := warmDropsRow.holds Try.pinned (OpenSpec.ofChange warmDropsWrong)

/-- 'greenhouselaw09.WarmAll': WHATEVER THE INPUT: true; the input reads as it did. -/
def warmAllSpec : ChangeSpec := { name := "warmAll", fn := fun _ => fun
  | [d] => { results := [.lit (.bool true)], args := [d] }
  | _ => none }
def warmAllRow : OpenClaim := { program := "ytamifcgljockaaa", sum := "ba288c8365c7a989a8d9a04a7ede7d3a4c0b410290388f733331af1a101f4383", func := "greenhouse/greenhouselaw09.WarmAll", spec := "warmAll", inPlace := ["math/bits.Add64"], unfollowed := true, recurses := true, apart := false }
def WarmAllSaid : Prop := warmAllRow.holds Try.pinned (OpenSpec.ofChange warmAllSpec)

/-- ITS FALSE NEIGHBOUR: 'it returns false'. Refute it at one input. -/
def warmAllWrong : ChangeSpec := { name := "warmAll", fn := fun _ => fun
  | [d] => { results := [.lit (.bool false)], args := [d] }
  | _ => none }
def WarmAllWrongFalsely : Prop := warmAllRow.holds Try.pinned (OpenSpec.ofChange warmAllWrong)

/-- 'greenhouselaw09.WarmActs': WHATEVER THE INPUT: true; the input reads as it did. -/
def warmActsSpec : ChangeSpec := { name := "warmActs", fn := fun _ => fun
  | [d] => { results := [.lit (.bool true)], args := [d] }
  | _ => none }
def warmActsRow : OpenClaim := { program := "ytamifcgljockaaa", sum := "ba288c8365c7a989a8d9a04a7ede7d3a4c0b410290388f733331af1a101f4383", func := "greenhouse/greenhouselaw09.WarmActs", spec := "warmActs", inPlace := ["math/bits.Add64"], unfollowed := true, recurses := true, apart := false }
def WarmActsSaid : Prop := warmActsRow.holds Try.pinned (OpenSpec.ofChange warmActsSpec)

/-- ITS FALSE NEIGHBOUR: 'it returns false'. Refute it at one input. -/
def warmActsWrong : ChangeSpec := { name := "warmActs", fn := fun _ => fun
  | [d] => { results := [.lit (.bool false)], args := [d] }
  | _ => none }
def WarmActsWrongFalsely : Prop := warmActsRow.holds Try.pinned (OpenSpec.ofChange warmActsWrong)

/- THE SECOND FORM. 'bulk': how many values and letters a reading holds, each counted each time it is reached (what is shared counts as often as it is met; a slice's spare places count too). A statement '..UptoSaid' is the law's where the arguments, and the package variables that the reading takes, are together of bulk at most 1048576: NARROWER than '..Said'. Prove '..Said' where nothing that the law and all that it calls make is longer than what came in: it says more and counts as full. Else prove '..UptoSaid'. A law counts once. -/
mutual
def uptoBulk {H : Type} : DataW H → Nat
  | .lit (.string bytes) => bytes.length + 1
  | .lit _ => 1
  | .nil => 1
  | .ptr d => uptoBulk d + 1
  | .slice elems spare => uptoBulkAll elems + uptoBulkAll spare + 1
  | .agg parts => uptoBulkAll parts + 1
  | .iface _ d => uptoBulk d + 1
  | .map entries => uptoBulkEntries entries + 1
  | .held _ => 1
def uptoBulkAll {H : Type} : List (DataW H) → Nat
  | [] => 0
  | d :: r => uptoBulk d + uptoBulkAll r
def uptoBulkEntries {H : Type} : List (Lit × DataW H) → Nat
  | [] => 0
  | x :: r => uptoBulkEntry x + uptoBulkEntries r
def uptoBulkEntry {H : Type} : Lit × DataW H → Nat
  | (.string bytes, d) => bytes.length + uptoBulk d + 1
  | (_, d) => uptoBulk d + 1
 end
def uptoSmall : (H : Type) → List (DataW H) → Bool := fun _ ds => decide (uptoBulkAll ds ≤ 1048576)
def OpenSpec.upto (s : _root_.Go.ChangeSpec) : _root_.Go.OpenSpec := { _root_.Go.OpenSpec.ofChange s with cond := some uptoSmall }

/-- 'greenhouselaw09.WarmTies', WHERE WHAT IT READS IS OF BULK AT MOST 1048576: true; the input reads as it did. -/
def warmTiesUptoRow : OpenClaim := { program := "ytamifcgljockaaa", sum := "ba288c8365c7a989a8d9a04a7ede7d3a4c0b410290388f733331af1a101f4383", func := "greenhouse/greenhouselaw09.WarmTies", spec := "warmTies", inPlace := ["math/bits.Add64"], unfollowed := true, recurses := true, apart := false, narrowed := true }
def WarmTiesUptoSaid : Prop := warmTiesUptoRow.holds Try.pinned (OpenSpec.upto warmTiesSpec)

/-- 'greenhouselaw09.WarmAges', WHERE WHAT IT READS IS OF BULK AT MOST 1048576: true; the input reads as it did. -/
def warmAgesUptoRow : OpenClaim := { program := "ytamifcgljockaaa", sum := "ba288c8365c7a989a8d9a04a7ede7d3a4c0b410290388f733331af1a101f4383", func := "greenhouse/greenhouselaw09.WarmAges", spec := "warmAges", inPlace := ["math/bits.Add64"], unfollowed := true, recurses := true, apart := false, narrowed := true }
def WarmAgesUptoSaid : Prop := warmAgesUptoRow.holds Try.pinned (OpenSpec.upto warmAgesSpec)

/-- 'greenhouselaw09.WarmDrops', WHERE WHAT IT READS IS OF BULK AT MOST 1048576: true; the input reads as it did. -/
def warmDropsUptoRow : OpenClaim := { program := "ytamifcgljockaaa", sum := "ba288c8365c7a989a8d9a04a7ede7d3a4c0b410290388f733331af1a101f4383", func := "greenhouse/greenhouselaw09.WarmDrops", spec := "warmDrops", inPlace := ["math/bits.Add64"], unfollowed := true, recurses := true, apart := false, narrowed := true }
def WarmDropsUptoSaid : Prop := warmDropsUptoRow.holds Try.pinned (OpenSpec.upto warmDropsSpec)

/-- 'greenhouselaw09.WarmAll', WHERE WHAT IT READS IS OF BULK AT MOST 1048576: true; the input reads as it did. -/
def warmAllUptoRow : OpenClaim := { program := "ytamifcgljockaaa", sum := "ba288c8365c7a989a8d9a04a7ede7d3a4c0b410290388f733331af1a101f4383", func := "greenhouse/greenhouselaw09.WarmAll", spec := "warmAll", inPlace := ["math/bits.Add64"], unfollowed := true, recurses := true, apart := false, narrowed := true }
def WarmAllUptoSaid : Prop := warmAllUptoRow.holds Try.pinned (OpenSpec.upto warmAllSpec)

/-- 'greenhouselaw09.WarmActs', WHERE WHAT IT READS IS OF BULK AT MOST 1048576: true; the input reads as it did. -/
def warmActsUptoRow : OpenClaim := { program := "ytamifcgljockaaa", sum := "ba288c8365c7a989a8d9a04a7ede7d3a4c0b410290388f733331af1a101f4383", func := "greenhouse/greenhouselaw09.WarmActs", spec := "warmActs", inPlace := ["math/bits.Add64"], unfollowed := true, recurses := true, apart := false, narrowed := true }
def WarmActsUptoSaid : Prop := warmActsUptoRow.holds Try.pinned (OpenSpec.upto warmActsSpec)

end Rows
end Go.Proofs.Ytamifcgljockaaa
