/-
  No cell of these rows narrows 'for every input' (looked for: loops, veiled, ifaces, maps, wideKeys, modest, calm, conditions, laid).
  DERIVED. THE GIVEN ROWS OF THIS SEAT. 5 by the template 'for every input the law returns true; each argument reads behind the call as it read before'; 0 by the template 'total and deterministic' (their statements: YtbdkbhicjbaffaaTotals.lean).
  GIVEN WITH THE SEED: the statements are not yours to turn. If you find one false, say at which input.
  Laid BY PROGRAM, IN A SANDBOX (cutbox-rows.mjs): the forced cells as the released guide's own fill.sh prints them over the translation ca4750620faea629… (all of the seat's roots in one cut). By AI agents, Wed Nov 11 2026. No macro, syntax, notation, axiom, sorry.
-/
import Derived.Test.YtbdkbhicjbaffaaChecked
import GoSem.Claim
import GoSem.ClaimJoined
import GoSem.ClaimMapViews
import Derived.JoinedTies
import Derived.KernelRfl
namespace Go.Proofs.Ytbdkbhicjbaffaa
/- THE CELL 'sum', in the pinned program and in every row, IS THE sha256 OF THE DUMP (.gsa) THAT YtbdkbhicjbaffaaProg.lean LOADS. Nothing in Lean hashes anything: it is a label: what it is worth is what the hold of that sum in a sandbox is worth. -/
noncomputable def Try.pinned : Pinned := { name := "ytbdkbhicjbaffaa", sum := "ca4750620faea6291fe3ba71ad871d4881f2ebf6acc0c6812177e3e48774fb05", checked := Try.checked }
namespace Rows
def none {H : Type} : Left H := { results := [], args := [] }

/-- 'greenhouselaw16.EventCuts': WHATEVER THE INPUT: true; the input reads as it did. -/
def eventCutsSpec : ChangeSpec := { name := "eventCuts", fn := fun _ => fun
  | [d1, d2, d3] => { results := [.lit (.bool true)], args := [d1, d2, d3] }
  | _ => none }
def eventCutsRow : OpenClaim := { program := "ytbdkbhicjbaffaa", sum := "ca4750620faea6291fe3ba71ad871d4881f2ebf6acc0c6812177e3e48774fb05", func := "greenhouse/greenhouselaw16.EventCuts", spec := "eventCuts", apart := false }
def EventCutsSaid : Prop := eventCutsRow.holds Try.pinned (OpenSpec.ofChange eventCutsSpec)

/-- ITS FALSE NEIGHBOUR: 'it returns false'. Refute it at one input. -/
def eventCutsWrong : ChangeSpec := { name := "eventCuts", fn := fun _ => fun
  | [d1, d2, d3] => { results := [.lit (.bool false)], args := [d1, d2, d3] }
  | _ => none }
def EventCutsWrongFalsely : Prop := eventCutsRow.holds Try.pinned (OpenSpec.ofChange eventCutsWrong)

/-- 'greenhouselaw16.EventPuts': WHATEVER THE INPUT: true; the input reads as it did. -/
def eventPutsSpec : ChangeSpec := { name := "eventPuts", fn := fun _ => fun
  | [d] => { results := [.lit (.bool true)], args := [d] }
  | _ => none }
def eventPutsRow : OpenClaim := { program := "ytbdkbhicjbaffaa", sum := "ca4750620faea6291fe3ba71ad871d4881f2ebf6acc0c6812177e3e48774fb05", func := "greenhouse/greenhouselaw16.EventPuts", spec := "eventPuts", apart := false }
def EventPutsSaid : Prop := eventPutsRow.holds Try.pinned (OpenSpec.ofChange eventPutsSpec)

/-- ITS FALSE NEIGHBOUR: 'it returns false'. Refute it at one input. -/
def eventPutsWrong : ChangeSpec := { name := "eventPuts", fn := fun _ => fun
  | [d] => { results := [.lit (.bool false)], args := [d] }
  | _ => none }
def EventPutsWrongFalsely : Prop := eventPutsRow.holds Try.pinned (OpenSpec.ofChange eventPutsWrong)

/-- 'greenhouselaw16.EventReads': WHATEVER THE INPUT: true; the input reads as it did. -/
def eventReadsSpec : ChangeSpec := { name := "eventReads", fn := fun _ => fun
  | [d] => { results := [.lit (.bool true)], args := [d] }
  | _ => none }
def eventReadsRow : OpenClaim := { program := "ytbdkbhicjbaffaa", sum := "ca4750620faea6291fe3ba71ad871d4881f2ebf6acc0c6812177e3e48774fb05", func := "greenhouse/greenhouselaw16.EventReads", spec := "eventReads", apart := false }
def EventReadsSaid : Prop := eventReadsRow.holds Try.pinned (OpenSpec.ofChange eventReadsSpec)

/-- ITS FALSE NEIGHBOUR: 'it returns false'. Refute it at one input. -/
def eventReadsWrong : ChangeSpec := { name := "eventReads", fn := fun _ => fun
  | [d] => { results := [.lit (.bool false)], args := [d] }
  | _ => none }
def EventReadsWrongFalsely : Prop := eventReadsRow.holds Try.pinned (OpenSpec.ofChange eventReadsWrong)

/-- 'greenhouselaw16.EventMany': WHATEVER THE INPUT: true; the input reads as it did. -/
def eventManySpec : ChangeSpec := { name := "eventMany", fn := fun _ => fun
  | [d] => { results := [.lit (.bool true)], args := [d] }
  | _ => none }
def eventManyRow : OpenClaim := { program := "ytbdkbhicjbaffaa", sum := "ca4750620faea6291fe3ba71ad871d4881f2ebf6acc0c6812177e3e48774fb05", func := "greenhouse/greenhouselaw16.EventMany", spec := "eventMany", apart := false }
def EventManySaid : Prop := eventManyRow.holds Try.pinned (OpenSpec.ofChange eventManySpec)

/-- ITS FALSE NEIGHBOUR: 'it returns false'. Refute it at one input. -/
def eventManyWrong : ChangeSpec := { name := "eventMany", fn := fun _ => fun
  | [d] => { results := [.lit (.bool false)], args := [d] }
  | _ => none }
def EventManyWrongFalsely : Prop := eventManyRow.holds Try.pinned (OpenSpec.ofChange eventManyWrong)

/-- 'greenhouselaw16.EventJoins': WHATEVER THE INPUT: true; the input reads as it did. -/
def eventJoinsSpec : ChangeSpec := { name := "eventJoins", fn := fun _ => fun
  | [d1, d2] => { results := [.lit (.bool true)], args := [d1, d2] }
  | _ => none }
def eventJoinsRow : OpenClaim := { program := "ytbdkbhicjbaffaa", sum := "ca4750620faea6291fe3ba71ad871d4881f2ebf6acc0c6812177e3e48774fb05", func := "greenhouse/greenhouselaw16.EventJoins", spec := "eventJoins", apart := false }
def EventJoinsSaid : Prop := eventJoinsRow.holds Try.pinned (OpenSpec.ofChange eventJoinsSpec)

/-- ITS FALSE NEIGHBOUR: 'it returns false'. Refute it at one input. -/
def eventJoinsWrong : ChangeSpec := { name := "eventJoins", fn := fun _ => fun
  | [d1, d2] => { results := [.lit (.bool false)], args := [d1, d2] }
  | _ => none }
def EventJoinsWrongFalsely : Prop := eventJoinsRow.holds Try.pinned (OpenSpec.ofChange eventJoinsWrong)

/- THE SECOND FORM. 'bulk': how many values and letters a reading holds, each counted each time it is reached (what is shared counts as often as it is met; a slice's spare places count too). A statement '..UptoSaid' is the law's where the arguments, and the package variables that the reading takes, are together of bulk at most 1048576: NARROWER than '..Said'. Prove '..Said' where nothing that the law and all that it calls make is longer than what came in: it says more and counts as full. Else prove '..UptoSaid'. A law counts once. -/
mutual
def uptoBulk {H : Type} : DataW H → Nat
  | .lit (.string bytes) => bytes.length + 1
  | .lit _ => 1
  | .nil => 1
  | .ptr d => uptoBulk d + 1
  | .slice elems spare => uptoBulkAll elems + uptoBulkAll spare + 1
  | .agg parts => uptoBulkAll parts + 1
  | .iface _ d => uptoBulk d + 1
  | .map entries => uptoBulkEntries entries + 1
  | .held _ => 1
def uptoBulkAll {H : Type} : List (DataW H) → Nat
  | [] => 0
  | d :: r => uptoBulk d + uptoBulkAll r
def uptoBulkEntries {H : Type} : List (Lit × DataW H) → Nat
  | [] => 0
  | x :: r => uptoBulkEntry x + uptoBulkEntries r
def uptoBulkEntry {H : Type} : Lit × DataW H → Nat
  | (.string bytes, d) => bytes.length + uptoBulk d + 1
  | (_, d) => uptoBulk d + 1
 end
def uptoSmall : (H : Type) → List (DataW H) → Bool := fun _ ds => decide (uptoBulkAll ds ≤ 1048576)
def OpenSpec.upto (s : _root_.Go.ChangeSpec) : _root_.Go.OpenSpec := { _root_.Go.OpenSpec.ofChange s with cond := some uptoSmall }

/-- 'greenhouselaw16.EventCuts', WHERE WHAT IT READS IS OF BULK AT MOST 1048576: true; the input reads as it did. -/
def eventCutsUptoRow : OpenClaim := { program := "ytbdkbhicjbaffaa", sum := "ca4750620faea6291fe3ba71ad871d4881f2ebf6acc0c6812177e3e48774fb05", func := "greenhouse/greenhouselaw16.EventCuts", spec := "eventCuts", apart := false, narrowed := true }
def EventCutsUptoSaid : Prop := eventCutsUptoRow.holds Try.pinned (OpenSpec.upto eventCutsSpec)

/-- 'greenhouselaw16.EventPuts', WHERE WHAT IT READS IS OF BULK AT MOST 1048576: true; the input reads as it did. -/
def eventPutsUptoRow : OpenClaim := { program := "ytbdkbhicjbaffaa", sum := "ca4750620faea6291fe3ba71ad871d4881f2ebf6acc0c6812177e3e48774fb05", func := "greenhouse/greenhouselaw16.EventPuts", spec := "eventPuts", apart := false, narrowed := true }
def EventPutsUptoSaid : Prop := eventPutsUptoRow.holds Try.pinned (OpenSpec.upto eventPutsSpec)

/-- 'greenhouselaw16.EventReads', WHERE WHAT IT READS IS OF BULK AT MOST 1048576: true; the input reads as it did. -/
def eventReadsUptoRow : OpenClaim := { program := "ytbdkbhicjbaffaa", sum := "ca4750620faea6291fe3ba71ad871d4881f2ebf6acc0c6812177e3e48774fb05", func := "greenhouse/greenhouselaw16.EventReads", spec := "eventReads", apart := false, narrowed := true }
def EventReadsUptoSaid : Prop := eventReadsUptoRow.holds Try.pinned (OpenSpec.upto eventReadsSpec)

/-- 'greenhouselaw16.EventMany', WHERE WHAT IT READS IS OF BULK AT MOST 1048576: true; the input reads as it did. -/
def eventManyUptoRow : OpenClaim := { program := "ytbdkbhicjbaffaa", sum := "ca4750620faea6291fe3ba71ad871d4881f2ebf6acc0c6812177e3e48774fb05", func := "greenhouse/greenhouselaw16.EventMany", spec := "eventMany", apart := false, narrowed := true }
def EventManyUptoSaid : Prop := eventManyUptoRow.holds Try.pinned (OpenSpec.upto eventManySpec)

/-- 'greenhouselaw16.EventJoins', WHERE WHAT IT READS IS OF BULK AT MOST 1048576: true; the input reads as it did. -/
def eventJoinsUptoRow : OpenClaim := { program := "ytbdkbhicjbaffaa", sum := "ca4750620faea6291fe3ba71ad871d4881f2ebf6acc0c6812177e3e48774fb05", func := "greenhouse/greenhouselaw16.EventJoins", spec := "eventJoins", apart := false, narrowed := true }
def EventJoinsUptoSaid : Prop := eventJoinsUptoRow.holds Try.pinned (OpenSpec.upto eventJoinsSpec)

end Rows
end Go.Proofs.Ytbdkbhicjbaffaa
