/-
  No cell of these rows narrows 'for every input' (looked for: loops, veiled, ifaces, maps, wideKeys, modest, calm, conditions, laid).
  DERIVED. THE GIVEN ROWS OF THIS SEAT. 4 by the template 'for every input the law returns true; each argument reads behind the call as it read before'; 0 by the template 'total and deterministic' (their statements: YtbnpipfmeekbdaaTotals.lean).
  GIVEN WITH THE SEED: the statements are not yours to turn. If you find one false, say at which input.
  Laid BY PROGRAM, IN A SANDBOX (cutbox-rows.mjs): the forced cells as the released guide's own fill.sh prints them over the translation 9e746dc311c885ae… (all of the seat's roots in one cut). By AI agents, Wed Nov 11 2026. No macro, syntax, notation, axiom, sorry.
-/
import Derived.Test.YtbnpipfmeekbdaaChecked
import GoSem.Claim
import GoSem.ClaimJoined
import GoSem.ClaimMapViews
import Derived.JoinedTies
import Derived.KernelRfl
namespace Go.Proofs.Ytbnpipfmeekbdaa
/- THE CELL 'sum', in the pinned program and in every row, IS THE sha256 OF THE DUMP (.gsa) THAT YtbnpipfmeekbdaaProg.lean LOADS. Nothing in Lean hashes anything: it is a label: what it is worth is what the hold of that sum in a sandbox is worth. -/
noncomputable def Try.pinned : Pinned := { name := "ytbnpipfmeekbdaa", sum := "9e746dc311c885ae02e1390ccf5c39fe36b80ba28395ba0a4be36c6960c8190d", checked := Try.checked }
namespace Rows
def none {H : Type} : Left H := { results := [], args := [] }

/-- 'greenhouselaw08.HeapSorts': WHATEVER THE INPUT: true; the input reads as it did. -/
def heapSortsSpec : ChangeSpec := { name := "heapSorts", fn := fun _ => fun
  | [d] => { results := [.lit (.bool true)], args := [d] }
  | _ => none }
def heapSortsRow : OpenClaim := { program := "ytbnpipfmeekbdaa", sum := "9e746dc311c885ae02e1390ccf5c39fe36b80ba28395ba0a4be36c6960c8190d", func := "greenhouse/greenhouselaw08.HeapSorts", spec := "heapSorts", unfollowed := true, recurses := true, apart := false }
def HeapSortsSaid : Prop := heapSortsRow.holds Try.pinned (OpenSpec.ofChange heapSortsSpec)

/-- ITS FALSE NEIGHBOUR: 'it returns false'. Refute it at one input. -/
def heapSortsWrong : ChangeSpec := { name := "heapSorts", fn := fun _ => fun
  | [d] => { results := [.lit (.bool false)], args := [d] }
  | _ => none }
def HeapSortsWrongFalsely : Prop := heapSortsRow.holds Try.pinned (OpenSpec.ofChange heapSortsWrong)

/-- 'greenhouselaw08.HeapTurns': WHATEVER THE INPUT: true; the input reads as it did. -/
def heapTurnsSpec : ChangeSpec := { name := "heapTurns", fn := fun _ => fun
  | [d1, d2, d3] => { results := [.lit (.bool true)], args := [d1, d2, d3] }
  | _ => none }
def heapTurnsRow : OpenClaim := { program := "ytbnpipfmeekbdaa", sum := "9e746dc311c885ae02e1390ccf5c39fe36b80ba28395ba0a4be36c6960c8190d", func := "greenhouse/greenhouselaw08.HeapTurns", spec := "heapTurns", unfollowed := true, recurses := true, apart := false }
def HeapTurnsSaid : Prop := heapTurnsRow.holds Try.pinned (OpenSpec.ofChange heapTurnsSpec)

/-- ITS FALSE NEIGHBOUR: 'it returns false'. Refute it at one input. -/
def heapTurnsWrong : ChangeSpec := { name := "heapTurns", fn := fun _ => fun
  | [d1, d2, d3] => { results := [.lit (.bool false)], args := [d1, d2, d3] }
  | _ => none }
def HeapTurnsWrongFalsely : Prop := heapTurnsRow.holds Try.pinned (OpenSpec.ofChange heapTurnsWrong)

/-- 'greenhouselaw08.HeapActs': WHATEVER THE INPUT: true; the input reads as it did. -/
def heapActsSpec : ChangeSpec := { name := "heapActs", fn := fun _ => fun
  | [d] => { results := [.lit (.bool true)], args := [d] }
  | _ => none }
def heapActsRow : OpenClaim := { program := "ytbnpipfmeekbdaa", sum := "9e746dc311c885ae02e1390ccf5c39fe36b80ba28395ba0a4be36c6960c8190d", func := "greenhouse/greenhouselaw08.HeapActs", spec := "heapActs", unfollowed := true, recurses := true, apart := false }
def HeapActsSaid : Prop := heapActsRow.holds Try.pinned (OpenSpec.ofChange heapActsSpec)

/-- ITS FALSE NEIGHBOUR: 'it returns false'. Refute it at one input. -/
def heapActsWrong : ChangeSpec := { name := "heapActs", fn := fun _ => fun
  | [d] => { results := [.lit (.bool false)], args := [d] }
  | _ => none }
def HeapActsWrongFalsely : Prop := heapActsRow.holds Try.pinned (OpenSpec.ofChange heapActsWrong)

/-- 'greenhouselaw08.HeapCheap': WHATEVER THE INPUT: true; the input reads as it did. -/
def heapCheapSpec : ChangeSpec := { name := "heapCheap", fn := fun _ => fun
  | [d1, d2, d3] => { results := [.lit (.bool true)], args := [d1, d2, d3] }
  | _ => none }
def heapCheapRow : OpenClaim := { program := "ytbnpipfmeekbdaa", sum := "9e746dc311c885ae02e1390ccf5c39fe36b80ba28395ba0a4be36c6960c8190d", func := "greenhouse/greenhouselaw08.HeapCheap", spec := "heapCheap", unfollowed := true, recurses := true, apart := false }
def HeapCheapSaid : Prop := heapCheapRow.holds Try.pinned (OpenSpec.ofChange heapCheapSpec)

/-- ITS FALSE NEIGHBOUR: 'it returns false'. Refute it at one input. -/
def heapCheapWrong : ChangeSpec := { name := "heapCheap", fn := fun _ => fun
  | [d1, d2, d3] => { results := [.lit (.bool false)], args := [d1, d2, d3] }
  | _ => none }
def HeapCheapWrongFalsely : Prop := heapCheapRow.holds Try.pinned (OpenSpec.ofChange heapCheapWrong)

/- THE SECOND FORM. 'bulk': how many values and letters a reading holds, each counted each time it is reached (what is shared counts as often as it is met; a slice's spare places count too). A statement '..UptoSaid' is the law's where the arguments, and the package variables that the reading takes, are together of bulk at most 1048576: NARROWER than '..Said'. Prove '..Said' where nothing that the law and all that it calls make is longer than what came in: it says more and counts as full. Else prove '..UptoSaid'. A law counts once. -/
mutual
def uptoBulk {H : Type} : DataW H → Nat
  | .lit (.string bytes) => bytes.length + 1
  | .lit _ => 1
  | .nil => 1
  | .ptr d => uptoBulk d + 1
  | .slice elems spare => uptoBulkAll elems + uptoBulkAll spare + 1
  | .agg parts => uptoBulkAll parts + 1
  | .iface _ d => uptoBulk d + 1
  | .map entries => uptoBulkEntries entries + 1
  | .held _ => 1
def uptoBulkAll {H : Type} : List (DataW H) → Nat
  | [] => 0
  | d :: r => uptoBulk d + uptoBulkAll r
def uptoBulkEntries {H : Type} : List (Lit × DataW H) → Nat
  | [] => 0
  | x :: r => uptoBulkEntry x + uptoBulkEntries r
def uptoBulkEntry {H : Type} : Lit × DataW H → Nat
  | (.string bytes, d) => bytes.length + uptoBulk d + 1
  | (_, d) => uptoBulk d + 1
 end
def uptoSmall : (H : Type) → List (DataW H) → Bool := fun _ ds => decide (uptoBulkAll ds ≤ 1048576)
def OpenSpec.upto (s : _root_.Go.ChangeSpec) : _root_.Go.OpenSpec := { _root_.Go.OpenSpec.ofChange s with cond := some uptoSmall }

/-- 'greenhouselaw08.HeapSorts', WHERE WHAT IT READS IS OF BULK AT MOST 1048576: true; the input reads as it did. -/
def heapSortsUptoRow : OpenClaim := { program := "ytbnpipfmeekbdaa", sum := "9e746dc311c885ae02e1390ccf5c39fe36b80ba28395ba0a4be36c6960c8190d", func := "greenhouse/greenhouselaw08.HeapSorts", spec := "heapSorts", unfollowed := true, recurses := true, apart := false, narrowed := true }
def HeapSortsUptoSaid : Prop := heapSortsUptoRow.holds Try.pinned (OpenSpec.upto heapSortsSpec)

/-- 'greenhouselaw08.HeapTurns', WHERE WHAT IT READS IS OF BULK AT MOST 1048576: true; the input reads as it did. -/
def heapTurnsUptoRow : OpenClaim := { program := "ytbnpipfmeekbdaa", sum := "9e746dc311c885ae02e1390ccf5c39fe36b80ba28395ba0a4be36c6960c8190d", func := "greenhouse/greenhouselaw08.HeapTurns", spec := "heapTurns", unfollowed := true, recurses := true, apart := false, narrowed := true }
def HeapTurnsUptoSaid : Prop := heapTurnsUptoRow.holds Try.pinned (OpenSpec.upto heapTurnsSpec)

/-- 'greenhouselaw08.HeapActs', WHERE WHAT IT READS IS OF BULK AT MOST 1048576: true; the input reads as it did. -/
def heapActsUptoRow : OpenClaim := { program := "ytbnpipfmeekbdaa", sum := "9e746dc311c885ae02e1390ccf5c39fe36b80ba28395ba0a4be36c6960c8190d", func := "greenhouse/greenhouselaw08.HeapActs", spec := "heapActs", unfollowed := true, recurses := true, apart := false, narrowed := true }
def HeapActsUptoSaid : Prop := heapActsUptoRow.holds Try.pinned (OpenSpec.upto heapActsSpec)

/-- 'greenhouselaw08.HeapCheap', WHERE WHAT IT READS IS OF BULK AT MOST 1048576: true; the input reads as it did. -/
def heapCheapUptoRow : OpenClaim := { program := "ytbnpipfmeekbdaa", sum := "9e746dc311c885ae02e1390ccf5c39fe36b80ba28395ba0a4be36c6960c8190d", func := "greenhouse/greenhouselaw08.HeapCheap", spec := "heapCheap", unfollowed := true, recurses := true, apart := false, narrowed := true }
def HeapCheapUptoSaid : Prop := heapCheapUptoRow.holds Try.pinned (OpenSpec.upto heapCheapSpec)

end Rows
end Go.Proofs.Ytbnpipfmeekbdaa
