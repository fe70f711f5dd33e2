/-
  No cell of these rows narrows 'for every input' (looked for: loops, veiled, ifaces, maps, wideKeys, modest, calm, conditions, laid).
  DERIVED. THE GIVEN ROWS OF THIS SEAT. 4 by the template 'for every input the law returns true; each argument reads behind the call as it read before'; 0 by the template 'total and deterministic' (their statements: YtncejfdpgjdoaaaTotals.lean).
  GIVEN WITH THE SEED: the statements are not yours to turn. If you find one false, say at which input.
  Laid BY PROGRAM, IN A SANDBOX (cutbox-rows.mjs): the forced cells as the released guide's own fill.sh prints them over the translation f0c967e6030ff45b… (all of the seat's roots in one cut). By AI agents, Wed Nov 11 2026. No macro, syntax, notation, axiom, sorry.
-/
import Derived.Test.YtncejfdpgjdoaaaChecked
import GoSem.Claim
import GoSem.ClaimJoined
import GoSem.ClaimMapViews
import Derived.JoinedTies
import Derived.KernelRfl
namespace Go.Proofs.Ytncejfdpgjdoaaa
/- THE CELL 'sum', in the pinned program and in every row, IS THE sha256 OF THE DUMP (.gsa) THAT YtncejfdpgjdoaaaProg.lean LOADS. Nothing in Lean hashes anything: it is a label: what it is worth is what the hold of that sum in a sandbox is worth. -/
noncomputable def Try.pinned : Pinned := { name := "ytncejfdpgjdoaaa", sum := "f0c967e6030ff45bdb06cbf639822067ef7fe47990e9c5286259d7a2ad56b444", checked := Try.checked }
namespace Rows
def none {H : Type} : Left H := { results := [], args := [] }

/-- 'greenhouselaw10.BucketWindows': WHATEVER THE INPUT: true; the input reads as it did. -/
def bucketWindowsSpec : ChangeSpec := { name := "bucketWindows", fn := fun _ => fun
  | [d1, d2, d3] => { results := [.lit (.bool true)], args := [d1, d2, d3] }
  | _ => none }
def bucketWindowsRow : OpenClaim := { program := "ytncejfdpgjdoaaa", sum := "f0c967e6030ff45bdb06cbf639822067ef7fe47990e9c5286259d7a2ad56b444", func := "greenhouse/greenhouselaw10.BucketWindows", spec := "bucketWindows", apart := false }
def BucketWindowsSaid : Prop := bucketWindowsRow.holds Try.pinned (OpenSpec.ofChange bucketWindowsSpec)

/-- ITS FALSE NEIGHBOUR: 'it returns false'. Refute it at one input. -/
def bucketWindowsWrong : ChangeSpec := { name := "bucketWindows", fn := fun _ => fun
  | [d1, d2, d3] => { results := [.lit (.bool false)], args := [d1, d2, d3] }
  | _ => none }
def BucketWindowsWrongFalsely : Prop := bucketWindowsRow.holds Try.pinned (OpenSpec.ofChange bucketWindowsWrong)

/-- 'greenhouselaw10.BucketFills': WHATEVER THE INPUT: true; the input reads as it did. -/
def bucketFillsSpec : ChangeSpec := { name := "bucketFills", fn := fun _ => fun
  | [d1, d2, d3] => { results := [.lit (.bool true)], args := [d1, d2, d3] }
  | _ => none }
def bucketFillsRow : OpenClaim := { program := "ytncejfdpgjdoaaa", sum := "f0c967e6030ff45bdb06cbf639822067ef7fe47990e9c5286259d7a2ad56b444", func := "greenhouse/greenhouselaw10.BucketFills", spec := "bucketFills", apart := false }
def BucketFillsSaid : Prop := bucketFillsRow.holds Try.pinned (OpenSpec.ofChange bucketFillsSpec)

/-- ITS FALSE NEIGHBOUR: 'it returns false'. Refute it at one input. -/
def bucketFillsWrong : ChangeSpec := { name := "bucketFills", fn := fun _ => fun
  | [d1, d2, d3] => { results := [.lit (.bool false)], args := [d1, d2, d3] }
  | _ => none }
def BucketFillsWrongFalsely : Prop := bucketFillsRow.holds Try.pinned (OpenSpec.ofChange bucketFillsWrong)

/-- 'greenhouselaw10.BucketMore': WHATEVER THE INPUT: true; the input reads as it did. -/
def bucketMoreSpec : ChangeSpec := { name := "bucketMore", fn := fun _ => fun
  | [d1, d2, d3, d4, d5] => { results := [.lit (.bool true)], args := [d1, d2, d3, d4, d5] }
  | _ => none }
def bucketMoreRow : OpenClaim := { program := "ytncejfdpgjdoaaa", sum := "f0c967e6030ff45bdb06cbf639822067ef7fe47990e9c5286259d7a2ad56b444", func := "greenhouse/greenhouselaw10.BucketMore", spec := "bucketMore", apart := false }
def BucketMoreSaid : Prop := bucketMoreRow.holds Try.pinned (OpenSpec.ofChange bucketMoreSpec)

/-- ITS FALSE NEIGHBOUR: 'it returns false'. Refute it at one input. -/
def bucketMoreWrong : ChangeSpec := { name := "bucketMore", fn := fun _ => fun
  | [d1, d2, d3, d4, d5] => { results := [.lit (.bool false)], args := [d1, d2, d3, d4, d5] }
  | _ => none }
def BucketMoreWrongFalsely : Prop := bucketMoreRow.holds Try.pinned (OpenSpec.ofChange bucketMoreWrong)

/-- 'greenhouselaw10.BucketActs': WHATEVER THE INPUT: true; the input reads as it did. -/
def bucketActsSpec : ChangeSpec := { name := "bucketActs", fn := fun _ => fun
  | [d1, d2, d3] => { results := [.lit (.bool true)], args := [d1, d2, d3] }
  | _ => none }
def bucketActsRow : OpenClaim := { program := "ytncejfdpgjdoaaa", sum := "f0c967e6030ff45bdb06cbf639822067ef7fe47990e9c5286259d7a2ad56b444", func := "greenhouse/greenhouselaw10.BucketActs", spec := "bucketActs", apart := false }
def BucketActsSaid : Prop := bucketActsRow.holds Try.pinned (OpenSpec.ofChange bucketActsSpec)

/-- ITS FALSE NEIGHBOUR: 'it returns false'. Refute it at one input. -/
def bucketActsWrong : ChangeSpec := { name := "bucketActs", fn := fun _ => fun
  | [d1, d2, d3] => { results := [.lit (.bool false)], args := [d1, d2, d3] }
  | _ => none }
def BucketActsWrongFalsely : Prop := bucketActsRow.holds Try.pinned (OpenSpec.ofChange bucketActsWrong)

/- THE SECOND FORM. 'bulk': how many values and letters a reading holds, each counted each time it is reached (what is shared counts as often as it is met; a slice's spare places count too). A statement '..UptoSaid' is the law's where the arguments, and the package variables that the reading takes, are together of bulk at most 1048576: NARROWER than '..Said'. Prove '..Said' where nothing that the law and all that it calls make is longer than what came in: it says more and counts as full. Else prove '..UptoSaid'. A law counts once. -/
mutual
def uptoBulk {H : Type} : DataW H → Nat
  | .lit (.string bytes) => bytes.length + 1
  | .lit _ => 1
  | .nil => 1
  | .ptr d => uptoBulk d + 1
  | .slice elems spare => uptoBulkAll elems + uptoBulkAll spare + 1
  | .agg parts => uptoBulkAll parts + 1
  | .iface _ d => uptoBulk d + 1
  | .map entries => uptoBulkEntries entries + 1
  | .held _ => 1
def uptoBulkAll {H : Type} : List (DataW H) → Nat
  | [] => 0
  | d :: r => uptoBulk d + uptoBulkAll r
def uptoBulkEntries {H : Type} : List (Lit × DataW H) → Nat
  | [] => 0
  | x :: r => uptoBulkEntry x + uptoBulkEntries r
def uptoBulkEntry {H : Type} : Lit × DataW H → Nat
  | (.string bytes, d) => bytes.length + uptoBulk d + 1
  | (_, d) => uptoBulk d + 1
 end
def uptoSmall : (H : Type) → List (DataW H) → Bool := fun _ ds => decide (uptoBulkAll ds ≤ 1048576)
def OpenSpec.upto (s : _root_.Go.ChangeSpec) : _root_.Go.OpenSpec := { _root_.Go.OpenSpec.ofChange s with cond := some uptoSmall }

/-- 'greenhouselaw10.BucketWindows', WHERE WHAT IT READS IS OF BULK AT MOST 1048576: true; the input reads as it did. -/
def bucketWindowsUptoRow : OpenClaim := { program := "ytncejfdpgjdoaaa", sum := "f0c967e6030ff45bdb06cbf639822067ef7fe47990e9c5286259d7a2ad56b444", func := "greenhouse/greenhouselaw10.BucketWindows", spec := "bucketWindows", apart := false, narrowed := true }
def BucketWindowsUptoSaid : Prop := bucketWindowsUptoRow.holds Try.pinned (OpenSpec.upto bucketWindowsSpec)

/-- 'greenhouselaw10.BucketFills', WHERE WHAT IT READS IS OF BULK AT MOST 1048576: true; the input reads as it did. -/
def bucketFillsUptoRow : OpenClaim := { program := "ytncejfdpgjdoaaa", sum := "f0c967e6030ff45bdb06cbf639822067ef7fe47990e9c5286259d7a2ad56b444", func := "greenhouse/greenhouselaw10.BucketFills", spec := "bucketFills", apart := false, narrowed := true }
def BucketFillsUptoSaid : Prop := bucketFillsUptoRow.holds Try.pinned (OpenSpec.upto bucketFillsSpec)

/-- 'greenhouselaw10.BucketMore', WHERE WHAT IT READS IS OF BULK AT MOST 1048576: true; the input reads as it did. -/
def bucketMoreUptoRow : OpenClaim := { program := "ytncejfdpgjdoaaa", sum := "f0c967e6030ff45bdb06cbf639822067ef7fe47990e9c5286259d7a2ad56b444", func := "greenhouse/greenhouselaw10.BucketMore", spec := "bucketMore", apart := false, narrowed := true }
def BucketMoreUptoSaid : Prop := bucketMoreUptoRow.holds Try.pinned (OpenSpec.upto bucketMoreSpec)

/-- 'greenhouselaw10.BucketActs', WHERE WHAT IT READS IS OF BULK AT MOST 1048576: true; the input reads as it did. -/
def bucketActsUptoRow : OpenClaim := { program := "ytncejfdpgjdoaaa", sum := "f0c967e6030ff45bdb06cbf639822067ef7fe47990e9c5286259d7a2ad56b444", func := "greenhouse/greenhouselaw10.BucketActs", spec := "bucketActs", apart := false, narrowed := true }
def BucketActsUptoSaid : Prop := bucketActsUptoRow.holds Try.pinned (OpenSpec.upto bucketActsSpec)

end Rows
end Go.Proofs.Ytncejfdpgjdoaaa
