/-
  No cell of these rows narrows 'for every input' (looked for: loops, veiled, ifaces, maps, wideKeys, modest, calm, conditions, laid).
  DERIVED. THE GIVEN ROWS OF THIS SEAT. 3 by the template 'for every input the law returns true; each argument reads behind the call as it read before'; 0 by the template 'total and deterministic' (their statements: YtihhnejpnjcidaaTotals.lean).
  GIVEN WITH THE SEED: the statements are not yours to turn. If you find one false, say at which input.
  Laid BY PROGRAM, IN A SANDBOX (cutbox-rows.mjs): the forced cells as the released guide's own fill.sh prints them over the translation 7aa50cf39a1ea111… (all of the seat's roots in one cut). By AI agents, Wed Nov 11 2026. No macro, syntax, notation, axiom, sorry.
-/
import Derived.Test.YtihhnejpnjcidaaChecked
import GoSem.Claim
import GoSem.ClaimJoined
import GoSem.ClaimMapViews
import Derived.JoinedTies
import Derived.KernelRfl
namespace Go.Proofs.Ytihhnejpnjcidaa
/- THE CELL 'sum', in the pinned program and in every row, IS THE sha256 OF THE DUMP (.gsa) THAT YtihhnejpnjcidaaProg.lean LOADS. Nothing in Lean hashes anything: it is a label: what it is worth is what the hold of that sum in a sandbox is worth. -/
noncomputable def Try.pinned : Pinned := { name := "ytihhnejpnjcidaa", sum := "7aa50cf39a1ea1119bac4dd0ef7c8645c5abed0422bb2912e1347099fa90d581", checked := Try.checked }
namespace Rows
def none {H : Type} : Left H := { results := [], args := [] }

/-- 'greenhouselaw13.HostFulls': WHATEVER THE INPUT: true; the input reads as it did. -/
def hostFullsSpec : ChangeSpec := { name := "hostFulls", fn := fun _ => fun
  | [d1, d2] => { results := [.lit (.bool true)], args := [d1, d2] }
  | _ => none }
def hostFullsRow : OpenClaim := { program := "ytihhnejpnjcidaa", sum := "7aa50cf39a1ea1119bac4dd0ef7c8645c5abed0422bb2912e1347099fa90d581", func := "greenhouse/greenhouselaw13.HostFulls", spec := "hostFulls", apart := false }
def HostFullsSaid : Prop := hostFullsRow.holds Try.pinned (OpenSpec.ofChange hostFullsSpec)

/-- ITS FALSE NEIGHBOUR: 'it returns false'. Refute it at one input. -/
def hostFullsWrong : ChangeSpec := { name := "hostFulls", fn := fun _ => fun
  | [d1, d2] => { results := [.lit (.bool false)], args := [d1, d2] }
  | _ => none }
def HostFullsWrongFalsely : Prop := hostFullsRow.holds Try.pinned (OpenSpec.ofChange hostFullsWrong)

/-- 'greenhouselaw13.HostTight': WHATEVER THE INPUT: true; the input reads as it did. -/
def hostTightSpec : ChangeSpec := { name := "hostTight", fn := fun _ => fun
  | [d1, d2, d3] => { results := [.lit (.bool true)], args := [d1, d2, d3] }
  | _ => none }
def hostTightRow : OpenClaim := { program := "ytihhnejpnjcidaa", sum := "7aa50cf39a1ea1119bac4dd0ef7c8645c5abed0422bb2912e1347099fa90d581", func := "greenhouse/greenhouselaw13.HostTight", spec := "hostTight", apart := false }
def HostTightSaid : Prop := hostTightRow.holds Try.pinned (OpenSpec.ofChange hostTightSpec)

/-- ITS FALSE NEIGHBOUR: 'it returns false'. Refute it at one input. -/
def hostTightWrong : ChangeSpec := { name := "hostTight", fn := fun _ => fun
  | [d1, d2, d3] => { results := [.lit (.bool false)], args := [d1, d2, d3] }
  | _ => none }
def HostTightWrongFalsely : Prop := hostTightRow.holds Try.pinned (OpenSpec.ofChange hostTightWrong)

/-- 'greenhouselaw13.HostApart': WHATEVER THE INPUT: true; the input reads as it did. -/
def hostApartSpec : ChangeSpec := { name := "hostApart", fn := fun _ => fun
  | [d1, d2, d3] => { results := [.lit (.bool true)], args := [d1, d2, d3] }
  | _ => none }
def hostApartRow : OpenClaim := { program := "ytihhnejpnjcidaa", sum := "7aa50cf39a1ea1119bac4dd0ef7c8645c5abed0422bb2912e1347099fa90d581", func := "greenhouse/greenhouselaw13.HostApart", spec := "hostApart", apart := false }
def HostApartSaid : Prop := hostApartRow.holds Try.pinned (OpenSpec.ofChange hostApartSpec)

/-- ITS FALSE NEIGHBOUR: 'it returns false'. Refute it at one input. -/
def hostApartWrong : ChangeSpec := { name := "hostApart", fn := fun _ => fun
  | [d1, d2, d3] => { results := [.lit (.bool false)], args := [d1, d2, d3] }
  | _ => none }
def HostApartWrongFalsely : Prop := hostApartRow.holds Try.pinned (OpenSpec.ofChange hostApartWrong)

/- THE SECOND FORM. 'bulk': how many values and letters a reading holds, each counted each time it is reached (what is shared counts as often as it is met; a slice's spare places count too). A statement '..UptoSaid' is the law's where the arguments, and the package variables that the reading takes, are together of bulk at most 1048576: NARROWER than '..Said'. Prove '..Said' where nothing that the law and all that it calls make is longer than what came in: it says more and counts as full. Else prove '..UptoSaid'. A law counts once. -/
mutual
def uptoBulk {H : Type} : DataW H → Nat
  | .lit (.string bytes) => bytes.length + 1
  | .lit _ => 1
  | .nil => 1
  | .ptr d => uptoBulk d + 1
  | .slice elems spare => uptoBulkAll elems + uptoBulkAll spare + 1
  | .agg parts => uptoBulkAll parts + 1
  | .iface _ d => uptoBulk d + 1
  | .map entries => uptoBulkEntries entries + 1
  | .held _ => 1
def uptoBulkAll {H : Type} : List (DataW H) → Nat
  | [] => 0
  | d :: r => uptoBulk d + uptoBulkAll r
def uptoBulkEntries {H : Type} : List (Lit × DataW H) → Nat
  | [] => 0
  | x :: r => uptoBulkEntry x + uptoBulkEntries r
def uptoBulkEntry {H : Type} : Lit × DataW H → Nat
  | (.string bytes, d) => bytes.length + uptoBulk d + 1
  | (_, d) => uptoBulk d + 1
 end
def uptoSmall : (H : Type) → List (DataW H) → Bool := fun _ ds => decide (uptoBulkAll ds ≤ 1048576)
def OpenSpec.upto (s : _root_.Go.ChangeSpec) : _root_.Go.OpenSpec := { _root_.Go.OpenSpec.ofChange s with cond := some uptoSmall }

/-- 'greenhouselaw13.HostFulls', WHERE WHAT IT READS IS OF BULK AT MOST 1048576: true; the input reads as it did. -/
def hostFullsUptoRow : OpenClaim := { program := "ytihhnejpnjcidaa", sum := "7aa50cf39a1ea1119bac4dd0ef7c8645c5abed0422bb2912e1347099fa90d581", func := "greenhouse/greenhouselaw13.HostFulls", spec := "hostFulls", apart := false, narrowed := true }
def HostFullsUptoSaid : Prop := hostFullsUptoRow.holds Try.pinned (OpenSpec.upto hostFullsSpec)

/-- 'greenhouselaw13.HostTight', WHERE WHAT IT READS IS OF BULK AT MOST 1048576: true; the input reads as it did. -/
def hostTightUptoRow : OpenClaim := { program := "ytihhnejpnjcidaa", sum := "7aa50cf39a1ea1119bac4dd0ef7c8645c5abed0422bb2912e1347099fa90d581", func := "greenhouse/greenhouselaw13.HostTight", spec := "hostTight", apart := false, narrowed := true }
def HostTightUptoSaid : Prop := hostTightUptoRow.holds Try.pinned (OpenSpec.upto hostTightSpec)

/-- 'greenhouselaw13.HostApart', WHERE WHAT IT READS IS OF BULK AT MOST 1048576: true; the input reads as it did. -/
def hostApartUptoRow : OpenClaim := { program := "ytihhnejpnjcidaa", sum := "7aa50cf39a1ea1119bac4dd0ef7c8645c5abed0422bb2912e1347099fa90d581", func := "greenhouse/greenhouselaw13.HostApart", spec := "hostApart", apart := false, narrowed := true }
def HostApartUptoSaid : Prop := hostApartUptoRow.holds Try.pinned (OpenSpec.upto hostApartSpec)

end Rows
end Go.Proofs.Ytihhnejpnjcidaa
