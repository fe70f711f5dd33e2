/-
  No cell of these rows narrows 'for every input' (looked for: loops, veiled, ifaces, maps, wideKeys, modest, calm, conditions, laid).
  DERIVED. THE GIVEN ROWS OF THIS SEAT. 5 by the template 'for every input the law returns true; each argument reads behind the call as it read before'; 0 by the template 'total and deterministic' (their statements: YtjibcecekjmnlaaTotals.lean).
  GIVEN WITH THE SEED: the statements are not yours to turn. If you find one false, say at which input.
  Laid BY PROGRAM, IN A SANDBOX (cutbox-rows.mjs): the forced cells as the released guide's own fill.sh prints them over the translation 7619abef5975305c… (all of the seat's roots in one cut). By AI agents, Wed Nov 11 2026. No macro, syntax, notation, axiom, sorry.
-/
import Derived.Test.YtjibcecekjmnlaaChecked
import GoSem.Claim
import GoSem.ClaimJoined
import GoSem.ClaimMapViews
import Derived.JoinedTies
import Derived.KernelRfl
namespace Go.Proofs.Ytjibcecekjmnlaa
/- THE CELL 'sum', in the pinned program and in every row, IS THE sha256 OF THE DUMP (.gsa) THAT YtjibcecekjmnlaaProg.lean LOADS. Nothing in Lean hashes anything: it is a label: what it is worth is what the hold of that sum in a sandbox is worth. -/
noncomputable def Try.pinned : Pinned := { name := "ytjibcecekjmnlaa", sum := "7619abef5975305c7e28754de2ba679ef86be71cb72f390cd915f750a4684f9c", checked := Try.checked }
namespace Rows
def none {H : Type} : Left H := { results := [], args := [] }

/-- 'greenhouselaw11.QuotaHolds': WHATEVER THE INPUT: true; the input reads as it did. -/
def quotaHoldsSpec : ChangeSpec := { name := "quotaHolds", fn := fun _ => fun
  | [d1, d2, d3, d4] => { results := [.lit (.bool true)], args := [d1, d2, d3, d4] }
  | _ => none }
def quotaHoldsRow : OpenClaim := { program := "ytjibcecekjmnlaa", sum := "7619abef5975305c7e28754de2ba679ef86be71cb72f390cd915f750a4684f9c", func := "greenhouse/greenhouselaw11.QuotaHolds", spec := "quotaHolds", apart := false }
def QuotaHoldsSaid : Prop := quotaHoldsRow.holds Try.pinned (OpenSpec.ofChange quotaHoldsSpec)

/-- ITS FALSE NEIGHBOUR: 'it returns false'. Refute it at one input. -/
def quotaHoldsWrong : ChangeSpec := { name := "quotaHolds", fn := fun _ => fun
  | [d1, d2, d3, d4] => { results := [.lit (.bool false)], args := [d1, d2, d3, d4] }
  | _ => none }
def QuotaHoldsWrongFalsely : Prop := quotaHoldsRow.holds Try.pinned (OpenSpec.ofChange quotaHoldsWrong)

/-- 'greenhouselaw11.QuotaBounds': WHATEVER THE INPUT: true; the input reads as it did. -/
def quotaBoundsSpec : ChangeSpec := { name := "quotaBounds", fn := fun _ => fun
  | [d1, d2, d3] => { results := [.lit (.bool true)], args := [d1, d2, d3] }
  | _ => none }
def quotaBoundsRow : OpenClaim := { program := "ytjibcecekjmnlaa", sum := "7619abef5975305c7e28754de2ba679ef86be71cb72f390cd915f750a4684f9c", func := "greenhouse/greenhouselaw11.QuotaBounds", spec := "quotaBounds", apart := false }
def QuotaBoundsSaid : Prop := quotaBoundsRow.holds Try.pinned (OpenSpec.ofChange quotaBoundsSpec)

/-- ITS FALSE NEIGHBOUR: 'it returns false'. Refute it at one input. -/
def quotaBoundsWrong : ChangeSpec := { name := "quotaBounds", fn := fun _ => fun
  | [d1, d2, d3] => { results := [.lit (.bool false)], args := [d1, d2, d3] }
  | _ => none }
def QuotaBoundsWrongFalsely : Prop := quotaBoundsRow.holds Try.pinned (OpenSpec.ofChange quotaBoundsWrong)

/-- 'greenhouselaw11.QuotaLowers': WHATEVER THE INPUT: true; the input reads as it did. -/
def quotaLowersSpec : ChangeSpec := { name := "quotaLowers", fn := fun _ => fun
  | [d1, d2, d3] => { results := [.lit (.bool true)], args := [d1, d2, d3] }
  | _ => none }
def quotaLowersRow : OpenClaim := { program := "ytjibcecekjmnlaa", sum := "7619abef5975305c7e28754de2ba679ef86be71cb72f390cd915f750a4684f9c", func := "greenhouse/greenhouselaw11.QuotaLowers", spec := "quotaLowers", apart := false }
def QuotaLowersSaid : Prop := quotaLowersRow.holds Try.pinned (OpenSpec.ofChange quotaLowersSpec)

/-- ITS FALSE NEIGHBOUR: 'it returns false'. Refute it at one input. -/
def quotaLowersWrong : ChangeSpec := { name := "quotaLowers", fn := fun _ => fun
  | [d1, d2, d3] => { results := [.lit (.bool false)], args := [d1, d2, d3] }
  | _ => none }
def QuotaLowersWrongFalsely : Prop := quotaLowersRow.holds Try.pinned (OpenSpec.ofChange quotaLowersWrong)

/-- 'greenhouselaw11.QuotaApart': WHATEVER THE INPUT: true; the input reads as it did. -/
def quotaApartSpec : ChangeSpec := { name := "quotaApart", fn := fun _ => fun
  | [d] => { results := [.lit (.bool true)], args := [d] }
  | _ => none }
def quotaApartRow : OpenClaim := { program := "ytjibcecekjmnlaa", sum := "7619abef5975305c7e28754de2ba679ef86be71cb72f390cd915f750a4684f9c", func := "greenhouse/greenhouselaw11.QuotaApart", spec := "quotaApart", apart := false }
def QuotaApartSaid : Prop := quotaApartRow.holds Try.pinned (OpenSpec.ofChange quotaApartSpec)

/-- ITS FALSE NEIGHBOUR: 'it returns false'. Refute it at one input. -/
def quotaApartWrong : ChangeSpec := { name := "quotaApart", fn := fun _ => fun
  | [d] => { results := [.lit (.bool false)], args := [d] }
  | _ => none }
def QuotaApartWrongFalsely : Prop := quotaApartRow.holds Try.pinned (OpenSpec.ofChange quotaApartWrong)

/-- 'greenhouselaw11.QuotaActs': WHATEVER THE INPUT: true; the input reads as it did. -/
def quotaActsSpec : ChangeSpec := { name := "quotaActs", fn := fun _ => fun
  | [d] => { results := [.lit (.bool true)], args := [d] }
  | _ => none }
def quotaActsRow : OpenClaim := { program := "ytjibcecekjmnlaa", sum := "7619abef5975305c7e28754de2ba679ef86be71cb72f390cd915f750a4684f9c", func := "greenhouse/greenhouselaw11.QuotaActs", spec := "quotaActs", apart := false }
def QuotaActsSaid : Prop := quotaActsRow.holds Try.pinned (OpenSpec.ofChange quotaActsSpec)

/-- ITS FALSE NEIGHBOUR: 'it returns false'. Refute it at one input. -/
def quotaActsWrong : ChangeSpec := { name := "quotaActs", fn := fun _ => fun
  | [d] => { results := [.lit (.bool false)], args := [d] }
  | _ => none }
def QuotaActsWrongFalsely : Prop := quotaActsRow.holds Try.pinned (OpenSpec.ofChange quotaActsWrong)

/- THE SECOND FORM. 'bulk': how many values and letters a reading holds, each counted each time it is reached (what is shared counts as often as it is met; a slice's spare places count too). A statement '..UptoSaid' is the law's where the arguments, and the package variables that the reading takes, are together of bulk at most 1048576: NARROWER than '..Said'. Prove '..Said' where nothing that the law and all that it calls make is longer than what came in: it says more and counts as full. Else prove '..UptoSaid'. A law counts once. -/
mutual
def uptoBulk {H : Type} : DataW H → Nat
  | .lit (.string bytes) => bytes.length + 1
  | .lit _ => 1
  | .nil => 1
  | .ptr d => uptoBulk d + 1
  | .slice elems spare => uptoBulkAll elems + uptoBulkAll spare + 1
  | .agg parts => uptoBulkAll parts + 1
  | .iface _ d => uptoBulk d + 1
  | .map entries => uptoBulkEntries entries + 1
  | .held _ => 1
def uptoBulkAll {H : Type} : List (DataW H) → Nat
  | [] => 0
  | d :: r => uptoBulk d + uptoBulkAll r
def uptoBulkEntries {H : Type} : List (Lit × DataW H) → Nat
  | [] => 0
  | x :: r => uptoBulkEntry x + uptoBulkEntries r
def uptoBulkEntry {H : Type} : Lit × DataW H → Nat
  | (.string bytes, d) => bytes.length + uptoBulk d + 1
  | (_, d) => uptoBulk d + 1
 end
def uptoSmall : (H : Type) → List (DataW H) → Bool := fun _ ds => decide (uptoBulkAll ds ≤ 1048576)
def OpenSpec.upto (s : _root_.Go.ChangeSpec) : _root_.Go.OpenSpec := { _root_.Go.OpenSpec.ofChange s with cond := some uptoSmall }

/-- 'greenhouselaw11.QuotaHolds', WHERE WHAT IT READS IS OF BULK AT MOST 1048576: true; the input reads as it did. -/
def quotaHoldsUptoRow : OpenClaim := { program := "ytjibcecekjmnlaa", sum := "7619abef5975305c7e28754de2ba679ef86be71cb72f390cd915f750a4684f9c", func := "greenhouse/greenhouselaw11.QuotaHolds", spec := "quotaHolds", apart := false, narrowed := true }
def QuotaHoldsUptoSaid : Prop := quotaHoldsUptoRow.holds Try.pinned (OpenSpec.upto quotaHoldsSpec)

/-- 'greenhouselaw11.QuotaBounds', WHERE WHAT IT READS IS OF BULK AT MOST 1048576: true; the input reads as it did. -/
def quotaBoundsUptoRow : OpenClaim := { program := "ytjibcecekjmnlaa", sum := "7619abef5975305c7e28754de2ba679ef86be71cb72f390cd915f750a4684f9c", func := "greenhouse/greenhouselaw11.QuotaBounds", spec := "quotaBounds", apart := false, narrowed := true }
def QuotaBoundsUptoSaid : Prop := quotaBoundsUptoRow.holds Try.pinned (OpenSpec.upto quotaBoundsSpec)

/-- 'greenhouselaw11.QuotaLowers', WHERE WHAT IT READS IS OF BULK AT MOST 1048576: true; the input reads as it did. -/
def quotaLowersUptoRow : OpenClaim := { program := "ytjibcecekjmnlaa", sum := "7619abef5975305c7e28754de2ba679ef86be71cb72f390cd915f750a4684f9c", func := "greenhouse/greenhouselaw11.QuotaLowers", spec := "quotaLowers", apart := false, narrowed := true }
def QuotaLowersUptoSaid : Prop := quotaLowersUptoRow.holds Try.pinned (OpenSpec.upto quotaLowersSpec)

/-- 'greenhouselaw11.QuotaApart', WHERE WHAT IT READS IS OF BULK AT MOST 1048576: true; the input reads as it did. -/
def quotaApartUptoRow : OpenClaim := { program := "ytjibcecekjmnlaa", sum := "7619abef5975305c7e28754de2ba679ef86be71cb72f390cd915f750a4684f9c", func := "greenhouse/greenhouselaw11.QuotaApart", spec := "quotaApart", apart := false, narrowed := true }
def QuotaApartUptoSaid : Prop := quotaApartUptoRow.holds Try.pinned (OpenSpec.upto quotaApartSpec)

/-- 'greenhouselaw11.QuotaActs', WHERE WHAT IT READS IS OF BULK AT MOST 1048576: true; the input reads as it did. -/
def quotaActsUptoRow : OpenClaim := { program := "ytjibcecekjmnlaa", sum := "7619abef5975305c7e28754de2ba679ef86be71cb72f390cd915f750a4684f9c", func := "greenhouse/greenhouselaw11.QuotaActs", spec := "quotaActs", apart := false, narrowed := true }
def QuotaActsUptoSaid : Prop := quotaActsUptoRow.holds Try.pinned (OpenSpec.upto quotaActsSpec)

end Rows
end Go.Proofs.Ytjibcecekjmnlaa
