/-
  No cell of these rows narrows 'for every input' (looked for: loops, veiled, ifaces, maps, wideKeys, modest, calm, conditions, laid).
  DERIVED. THE GIVEN ROWS OF THIS SEAT. 7 by the template 'for every input the law returns true; each argument reads behind the call as it read before'; 0 by the template 'total and deterministic' (their statements: YtkdklaioibiebaaTotals.lean).
  GIVEN WITH THE SEED: the statements are not yours to turn. If you find one false, say at which input.
  Laid BY PROGRAM, IN A SANDBOX (cutbox-rows.mjs): the forced cells as the released guide's own fill.sh prints them over the translation cf727b4c158c95da… (all of the seat's roots in one cut). By AI agents, Wed Nov 11 2026. No macro, syntax, notation, axiom, sorry.
-/
import Derived.Test.YtkdklaioibiebaaChecked
import GoSem.Claim
import GoSem.ClaimJoined
import GoSem.ClaimMapViews
import Derived.JoinedTies
import Derived.KernelRfl
namespace Go.Proofs.Ytkdklaioibiebaa
/- THE CELL 'sum', in the pinned program and in every row, IS THE sha256 OF THE DUMP (.gsa) THAT YtkdklaioibiebaaProg.lean LOADS. Nothing in Lean hashes anything: it is a label: what it is worth is what the hold of that sum in a sandbox is worth. -/
noncomputable def Try.pinned : Pinned := { name := "ytkdklaioibiebaa", sum := "cf727b4c158c95dadb431bd419742ee0bb25459b12675fd85150fe2801840dd3", checked := Try.checked }
namespace Rows
def none {H : Type} : Left H := { results := [], args := [] }

/-- 'greenhouselaw02.RatioFloors': WHATEVER THE INPUT: true; the input reads as it did. -/
def ratioFloorsSpec : ChangeSpec := { name := "ratioFloors", fn := fun _ => fun
  | [d] => { results := [.lit (.bool true)], args := [d] }
  | _ => none }
def ratioFloorsRow : OpenClaim := { program := "ytkdklaioibiebaa", sum := "cf727b4c158c95dadb431bd419742ee0bb25459b12675fd85150fe2801840dd3", func := "greenhouse/greenhouselaw02.RatioFloors", spec := "ratioFloors", inPlace := ["math/bits.Add64"], apart := false }
def RatioFloorsSaid : Prop := ratioFloorsRow.holds Try.pinned (OpenSpec.ofChange ratioFloorsSpec)

/-- ITS FALSE NEIGHBOUR: 'it returns false'. Refute it at one input. -/
def ratioFloorsWrong : ChangeSpec := { name := "ratioFloors", fn := fun _ => fun
  | [d] => { results := [.lit (.bool false)], args := [d] }
  | _ => none }
def RatioFloorsWrongFalsely : Prop := ratioFloorsRow.holds Try.pinned (OpenSpec.ofChange ratioFloorsWrong)

/-- 'greenhouselaw02.RatioAboves': WHATEVER THE INPUT: true; the input reads as it did. -/
def ratioAbovesSpec : ChangeSpec := { name := "ratioAboves", fn := fun _ => fun
  | [d1, d2, d3] => { results := [.lit (.bool true)], args := [d1, d2, d3] }
  | _ => none }
def ratioAbovesRow : OpenClaim := { program := "ytkdklaioibiebaa", sum := "cf727b4c158c95dadb431bd419742ee0bb25459b12675fd85150fe2801840dd3", func := "greenhouse/greenhouselaw02.RatioAboves", spec := "ratioAboves", inPlace := ["math/bits.Add64"], apart := false }
def RatioAbovesSaid : Prop := ratioAbovesRow.holds Try.pinned (OpenSpec.ofChange ratioAbovesSpec)

/-- ITS FALSE NEIGHBOUR: 'it returns false'. Refute it at one input. -/
def ratioAbovesWrong : ChangeSpec := { name := "ratioAboves", fn := fun _ => fun
  | [d1, d2, d3] => { results := [.lit (.bool false)], args := [d1, d2, d3] }
  | _ => none }
def RatioAbovesWrongFalsely : Prop := ratioAbovesRow.holds Try.pinned (OpenSpec.ofChange ratioAbovesWrong)

/-- 'greenhouselaw02.RatioChains': WHATEVER THE INPUT: true; the input reads as it did. -/
def ratioChainsSpec : ChangeSpec := { name := "ratioChains", fn := fun _ => fun
  | [d1, d2, d3, d4] => { results := [.lit (.bool true)], args := [d1, d2, d3, d4] }
  | _ => none }
def ratioChainsRow : OpenClaim := { program := "ytkdklaioibiebaa", sum := "cf727b4c158c95dadb431bd419742ee0bb25459b12675fd85150fe2801840dd3", func := "greenhouse/greenhouselaw02.RatioChains", spec := "ratioChains", inPlace := ["math/bits.Add64"], apart := false }
def RatioChainsSaid : Prop := ratioChainsRow.holds Try.pinned (OpenSpec.ofChange ratioChainsSpec)

/-- ITS FALSE NEIGHBOUR: 'it returns false'. Refute it at one input. -/
def ratioChainsWrong : ChangeSpec := { name := "ratioChains", fn := fun _ => fun
  | [d1, d2, d3, d4] => { results := [.lit (.bool false)], args := [d1, d2, d3, d4] }
  | _ => none }
def RatioChainsWrongFalsely : Prop := ratioChainsRow.holds Try.pinned (OpenSpec.ofChange ratioChainsWrong)

/-- 'greenhouselaw02.RatioWholes': WHATEVER THE INPUT: true; the input reads as it did. -/
def ratioWholesSpec : ChangeSpec := { name := "ratioWholes", fn := fun _ => fun
  | [d1, d2, d3] => { results := [.lit (.bool true)], args := [d1, d2, d3] }
  | _ => none }
def ratioWholesRow : OpenClaim := { program := "ytkdklaioibiebaa", sum := "cf727b4c158c95dadb431bd419742ee0bb25459b12675fd85150fe2801840dd3", func := "greenhouse/greenhouselaw02.RatioWholes", spec := "ratioWholes", inPlace := ["math/bits.Add64"], apart := false }
def RatioWholesSaid : Prop := ratioWholesRow.holds Try.pinned (OpenSpec.ofChange ratioWholesSpec)

/-- ITS FALSE NEIGHBOUR: 'it returns false'. Refute it at one input. -/
def ratioWholesWrong : ChangeSpec := { name := "ratioWholes", fn := fun _ => fun
  | [d1, d2, d3] => { results := [.lit (.bool false)], args := [d1, d2, d3] }
  | _ => none }
def RatioWholesWrongFalsely : Prop := ratioWholesRow.holds Try.pinned (OpenSpec.ofChange ratioWholesWrong)

/-- 'greenhouselaw02.RatioMids': WHATEVER THE INPUT: true; the input reads as it did. -/
def ratioMidsSpec : ChangeSpec := { name := "ratioMids", fn := fun _ => fun
  | [d1, d2] => { results := [.lit (.bool true)], args := [d1, d2] }
  | _ => none }
def ratioMidsRow : OpenClaim := { program := "ytkdklaioibiebaa", sum := "cf727b4c158c95dadb431bd419742ee0bb25459b12675fd85150fe2801840dd3", func := "greenhouse/greenhouselaw02.RatioMids", spec := "ratioMids", inPlace := ["math/bits.Add64"], apart := false }
def RatioMidsSaid : Prop := ratioMidsRow.holds Try.pinned (OpenSpec.ofChange ratioMidsSpec)

/-- ITS FALSE NEIGHBOUR: 'it returns false'. Refute it at one input. -/
def ratioMidsWrong : ChangeSpec := { name := "ratioMids", fn := fun _ => fun
  | [d1, d2] => { results := [.lit (.bool false)], args := [d1, d2] }
  | _ => none }
def RatioMidsWrongFalsely : Prop := ratioMidsRow.holds Try.pinned (OpenSpec.ofChange ratioMidsWrong)

/-- 'greenhouselaw02.RatioSteps': WHATEVER THE INPUT: true; the input reads as it did. -/
def ratioStepsSpec : ChangeSpec := { name := "ratioSteps", fn := fun _ => fun
  | [d] => { results := [.lit (.bool true)], args := [d] }
  | _ => none }
def ratioStepsRow : OpenClaim := { program := "ytkdklaioibiebaa", sum := "cf727b4c158c95dadb431bd419742ee0bb25459b12675fd85150fe2801840dd3", func := "greenhouse/greenhouselaw02.RatioSteps", spec := "ratioSteps", inPlace := ["math/bits.Add64"], apart := false }
def RatioStepsSaid : Prop := ratioStepsRow.holds Try.pinned (OpenSpec.ofChange ratioStepsSpec)

/-- ITS FALSE NEIGHBOUR: 'it returns false'. Refute it at one input. -/
def ratioStepsWrong : ChangeSpec := { name := "ratioSteps", fn := fun _ => fun
  | [d] => { results := [.lit (.bool false)], args := [d] }
  | _ => none }
def RatioStepsWrongFalsely : Prop := ratioStepsRow.holds Try.pinned (OpenSpec.ofChange ratioStepsWrong)

/-- 'greenhouselaw02.RatioOrders': WHATEVER THE INPUT: true; the input reads as it did. -/
def ratioOrdersSpec : ChangeSpec := { name := "ratioOrders", fn := fun _ => fun
  | [d1, d2] => { results := [.lit (.bool true)], args := [d1, d2] }
  | _ => none }
def ratioOrdersRow : OpenClaim := { program := "ytkdklaioibiebaa", sum := "cf727b4c158c95dadb431bd419742ee0bb25459b12675fd85150fe2801840dd3", func := "greenhouse/greenhouselaw02.RatioOrders", spec := "ratioOrders", inPlace := ["math/bits.Add64"], apart := false }
def RatioOrdersSaid : Prop := ratioOrdersRow.holds Try.pinned (OpenSpec.ofChange ratioOrdersSpec)

/-- ITS FALSE NEIGHBOUR: 'it returns false'. Refute it at one input. -/
def ratioOrdersWrong : ChangeSpec := { name := "ratioOrders", fn := fun _ => fun
  | [d1, d2] => { results := [.lit (.bool false)], args := [d1, d2] }
  | _ => none }
def RatioOrdersWrongFalsely : Prop := ratioOrdersRow.holds Try.pinned (OpenSpec.ofChange ratioOrdersWrong)

/- THE SECOND FORM. 'bulk': how many values and letters a reading holds, each counted each time it is reached (what is shared counts as often as it is met; a slice's spare places count too). A statement '..UptoSaid' is the law's where the arguments, and the package variables that the reading takes, are together of bulk at most 1048576: NARROWER than '..Said'. Prove '..Said' where nothing that the law and all that it calls make is longer than what came in: it says more and counts as full. Else prove '..UptoSaid'. A law counts once. -/
mutual
def uptoBulk {H : Type} : DataW H → Nat
  | .lit (.string bytes) => bytes.length + 1
  | .lit _ => 1
  | .nil => 1
  | .ptr d => uptoBulk d + 1
  | .slice elems spare => uptoBulkAll elems + uptoBulkAll spare + 1
  | .agg parts => uptoBulkAll parts + 1
  | .iface _ d => uptoBulk d + 1
  | .map entries => uptoBulkEntries entries + 1
  | .held _ => 1
def uptoBulkAll {H : Type} : List (DataW H) → Nat
  | [] => 0
  | d :: r => uptoBulk d + uptoBulkAll r
def uptoBulkEntries {H : Type} : List (Lit × DataW H) → Nat
  | [] => 0
  | x :: r => uptoBulkEntry x + uptoBulkEntries r
def uptoBulkEntry {H : Type} : Lit × DataW H → Nat
  | (.string bytes, d) => bytes.length + uptoBulk d + 1
  | (_, d) => uptoBulk d + 1
 end
def uptoSmall : (H : Type) → List (DataW H) → Bool := fun _ ds => decide (uptoBulkAll ds ≤ 1048576)
def OpenSpec.upto (s : _root_.Go.ChangeSpec) : _root_.Go.OpenSpec := { _root_.Go.OpenSpec.ofChange s with cond := some uptoSmall }

/-- 'greenhouselaw02.RatioFloors', WHERE WHAT IT READS IS OF BULK AT MOST 1048576: true; the input reads as it did. -/
def ratioFloorsUptoRow : OpenClaim := { program := "ytkdklaioibiebaa", sum := "cf727b4c158c95dadb431bd419742ee0bb25459b12675fd85150fe2801840dd3", func := "greenhouse/greenhouselaw02.RatioFloors", spec := "ratioFloors", inPlace := ["math/bits.Add64"], apart := false, narrowed := true }
def RatioFloorsUptoSaid : Prop := ratioFloorsUptoRow.holds Try.pinned (OpenSpec.upto ratioFloorsSpec)

/-- 'greenhouselaw02.RatioAboves', WHERE WHAT IT READS IS OF BULK AT MOST 1048576: true; the input reads as it did. -/
def ratioAbovesUptoRow : OpenClaim := { program := "ytkdklaioibiebaa", sum := "cf727b4c158c95dadb431bd419742ee0bb25459b12675fd85150fe2801840dd3", func := "greenhouse/greenhouselaw02.RatioAboves", spec := "ratioAboves", inPlace := ["math/bits.Add64"], apart := false, narrowed := true }
def RatioAbovesUptoSaid : Prop := ratioAbovesUptoRow.holds Try.pinned (OpenSpec.upto ratioAbovesSpec)

/-- 'greenhouselaw02.RatioChains', WHERE WHAT IT READS IS OF BULK AT MOST 1048576: true; the input reads as it did. -/
def ratioChainsUptoRow : OpenClaim := { program := "ytkdklaioibiebaa", sum := "cf727b4c158c95dadb431bd419742ee0bb25459b12675fd85150fe2801840dd3", func := "greenhouse/greenhouselaw02.RatioChains", spec := "ratioChains", inPlace := ["math/bits.Add64"], apart := false, narrowed := true }
def RatioChainsUptoSaid : Prop := ratioChainsUptoRow.holds Try.pinned (OpenSpec.upto ratioChainsSpec)

/-- 'greenhouselaw02.RatioWholes', WHERE WHAT IT READS IS OF BULK AT MOST 1048576: true; the input reads as it did. -/
def ratioWholesUptoRow : OpenClaim := { program := "ytkdklaioibiebaa", sum := "cf727b4c158c95dadb431bd419742ee0bb25459b12675fd85150fe2801840dd3", func := "greenhouse/greenhouselaw02.RatioWholes", spec := "ratioWholes", inPlace := ["math/bits.Add64"], apart := false, narrowed := true }
def RatioWholesUptoSaid : Prop := ratioWholesUptoRow.holds Try.pinned (OpenSpec.upto ratioWholesSpec)

/-- 'greenhouselaw02.RatioMids', WHERE WHAT IT READS IS OF BULK AT MOST 1048576: true; the input reads as it did. -/
def ratioMidsUptoRow : OpenClaim := { program := "ytkdklaioibiebaa", sum := "cf727b4c158c95dadb431bd419742ee0bb25459b12675fd85150fe2801840dd3", func := "greenhouse/greenhouselaw02.RatioMids", spec := "ratioMids", inPlace := ["math/bits.Add64"], apart := false, narrowed := true }
def RatioMidsUptoSaid : Prop := ratioMidsUptoRow.holds Try.pinned (OpenSpec.upto ratioMidsSpec)

/-- 'greenhouselaw02.RatioSteps', WHERE WHAT IT READS IS OF BULK AT MOST 1048576: true; the input reads as it did. -/
def ratioStepsUptoRow : OpenClaim := { program := "ytkdklaioibiebaa", sum := "cf727b4c158c95dadb431bd419742ee0bb25459b12675fd85150fe2801840dd3", func := "greenhouse/greenhouselaw02.RatioSteps", spec := "ratioSteps", inPlace := ["math/bits.Add64"], apart := false, narrowed := true }
def RatioStepsUptoSaid : Prop := ratioStepsUptoRow.holds Try.pinned (OpenSpec.upto ratioStepsSpec)

/-- 'greenhouselaw02.RatioOrders', WHERE WHAT IT READS IS OF BULK AT MOST 1048576: true; the input reads as it did. -/
def ratioOrdersUptoRow : OpenClaim := { program := "ytkdklaioibiebaa", sum := "cf727b4c158c95dadb431bd419742ee0bb25459b12675fd85150fe2801840dd3", func := "greenhouse/greenhouselaw02.RatioOrders", spec := "ratioOrders", inPlace := ["math/bits.Add64"], apart := false, narrowed := true }
def RatioOrdersUptoSaid : Prop := ratioOrdersUptoRow.holds Try.pinned (OpenSpec.upto ratioOrdersSpec)

end Rows
end Go.Proofs.Ytkdklaioibiebaa
