/-
  No cell of these rows narrows 'for every input' (looked for: loops, veiled, ifaces, maps, wideKeys, modest, calm, conditions, laid).
  DERIVED. THE GIVEN ROWS OF THIS SEAT. 4 by the template 'for every input the law returns true; each argument reads behind the call as it read before'; 0 by the template 'total and deterministic' (their statements: YtnhbpghllgadaaaTotals.lean).
  GIVEN WITH THE SEED: the statements are not yours to turn. If you find one false, say at which input.
  Laid BY PROGRAM, IN A SANDBOX (cutbox-rows.mjs): the forced cells as the released guide's own fill.sh prints them over the translation 69b13c53a3b4d39a… (all of the seat's roots in one cut). By AI agents, Wed Nov 11 2026. No macro, syntax, notation, axiom, sorry.
-/
import Derived.Test.YtnhbpghllgadaaaChecked
import GoSem.Claim
import GoSem.ClaimJoined
import GoSem.ClaimMapViews
import Derived.JoinedTies
import Derived.KernelRfl
namespace Go.Proofs.Ytnhbpghllgadaaa
/- THE CELL 'sum', in the pinned program and in every row, IS THE sha256 OF THE DUMP (.gsa) THAT YtnhbpghllgadaaaProg.lean LOADS. Nothing in Lean hashes anything: it is a label: what it is worth is what the hold of that sum in a sandbox is worth. -/
noncomputable def Try.pinned : Pinned := { name := "ytnhbpghllgadaaa", sum := "69b13c53a3b4d39a5c6bad87e55bb992fd1251656289098d9739b6b6ba516106", checked := Try.checked }
namespace Rows
def none {H : Type} : Left H := { results := [], args := [] }

/-- 'greenhouselaw05.RingPushes': WHATEVER THE INPUT: true; the input reads as it did. -/
def ringPushesSpec : ChangeSpec := { name := "ringPushes", fn := fun _ => fun
  | [d] => { results := [.lit (.bool true)], args := [d] }
  | _ => none }
def ringPushesRow : OpenClaim := { program := "ytnhbpghllgadaaa", sum := "69b13c53a3b4d39a5c6bad87e55bb992fd1251656289098d9739b6b6ba516106", func := "greenhouse/greenhouselaw05.RingPushes", spec := "ringPushes", apart := false }
def RingPushesSaid : Prop := ringPushesRow.holds Try.pinned (OpenSpec.ofChange ringPushesSpec)

/-- ITS FALSE NEIGHBOUR: 'it returns false'. Refute it at one input. -/
def ringPushesWrong : ChangeSpec := { name := "ringPushes", fn := fun _ => fun
  | [d] => { results := [.lit (.bool false)], args := [d] }
  | _ => none }
def RingPushesWrongFalsely : Prop := ringPushesRow.holds Try.pinned (OpenSpec.ofChange ringPushesWrong)

/-- 'greenhouselaw05.RingForgets': WHATEVER THE INPUT: true; the input reads as it did. -/
def ringForgetsSpec : ChangeSpec := { name := "ringForgets", fn := fun _ => fun
  | [d1, d2, d3] => { results := [.lit (.bool true)], args := [d1, d2, d3] }
  | _ => none }
def ringForgetsRow : OpenClaim := { program := "ytnhbpghllgadaaa", sum := "69b13c53a3b4d39a5c6bad87e55bb992fd1251656289098d9739b6b6ba516106", func := "greenhouse/greenhouselaw05.RingForgets", spec := "ringForgets", apart := false }
def RingForgetsSaid : Prop := ringForgetsRow.holds Try.pinned (OpenSpec.ofChange ringForgetsSpec)

/-- ITS FALSE NEIGHBOUR: 'it returns false'. Refute it at one input. -/
def ringForgetsWrong : ChangeSpec := { name := "ringForgets", fn := fun _ => fun
  | [d1, d2, d3] => { results := [.lit (.bool false)], args := [d1, d2, d3] }
  | _ => none }
def RingForgetsWrongFalsely : Prop := ringForgetsRow.holds Try.pinned (OpenSpec.ofChange ringForgetsWrong)

/-- 'greenhouselaw05.RingLong': WHATEVER THE INPUT: true; the input reads as it did. -/
def ringLongSpec : ChangeSpec := { name := "ringLong", fn := fun _ => fun
  | [d1, d2] => { results := [.lit (.bool true)], args := [d1, d2] }
  | _ => none }
def ringLongRow : OpenClaim := { program := "ytnhbpghllgadaaa", sum := "69b13c53a3b4d39a5c6bad87e55bb992fd1251656289098d9739b6b6ba516106", func := "greenhouse/greenhouselaw05.RingLong", spec := "ringLong", apart := false }
def RingLongSaid : Prop := ringLongRow.holds Try.pinned (OpenSpec.ofChange ringLongSpec)

/-- ITS FALSE NEIGHBOUR: 'it returns false'. Refute it at one input. -/
def ringLongWrong : ChangeSpec := { name := "ringLong", fn := fun _ => fun
  | [d1, d2] => { results := [.lit (.bool false)], args := [d1, d2] }
  | _ => none }
def RingLongWrongFalsely : Prop := ringLongRow.holds Try.pinned (OpenSpec.ofChange ringLongWrong)

/-- 'greenhouselaw05.RingJoins': WHATEVER THE INPUT: true; the input reads as it did. -/
def ringJoinsSpec : ChangeSpec := { name := "ringJoins", fn := fun _ => fun
  | [d1, d2] => { results := [.lit (.bool true)], args := [d1, d2] }
  | _ => none }
def ringJoinsRow : OpenClaim := { program := "ytnhbpghllgadaaa", sum := "69b13c53a3b4d39a5c6bad87e55bb992fd1251656289098d9739b6b6ba516106", func := "greenhouse/greenhouselaw05.RingJoins", spec := "ringJoins", apart := false }
def RingJoinsSaid : Prop := ringJoinsRow.holds Try.pinned (OpenSpec.ofChange ringJoinsSpec)

/-- ITS FALSE NEIGHBOUR: 'it returns false'. Refute it at one input. -/
def ringJoinsWrong : ChangeSpec := { name := "ringJoins", fn := fun _ => fun
  | [d1, d2] => { results := [.lit (.bool false)], args := [d1, d2] }
  | _ => none }
def RingJoinsWrongFalsely : Prop := ringJoinsRow.holds Try.pinned (OpenSpec.ofChange ringJoinsWrong)

/- THE SECOND FORM. 'bulk': how many values and letters a reading holds, each counted each time it is reached (what is shared counts as often as it is met; a slice's spare places count too). A statement '..UptoSaid' is the law's where the arguments, and the package variables that the reading takes, are together of bulk at most 1048576: NARROWER than '..Said'. Prove '..Said' where nothing that the law and all that it calls make is longer than what came in: it says more and counts as full. Else prove '..UptoSaid'. A law counts once. -/
mutual
def uptoBulk {H : Type} : DataW H → Nat
  | .lit (.string bytes) => bytes.length + 1
  | .lit _ => 1
  | .nil => 1
  | .ptr d => uptoBulk d + 1
  | .slice elems spare => uptoBulkAll elems + uptoBulkAll spare + 1
  | .agg parts => uptoBulkAll parts + 1
  | .iface _ d => uptoBulk d + 1
  | .map entries => uptoBulkEntries entries + 1
  | .held _ => 1
def uptoBulkAll {H : Type} : List (DataW H) → Nat
  | [] => 0
  | d :: r => uptoBulk d + uptoBulkAll r
def uptoBulkEntries {H : Type} : List (Lit × DataW H) → Nat
  | [] => 0
  | x :: r => uptoBulkEntry x + uptoBulkEntries r
def uptoBulkEntry {H : Type} : Lit × DataW H → Nat
  | (.string bytes, d) => bytes.length + uptoBulk d + 1
  | (_, d) => uptoBulk d + 1
 end
def uptoSmall : (H : Type) → List (DataW H) → Bool := fun _ ds => decide (uptoBulkAll ds ≤ 1048576)
def OpenSpec.upto (s : _root_.Go.ChangeSpec) : _root_.Go.OpenSpec := { _root_.Go.OpenSpec.ofChange s with cond := some uptoSmall }

/-- 'greenhouselaw05.RingPushes', WHERE WHAT IT READS IS OF BULK AT MOST 1048576: true; the input reads as it did. -/
def ringPushesUptoRow : OpenClaim := { program := "ytnhbpghllgadaaa", sum := "69b13c53a3b4d39a5c6bad87e55bb992fd1251656289098d9739b6b6ba516106", func := "greenhouse/greenhouselaw05.RingPushes", spec := "ringPushes", apart := false, narrowed := true }
def RingPushesUptoSaid : Prop := ringPushesUptoRow.holds Try.pinned (OpenSpec.upto ringPushesSpec)

/-- 'greenhouselaw05.RingForgets', WHERE WHAT IT READS IS OF BULK AT MOST 1048576: true; the input reads as it did. -/
def ringForgetsUptoRow : OpenClaim := { program := "ytnhbpghllgadaaa", sum := "69b13c53a3b4d39a5c6bad87e55bb992fd1251656289098d9739b6b6ba516106", func := "greenhouse/greenhouselaw05.RingForgets", spec := "ringForgets", apart := false, narrowed := true }
def RingForgetsUptoSaid : Prop := ringForgetsUptoRow.holds Try.pinned (OpenSpec.upto ringForgetsSpec)

/-- 'greenhouselaw05.RingLong', WHERE WHAT IT READS IS OF BULK AT MOST 1048576: true; the input reads as it did. -/
def ringLongUptoRow : OpenClaim := { program := "ytnhbpghllgadaaa", sum := "69b13c53a3b4d39a5c6bad87e55bb992fd1251656289098d9739b6b6ba516106", func := "greenhouse/greenhouselaw05.RingLong", spec := "ringLong", apart := false, narrowed := true }
def RingLongUptoSaid : Prop := ringLongUptoRow.holds Try.pinned (OpenSpec.upto ringLongSpec)

/-- 'greenhouselaw05.RingJoins', WHERE WHAT IT READS IS OF BULK AT MOST 1048576: true; the input reads as it did. -/
def ringJoinsUptoRow : OpenClaim := { program := "ytnhbpghllgadaaa", sum := "69b13c53a3b4d39a5c6bad87e55bb992fd1251656289098d9739b6b6ba516106", func := "greenhouse/greenhouselaw05.RingJoins", spec := "ringJoins", apart := false, narrowed := true }
def RingJoinsUptoSaid : Prop := ringJoinsUptoRow.holds Try.pinned (OpenSpec.upto ringJoinsSpec)

end Rows
end Go.Proofs.Ytnhbpghllgadaaa
