/-
  No cell of these rows narrows 'for every input' (looked for: loops, veiled, ifaces, maps, wideKeys, modest, calm, conditions, laid).
  DERIVED. THE GIVEN ROWS OF THIS SEAT. 6 by the template 'for every input the law returns true; each argument reads behind the call as it read before'; 0 by the template 'total and deterministic' (their statements: YtigeldkbfbcpmaaGreatTotals.lean).
  GIVEN WITH THE SEED: the statements are not yours to turn. If you find one false, say at which input.
  Laid BY PROGRAM, IN A SANDBOX (cutbox-rows.mjs): the forced cells as the released guide's own fill.sh prints them over the translation 77071e4948011ad0… (all of the seat's roots in one cut). By AI agents, Wed Nov 11 2026. No macro, syntax, notation, axiom, sorry.
-/
import Derived.Test.YtigeldkbfbcpmaaGreatChecked
import GoSem.Claim
import GoSem.ClaimJoined
import GoSem.ClaimMapViews
import Derived.JoinedTies
import Derived.KernelRfl
namespace Go.Proofs.YtigeldkbfbcpmaaGreat
/- THE CELL 'sum', in the pinned program and in every row, IS THE sha256 OF THE DUMP (.gsa) THAT YtigeldkbfbcpmaaGreatProg.lean LOADS. Nothing in Lean hashes anything: it is a label: what it is worth is what the hold of that sum in a sandbox is worth. -/
noncomputable def Tryz.pinned : Pinned := { name := "ytigeldkbfbcpmaagreat", sum := "77071e4948011ad014694fb1f1dd146f9884cde11c71132b670b2845a50a1348", checked := Tryz.checked }
namespace Rows
def none {H : Type} : Left H := { results := [], args := [] }

/-- 'greenhousetop.WholeRuns': WHATEVER THE INPUT: true; the input reads as it did. -/
def wholeRunsSpec : ChangeSpec := { name := "wholeRuns", fn := fun _ => fun
  | [d1, d2, d3] => { results := [.lit (.bool true)], args := [d1, d2, d3] }
  | _ => none }
def wholeRunsRow : OpenClaim := { program := "ytigeldkbfbcpmaagreat", sum := "77071e4948011ad014694fb1f1dd146f9884cde11c71132b670b2845a50a1348", func := "greenhouse/greenhousetop.WholeRuns", spec := "wholeRuns", inPlace := ["math/bits.Add64", "sync/atomic.LoadInt64", "sync/atomic.CompareAndSwapInt64"], unfollowed := true, recurses := true, named := ["math/bits.divideError", "math/bits.overflowError"], plainKeys := false, apart := false }
def WholeRunsSaid : Prop := wholeRunsRow.holds Tryz.pinned (OpenSpec.ofChange wholeRunsSpec)

/-- ITS FALSE NEIGHBOUR: 'it returns false'. Refute it at one input. -/
def wholeRunsWrong : ChangeSpec := { name := "wholeRuns", fn := fun _ => fun
  | [d1, d2, d3] => { results := [.lit (.bool false)], args := [d1, d2, d3] }
  | _ => none }
def WholeRunsWrongFalsely : Prop := wholeRunsRow.holds Tryz.pinned (OpenSpec.ofChange wholeRunsWrong)

/-- 'greenhousetop.WholeTokens': WHATEVER THE INPUT: true; the input reads as it did. -/
def wholeTokensSpec : ChangeSpec := { name := "wholeTokens", fn := fun _ => fun
  | [d1, d2, d3] => { results := [.lit (.bool true)], args := [d1, d2, d3] }
  | _ => none }
def wholeTokensRow : OpenClaim := { program := "ytigeldkbfbcpmaagreat", sum := "77071e4948011ad014694fb1f1dd146f9884cde11c71132b670b2845a50a1348", func := "greenhouse/greenhousetop.WholeTokens", spec := "wholeTokens", inPlace := ["math/bits.Add64", "sync/atomic.LoadInt64", "sync/atomic.CompareAndSwapInt64"], unfollowed := true, recurses := true, named := ["math/bits.divideError", "math/bits.overflowError"], plainKeys := false, apart := false }
def WholeTokensSaid : Prop := wholeTokensRow.holds Tryz.pinned (OpenSpec.ofChange wholeTokensSpec)

/-- ITS FALSE NEIGHBOUR: 'it returns false'. Refute it at one input. -/
def wholeTokensWrong : ChangeSpec := { name := "wholeTokens", fn := fun _ => fun
  | [d1, d2, d3] => { results := [.lit (.bool false)], args := [d1, d2, d3] }
  | _ => none }
def WholeTokensWrongFalsely : Prop := wholeTokensRow.holds Tryz.pinned (OpenSpec.ofChange wholeTokensWrong)

/-- 'greenhousetop.WholeSplit': WHATEVER THE INPUT: true; the input reads as it did. -/
def wholeSplitSpec : ChangeSpec := { name := "wholeSplit", fn := fun _ => fun
  | [d1, d2] => { results := [.lit (.bool true)], args := [d1, d2] }
  | _ => none }
def wholeSplitRow : OpenClaim := { program := "ytigeldkbfbcpmaagreat", sum := "77071e4948011ad014694fb1f1dd146f9884cde11c71132b670b2845a50a1348", func := "greenhouse/greenhousetop.WholeSplit", spec := "wholeSplit", inPlace := ["math/bits.Add64", "sync/atomic.LoadInt64", "sync/atomic.CompareAndSwapInt64"], unfollowed := true, recurses := true, named := ["math/bits.divideError", "math/bits.overflowError"], plainKeys := false, apart := false }
def WholeSplitSaid : Prop := wholeSplitRow.holds Tryz.pinned (OpenSpec.ofChange wholeSplitSpec)

/-- ITS FALSE NEIGHBOUR: 'it returns false'. Refute it at one input. -/
def wholeSplitWrong : ChangeSpec := { name := "wholeSplit", fn := fun _ => fun
  | [d1, d2] => { results := [.lit (.bool false)], args := [d1, d2] }
  | _ => none }
def WholeSplitWrongFalsely : Prop := wholeSplitRow.holds Tryz.pinned (OpenSpec.ofChange wholeSplitWrong)

/-- 'greenhousetop.WholeWindow': WHATEVER THE INPUT: true; the input reads as it did. -/
def wholeWindowSpec : ChangeSpec := { name := "wholeWindow", fn := fun _ => fun
  | [d] => { results := [.lit (.bool true)], args := [d] }
  | _ => none }
def wholeWindowRow : OpenClaim := { program := "ytigeldkbfbcpmaagreat", sum := "77071e4948011ad014694fb1f1dd146f9884cde11c71132b670b2845a50a1348", func := "greenhouse/greenhousetop.WholeWindow", spec := "wholeWindow", inPlace := ["math/bits.Add64", "sync/atomic.LoadInt64", "sync/atomic.CompareAndSwapInt64"], unfollowed := true, recurses := true, named := ["math/bits.divideError", "math/bits.overflowError"], plainKeys := false, apart := false }
def WholeWindowSaid : Prop := wholeWindowRow.holds Tryz.pinned (OpenSpec.ofChange wholeWindowSpec)

/-- ITS FALSE NEIGHBOUR: 'it returns false'. Refute it at one input. -/
def wholeWindowWrong : ChangeSpec := { name := "wholeWindow", fn := fun _ => fun
  | [d] => { results := [.lit (.bool false)], args := [d] }
  | _ => none }
def WholeWindowWrongFalsely : Prop := wholeWindowRow.holds Tryz.pinned (OpenSpec.ofChange wholeWindowWrong)

/-- 'greenhousetop.WholeStays': WHATEVER THE INPUT: true; the input reads as it did. -/
def wholeStaysSpec : ChangeSpec := { name := "wholeStays", fn := fun _ => fun
  | [d1, d2] => { results := [.lit (.bool true)], args := [d1, d2] }
  | _ => none }
def wholeStaysRow : OpenClaim := { program := "ytigeldkbfbcpmaagreat", sum := "77071e4948011ad014694fb1f1dd146f9884cde11c71132b670b2845a50a1348", func := "greenhouse/greenhousetop.WholeStays", spec := "wholeStays", inPlace := ["math/bits.Add64", "sync/atomic.LoadInt64", "sync/atomic.CompareAndSwapInt64"], unfollowed := true, recurses := true, named := ["math/bits.divideError", "math/bits.overflowError"], plainKeys := false, apart := false }
def WholeStaysSaid : Prop := wholeStaysRow.holds Tryz.pinned (OpenSpec.ofChange wholeStaysSpec)

/-- ITS FALSE NEIGHBOUR: 'it returns false'. Refute it at one input. -/
def wholeStaysWrong : ChangeSpec := { name := "wholeStays", fn := fun _ => fun
  | [d1, d2] => { results := [.lit (.bool false)], args := [d1, d2] }
  | _ => none }
def WholeStaysWrongFalsely : Prop := wholeStaysRow.holds Tryz.pinned (OpenSpec.ofChange wholeStaysWrong)

/-- 'greenhousetop.WholeRoom': WHATEVER THE INPUT: true; the input reads as it did. -/
def wholeRoomSpec : ChangeSpec := { name := "wholeRoom", fn := fun _ => fun
  | [d1, d2, d3] => { results := [.lit (.bool true)], args := [d1, d2, d3] }
  | _ => none }
def wholeRoomRow : OpenClaim := { program := "ytigeldkbfbcpmaagreat", sum := "77071e4948011ad014694fb1f1dd146f9884cde11c71132b670b2845a50a1348", func := "greenhouse/greenhousetop.WholeRoom", spec := "wholeRoom", inPlace := ["math/bits.Add64", "sync/atomic.LoadInt64", "sync/atomic.CompareAndSwapInt64"], unfollowed := true, recurses := true, named := ["math/bits.divideError", "math/bits.overflowError"], plainKeys := false, apart := false }
def WholeRoomSaid : Prop := wholeRoomRow.holds Tryz.pinned (OpenSpec.ofChange wholeRoomSpec)

/-- ITS FALSE NEIGHBOUR: 'it returns false'. Refute it at one input. -/
def wholeRoomWrong : ChangeSpec := { name := "wholeRoom", fn := fun _ => fun
  | [d1, d2, d3] => { results := [.lit (.bool false)], args := [d1, d2, d3] }
  | _ => none }
def WholeRoomWrongFalsely : Prop := wholeRoomRow.holds Tryz.pinned (OpenSpec.ofChange wholeRoomWrong)

/- THE SECOND FORM. 'bulk': how many values and letters a reading holds, each counted each time it is reached (what is shared counts as often as it is met; a slice's spare places count too). A statement '..UptoSaid' is the law's where the arguments, and the package variables that the reading takes, are together of bulk at most 1048576: NARROWER than '..Said'. Prove '..Said' where nothing that the law and all that it calls make is longer than what came in: it says more and counts as full. Else prove '..UptoSaid'. A law counts once. -/
mutual
def uptoBulk {H : Type} : DataW H → Nat
  | .lit (.string bytes) => bytes.length + 1
  | .lit _ => 1
  | .nil => 1
  | .ptr d => uptoBulk d + 1
  | .slice elems spare => uptoBulkAll elems + uptoBulkAll spare + 1
  | .agg parts => uptoBulkAll parts + 1
  | .iface _ d => uptoBulk d + 1
  | .map entries => uptoBulkEntries entries + 1
  | .held _ => 1
def uptoBulkAll {H : Type} : List (DataW H) → Nat
  | [] => 0
  | d :: r => uptoBulk d + uptoBulkAll r
def uptoBulkEntries {H : Type} : List (Lit × DataW H) → Nat
  | [] => 0
  | x :: r => uptoBulkEntry x + uptoBulkEntries r
def uptoBulkEntry {H : Type} : Lit × DataW H → Nat
  | (.string bytes, d) => bytes.length + uptoBulk d + 1
  | (_, d) => uptoBulk d + 1
 end
def uptoSmall : (H : Type) → List (DataW H) → Bool := fun _ ds => decide (uptoBulkAll ds ≤ 1048576)
def OpenSpec.upto (s : _root_.Go.ChangeSpec) : _root_.Go.OpenSpec := { _root_.Go.OpenSpec.ofChange s with cond := some uptoSmall }

/-- 'greenhousetop.WholeRuns', WHERE WHAT IT READS IS OF BULK AT MOST 1048576: true; the input reads as it did. -/
def wholeRunsUptoRow : OpenClaim := { program := "ytigeldkbfbcpmaagreat", sum := "77071e4948011ad014694fb1f1dd146f9884cde11c71132b670b2845a50a1348", func := "greenhouse/greenhousetop.WholeRuns", spec := "wholeRuns", inPlace := ["math/bits.Add64", "sync/atomic.LoadInt64", "sync/atomic.CompareAndSwapInt64"], unfollowed := true, recurses := true, named := ["math/bits.divideError", "math/bits.overflowError"], plainKeys := false, apart := false, narrowed := true }
def WholeRunsUptoSaid : Prop := wholeRunsUptoRow.holds Tryz.pinned (OpenSpec.upto wholeRunsSpec)

/-- 'greenhousetop.WholeTokens', WHERE WHAT IT READS IS OF BULK AT MOST 1048576: true; the input reads as it did. -/
def wholeTokensUptoRow : OpenClaim := { program := "ytigeldkbfbcpmaagreat", sum := "77071e4948011ad014694fb1f1dd146f9884cde11c71132b670b2845a50a1348", func := "greenhouse/greenhousetop.WholeTokens", spec := "wholeTokens", inPlace := ["math/bits.Add64", "sync/atomic.LoadInt64", "sync/atomic.CompareAndSwapInt64"], unfollowed := true, recurses := true, named := ["math/bits.divideError", "math/bits.overflowError"], plainKeys := false, apart := false, narrowed := true }
def WholeTokensUptoSaid : Prop := wholeTokensUptoRow.holds Tryz.pinned (OpenSpec.upto wholeTokensSpec)

/-- 'greenhousetop.WholeSplit', WHERE WHAT IT READS IS OF BULK AT MOST 1048576: true; the input reads as it did. -/
def wholeSplitUptoRow : OpenClaim := { program := "ytigeldkbfbcpmaagreat", sum := "77071e4948011ad014694fb1f1dd146f9884cde11c71132b670b2845a50a1348", func := "greenhouse/greenhousetop.WholeSplit", spec := "wholeSplit", inPlace := ["math/bits.Add64", "sync/atomic.LoadInt64", "sync/atomic.CompareAndSwapInt64"], unfollowed := true, recurses := true, named := ["math/bits.divideError", "math/bits.overflowError"], plainKeys := false, apart := false, narrowed := true }
def WholeSplitUptoSaid : Prop := wholeSplitUptoRow.holds Tryz.pinned (OpenSpec.upto wholeSplitSpec)

/-- 'greenhousetop.WholeWindow', WHERE WHAT IT READS IS OF BULK AT MOST 1048576: true; the input reads as it did. -/
def wholeWindowUptoRow : OpenClaim := { program := "ytigeldkbfbcpmaagreat", sum := "77071e4948011ad014694fb1f1dd146f9884cde11c71132b670b2845a50a1348", func := "greenhouse/greenhousetop.WholeWindow", spec := "wholeWindow", inPlace := ["math/bits.Add64", "sync/atomic.LoadInt64", "sync/atomic.CompareAndSwapInt64"], unfollowed := true, recurses := true, named := ["math/bits.divideError", "math/bits.overflowError"], plainKeys := false, apart := false, narrowed := true }
def WholeWindowUptoSaid : Prop := wholeWindowUptoRow.holds Tryz.pinned (OpenSpec.upto wholeWindowSpec)

/-- 'greenhousetop.WholeStays', WHERE WHAT IT READS IS OF BULK AT MOST 1048576: true; the input reads as it did. -/
def wholeStaysUptoRow : OpenClaim := { program := "ytigeldkbfbcpmaagreat", sum := "77071e4948011ad014694fb1f1dd146f9884cde11c71132b670b2845a50a1348", func := "greenhouse/greenhousetop.WholeStays", spec := "wholeStays", inPlace := ["math/bits.Add64", "sync/atomic.LoadInt64", "sync/atomic.CompareAndSwapInt64"], unfollowed := true, recurses := true, named := ["math/bits.divideError", "math/bits.overflowError"], plainKeys := false, apart := false, narrowed := true }
def WholeStaysUptoSaid : Prop := wholeStaysUptoRow.holds Tryz.pinned (OpenSpec.upto wholeStaysSpec)

/-- 'greenhousetop.WholeRoom', WHERE WHAT IT READS IS OF BULK AT MOST 1048576: true; the input reads as it did. -/
def wholeRoomUptoRow : OpenClaim := { program := "ytigeldkbfbcpmaagreat", sum := "77071e4948011ad014694fb1f1dd146f9884cde11c71132b670b2845a50a1348", func := "greenhouse/greenhousetop.WholeRoom", spec := "wholeRoom", inPlace := ["math/bits.Add64", "sync/atomic.LoadInt64", "sync/atomic.CompareAndSwapInt64"], unfollowed := true, recurses := true, named := ["math/bits.divideError", "math/bits.overflowError"], plainKeys := false, apart := false, narrowed := true }
def WholeRoomUptoSaid : Prop := wholeRoomUptoRow.holds Tryz.pinned (OpenSpec.upto wholeRoomSpec)

end Rows
end Go.Proofs.YtigeldkbfbcpmaaGreat
