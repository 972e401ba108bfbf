/-
  No cell of these rows narrows 'for every input' (looked for: loops, veiled, ifaces, maps, wideKeys, modest, calm, conditions, laid).
  DERIVED. THE GIVEN ROWS OF THIS SEAT. 7 by the template 'for every input the law returns true; each argument reads behind the call as it read before'; 0 by the template 'total and deterministic' (their statements: YtiacdpoldgfpbaaTotals.lean).
  GIVEN WITH THE SEED: the statements are not yours to turn. If you find one false, say at which input.
  Laid BY PROGRAM, IN A SANDBOX (cutbox-rows.mjs): the forced cells as the released guide's own fill.sh prints them over the translation 8731fea525db9b97… (all of the seat's roots in one cut). By AI agents, Wed Nov 11 2026. No macro, syntax, notation, axiom, sorry.
-/
import Derived.Test.YtiacdpoldgfpbaaChecked
import GoSem.Claim
import GoSem.ClaimJoined
import GoSem.ClaimMapViews
import Derived.JoinedTies
import Derived.KernelRfl
namespace Go.Proofs.Ytiacdpoldgfpbaa
/- THE CELL 'sum', in the pinned program and in every row, IS THE sha256 OF THE DUMP (.gsa) THAT YtiacdpoldgfpbaaProg.lean LOADS. Nothing in Lean hashes anything: it is a label: what it is worth is what the hold of that sum in a sandbox is worth. -/
noncomputable def Try.pinned : Pinned := { name := "ytiacdpoldgfpbaa", sum := "8731fea525db9b97bb5208d99f5fc906924e5da8e741de3ae3b3796126e58b90", checked := Try.checked }
namespace Rows
def none {H : Type} : Left H := { results := [], args := [] }

/-- 'ramagelaw25.ConvertNil': WHATEVER THE INPUT: true; the input reads as it did. -/
def convertNilSpec : ChangeSpec := { name := "convertNil", fn := fun _ => fun
  | [d1, d2, d3, d4] => { results := [.lit (.bool true)], args := [d1, d2, d3, d4] }
  | _ => none }
def convertNilRow : OpenClaim := { program := "ytiacdpoldgfpbaa", sum := "8731fea525db9b97bb5208d99f5fc906924e5da8e741de3ae3b3796126e58b90", func := "ramage/ramagelaw25.ConvertNil", spec := "convertNil", unfollowed := true, recurses := true, plainKeys := false, apart := false }
def ConvertNilSaid : Prop := convertNilRow.holds Try.pinned (OpenSpec.ofChange convertNilSpec)

/-- ITS FALSE NEIGHBOUR: 'it returns false'. Refute it at one input. -/
def convertNilWrong : ChangeSpec := { name := "convertNil", fn := fun _ => fun
  | [d1, d2, d3, d4] => { results := [.lit (.bool false)], args := [d1, d2, d3, d4] }
  | _ => none }
def ConvertNilWrongFalsely : Prop := convertNilRow.holds Try.pinned (OpenSpec.ofChange convertNilWrong)

/-- 'ramagelaw25.ConvertAsks': WHATEVER THE INPUT: true; the input reads as it did. -/
def convertAsksSpec : ChangeSpec := { name := "convertAsks", fn := fun _ => fun
  | [d1, d2, d3, d4, d5, d6] => { results := [.lit (.bool true)], args := [d1, d2, d3, d4, d5, d6] }
  | _ => none }
def convertAsksRow : OpenClaim := { program := "ytiacdpoldgfpbaa", sum := "8731fea525db9b97bb5208d99f5fc906924e5da8e741de3ae3b3796126e58b90", func := "ramage/ramagelaw25.ConvertAsks", spec := "convertAsks", unfollowed := true, recurses := true, plainKeys := false, apart := false }
def ConvertAsksSaid : Prop := convertAsksRow.holds Try.pinned (OpenSpec.ofChange convertAsksSpec)

/-- ITS FALSE NEIGHBOUR: 'it returns false'. Refute it at one input. -/
def convertAsksWrong : ChangeSpec := { name := "convertAsks", fn := fun _ => fun
  | [d1, d2, d3, d4, d5, d6] => { results := [.lit (.bool false)], args := [d1, d2, d3, d4, d5, d6] }
  | _ => none }
def ConvertAsksWrongFalsely : Prop := convertAsksRow.holds Try.pinned (OpenSpec.ofChange convertAsksWrong)

/-- 'ramagelaw26.SwapMeans': WHATEVER THE INPUT: true; the input reads as it did. -/
def swapMeansSpec : ChangeSpec := { name := "swapMeans", fn := fun _ => fun
  | [d1, d2, d3, d4, d5, d6, d7] => { results := [.lit (.bool true)], args := [d1, d2, d3, d4, d5, d6, d7] }
  | _ => none }
def swapMeansRow : OpenClaim := { program := "ytiacdpoldgfpbaa", sum := "8731fea525db9b97bb5208d99f5fc906924e5da8e741de3ae3b3796126e58b90", func := "ramage/ramagelaw26.SwapMeans", spec := "swapMeans", unfollowed := true, recurses := true, plainKeys := false, apart := false }
def SwapMeansSaid : Prop := swapMeansRow.holds Try.pinned (OpenSpec.ofChange swapMeansSpec)

/-- ITS FALSE NEIGHBOUR: 'it returns false'. Refute it at one input. -/
def swapMeansWrong : ChangeSpec := { name := "swapMeans", fn := fun _ => fun
  | [d1, d2, d3, d4, d5, d6, d7] => { results := [.lit (.bool false)], args := [d1, d2, d3, d4, d5, d6, d7] }
  | _ => none }
def SwapMeansWrongFalsely : Prop := swapMeansRow.holds Try.pinned (OpenSpec.ofChange swapMeansWrong)

/-- 'ramagelaw26.SwapNil': WHATEVER THE INPUT: true; the input reads as it did. -/
def swapNilSpec : ChangeSpec := { name := "swapNil", fn := fun _ => fun
  | [d1, d2, d3, d4] => { results := [.lit (.bool true)], args := [d1, d2, d3, d4] }
  | _ => none }
def swapNilRow : OpenClaim := { program := "ytiacdpoldgfpbaa", sum := "8731fea525db9b97bb5208d99f5fc906924e5da8e741de3ae3b3796126e58b90", func := "ramage/ramagelaw26.SwapNil", spec := "swapNil", unfollowed := true, recurses := true, plainKeys := false, apart := false }
def SwapNilSaid : Prop := swapNilRow.holds Try.pinned (OpenSpec.ofChange swapNilSpec)

/-- ITS FALSE NEIGHBOUR: 'it returns false'. Refute it at one input. -/
def swapNilWrong : ChangeSpec := { name := "swapNil", fn := fun _ => fun
  | [d1, d2, d3, d4] => { results := [.lit (.bool false)], args := [d1, d2, d3, d4] }
  | _ => none }
def SwapNilWrongFalsely : Prop := swapNilRow.holds Try.pinned (OpenSpec.ofChange swapNilWrong)

/-- 'ramagelaw17.CanonSmall': WHATEVER THE INPUT: true; the input reads as it did. -/
def canonSmallSpec : ChangeSpec := { name := "canonSmall", fn := fun _ => fun
  | [d1, d2] => { results := [.lit (.bool true)], args := [d1, d2] }
  | _ => none }
def canonSmallRow : OpenClaim := { program := "ytiacdpoldgfpbaa", sum := "8731fea525db9b97bb5208d99f5fc906924e5da8e741de3ae3b3796126e58b90", func := "ramage/ramagelaw17.CanonSmall", spec := "canonSmall", unfollowed := true, recurses := true, plainKeys := false, apart := false }
def CanonSmallSaid : Prop := canonSmallRow.holds Try.pinned (OpenSpec.ofChange canonSmallSpec)

/-- ITS FALSE NEIGHBOUR: 'it returns false'. Refute it at one input. -/
def canonSmallWrong : ChangeSpec := { name := "canonSmall", fn := fun _ => fun
  | [d1, d2] => { results := [.lit (.bool false)], args := [d1, d2] }
  | _ => none }
def CanonSmallWrongFalsely : Prop := canonSmallRow.holds Try.pinned (OpenSpec.ofChange canonSmallWrong)

/-- 'ramagelaw26.SwapTwice': WHATEVER THE INPUT: true; the input reads as it did. -/
def swapTwiceSpec : ChangeSpec := { name := "swapTwice", fn := fun _ => fun
  | [d1, d2, d3, d4, d5] => { results := [.lit (.bool true)], args := [d1, d2, d3, d4, d5] }
  | _ => none }
def swapTwiceRow : OpenClaim := { program := "ytiacdpoldgfpbaa", sum := "8731fea525db9b97bb5208d99f5fc906924e5da8e741de3ae3b3796126e58b90", func := "ramage/ramagelaw26.SwapTwice", spec := "swapTwice", unfollowed := true, recurses := true, plainKeys := false, apart := false }
def SwapTwiceSaid : Prop := swapTwiceRow.holds Try.pinned (OpenSpec.ofChange swapTwiceSpec)

/-- ITS FALSE NEIGHBOUR: 'it returns false'. Refute it at one input. -/
def swapTwiceWrong : ChangeSpec := { name := "swapTwice", fn := fun _ => fun
  | [d1, d2, d3, d4, d5] => { results := [.lit (.bool false)], args := [d1, d2, d3, d4, d5] }
  | _ => none }
def SwapTwiceWrongFalsely : Prop := swapTwiceRow.holds Try.pinned (OpenSpec.ofChange swapTwiceWrong)

/-- 'ramagelaw26.SwapPermutes': WHATEVER THE INPUT: true; the input reads as it did. -/
def swapPermutesSpec : ChangeSpec := { name := "swapPermutes", fn := fun _ => fun
  | [d1, d2, d3, d4, d5] => { results := [.lit (.bool true)], args := [d1, d2, d3, d4, d5] }
  | _ => none }
def swapPermutesRow : OpenClaim := { program := "ytiacdpoldgfpbaa", sum := "8731fea525db9b97bb5208d99f5fc906924e5da8e741de3ae3b3796126e58b90", func := "ramage/ramagelaw26.SwapPermutes", spec := "swapPermutes", unfollowed := true, recurses := true, plainKeys := false, apart := false }
def SwapPermutesSaid : Prop := swapPermutesRow.holds Try.pinned (OpenSpec.ofChange swapPermutesSpec)

/-- ITS FALSE NEIGHBOUR: 'it returns false'. Refute it at one input. -/
def swapPermutesWrong : ChangeSpec := { name := "swapPermutes", fn := fun _ => fun
  | [d1, d2, d3, d4, d5] => { results := [.lit (.bool false)], args := [d1, d2, d3, d4, d5] }
  | _ => none }
def SwapPermutesWrongFalsely : Prop := swapPermutesRow.holds Try.pinned (OpenSpec.ofChange swapPermutesWrong)

/- THE SECOND FORM. 'bulk': how many values and letters a reading holds, each counted each time it is reached (what is shared counts as often as it is met; a slice's spare places count too). A statement '..UptoSaid' is the law's where the arguments, and the package variables that the reading takes, are together of bulk at most 1048576: NARROWER than '..Said'. Prove '..Said' where nothing that the law and all that it calls make is longer than what came in: it says more and counts as full. Else prove '..UptoSaid'. A law counts once. -/
mutual
def uptoBulk {H : Type} : DataW H → Nat
  | .lit (.string bytes) => bytes.length + 1
  | .lit _ => 1
  | .nil => 1
  | .ptr d => uptoBulk d + 1
  | .slice elems spare => uptoBulkAll elems + uptoBulkAll spare + 1
  | .agg parts => uptoBulkAll parts + 1
  | .iface _ d => uptoBulk d + 1
  | .map entries => uptoBulkEntries entries + 1
  | .held _ => 1
def uptoBulkAll {H : Type} : List (DataW H) → Nat
  | [] => 0
  | d :: r => uptoBulk d + uptoBulkAll r
def uptoBulkEntries {H : Type} : List (Lit × DataW H) → Nat
  | [] => 0
  | x :: r => uptoBulkEntry x + uptoBulkEntries r
def uptoBulkEntry {H : Type} : Lit × DataW H → Nat
  | (.string bytes, d) => bytes.length + uptoBulk d + 1
  | (_, d) => uptoBulk d + 1
 end
def uptoSmall : (H : Type) → List (DataW H) → Bool := fun _ ds => decide (uptoBulkAll ds ≤ 1048576)
def OpenSpec.upto (s : _root_.Go.ChangeSpec) : _root_.Go.OpenSpec := { _root_.Go.OpenSpec.ofChange s with cond := some uptoSmall }

/-- 'ramagelaw25.ConvertNil', WHERE WHAT IT READS IS OF BULK AT MOST 1048576: true; the input reads as it did. -/
def convertNilUptoRow : OpenClaim := { program := "ytiacdpoldgfpbaa", sum := "8731fea525db9b97bb5208d99f5fc906924e5da8e741de3ae3b3796126e58b90", func := "ramage/ramagelaw25.ConvertNil", spec := "convertNil", unfollowed := true, recurses := true, plainKeys := false, apart := false, narrowed := true }
def ConvertNilUptoSaid : Prop := convertNilUptoRow.holds Try.pinned (OpenSpec.upto convertNilSpec)

/-- 'ramagelaw25.ConvertAsks', WHERE WHAT IT READS IS OF BULK AT MOST 1048576: true; the input reads as it did. -/
def convertAsksUptoRow : OpenClaim := { program := "ytiacdpoldgfpbaa", sum := "8731fea525db9b97bb5208d99f5fc906924e5da8e741de3ae3b3796126e58b90", func := "ramage/ramagelaw25.ConvertAsks", spec := "convertAsks", unfollowed := true, recurses := true, plainKeys := false, apart := false, narrowed := true }
def ConvertAsksUptoSaid : Prop := convertAsksUptoRow.holds Try.pinned (OpenSpec.upto convertAsksSpec)

/-- 'ramagelaw26.SwapMeans', WHERE WHAT IT READS IS OF BULK AT MOST 1048576: true; the input reads as it did. -/
def swapMeansUptoRow : OpenClaim := { program := "ytiacdpoldgfpbaa", sum := "8731fea525db9b97bb5208d99f5fc906924e5da8e741de3ae3b3796126e58b90", func := "ramage/ramagelaw26.SwapMeans", spec := "swapMeans", unfollowed := true, recurses := true, plainKeys := false, apart := false, narrowed := true }
def SwapMeansUptoSaid : Prop := swapMeansUptoRow.holds Try.pinned (OpenSpec.upto swapMeansSpec)

/-- 'ramagelaw26.SwapNil', WHERE WHAT IT READS IS OF BULK AT MOST 1048576: true; the input reads as it did. -/
def swapNilUptoRow : OpenClaim := { program := "ytiacdpoldgfpbaa", sum := "8731fea525db9b97bb5208d99f5fc906924e5da8e741de3ae3b3796126e58b90", func := "ramage/ramagelaw26.SwapNil", spec := "swapNil", unfollowed := true, recurses := true, plainKeys := false, apart := false, narrowed := true }
def SwapNilUptoSaid : Prop := swapNilUptoRow.holds Try.pinned (OpenSpec.upto swapNilSpec)

/-- 'ramagelaw17.CanonSmall', WHERE WHAT IT READS IS OF BULK AT MOST 1048576: true; the input reads as it did. -/
def canonSmallUptoRow : OpenClaim := { program := "ytiacdpoldgfpbaa", sum := "8731fea525db9b97bb5208d99f5fc906924e5da8e741de3ae3b3796126e58b90", func := "ramage/ramagelaw17.CanonSmall", spec := "canonSmall", unfollowed := true, recurses := true, plainKeys := false, apart := false, narrowed := true }
def CanonSmallUptoSaid : Prop := canonSmallUptoRow.holds Try.pinned (OpenSpec.upto canonSmallSpec)

/-- 'ramagelaw26.SwapTwice', WHERE WHAT IT READS IS OF BULK AT MOST 1048576: true; the input reads as it did. -/
def swapTwiceUptoRow : OpenClaim := { program := "ytiacdpoldgfpbaa", sum := "8731fea525db9b97bb5208d99f5fc906924e5da8e741de3ae3b3796126e58b90", func := "ramage/ramagelaw26.SwapTwice", spec := "swapTwice", unfollowed := true, recurses := true, plainKeys := false, apart := false, narrowed := true }
def SwapTwiceUptoSaid : Prop := swapTwiceUptoRow.holds Try.pinned (OpenSpec.upto swapTwiceSpec)

/-- 'ramagelaw26.SwapPermutes', WHERE WHAT IT READS IS OF BULK AT MOST 1048576: true; the input reads as it did. -/
def swapPermutesUptoRow : OpenClaim := { program := "ytiacdpoldgfpbaa", sum := "8731fea525db9b97bb5208d99f5fc906924e5da8e741de3ae3b3796126e58b90", func := "ramage/ramagelaw26.SwapPermutes", spec := "swapPermutes", unfollowed := true, recurses := true, plainKeys := false, apart := false, narrowed := true }
def SwapPermutesUptoSaid : Prop := swapPermutesUptoRow.holds Try.pinned (OpenSpec.upto swapPermutesSpec)

end Rows
end Go.Proofs.Ytiacdpoldgfpbaa
