/-
  No cell of these rows narrows 'for every input' (looked for: loops, veiled, ifaces, maps, wideKeys, modest, calm, conditions, laid).
  DERIVED. THE GIVEN ROWS OF THIS SEAT. 3 by the template 'for every input the law returns true; each argument reads behind the call as it read before'; 0 by the template 'total and deterministic' (their statements: YtoeoehbpahodnaaTotals.lean).
  GIVEN WITH THE SEED: the statements are not yours to turn. If you find one false, say at which input.
  Laid BY PROGRAM, IN A SANDBOX (cutbox-rows.mjs): the forced cells as the released guide's own fill.sh prints them over the translation 4190f5401a5c44f2… (all of the seat's roots in one cut). By AI agents, Wed Nov 11 2026. No macro, syntax, notation, axiom, sorry.
-/
import Derived.Test.YtoeoehbpahodnaaChecked
import GoSem.Claim
import GoSem.ClaimJoined
import GoSem.ClaimMapViews
import Derived.JoinedTies
import Derived.KernelRfl
namespace Go.Proofs.Ytoeoehbpahodnaa
/- THE CELL 'sum', in the pinned program and in every row, IS THE sha256 OF THE DUMP (.gsa) THAT YtoeoehbpahodnaaProg.lean LOADS. Nothing in Lean hashes anything: it is a label: what it is worth is what the hold of that sum in a sandbox is worth. -/
noncomputable def Try.pinned : Pinned := { name := "ytoeoehbpahodnaa", sum := "4190f5401a5c44f2f6a51d5454fcc82cd69b0cb2aa290c65b0df17acfe76ac01", checked := Try.checked }
namespace Rows
def none {H : Type} : Left H := { results := [], args := [] }

/-- 'ramagelaw26.SwapMeans': WHATEVER THE INPUT: true; the input reads as it did. -/
def swapMeansSpec : ChangeSpec := { name := "swapMeans", fn := fun _ => fun
  | [d1, d2, d3, d4, d5, d6, d7] => { results := [.lit (.bool true)], args := [d1, d2, d3, d4, d5, d6, d7] }
  | _ => none }
def swapMeansRow : OpenClaim := { program := "ytoeoehbpahodnaa", sum := "4190f5401a5c44f2f6a51d5454fcc82cd69b0cb2aa290c65b0df17acfe76ac01", func := "ramage/ramagelaw26.SwapMeans", spec := "swapMeans", unfollowed := true, recurses := true, plainKeys := false, apart := false }
def SwapMeansSaid : Prop := swapMeansRow.holds Try.pinned (OpenSpec.ofChange swapMeansSpec)

/-- ITS FALSE NEIGHBOUR: 'it returns false'. Refute it at one input. -/
def swapMeansWrong : ChangeSpec := { name := "swapMeans", fn := fun _ => fun
  | [d1, d2, d3, d4, d5, d6, d7] => { results := [.lit (.bool false)], args := [d1, d2, d3, d4, d5, d6, d7] }
  | _ => none }
def SwapMeansWrongFalsely : Prop := swapMeansRow.holds Try.pinned (OpenSpec.ofChange swapMeansWrong)

/-- 'ramagelaw26.SwapTwice': WHATEVER THE INPUT: true; the input reads as it did. -/
def swapTwiceSpec : ChangeSpec := { name := "swapTwice", fn := fun _ => fun
  | [d1, d2, d3, d4, d5] => { results := [.lit (.bool true)], args := [d1, d2, d3, d4, d5] }
  | _ => none }
def swapTwiceRow : OpenClaim := { program := "ytoeoehbpahodnaa", sum := "4190f5401a5c44f2f6a51d5454fcc82cd69b0cb2aa290c65b0df17acfe76ac01", func := "ramage/ramagelaw26.SwapTwice", spec := "swapTwice", unfollowed := true, recurses := true, plainKeys := false, apart := false }
def SwapTwiceSaid : Prop := swapTwiceRow.holds Try.pinned (OpenSpec.ofChange swapTwiceSpec)

/-- ITS FALSE NEIGHBOUR: 'it returns false'. Refute it at one input. -/
def swapTwiceWrong : ChangeSpec := { name := "swapTwice", fn := fun _ => fun
  | [d1, d2, d3, d4, d5] => { results := [.lit (.bool false)], args := [d1, d2, d3, d4, d5] }
  | _ => none }
def SwapTwiceWrongFalsely : Prop := swapTwiceRow.holds Try.pinned (OpenSpec.ofChange swapTwiceWrong)

/-- 'ramagelaw26.SwapPermutes': WHATEVER THE INPUT: true; the input reads as it did. -/
def swapPermutesSpec : ChangeSpec := { name := "swapPermutes", fn := fun _ => fun
  | [d1, d2, d3, d4, d5] => { results := [.lit (.bool true)], args := [d1, d2, d3, d4, d5] }
  | _ => none }
def swapPermutesRow : OpenClaim := { program := "ytoeoehbpahodnaa", sum := "4190f5401a5c44f2f6a51d5454fcc82cd69b0cb2aa290c65b0df17acfe76ac01", func := "ramage/ramagelaw26.SwapPermutes", spec := "swapPermutes", unfollowed := true, recurses := true, plainKeys := false, apart := false }
def SwapPermutesSaid : Prop := swapPermutesRow.holds Try.pinned (OpenSpec.ofChange swapPermutesSpec)

/-- ITS FALSE NEIGHBOUR: 'it returns false'. Refute it at one input. -/
def swapPermutesWrong : ChangeSpec := { name := "swapPermutes", fn := fun _ => fun
  | [d1, d2, d3, d4, d5] => { results := [.lit (.bool false)], args := [d1, d2, d3, d4, d5] }
  | _ => none }
def SwapPermutesWrongFalsely : Prop := swapPermutesRow.holds Try.pinned (OpenSpec.ofChange swapPermutesWrong)

/- THE SECOND FORM. 'bulk': how many values and letters a reading holds, each counted each time it is reached (what is shared counts as often as it is met; a slice's spare places count too). A statement '..UptoSaid' is the law's where the arguments, and the package variables that the reading takes, are together of bulk at most 1048576: NARROWER than '..Said'. Prove '..Said' where nothing that the law and all that it calls make is longer than what came in: it says more and counts as full. Else prove '..UptoSaid'. A law counts once. -/
mutual
def uptoBulk {H : Type} : DataW H → Nat
  | .lit (.string bytes) => bytes.length + 1
  | .lit _ => 1
  | .nil => 1
  | .ptr d => uptoBulk d + 1
  | .slice elems spare => uptoBulkAll elems + uptoBulkAll spare + 1
  | .agg parts => uptoBulkAll parts + 1
  | .iface _ d => uptoBulk d + 1
  | .map entries => uptoBulkEntries entries + 1
  | .held _ => 1
def uptoBulkAll {H : Type} : List (DataW H) → Nat
  | [] => 0
  | d :: r => uptoBulk d + uptoBulkAll r
def uptoBulkEntries {H : Type} : List (Lit × DataW H) → Nat
  | [] => 0
  | x :: r => uptoBulkEntry x + uptoBulkEntries r
def uptoBulkEntry {H : Type} : Lit × DataW H → Nat
  | (.string bytes, d) => bytes.length + uptoBulk d + 1
  | (_, d) => uptoBulk d + 1
 end
def uptoSmall : (H : Type) → List (DataW H) → Bool := fun _ ds => decide (uptoBulkAll ds ≤ 1048576)
def OpenSpec.upto (s : _root_.Go.ChangeSpec) : _root_.Go.OpenSpec := { _root_.Go.OpenSpec.ofChange s with cond := some uptoSmall }

/-- 'ramagelaw26.SwapMeans', WHERE WHAT IT READS IS OF BULK AT MOST 1048576: true; the input reads as it did. -/
def swapMeansUptoRow : OpenClaim := { program := "ytoeoehbpahodnaa", sum := "4190f5401a5c44f2f6a51d5454fcc82cd69b0cb2aa290c65b0df17acfe76ac01", func := "ramage/ramagelaw26.SwapMeans", spec := "swapMeans", unfollowed := true, recurses := true, plainKeys := false, apart := false, narrowed := true }
def SwapMeansUptoSaid : Prop := swapMeansUptoRow.holds Try.pinned (OpenSpec.upto swapMeansSpec)

/-- 'ramagelaw26.SwapTwice', WHERE WHAT IT READS IS OF BULK AT MOST 1048576: true; the input reads as it did. -/
def swapTwiceUptoRow : OpenClaim := { program := "ytoeoehbpahodnaa", sum := "4190f5401a5c44f2f6a51d5454fcc82cd69b0cb2aa290c65b0df17acfe76ac01", func := "ramage/ramagelaw26.SwapTwice", spec := "swapTwice", unfollowed := true, recurses := true, plainKeys := false, apart := false, narrowed := true }
def SwapTwiceUptoSaid : Prop := swapTwiceUptoRow.holds Try.pinned (OpenSpec.upto swapTwiceSpec)

/-- 'ramagelaw26.SwapPermutes', WHERE WHAT IT READS IS OF BULK AT MOST 1048576: true; the input reads as it did. -/
def swapPermutesUptoRow : OpenClaim := { program := "ytoeoehbpahodnaa", sum := "4190f5401a5c44f2f6a51d5454fcc82cd69b0cb2aa290c65b0df17acfe76ac01", func := "ramage/ramagelaw26.SwapPermutes", spec := "swapPermutes", unfollowed := true, recurses := true, plainKeys := false, apart := false, narrowed := true }
def SwapPermutesUptoSaid : Prop := swapPermutesUptoRow.holds Try.pinned (OpenSpec.upto swapPermutesSpec)

end Rows
end Go.Proofs.Ytoeoehbpahodnaa
