/-
  No cell of these rows narrows 'for every input' (looked for: loops, veiled, ifaces, maps, wideKeys, modest, calm, conditions, laid).
  DERIVED. THE GIVEN ROWS OF THIS SEAT. 5 by the template 'for every input the law returns true; each argument reads behind the call as it read before'; 0 by the template 'total and deterministic' (their statements: YtiacdpoldgfpbaaGreatTotals.lean).
  GIVEN WITH THE SEED: the statements are not yours to turn. If you find one false, say at which input.
  Laid BY PROGRAM, IN A SANDBOX (cutbox-rows.mjs): the forced cells as the released guide's own fill.sh prints them over the translation e9c31b9f8d16f527… (all of the seat's roots in one cut). By AI agents, Wed Nov 11 2026. No macro, syntax, notation, axiom, sorry.
-/
import Derived.Test.YtiacdpoldgfpbaaGreatChecked
import GoSem.Claim
import GoSem.ClaimJoined
import GoSem.ClaimMapViews
import Derived.JoinedTies
import Derived.KernelRfl
namespace Go.Proofs.YtiacdpoldgfpbaaGreat
/- THE CELL 'sum', in the pinned program and in every row, IS THE sha256 OF THE DUMP (.gsa) THAT YtiacdpoldgfpbaaGreatProg.lean LOADS. Nothing in Lean hashes anything: it is a label: what it is worth is what the hold of that sum in a sandbox is worth. -/
noncomputable def Tryz.pinned : Pinned := { name := "ytiacdpoldgfpbaagreat", sum := "e9c31b9f8d16f5271c0ea62a0cb08f045cfdd7351513f20052c8e7150f8ec021", checked := Tryz.checked }
namespace Rows
def none {H : Type} : Left H := { results := [], args := [] }

/-- 'ramagelaw17.CanonCubes': WHATEVER THE INPUT: true; the input reads as it did. -/
def canonCubesSpec : ChangeSpec := { name := "canonCubes", fn := fun _ => fun
  | [d1, d2, d3, d4, d5, d6] => { results := [.lit (.bool true)], args := [d1, d2, d3, d4, d5, d6] }
  | _ => none }
def canonCubesRow : OpenClaim := { program := "ytiacdpoldgfpbaagreat", sum := "e9c31b9f8d16f5271c0ea62a0cb08f045cfdd7351513f20052c8e7150f8ec021", func := "ramage/ramagelaw17.CanonCubes", spec := "canonCubes", unfollowed := true, recurses := true, plainKeys := false, apart := false }
def CanonCubesSaid : Prop := canonCubesRow.holds Tryz.pinned (OpenSpec.ofChange canonCubesSpec)

/-- ITS FALSE NEIGHBOUR: 'it returns false'. Refute it at one input. -/
def canonCubesWrong : ChangeSpec := { name := "canonCubes", fn := fun _ => fun
  | [d1, d2, d3, d4, d5, d6] => { results := [.lit (.bool false)], args := [d1, d2, d3, d4, d5, d6] }
  | _ => none }
def CanonCubesWrongFalsely : Prop := canonCubesRow.holds Tryz.pinned (OpenSpec.ofChange canonCubesWrong)

/-- 'ramagelaw25.ConvertRoom': WHATEVER THE INPUT: true; the input reads as it did. -/
def convertRoomSpec : ChangeSpec := { name := "convertRoom", fn := fun _ => fun
  | [d1, d2, d3, d4, d5] => { results := [.lit (.bool true)], args := [d1, d2, d3, d4, d5] }
  | _ => none }
def convertRoomRow : OpenClaim := { program := "ytiacdpoldgfpbaagreat", sum := "e9c31b9f8d16f5271c0ea62a0cb08f045cfdd7351513f20052c8e7150f8ec021", func := "ramage/ramagelaw25.ConvertRoom", spec := "convertRoom", unfollowed := true, recurses := true, plainKeys := false, apart := false }
def ConvertRoomSaid : Prop := convertRoomRow.holds Tryz.pinned (OpenSpec.ofChange convertRoomSpec)

/-- ITS FALSE NEIGHBOUR: 'it returns false'. Refute it at one input. -/
def convertRoomWrong : ChangeSpec := { name := "convertRoom", fn := fun _ => fun
  | [d1, d2, d3, d4, d5] => { results := [.lit (.bool false)], args := [d1, d2, d3, d4, d5] }
  | _ => none }
def ConvertRoomWrongFalsely : Prop := convertRoomRow.holds Tryz.pinned (OpenSpec.ofChange convertRoomWrong)

/-- 'ramagelaw25.ConvertMeans': WHATEVER THE INPUT: true; the input reads as it did. -/
def convertMeansSpec : ChangeSpec := { name := "convertMeans", fn := fun _ => fun
  | [d1, d2, d3, d4, d5] => { results := [.lit (.bool true)], args := [d1, d2, d3, d4, d5] }
  | _ => none }
def convertMeansRow : OpenClaim := { program := "ytiacdpoldgfpbaagreat", sum := "e9c31b9f8d16f5271c0ea62a0cb08f045cfdd7351513f20052c8e7150f8ec021", func := "ramage/ramagelaw25.ConvertMeans", spec := "convertMeans", unfollowed := true, recurses := true, plainKeys := false, apart := false }
def ConvertMeansSaid : Prop := convertMeansRow.holds Tryz.pinned (OpenSpec.ofChange convertMeansSpec)

/-- ITS FALSE NEIGHBOUR: 'it returns false'. Refute it at one input. -/
def convertMeansWrong : ChangeSpec := { name := "convertMeans", fn := fun _ => fun
  | [d1, d2, d3, d4, d5] => { results := [.lit (.bool false)], args := [d1, d2, d3, d4, d5] }
  | _ => none }
def ConvertMeansWrongFalsely : Prop := convertMeansRow.holds Tryz.pinned (OpenSpec.ofChange convertMeansWrong)

/-- 'ramagelaw25.ConvertBack': WHATEVER THE INPUT: true; the input reads as it did. -/
def convertBackSpec : ChangeSpec := { name := "convertBack", fn := fun _ => fun
  | [d1, d2, d3] => { results := [.lit (.bool true)], args := [d1, d2, d3] }
  | _ => none }
def convertBackRow : OpenClaim := { program := "ytiacdpoldgfpbaagreat", sum := "e9c31b9f8d16f5271c0ea62a0cb08f045cfdd7351513f20052c8e7150f8ec021", func := "ramage/ramagelaw25.ConvertBack", spec := "convertBack", unfollowed := true, recurses := true, plainKeys := false, apart := false }
def ConvertBackSaid : Prop := convertBackRow.holds Tryz.pinned (OpenSpec.ofChange convertBackSpec)

/-- ITS FALSE NEIGHBOUR: 'it returns false'. Refute it at one input. -/
def convertBackWrong : ChangeSpec := { name := "convertBack", fn := fun _ => fun
  | [d1, d2, d3] => { results := [.lit (.bool false)], args := [d1, d2, d3] }
  | _ => none }
def ConvertBackWrongFalsely : Prop := convertBackRow.holds Tryz.pinned (OpenSpec.ofChange convertBackWrong)

/-- 'ramagelaw25.ConvertEach': WHATEVER THE INPUT: true; the input reads as it did. -/
def convertEachSpec : ChangeSpec := { name := "convertEach", fn := fun _ => fun
  | [d1, d2, d3, d4, d5] => { results := [.lit (.bool true)], args := [d1, d2, d3, d4, d5] }
  | _ => none }
def convertEachRow : OpenClaim := { program := "ytiacdpoldgfpbaagreat", sum := "e9c31b9f8d16f5271c0ea62a0cb08f045cfdd7351513f20052c8e7150f8ec021", func := "ramage/ramagelaw25.ConvertEach", spec := "convertEach", unfollowed := true, recurses := true, plainKeys := false, apart := false }
def ConvertEachSaid : Prop := convertEachRow.holds Tryz.pinned (OpenSpec.ofChange convertEachSpec)

/-- ITS FALSE NEIGHBOUR: 'it returns false'. Refute it at one input. -/
def convertEachWrong : ChangeSpec := { name := "convertEach", fn := fun _ => fun
  | [d1, d2, d3, d4, d5] => { results := [.lit (.bool false)], args := [d1, d2, d3, d4, d5] }
  | _ => none }
def ConvertEachWrongFalsely : Prop := convertEachRow.holds Tryz.pinned (OpenSpec.ofChange convertEachWrong)

/- THE SECOND FORM. 'bulk': how many values and letters a reading holds, each counted each time it is reached (what is shared counts as often as it is met; a slice's spare places count too). A statement '..UptoSaid' is the law's where the arguments, and the package variables that the reading takes, are together of bulk at most 1048576: NARROWER than '..Said'. Prove '..Said' where nothing that the law and all that it calls make is longer than what came in: it says more and counts as full. Else prove '..UptoSaid'. A law counts once. -/
mutual
def uptoBulk {H : Type} : DataW H → Nat
  | .lit (.string bytes) => bytes.length + 1
  | .lit _ => 1
  | .nil => 1
  | .ptr d => uptoBulk d + 1
  | .slice elems spare => uptoBulkAll elems + uptoBulkAll spare + 1
  | .agg parts => uptoBulkAll parts + 1
  | .iface _ d => uptoBulk d + 1
  | .map entries => uptoBulkEntries entries + 1
  | .held _ => 1
def uptoBulkAll {H : Type} : List (DataW H) → Nat
  | [] => 0
  | d :: r => uptoBulk d + uptoBulkAll r
def uptoBulkEntries {H : Type} : List (Lit × DataW H) → Nat
  | [] => 0
  | x :: r => uptoBulkEntry x + uptoBulkEntries r
def uptoBulkEntry {H : Type} : Lit × DataW H → Nat
  | (.string bytes, d) => bytes.length + uptoBulk d + 1
  | (_, d) => uptoBulk d + 1
 end
def uptoSmall : (H : Type) → List (DataW H) → Bool := fun _ ds => decide (uptoBulkAll ds ≤ 1048576)
def OpenSpec.upto (s : _root_.Go.ChangeSpec) : _root_.Go.OpenSpec := { _root_.Go.OpenSpec.ofChange s with cond := some uptoSmall }

/-- 'ramagelaw17.CanonCubes', WHERE WHAT IT READS IS OF BULK AT MOST 1048576: true; the input reads as it did. -/
def canonCubesUptoRow : OpenClaim := { program := "ytiacdpoldgfpbaagreat", sum := "e9c31b9f8d16f5271c0ea62a0cb08f045cfdd7351513f20052c8e7150f8ec021", func := "ramage/ramagelaw17.CanonCubes", spec := "canonCubes", unfollowed := true, recurses := true, plainKeys := false, apart := false, narrowed := true }
def CanonCubesUptoSaid : Prop := canonCubesUptoRow.holds Tryz.pinned (OpenSpec.upto canonCubesSpec)

/-- 'ramagelaw25.ConvertRoom', WHERE WHAT IT READS IS OF BULK AT MOST 1048576: true; the input reads as it did. -/
def convertRoomUptoRow : OpenClaim := { program := "ytiacdpoldgfpbaagreat", sum := "e9c31b9f8d16f5271c0ea62a0cb08f045cfdd7351513f20052c8e7150f8ec021", func := "ramage/ramagelaw25.ConvertRoom", spec := "convertRoom", unfollowed := true, recurses := true, plainKeys := false, apart := false, narrowed := true }
def ConvertRoomUptoSaid : Prop := convertRoomUptoRow.holds Tryz.pinned (OpenSpec.upto convertRoomSpec)

/-- 'ramagelaw25.ConvertMeans', WHERE WHAT IT READS IS OF BULK AT MOST 1048576: true; the input reads as it did. -/
def convertMeansUptoRow : OpenClaim := { program := "ytiacdpoldgfpbaagreat", sum := "e9c31b9f8d16f5271c0ea62a0cb08f045cfdd7351513f20052c8e7150f8ec021", func := "ramage/ramagelaw25.ConvertMeans", spec := "convertMeans", unfollowed := true, recurses := true, plainKeys := false, apart := false, narrowed := true }
def ConvertMeansUptoSaid : Prop := convertMeansUptoRow.holds Tryz.pinned (OpenSpec.upto convertMeansSpec)

/-- 'ramagelaw25.ConvertBack', WHERE WHAT IT READS IS OF BULK AT MOST 1048576: true; the input reads as it did. -/
def convertBackUptoRow : OpenClaim := { program := "ytiacdpoldgfpbaagreat", sum := "e9c31b9f8d16f5271c0ea62a0cb08f045cfdd7351513f20052c8e7150f8ec021", func := "ramage/ramagelaw25.ConvertBack", spec := "convertBack", unfollowed := true, recurses := true, plainKeys := false, apart := false, narrowed := true }
def ConvertBackUptoSaid : Prop := convertBackUptoRow.holds Tryz.pinned (OpenSpec.upto convertBackSpec)

/-- 'ramagelaw25.ConvertEach', WHERE WHAT IT READS IS OF BULK AT MOST 1048576: true; the input reads as it did. -/
def convertEachUptoRow : OpenClaim := { program := "ytiacdpoldgfpbaagreat", sum := "e9c31b9f8d16f5271c0ea62a0cb08f045cfdd7351513f20052c8e7150f8ec021", func := "ramage/ramagelaw25.ConvertEach", spec := "convertEach", unfollowed := true, recurses := true, plainKeys := false, apart := false, narrowed := true }
def ConvertEachUptoSaid : Prop := convertEachUptoRow.holds Tryz.pinned (OpenSpec.upto convertEachSpec)

end Rows
end Go.Proofs.YtiacdpoldgfpbaaGreat
