/-
  No cell of these rows narrows 'for every input' (looked for: loops, veiled, ifaces, maps, wideKeys, modest, calm, conditions, laid).
  DERIVED. THE GIVEN ROWS OF THIS SEAT. 9 by the template 'for every input the law returns true; each argument reads behind the call as it read before'; 0 by the template 'total and deterministic' (their statements: YtoeoehbpahodnaaGreatTotals.lean).
  GIVEN WITH THE SEED: the statements are not yours to turn. If you find one false, say at which input.
  Laid BY PROGRAM, IN A SANDBOX (cutbox-rows.mjs): the forced cells as the released guide's own fill.sh prints them over the translation 3f72909f5a23eb1f… (all of the seat's roots in one cut). By AI agents, Wed Nov 11 2026. No macro, syntax, notation, axiom, sorry.
-/
import Derived.Test.YtoeoehbpahodnaaGreatChecked
import GoSem.Claim
import GoSem.ClaimJoined
import GoSem.ClaimMapViews
import Derived.JoinedTies
import Derived.KernelRfl
namespace Go.Proofs.YtoeoehbpahodnaaGreat
/- THE CELL 'sum', in the pinned program and in every row, IS THE sha256 OF THE DUMP (.gsa) THAT YtoeoehbpahodnaaGreatProg.lean LOADS. Nothing in Lean hashes anything: it is a label: what it is worth is what the hold of that sum in a sandbox is worth. -/
noncomputable def Tryz.pinned : Pinned := { name := "ytoeoehbpahodnaagreat", sum := "3f72909f5a23eb1f0ad6df3a70e055e673610db7bc3d8ffa4b5bf72e2168a114", checked := Tryz.checked }
namespace Rows
def none {H : Type} : Left H := { results := [], args := [] }

/-- 'ramagelaw21.MeterSizes': WHATEVER THE INPUT: true; the input reads as it did. -/
def meterSizesSpec : ChangeSpec := { name := "meterSizes", fn := fun _ => fun
  | [d1, d2] => { results := [.lit (.bool true)], args := [d1, d2] }
  | _ => none }
def meterSizesRow : OpenClaim := { program := "ytoeoehbpahodnaagreat", sum := "3f72909f5a23eb1f0ad6df3a70e055e673610db7bc3d8ffa4b5bf72e2168a114", func := "ramage/ramagelaw21.MeterSizes", spec := "meterSizes", unfollowed := true, recurses := true, plainKeys := false, apart := false }
def MeterSizesSaid : Prop := meterSizesRow.holds Tryz.pinned (OpenSpec.ofChange meterSizesSpec)

/-- ITS FALSE NEIGHBOUR: 'it returns false'. Refute it at one input. -/
def meterSizesWrong : ChangeSpec := { name := "meterSizes", fn := fun _ => fun
  | [d1, d2] => { results := [.lit (.bool false)], args := [d1, d2] }
  | _ => none }
def MeterSizesWrongFalsely : Prop := meterSizesRow.holds Tryz.pinned (OpenSpec.ofChange meterSizesWrong)

/-- 'ramagelaw28.SaveBytes': WHATEVER THE INPUT: true; the input reads as it did. -/
def saveBytesSpec : ChangeSpec := { name := "saveBytes", fn := fun _ => fun
  | [d1, d2, d3, d4, d5] => { results := [.lit (.bool true)], args := [d1, d2, d3, d4, d5] }
  | _ => none }
def saveBytesRow : OpenClaim := { program := "ytoeoehbpahodnaagreat", sum := "3f72909f5a23eb1f0ad6df3a70e055e673610db7bc3d8ffa4b5bf72e2168a114", func := "ramage/ramagelaw28.SaveBytes", spec := "saveBytes", unfollowed := true, recurses := true, plainKeys := false, apart := false }
def SaveBytesSaid : Prop := saveBytesRow.holds Tryz.pinned (OpenSpec.ofChange saveBytesSpec)

/-- ITS FALSE NEIGHBOUR: 'it returns false'. Refute it at one input. -/
def saveBytesWrong : ChangeSpec := { name := "saveBytes", fn := fun _ => fun
  | [d1, d2, d3, d4, d5] => { results := [.lit (.bool false)], args := [d1, d2, d3, d4, d5] }
  | _ => none }
def SaveBytesWrongFalsely : Prop := saveBytesRow.holds Tryz.pinned (OpenSpec.ofChange saveBytesWrong)

/-- 'ramagelaw21.MeterWeighs': WHATEVER THE INPUT: true; the input reads as it did. -/
def meterWeighsSpec : ChangeSpec := { name := "meterWeighs", fn := fun _ => fun
  | [d1, d2, d3, d4, d5, d6] => { results := [.lit (.bool true)], args := [d1, d2, d3, d4, d5, d6] }
  | _ => none }
def meterWeighsRow : OpenClaim := { program := "ytoeoehbpahodnaagreat", sum := "3f72909f5a23eb1f0ad6df3a70e055e673610db7bc3d8ffa4b5bf72e2168a114", func := "ramage/ramagelaw21.MeterWeighs", spec := "meterWeighs", inPlace := ["math/bits.Add64", "math/bits.Sub64"], unfollowed := true, recurses := true, plainKeys := false, apart := false }
def MeterWeighsSaid : Prop := meterWeighsRow.holds Tryz.pinned (OpenSpec.ofChange meterWeighsSpec)

/-- ITS FALSE NEIGHBOUR: 'it returns false'. Refute it at one input. -/
def meterWeighsWrong : ChangeSpec := { name := "meterWeighs", fn := fun _ => fun
  | [d1, d2, d3, d4, d5, d6] => { results := [.lit (.bool false)], args := [d1, d2, d3, d4, d5, d6] }
  | _ => none }
def MeterWeighsWrongFalsely : Prop := meterWeighsRow.holds Tryz.pinned (OpenSpec.ofChange meterWeighsWrong)

/-- 'ramagelaw28.SaveNil': WHATEVER THE INPUT: true; the input reads as it did. -/
def saveNilSpec : ChangeSpec := { name := "saveNil", fn := fun _ => fun
  | [d1, d2, d3] => { results := [.lit (.bool true)], args := [d1, d2, d3] }
  | _ => none }
def saveNilRow : OpenClaim := { program := "ytoeoehbpahodnaagreat", sum := "3f72909f5a23eb1f0ad6df3a70e055e673610db7bc3d8ffa4b5bf72e2168a114", func := "ramage/ramagelaw28.SaveNil", spec := "saveNil", unfollowed := true, recurses := true, plainKeys := false, apart := false }
def SaveNilSaid : Prop := saveNilRow.holds Tryz.pinned (OpenSpec.ofChange saveNilSpec)

/-- ITS FALSE NEIGHBOUR: 'it returns false'. Refute it at one input. -/
def saveNilWrong : ChangeSpec := { name := "saveNil", fn := fun _ => fun
  | [d1, d2, d3] => { results := [.lit (.bool false)], args := [d1, d2, d3] }
  | _ => none }
def SaveNilWrongFalsely : Prop := saveNilRow.holds Tryz.pinned (OpenSpec.ofChange saveNilWrong)

/-- 'ramagelaw28.SaveLoads': WHATEVER THE INPUT: true; the input reads as it did. -/
def saveLoadsSpec : ChangeSpec := { name := "saveLoads", fn := fun _ => fun
  | [d1, d2, d3, d4] => { results := [.lit (.bool true)], args := [d1, d2, d3, d4] }
  | _ => none }
def saveLoadsRow : OpenClaim := { program := "ytoeoehbpahodnaagreat", sum := "3f72909f5a23eb1f0ad6df3a70e055e673610db7bc3d8ffa4b5bf72e2168a114", func := "ramage/ramagelaw28.SaveLoads", spec := "saveLoads", unfollowed := true, recurses := true, plainKeys := false, apart := false }
def SaveLoadsSaid : Prop := saveLoadsRow.holds Tryz.pinned (OpenSpec.ofChange saveLoadsSpec)

/-- ITS FALSE NEIGHBOUR: 'it returns false'. Refute it at one input. -/
def saveLoadsWrong : ChangeSpec := { name := "saveLoads", fn := fun _ => fun
  | [d1, d2, d3, d4] => { results := [.lit (.bool false)], args := [d1, d2, d3, d4] }
  | _ => none }
def SaveLoadsWrongFalsely : Prop := saveLoadsRow.holds Tryz.pinned (OpenSpec.ofChange saveLoadsWrong)

/-- 'ramagelaw26.SwapTerms': WHATEVER THE INPUT: true; the input reads as it did. -/
def swapTermsSpec : ChangeSpec := { name := "swapTerms", fn := fun _ => fun
  | [d1, d2, d3, d4, d5, d6] => { results := [.lit (.bool true)], args := [d1, d2, d3, d4, d5, d6] }
  | _ => none }
def swapTermsRow : OpenClaim := { program := "ytoeoehbpahodnaagreat", sum := "3f72909f5a23eb1f0ad6df3a70e055e673610db7bc3d8ffa4b5bf72e2168a114", func := "ramage/ramagelaw26.SwapTerms", spec := "swapTerms", unfollowed := true, recurses := true, plainKeys := false, apart := false }
def SwapTermsSaid : Prop := swapTermsRow.holds Tryz.pinned (OpenSpec.ofChange swapTermsSpec)

/-- ITS FALSE NEIGHBOUR: 'it returns false'. Refute it at one input. -/
def swapTermsWrong : ChangeSpec := { name := "swapTerms", fn := fun _ => fun
  | [d1, d2, d3, d4, d5, d6] => { results := [.lit (.bool false)], args := [d1, d2, d3, d4, d5, d6] }
  | _ => none }
def SwapTermsWrongFalsely : Prop := swapTermsRow.holds Tryz.pinned (OpenSpec.ofChange swapTermsWrong)

/-- 'ramagelaw21.MeterNil': WHATEVER THE INPUT: true; the input reads as it did. -/
def meterNilSpec : ChangeSpec := { name := "meterNil", fn := fun _ => fun
  | [d1, d2, d3, d4] => { results := [.lit (.bool true)], args := [d1, d2, d3, d4] }
  | _ => none }
def meterNilRow : OpenClaim := { program := "ytoeoehbpahodnaagreat", sum := "3f72909f5a23eb1f0ad6df3a70e055e673610db7bc3d8ffa4b5bf72e2168a114", func := "ramage/ramagelaw21.MeterNil", spec := "meterNil", inPlace := ["math/bits.Add64", "math/bits.Sub64"], unfollowed := true, recurses := true, named := ["math/bits.divideError", "math/bits.overflowError"], plainKeys := false, apart := false }
def MeterNilSaid : Prop := meterNilRow.holds Tryz.pinned (OpenSpec.ofChange meterNilSpec)

/-- ITS FALSE NEIGHBOUR: 'it returns false'. Refute it at one input. -/
def meterNilWrong : ChangeSpec := { name := "meterNil", fn := fun _ => fun
  | [d1, d2, d3, d4] => { results := [.lit (.bool false)], args := [d1, d2, d3, d4] }
  | _ => none }
def MeterNilWrongFalsely : Prop := meterNilRow.holds Tryz.pinned (OpenSpec.ofChange meterNilWrong)

/-- 'ramagelaw21.MeterCounts': WHATEVER THE INPUT: true; the input reads as it did. -/
def meterCountsSpec : ChangeSpec := { name := "meterCounts", fn := fun _ => fun
  | [d1, d2, d3, d4] => { results := [.lit (.bool true)], args := [d1, d2, d3, d4] }
  | _ => none }
def meterCountsRow : OpenClaim := { program := "ytoeoehbpahodnaagreat", sum := "3f72909f5a23eb1f0ad6df3a70e055e673610db7bc3d8ffa4b5bf72e2168a114", func := "ramage/ramagelaw21.MeterCounts", spec := "meterCounts", inPlace := ["math/bits.Add64", "math/bits.Sub64"], unfollowed := true, recurses := true, named := ["math/bits.divideError", "math/bits.overflowError"], plainKeys := false, apart := false }
def MeterCountsSaid : Prop := meterCountsRow.holds Tryz.pinned (OpenSpec.ofChange meterCountsSpec)

/-- ITS FALSE NEIGHBOUR: 'it returns false'. Refute it at one input. -/
def meterCountsWrong : ChangeSpec := { name := "meterCounts", fn := fun _ => fun
  | [d1, d2, d3, d4] => { results := [.lit (.bool false)], args := [d1, d2, d3, d4] }
  | _ => none }
def MeterCountsWrongFalsely : Prop := meterCountsRow.holds Tryz.pinned (OpenSpec.ofChange meterCountsWrong)

/-- 'ramagelaw21.MeterRules': WHATEVER THE INPUT: true; the input reads as it did. -/
def meterRulesSpec : ChangeSpec := { name := "meterRules", fn := fun _ => fun
  | [d1, d2, d3, d4] => { results := [.lit (.bool true)], args := [d1, d2, d3, d4] }
  | _ => none }
def meterRulesRow : OpenClaim := { program := "ytoeoehbpahodnaagreat", sum := "3f72909f5a23eb1f0ad6df3a70e055e673610db7bc3d8ffa4b5bf72e2168a114", func := "ramage/ramagelaw21.MeterRules", spec := "meterRules", inPlace := ["math/bits.Add64", "math/bits.Sub64"], unfollowed := true, recurses := true, named := ["math/bits.divideError", "math/bits.overflowError"], plainKeys := false, apart := false }
def MeterRulesSaid : Prop := meterRulesRow.holds Tryz.pinned (OpenSpec.ofChange meterRulesSpec)

/-- ITS FALSE NEIGHBOUR: 'it returns false'. Refute it at one input. -/
def meterRulesWrong : ChangeSpec := { name := "meterRules", fn := fun _ => fun
  | [d1, d2, d3, d4] => { results := [.lit (.bool false)], args := [d1, d2, d3, d4] }
  | _ => none }
def MeterRulesWrongFalsely : Prop := meterRulesRow.holds Tryz.pinned (OpenSpec.ofChange meterRulesWrong)

/- THE SECOND FORM. 'bulk': how many values and letters a reading holds, each counted each time it is reached (what is shared counts as often as it is met; a slice's spare places count too). A statement '..UptoSaid' is the law's where the arguments, and the package variables that the reading takes, are together of bulk at most 1048576: NARROWER than '..Said'. Prove '..Said' where nothing that the law and all that it calls make is longer than what came in: it says more and counts as full. Else prove '..UptoSaid'. A law counts once. -/
mutual
def uptoBulk {H : Type} : DataW H → Nat
  | .lit (.string bytes) => bytes.length + 1
  | .lit _ => 1
  | .nil => 1
  | .ptr d => uptoBulk d + 1
  | .slice elems spare => uptoBulkAll elems + uptoBulkAll spare + 1
  | .agg parts => uptoBulkAll parts + 1
  | .iface _ d => uptoBulk d + 1
  | .map entries => uptoBulkEntries entries + 1
  | .held _ => 1
def uptoBulkAll {H : Type} : List (DataW H) → Nat
  | [] => 0
  | d :: r => uptoBulk d + uptoBulkAll r
def uptoBulkEntries {H : Type} : List (Lit × DataW H) → Nat
  | [] => 0
  | x :: r => uptoBulkEntry x + uptoBulkEntries r
def uptoBulkEntry {H : Type} : Lit × DataW H → Nat
  | (.string bytes, d) => bytes.length + uptoBulk d + 1
  | (_, d) => uptoBulk d + 1
 end
def uptoSmall : (H : Type) → List (DataW H) → Bool := fun _ ds => decide (uptoBulkAll ds ≤ 1048576)
def OpenSpec.upto (s : _root_.Go.ChangeSpec) : _root_.Go.OpenSpec := { _root_.Go.OpenSpec.ofChange s with cond := some uptoSmall }

/-- 'ramagelaw21.MeterSizes', WHERE WHAT IT READS IS OF BULK AT MOST 1048576: true; the input reads as it did. -/
def meterSizesUptoRow : OpenClaim := { program := "ytoeoehbpahodnaagreat", sum := "3f72909f5a23eb1f0ad6df3a70e055e673610db7bc3d8ffa4b5bf72e2168a114", func := "ramage/ramagelaw21.MeterSizes", spec := "meterSizes", unfollowed := true, recurses := true, plainKeys := false, apart := false, narrowed := true }
def MeterSizesUptoSaid : Prop := meterSizesUptoRow.holds Tryz.pinned (OpenSpec.upto meterSizesSpec)

/-- 'ramagelaw28.SaveBytes', WHERE WHAT IT READS IS OF BULK AT MOST 1048576: true; the input reads as it did. -/
def saveBytesUptoRow : OpenClaim := { program := "ytoeoehbpahodnaagreat", sum := "3f72909f5a23eb1f0ad6df3a70e055e673610db7bc3d8ffa4b5bf72e2168a114", func := "ramage/ramagelaw28.SaveBytes", spec := "saveBytes", unfollowed := true, recurses := true, plainKeys := false, apart := false, narrowed := true }
def SaveBytesUptoSaid : Prop := saveBytesUptoRow.holds Tryz.pinned (OpenSpec.upto saveBytesSpec)

/-- 'ramagelaw21.MeterWeighs', WHERE WHAT IT READS IS OF BULK AT MOST 1048576: true; the input reads as it did. -/
def meterWeighsUptoRow : OpenClaim := { program := "ytoeoehbpahodnaagreat", sum := "3f72909f5a23eb1f0ad6df3a70e055e673610db7bc3d8ffa4b5bf72e2168a114", func := "ramage/ramagelaw21.MeterWeighs", spec := "meterWeighs", inPlace := ["math/bits.Add64", "math/bits.Sub64"], unfollowed := true, recurses := true, plainKeys := false, apart := false, narrowed := true }
def MeterWeighsUptoSaid : Prop := meterWeighsUptoRow.holds Tryz.pinned (OpenSpec.upto meterWeighsSpec)

/-- 'ramagelaw28.SaveNil', WHERE WHAT IT READS IS OF BULK AT MOST 1048576: true; the input reads as it did. -/
def saveNilUptoRow : OpenClaim := { program := "ytoeoehbpahodnaagreat", sum := "3f72909f5a23eb1f0ad6df3a70e055e673610db7bc3d8ffa4b5bf72e2168a114", func := "ramage/ramagelaw28.SaveNil", spec := "saveNil", unfollowed := true, recurses := true, plainKeys := false, apart := false, narrowed := true }
def SaveNilUptoSaid : Prop := saveNilUptoRow.holds Tryz.pinned (OpenSpec.upto saveNilSpec)

/-- 'ramagelaw28.SaveLoads', WHERE WHAT IT READS IS OF BULK AT MOST 1048576: true; the input reads as it did. -/
def saveLoadsUptoRow : OpenClaim := { program := "ytoeoehbpahodnaagreat", sum := "3f72909f5a23eb1f0ad6df3a70e055e673610db7bc3d8ffa4b5bf72e2168a114", func := "ramage/ramagelaw28.SaveLoads", spec := "saveLoads", unfollowed := true, recurses := true, plainKeys := false, apart := false, narrowed := true }
def SaveLoadsUptoSaid : Prop := saveLoadsUptoRow.holds Tryz.pinned (OpenSpec.upto saveLoadsSpec)

/-- 'ramagelaw26.SwapTerms', WHERE WHAT IT READS IS OF BULK AT MOST 1048576: true; the input reads as it did. -/
def swapTermsUptoRow : OpenClaim := { program := "ytoeoehbpahodnaagreat", sum := "3f72909f5a23eb1f0ad6df3a70e055e673610db7bc3d8ffa4b5bf72e2168a114", func := "ramage/ramagelaw26.SwapTerms", spec := "swapTerms", unfollowed := true, recurses := true, plainKeys := false, apart := false, narrowed := true }
def SwapTermsUptoSaid : Prop := swapTermsUptoRow.holds Tryz.pinned (OpenSpec.upto swapTermsSpec)

/-- 'ramagelaw21.MeterNil', WHERE WHAT IT READS IS OF BULK AT MOST 1048576: true; the input reads as it did. -/
def meterNilUptoRow : OpenClaim := { program := "ytoeoehbpahodnaagreat", sum := "3f72909f5a23eb1f0ad6df3a70e055e673610db7bc3d8ffa4b5bf72e2168a114", func := "ramage/ramagelaw21.MeterNil", spec := "meterNil", inPlace := ["math/bits.Add64", "math/bits.Sub64"], unfollowed := true, recurses := true, named := ["math/bits.divideError", "math/bits.overflowError"], plainKeys := false, apart := false, narrowed := true }
def MeterNilUptoSaid : Prop := meterNilUptoRow.holds Tryz.pinned (OpenSpec.upto meterNilSpec)

/-- 'ramagelaw21.MeterCounts', WHERE WHAT IT READS IS OF BULK AT MOST 1048576: true; the input reads as it did. -/
def meterCountsUptoRow : OpenClaim := { program := "ytoeoehbpahodnaagreat", sum := "3f72909f5a23eb1f0ad6df3a70e055e673610db7bc3d8ffa4b5bf72e2168a114", func := "ramage/ramagelaw21.MeterCounts", spec := "meterCounts", inPlace := ["math/bits.Add64", "math/bits.Sub64"], unfollowed := true, recurses := true, named := ["math/bits.divideError", "math/bits.overflowError"], plainKeys := false, apart := false, narrowed := true }
def MeterCountsUptoSaid : Prop := meterCountsUptoRow.holds Tryz.pinned (OpenSpec.upto meterCountsSpec)

/-- 'ramagelaw21.MeterRules', WHERE WHAT IT READS IS OF BULK AT MOST 1048576: true; the input reads as it did. -/
def meterRulesUptoRow : OpenClaim := { program := "ytoeoehbpahodnaagreat", sum := "3f72909f5a23eb1f0ad6df3a70e055e673610db7bc3d8ffa4b5bf72e2168a114", func := "ramage/ramagelaw21.MeterRules", spec := "meterRules", inPlace := ["math/bits.Add64", "math/bits.Sub64"], unfollowed := true, recurses := true, named := ["math/bits.divideError", "math/bits.overflowError"], plainKeys := false, apart := false, narrowed := true }
def MeterRulesUptoSaid : Prop := meterRulesUptoRow.holds Tryz.pinned (OpenSpec.upto meterRulesSpec)

end Rows
end Go.Proofs.YtoeoehbpahodnaaGreat
