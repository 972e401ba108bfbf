/-
  No cell of these rows narrows 'for every input' (looked for: loops, veiled, ifaces, maps, wideKeys, modest, calm, conditions, laid).
  DERIVED. THE GIVEN ROWS OF THIS SEAT. 12 by the template 'for every input the law returns true; each argument reads behind the call as it read before'; 0 by the template 'total and deterministic' (their statements: YtiifimnpmbfihaaGreatTotals.lean).
  GIVEN WITH THE SEED: the statements are not yours to turn. If you find one false, say at which input.
  Laid BY PROGRAM, IN A SANDBOX (cutbox-rows.mjs): the forced cells as the released guide's own fill.sh prints them over the translation e409ee5e76765766… (all of the seat's roots in one cut). By AI agents, Wed Nov 11 2026. No macro, syntax, notation, axiom, sorry.
-/
import Derived.Test.YtiifimnpmbfihaaGreatChecked
import GoSem.Claim
import GoSem.ClaimJoined
import GoSem.ClaimMapViews
import Derived.JoinedTies
import Derived.KernelRfl
namespace Go.Proofs.YtiifimnpmbfihaaGreat
/- THE CELL 'sum', in the pinned program and in every row, IS THE sha256 OF THE DUMP (.gsa) THAT YtiifimnpmbfihaaGreatProg.lean LOADS. Nothing in Lean hashes anything: it is a label: what it is worth is what the hold of that sum in a sandbox is worth. -/
noncomputable def Tryz.pinned : Pinned := { name := "ytiifimnpmbfihaagreat", sum := "e409ee5e76765766faccc46f2133cdb3f9faea189933bab89cbe8c3c50f2a2ed", checked := Tryz.checked }
namespace Rows
def none {H : Type} : Left H := { results := [], args := [] }

/-- 'ramagelaw28.SaveBytes': WHATEVER THE INPUT: true; the input reads as it did. -/
def saveBytesSpec : ChangeSpec := { name := "saveBytes", fn := fun _ => fun
  | [d1, d2, d3, d4, d5] => { results := [.lit (.bool true)], args := [d1, d2, d3, d4, d5] }
  | _ => none }
def saveBytesRow : OpenClaim := { program := "ytiifimnpmbfihaagreat", sum := "e409ee5e76765766faccc46f2133cdb3f9faea189933bab89cbe8c3c50f2a2ed", func := "ramage/ramagelaw28.SaveBytes", spec := "saveBytes", unfollowed := true, recurses := true, plainKeys := false, apart := false }
def SaveBytesSaid : Prop := saveBytesRow.holds Tryz.pinned (OpenSpec.ofChange saveBytesSpec)

/-- ITS FALSE NEIGHBOUR: 'it returns false'. Refute it at one input. -/
def saveBytesWrong : ChangeSpec := { name := "saveBytes", fn := fun _ => fun
  | [d1, d2, d3, d4, d5] => { results := [.lit (.bool false)], args := [d1, d2, d3, d4, d5] }
  | _ => none }
def SaveBytesWrongFalsely : Prop := saveBytesRow.holds Tryz.pinned (OpenSpec.ofChange saveBytesWrong)

/-- 'ramagelaw21.MeterWeighs': WHATEVER THE INPUT: true; the input reads as it did. -/
def meterWeighsSpec : ChangeSpec := { name := "meterWeighs", fn := fun _ => fun
  | [d1, d2, d3, d4, d5, d6] => { results := [.lit (.bool true)], args := [d1, d2, d3, d4, d5, d6] }
  | _ => none }
def meterWeighsRow : OpenClaim := { program := "ytiifimnpmbfihaagreat", sum := "e409ee5e76765766faccc46f2133cdb3f9faea189933bab89cbe8c3c50f2a2ed", func := "ramage/ramagelaw21.MeterWeighs", spec := "meterWeighs", inPlace := ["math/bits.Add64", "math/bits.Sub64"], unfollowed := true, recurses := true, plainKeys := false, apart := false }
def MeterWeighsSaid : Prop := meterWeighsRow.holds Tryz.pinned (OpenSpec.ofChange meterWeighsSpec)

/-- ITS FALSE NEIGHBOUR: 'it returns false'. Refute it at one input. -/
def meterWeighsWrong : ChangeSpec := { name := "meterWeighs", fn := fun _ => fun
  | [d1, d2, d3, d4, d5, d6] => { results := [.lit (.bool false)], args := [d1, d2, d3, d4, d5, d6] }
  | _ => none }
def MeterWeighsWrongFalsely : Prop := meterWeighsRow.holds Tryz.pinned (OpenSpec.ofChange meterWeighsWrong)

/-- 'ramagelaw28.SaveNil': WHATEVER THE INPUT: true; the input reads as it did. -/
def saveNilSpec : ChangeSpec := { name := "saveNil", fn := fun _ => fun
  | [d1, d2, d3] => { results := [.lit (.bool true)], args := [d1, d2, d3] }
  | _ => none }
def saveNilRow : OpenClaim := { program := "ytiifimnpmbfihaagreat", sum := "e409ee5e76765766faccc46f2133cdb3f9faea189933bab89cbe8c3c50f2a2ed", func := "ramage/ramagelaw28.SaveNil", spec := "saveNil", unfollowed := true, recurses := true, plainKeys := false, apart := false }
def SaveNilSaid : Prop := saveNilRow.holds Tryz.pinned (OpenSpec.ofChange saveNilSpec)

/-- ITS FALSE NEIGHBOUR: 'it returns false'. Refute it at one input. -/
def saveNilWrong : ChangeSpec := { name := "saveNil", fn := fun _ => fun
  | [d1, d2, d3] => { results := [.lit (.bool false)], args := [d1, d2, d3] }
  | _ => none }
def SaveNilWrongFalsely : Prop := saveNilRow.holds Tryz.pinned (OpenSpec.ofChange saveNilWrong)

/-- 'ramagelaw28.SaveLoads': WHATEVER THE INPUT: true; the input reads as it did. -/
def saveLoadsSpec : ChangeSpec := { name := "saveLoads", fn := fun _ => fun
  | [d1, d2, d3, d4] => { results := [.lit (.bool true)], args := [d1, d2, d3, d4] }
  | _ => none }
def saveLoadsRow : OpenClaim := { program := "ytiifimnpmbfihaagreat", sum := "e409ee5e76765766faccc46f2133cdb3f9faea189933bab89cbe8c3c50f2a2ed", func := "ramage/ramagelaw28.SaveLoads", spec := "saveLoads", unfollowed := true, recurses := true, plainKeys := false, apart := false }
def SaveLoadsSaid : Prop := saveLoadsRow.holds Tryz.pinned (OpenSpec.ofChange saveLoadsSpec)

/-- ITS FALSE NEIGHBOUR: 'it returns false'. Refute it at one input. -/
def saveLoadsWrong : ChangeSpec := { name := "saveLoads", fn := fun _ => fun
  | [d1, d2, d3, d4] => { results := [.lit (.bool false)], args := [d1, d2, d3, d4] }
  | _ => none }
def SaveLoadsWrongFalsely : Prop := saveLoadsRow.holds Tryz.pinned (OpenSpec.ofChange saveLoadsWrong)

/-- 'ramagelaw28.SaveBack': WHATEVER THE INPUT: true; the input reads as it did. -/
def saveBackSpec : ChangeSpec := { name := "saveBack", fn := fun _ => fun
  | [d1, d2, d3, d4] => { results := [.lit (.bool true)], args := [d1, d2, d3, d4] }
  | _ => none }
def saveBackRow : OpenClaim := { program := "ytiifimnpmbfihaagreat", sum := "e409ee5e76765766faccc46f2133cdb3f9faea189933bab89cbe8c3c50f2a2ed", func := "ramage/ramagelaw28.SaveBack", spec := "saveBack", unfollowed := true, recurses := true, plainKeys := false, apart := false }
def SaveBackSaid : Prop := saveBackRow.holds Tryz.pinned (OpenSpec.ofChange saveBackSpec)

/-- ITS FALSE NEIGHBOUR: 'it returns false'. Refute it at one input. -/
def saveBackWrong : ChangeSpec := { name := "saveBack", fn := fun _ => fun
  | [d1, d2, d3, d4] => { results := [.lit (.bool false)], args := [d1, d2, d3, d4] }
  | _ => none }
def SaveBackWrongFalsely : Prop := saveBackRow.holds Tryz.pinned (OpenSpec.ofChange saveBackWrong)

/-- 'ramagelaw28.SaveSpoilt': WHATEVER THE INPUT: true; the input reads as it did. -/
def saveSpoiltSpec : ChangeSpec := { name := "saveSpoilt", fn := fun _ => fun
  | [d1, d2, d3, d4, d5, d6, d7] => { results := [.lit (.bool true)], args := [d1, d2, d3, d4, d5, d6, d7] }
  | _ => none }
def saveSpoiltRow : OpenClaim := { program := "ytiifimnpmbfihaagreat", sum := "e409ee5e76765766faccc46f2133cdb3f9faea189933bab89cbe8c3c50f2a2ed", func := "ramage/ramagelaw28.SaveSpoilt", spec := "saveSpoilt", unfollowed := true, recurses := true, plainKeys := false, apart := false }
def SaveSpoiltSaid : Prop := saveSpoiltRow.holds Tryz.pinned (OpenSpec.ofChange saveSpoiltSpec)

/-- ITS FALSE NEIGHBOUR: 'it returns false'. Refute it at one input. -/
def saveSpoiltWrong : ChangeSpec := { name := "saveSpoilt", fn := fun _ => fun
  | [d1, d2, d3, d4, d5, d6, d7] => { results := [.lit (.bool false)], args := [d1, d2, d3, d4, d5, d6, d7] }
  | _ => none }
def SaveSpoiltWrongFalsely : Prop := saveSpoiltRow.holds Tryz.pinned (OpenSpec.ofChange saveSpoiltWrong)

/-- 'ramagelaw28.SaveRoom': WHATEVER THE INPUT: true; the input reads as it did. -/
def saveRoomSpec : ChangeSpec := { name := "saveRoom", fn := fun _ => fun
  | [d1, d2, d3, d4] => { results := [.lit (.bool true)], args := [d1, d2, d3, d4] }
  | _ => none }
def saveRoomRow : OpenClaim := { program := "ytiifimnpmbfihaagreat", sum := "e409ee5e76765766faccc46f2133cdb3f9faea189933bab89cbe8c3c50f2a2ed", func := "ramage/ramagelaw28.SaveRoom", spec := "saveRoom", unfollowed := true, recurses := true, plainKeys := false, apart := false }
def SaveRoomSaid : Prop := saveRoomRow.holds Tryz.pinned (OpenSpec.ofChange saveRoomSpec)

/-- ITS FALSE NEIGHBOUR: 'it returns false'. Refute it at one input. -/
def saveRoomWrong : ChangeSpec := { name := "saveRoom", fn := fun _ => fun
  | [d1, d2, d3, d4] => { results := [.lit (.bool false)], args := [d1, d2, d3, d4] }
  | _ => none }
def SaveRoomWrongFalsely : Prop := saveRoomRow.holds Tryz.pinned (OpenSpec.ofChange saveRoomWrong)

/-- 'ramagelaw26.SwapTerms': WHATEVER THE INPUT: true; the input reads as it did. -/
def swapTermsSpec : ChangeSpec := { name := "swapTerms", fn := fun _ => fun
  | [d1, d2, d3, d4, d5, d6] => { results := [.lit (.bool true)], args := [d1, d2, d3, d4, d5, d6] }
  | _ => none }
def swapTermsRow : OpenClaim := { program := "ytiifimnpmbfihaagreat", sum := "e409ee5e76765766faccc46f2133cdb3f9faea189933bab89cbe8c3c50f2a2ed", func := "ramage/ramagelaw26.SwapTerms", spec := "swapTerms", unfollowed := true, recurses := true, plainKeys := false, apart := false }
def SwapTermsSaid : Prop := swapTermsRow.holds Tryz.pinned (OpenSpec.ofChange swapTermsSpec)

/-- ITS FALSE NEIGHBOUR: 'it returns false'. Refute it at one input. -/
def swapTermsWrong : ChangeSpec := { name := "swapTerms", fn := fun _ => fun
  | [d1, d2, d3, d4, d5, d6] => { results := [.lit (.bool false)], args := [d1, d2, d3, d4, d5, d6] }
  | _ => none }
def SwapTermsWrongFalsely : Prop := swapTermsRow.holds Tryz.pinned (OpenSpec.ofChange swapTermsWrong)

/-- 'ramagelaw21.MeterCounts': WHATEVER THE INPUT: true; the input reads as it did. -/
def meterCountsSpec : ChangeSpec := { name := "meterCounts", fn := fun _ => fun
  | [d1, d2, d3, d4] => { results := [.lit (.bool true)], args := [d1, d2, d3, d4] }
  | _ => none }
def meterCountsRow : OpenClaim := { program := "ytiifimnpmbfihaagreat", sum := "e409ee5e76765766faccc46f2133cdb3f9faea189933bab89cbe8c3c50f2a2ed", func := "ramage/ramagelaw21.MeterCounts", spec := "meterCounts", inPlace := ["math/bits.Add64", "math/bits.Sub64"], unfollowed := true, recurses := true, named := ["math/bits.divideError", "math/bits.overflowError"], plainKeys := false, apart := false }
def MeterCountsSaid : Prop := meterCountsRow.holds Tryz.pinned (OpenSpec.ofChange meterCountsSpec)

/-- ITS FALSE NEIGHBOUR: 'it returns false'. Refute it at one input. -/
def meterCountsWrong : ChangeSpec := { name := "meterCounts", fn := fun _ => fun
  | [d1, d2, d3, d4] => { results := [.lit (.bool false)], args := [d1, d2, d3, d4] }
  | _ => none }
def MeterCountsWrongFalsely : Prop := meterCountsRow.holds Tryz.pinned (OpenSpec.ofChange meterCountsWrong)

/-- 'ramagelaw27.SiftLeast': WHATEVER THE INPUT: true; the input reads as it did. -/
def siftLeastSpec : ChangeSpec := { name := "siftLeast", fn := fun _ => fun
  | [d1, d2] => { results := [.lit (.bool true)], args := [d1, d2] }
  | _ => none }
def siftLeastRow : OpenClaim := { program := "ytiifimnpmbfihaagreat", sum := "e409ee5e76765766faccc46f2133cdb3f9faea189933bab89cbe8c3c50f2a2ed", func := "ramage/ramagelaw27.SiftLeast", spec := "siftLeast", unfollowed := true, recurses := true, plainKeys := false, apart := false }
def SiftLeastSaid : Prop := siftLeastRow.holds Tryz.pinned (OpenSpec.ofChange siftLeastSpec)

/-- ITS FALSE NEIGHBOUR: 'it returns false'. Refute it at one input. -/
def siftLeastWrong : ChangeSpec := { name := "siftLeast", fn := fun _ => fun
  | [d1, d2] => { results := [.lit (.bool false)], args := [d1, d2] }
  | _ => none }
def SiftLeastWrongFalsely : Prop := siftLeastRow.holds Tryz.pinned (OpenSpec.ofChange siftLeastWrong)

/-- 'ramagelaw27.SiftNil': WHATEVER THE INPUT: true; the input reads as it did. -/
def siftNilSpec : ChangeSpec := { name := "siftNil", fn := fun _ => fun
  | [d1, d2] => { results := [.lit (.bool true)], args := [d1, d2] }
  | _ => none }
def siftNilRow : OpenClaim := { program := "ytiifimnpmbfihaagreat", sum := "e409ee5e76765766faccc46f2133cdb3f9faea189933bab89cbe8c3c50f2a2ed", func := "ramage/ramagelaw27.SiftNil", spec := "siftNil", unfollowed := true, recurses := true, plainKeys := false, apart := false }
def SiftNilSaid : Prop := siftNilRow.holds Tryz.pinned (OpenSpec.ofChange siftNilSpec)

/-- ITS FALSE NEIGHBOUR: 'it returns false'. Refute it at one input. -/
def siftNilWrong : ChangeSpec := { name := "siftNil", fn := fun _ => fun
  | [d1, d2] => { results := [.lit (.bool false)], args := [d1, d2] }
  | _ => none }
def SiftNilWrongFalsely : Prop := siftNilRow.holds Tryz.pinned (OpenSpec.ofChange siftNilWrong)

/-- 'ramagelaw21.MeterRules': WHATEVER THE INPUT: true; the input reads as it did. -/
def meterRulesSpec : ChangeSpec := { name := "meterRules", fn := fun _ => fun
  | [d1, d2, d3, d4] => { results := [.lit (.bool true)], args := [d1, d2, d3, d4] }
  | _ => none }
def meterRulesRow : OpenClaim := { program := "ytiifimnpmbfihaagreat", sum := "e409ee5e76765766faccc46f2133cdb3f9faea189933bab89cbe8c3c50f2a2ed", func := "ramage/ramagelaw21.MeterRules", spec := "meterRules", inPlace := ["math/bits.Add64", "math/bits.Sub64"], unfollowed := true, recurses := true, named := ["math/bits.divideError", "math/bits.overflowError"], plainKeys := false, apart := false }
def MeterRulesSaid : Prop := meterRulesRow.holds Tryz.pinned (OpenSpec.ofChange meterRulesSpec)

/-- ITS FALSE NEIGHBOUR: 'it returns false'. Refute it at one input. -/
def meterRulesWrong : ChangeSpec := { name := "meterRules", fn := fun _ => fun
  | [d1, d2, d3, d4] => { results := [.lit (.bool false)], args := [d1, d2, d3, d4] }
  | _ => none }
def MeterRulesWrongFalsely : Prop := meterRulesRow.holds Tryz.pinned (OpenSpec.ofChange meterRulesWrong)

/- THE SECOND FORM. 'bulk': how many values and letters a reading holds, each counted each time it is reached (what is shared counts as often as it is met; a slice's spare places count too). A statement '..UptoSaid' is the law's where the arguments, and the package variables that the reading takes, are together of bulk at most 1048576: NARROWER than '..Said'. Prove '..Said' where nothing that the law and all that it calls make is longer than what came in: it says more and counts as full. Else prove '..UptoSaid'. A law counts once. -/
mutual
def uptoBulk {H : Type} : DataW H → Nat
  | .lit (.string bytes) => bytes.length + 1
  | .lit _ => 1
  | .nil => 1
  | .ptr d => uptoBulk d + 1
  | .slice elems spare => uptoBulkAll elems + uptoBulkAll spare + 1
  | .agg parts => uptoBulkAll parts + 1
  | .iface _ d => uptoBulk d + 1
  | .map entries => uptoBulkEntries entries + 1
  | .held _ => 1
def uptoBulkAll {H : Type} : List (DataW H) → Nat
  | [] => 0
  | d :: r => uptoBulk d + uptoBulkAll r
def uptoBulkEntries {H : Type} : List (Lit × DataW H) → Nat
  | [] => 0
  | x :: r => uptoBulkEntry x + uptoBulkEntries r
def uptoBulkEntry {H : Type} : Lit × DataW H → Nat
  | (.string bytes, d) => bytes.length + uptoBulk d + 1
  | (_, d) => uptoBulk d + 1
 end
def uptoSmall : (H : Type) → List (DataW H) → Bool := fun _ ds => decide (uptoBulkAll ds ≤ 1048576)
def OpenSpec.upto (s : _root_.Go.ChangeSpec) : _root_.Go.OpenSpec := { _root_.Go.OpenSpec.ofChange s with cond := some uptoSmall }

/-- 'ramagelaw28.SaveBytes', WHERE WHAT IT READS IS OF BULK AT MOST 1048576: true; the input reads as it did. -/
def saveBytesUptoRow : OpenClaim := { program := "ytiifimnpmbfihaagreat", sum := "e409ee5e76765766faccc46f2133cdb3f9faea189933bab89cbe8c3c50f2a2ed", func := "ramage/ramagelaw28.SaveBytes", spec := "saveBytes", unfollowed := true, recurses := true, plainKeys := false, apart := false, narrowed := true }
def SaveBytesUptoSaid : Prop := saveBytesUptoRow.holds Tryz.pinned (OpenSpec.upto saveBytesSpec)

/-- 'ramagelaw21.MeterWeighs', WHERE WHAT IT READS IS OF BULK AT MOST 1048576: true; the input reads as it did. -/
def meterWeighsUptoRow : OpenClaim := { program := "ytiifimnpmbfihaagreat", sum := "e409ee5e76765766faccc46f2133cdb3f9faea189933bab89cbe8c3c50f2a2ed", func := "ramage/ramagelaw21.MeterWeighs", spec := "meterWeighs", inPlace := ["math/bits.Add64", "math/bits.Sub64"], unfollowed := true, recurses := true, plainKeys := false, apart := false, narrowed := true }
def MeterWeighsUptoSaid : Prop := meterWeighsUptoRow.holds Tryz.pinned (OpenSpec.upto meterWeighsSpec)

/-- 'ramagelaw28.SaveNil', WHERE WHAT IT READS IS OF BULK AT MOST 1048576: true; the input reads as it did. -/
def saveNilUptoRow : OpenClaim := { program := "ytiifimnpmbfihaagreat", sum := "e409ee5e76765766faccc46f2133cdb3f9faea189933bab89cbe8c3c50f2a2ed", func := "ramage/ramagelaw28.SaveNil", spec := "saveNil", unfollowed := true, recurses := true, plainKeys := false, apart := false, narrowed := true }
def SaveNilUptoSaid : Prop := saveNilUptoRow.holds Tryz.pinned (OpenSpec.upto saveNilSpec)

/-- 'ramagelaw28.SaveLoads', WHERE WHAT IT READS IS OF BULK AT MOST 1048576: true; the input reads as it did. -/
def saveLoadsUptoRow : OpenClaim := { program := "ytiifimnpmbfihaagreat", sum := "e409ee5e76765766faccc46f2133cdb3f9faea189933bab89cbe8c3c50f2a2ed", func := "ramage/ramagelaw28.SaveLoads", spec := "saveLoads", unfollowed := true, recurses := true, plainKeys := false, apart := false, narrowed := true }
def SaveLoadsUptoSaid : Prop := saveLoadsUptoRow.holds Tryz.pinned (OpenSpec.upto saveLoadsSpec)

/-- 'ramagelaw28.SaveBack', WHERE WHAT IT READS IS OF BULK AT MOST 1048576: true; the input reads as it did. -/
def saveBackUptoRow : OpenClaim := { program := "ytiifimnpmbfihaagreat", sum := "e409ee5e76765766faccc46f2133cdb3f9faea189933bab89cbe8c3c50f2a2ed", func := "ramage/ramagelaw28.SaveBack", spec := "saveBack", unfollowed := true, recurses := true, plainKeys := false, apart := false, narrowed := true }
def SaveBackUptoSaid : Prop := saveBackUptoRow.holds Tryz.pinned (OpenSpec.upto saveBackSpec)

/-- 'ramagelaw28.SaveSpoilt', WHERE WHAT IT READS IS OF BULK AT MOST 1048576: true; the input reads as it did. -/
def saveSpoiltUptoRow : OpenClaim := { program := "ytiifimnpmbfihaagreat", sum := "e409ee5e76765766faccc46f2133cdb3f9faea189933bab89cbe8c3c50f2a2ed", func := "ramage/ramagelaw28.SaveSpoilt", spec := "saveSpoilt", unfollowed := true, recurses := true, plainKeys := false, apart := false, narrowed := true }
def SaveSpoiltUptoSaid : Prop := saveSpoiltUptoRow.holds Tryz.pinned (OpenSpec.upto saveSpoiltSpec)

/-- 'ramagelaw28.SaveRoom', WHERE WHAT IT READS IS OF BULK AT MOST 1048576: true; the input reads as it did. -/
def saveRoomUptoRow : OpenClaim := { program := "ytiifimnpmbfihaagreat", sum := "e409ee5e76765766faccc46f2133cdb3f9faea189933bab89cbe8c3c50f2a2ed", func := "ramage/ramagelaw28.SaveRoom", spec := "saveRoom", unfollowed := true, recurses := true, plainKeys := false, apart := false, narrowed := true }
def SaveRoomUptoSaid : Prop := saveRoomUptoRow.holds Tryz.pinned (OpenSpec.upto saveRoomSpec)

/-- 'ramagelaw26.SwapTerms', WHERE WHAT IT READS IS OF BULK AT MOST 1048576: true; the input reads as it did. -/
def swapTermsUptoRow : OpenClaim := { program := "ytiifimnpmbfihaagreat", sum := "e409ee5e76765766faccc46f2133cdb3f9faea189933bab89cbe8c3c50f2a2ed", func := "ramage/ramagelaw26.SwapTerms", spec := "swapTerms", unfollowed := true, recurses := true, plainKeys := false, apart := false, narrowed := true }
def SwapTermsUptoSaid : Prop := swapTermsUptoRow.holds Tryz.pinned (OpenSpec.upto swapTermsSpec)

/-- 'ramagelaw21.MeterCounts', WHERE WHAT IT READS IS OF BULK AT MOST 1048576: true; the input reads as it did. -/
def meterCountsUptoRow : OpenClaim := { program := "ytiifimnpmbfihaagreat", sum := "e409ee5e76765766faccc46f2133cdb3f9faea189933bab89cbe8c3c50f2a2ed", func := "ramage/ramagelaw21.MeterCounts", spec := "meterCounts", inPlace := ["math/bits.Add64", "math/bits.Sub64"], unfollowed := true, recurses := true, named := ["math/bits.divideError", "math/bits.overflowError"], plainKeys := false, apart := false, narrowed := true }
def MeterCountsUptoSaid : Prop := meterCountsUptoRow.holds Tryz.pinned (OpenSpec.upto meterCountsSpec)

/-- 'ramagelaw27.SiftLeast', WHERE WHAT IT READS IS OF BULK AT MOST 1048576: true; the input reads as it did. -/
def siftLeastUptoRow : OpenClaim := { program := "ytiifimnpmbfihaagreat", sum := "e409ee5e76765766faccc46f2133cdb3f9faea189933bab89cbe8c3c50f2a2ed", func := "ramage/ramagelaw27.SiftLeast", spec := "siftLeast", unfollowed := true, recurses := true, plainKeys := false, apart := false, narrowed := true }
def SiftLeastUptoSaid : Prop := siftLeastUptoRow.holds Tryz.pinned (OpenSpec.upto siftLeastSpec)

/-- 'ramagelaw27.SiftNil', WHERE WHAT IT READS IS OF BULK AT MOST 1048576: true; the input reads as it did. -/
def siftNilUptoRow : OpenClaim := { program := "ytiifimnpmbfihaagreat", sum := "e409ee5e76765766faccc46f2133cdb3f9faea189933bab89cbe8c3c50f2a2ed", func := "ramage/ramagelaw27.SiftNil", spec := "siftNil", unfollowed := true, recurses := true, plainKeys := false, apart := false, narrowed := true }
def SiftNilUptoSaid : Prop := siftNilUptoRow.holds Tryz.pinned (OpenSpec.upto siftNilSpec)

/-- 'ramagelaw21.MeterRules', WHERE WHAT IT READS IS OF BULK AT MOST 1048576: true; the input reads as it did. -/
def meterRulesUptoRow : OpenClaim := { program := "ytiifimnpmbfihaagreat", sum := "e409ee5e76765766faccc46f2133cdb3f9faea189933bab89cbe8c3c50f2a2ed", func := "ramage/ramagelaw21.MeterRules", spec := "meterRules", inPlace := ["math/bits.Add64", "math/bits.Sub64"], unfollowed := true, recurses := true, named := ["math/bits.divideError", "math/bits.overflowError"], plainKeys := false, apart := false, narrowed := true }
def MeterRulesUptoSaid : Prop := meterRulesUptoRow.holds Tryz.pinned (OpenSpec.upto meterRulesSpec)

end Rows
end Go.Proofs.YtiifimnpmbfihaaGreat
