/-
  No cell of these rows narrows 'for every input' (looked for: loops, veiled, ifaces, maps, wideKeys, modest, calm, conditions, laid).
  DERIVED. THE GIVEN ROWS OF THIS SEAT. 4 by the template 'for every input the law returns true; each argument reads behind the call as it read before'; 0 by the template 'total and deterministic' (their statements: YtfpjogpjocedaaaGreatTotals.lean).
  GIVEN WITH THE SEED: the statements are not yours to turn. If you find one false, say at which input.
  Laid BY PROGRAM, IN A SANDBOX (cutbox-rows.mjs): the forced cells as the released guide's own fill.sh prints them over the translation bc57499b98c5d91c… (all of the seat's roots in one cut). By AI agents, Wed Nov 11 2026. No macro, syntax, notation, axiom, sorry.
-/
import Derived.Test.YtfpjogpjocedaaaGreatChecked
import GoSem.Claim
import GoSem.ClaimJoined
import GoSem.ClaimMapViews
import Derived.JoinedTies
import Derived.KernelRfl
namespace Go.Proofs.YtfpjogpjocedaaaGreat
/- THE CELL 'sum', in the pinned program and in every row, IS THE sha256 OF THE DUMP (.gsa) THAT YtfpjogpjocedaaaGreatProg.lean LOADS. Nothing in Lean hashes anything: it is a label: what it is worth is what the hold of that sum in a sandbox is worth. -/
noncomputable def Tryz.pinned : Pinned := { name := "ytfpjogpjocedaaagreat", sum := "bc57499b98c5d91c20168f4df3776d1822323a87fd85e30625ec14b8d3bef679", checked := Tryz.checked }
namespace Rows
def none {H : Type} : Left H := { results := [], args := [] }

/-- 'ramagelaw28.SaveLoads': WHATEVER THE INPUT: true; the input reads as it did. -/
def saveLoadsSpec : ChangeSpec := { name := "saveLoads", fn := fun _ => fun
  | [d1, d2, d3, d4] => { results := [.lit (.bool true)], args := [d1, d2, d3, d4] }
  | _ => none }
def saveLoadsRow : OpenClaim := { program := "ytfpjogpjocedaaagreat", sum := "bc57499b98c5d91c20168f4df3776d1822323a87fd85e30625ec14b8d3bef679", func := "ramage/ramagelaw28.SaveLoads", spec := "saveLoads", unfollowed := true, recurses := true, apart := false }
def SaveLoadsSaid : Prop := saveLoadsRow.holds Tryz.pinned (OpenSpec.ofChange saveLoadsSpec)

/-- ITS FALSE NEIGHBOUR: 'it returns false'. Refute it at one input. -/
def saveLoadsWrong : ChangeSpec := { name := "saveLoads", fn := fun _ => fun
  | [d1, d2, d3, d4] => { results := [.lit (.bool false)], args := [d1, d2, d3, d4] }
  | _ => none }
def SaveLoadsWrongFalsely : Prop := saveLoadsRow.holds Tryz.pinned (OpenSpec.ofChange saveLoadsWrong)

/-- 'ramagelaw28.SaveBack': WHATEVER THE INPUT: true; the input reads as it did. -/
def saveBackSpec : ChangeSpec := { name := "saveBack", fn := fun _ => fun
  | [d1, d2, d3, d4] => { results := [.lit (.bool true)], args := [d1, d2, d3, d4] }
  | _ => none }
def saveBackRow : OpenClaim := { program := "ytfpjogpjocedaaagreat", sum := "bc57499b98c5d91c20168f4df3776d1822323a87fd85e30625ec14b8d3bef679", func := "ramage/ramagelaw28.SaveBack", spec := "saveBack", unfollowed := true, recurses := true, apart := false }
def SaveBackSaid : Prop := saveBackRow.holds Tryz.pinned (OpenSpec.ofChange saveBackSpec)

/-- ITS FALSE NEIGHBOUR: 'it returns false'. Refute it at one input. -/
def saveBackWrong : ChangeSpec := { name := "saveBack", fn := fun _ => fun
  | [d1, d2, d3, d4] => { results := [.lit (.bool false)], args := [d1, d2, d3, d4] }
  | _ => none }
def SaveBackWrongFalsely : Prop := saveBackRow.holds Tryz.pinned (OpenSpec.ofChange saveBackWrong)

/-- 'ramagelaw28.SaveSpoilt': WHATEVER THE INPUT: true; the input reads as it did. -/
def saveSpoiltSpec : ChangeSpec := { name := "saveSpoilt", fn := fun _ => fun
  | [d1, d2, d3, d4, d5, d6, d7] => { results := [.lit (.bool true)], args := [d1, d2, d3, d4, d5, d6, d7] }
  | _ => none }
def saveSpoiltRow : OpenClaim := { program := "ytfpjogpjocedaaagreat", sum := "bc57499b98c5d91c20168f4df3776d1822323a87fd85e30625ec14b8d3bef679", func := "ramage/ramagelaw28.SaveSpoilt", spec := "saveSpoilt", unfollowed := true, recurses := true, apart := false }
def SaveSpoiltSaid : Prop := saveSpoiltRow.holds Tryz.pinned (OpenSpec.ofChange saveSpoiltSpec)

/-- ITS FALSE NEIGHBOUR: 'it returns false'. Refute it at one input. -/
def saveSpoiltWrong : ChangeSpec := { name := "saveSpoilt", fn := fun _ => fun
  | [d1, d2, d3, d4, d5, d6, d7] => { results := [.lit (.bool false)], args := [d1, d2, d3, d4, d5, d6, d7] }
  | _ => none }
def SaveSpoiltWrongFalsely : Prop := saveSpoiltRow.holds Tryz.pinned (OpenSpec.ofChange saveSpoiltWrong)

/-- 'ramagelaw28.SaveRoom': WHATEVER THE INPUT: true; the input reads as it did. -/
def saveRoomSpec : ChangeSpec := { name := "saveRoom", fn := fun _ => fun
  | [d1, d2, d3, d4] => { results := [.lit (.bool true)], args := [d1, d2, d3, d4] }
  | _ => none }
def saveRoomRow : OpenClaim := { program := "ytfpjogpjocedaaagreat", sum := "bc57499b98c5d91c20168f4df3776d1822323a87fd85e30625ec14b8d3bef679", func := "ramage/ramagelaw28.SaveRoom", spec := "saveRoom", unfollowed := true, recurses := true, apart := false }
def SaveRoomSaid : Prop := saveRoomRow.holds Tryz.pinned (OpenSpec.ofChange saveRoomSpec)

/-- ITS FALSE NEIGHBOUR: 'it returns false'. Refute it at one input. -/
def saveRoomWrong : ChangeSpec := { name := "saveRoom", fn := fun _ => fun
  | [d1, d2, d3, d4] => { results := [.lit (.bool false)], args := [d1, d2, d3, d4] }
  | _ => none }
def SaveRoomWrongFalsely : Prop := saveRoomRow.holds Tryz.pinned (OpenSpec.ofChange saveRoomWrong)

/- THE SECOND FORM. 'bulk': how many values and letters a reading holds, each counted each time it is reached (what is shared counts as often as it is met; a slice's spare places count too). A statement '..UptoSaid' is the law's where the arguments, and the package variables that the reading takes, are together of bulk at most 1048576: NARROWER than '..Said'. Prove '..Said' where nothing that the law and all that it calls make is longer than what came in: it says more and counts as full. Else prove '..UptoSaid'. A law counts once. -/
mutual
def uptoBulk {H : Type} : DataW H → Nat
  | .lit (.string bytes) => bytes.length + 1
  | .lit _ => 1
  | .nil => 1
  | .ptr d => uptoBulk d + 1
  | .slice elems spare => uptoBulkAll elems + uptoBulkAll spare + 1
  | .agg parts => uptoBulkAll parts + 1
  | .iface _ d => uptoBulk d + 1
  | .map entries => uptoBulkEntries entries + 1
  | .held _ => 1
def uptoBulkAll {H : Type} : List (DataW H) → Nat
  | [] => 0
  | d :: r => uptoBulk d + uptoBulkAll r
def uptoBulkEntries {H : Type} : List (Lit × DataW H) → Nat
  | [] => 0
  | x :: r => uptoBulkEntry x + uptoBulkEntries r
def uptoBulkEntry {H : Type} : Lit × DataW H → Nat
  | (.string bytes, d) => bytes.length + uptoBulk d + 1
  | (_, d) => uptoBulk d + 1
 end
def uptoSmall : (H : Type) → List (DataW H) → Bool := fun _ ds => decide (uptoBulkAll ds ≤ 1048576)
def OpenSpec.upto (s : _root_.Go.ChangeSpec) : _root_.Go.OpenSpec := { _root_.Go.OpenSpec.ofChange s with cond := some uptoSmall }

/-- 'ramagelaw28.SaveLoads', WHERE WHAT IT READS IS OF BULK AT MOST 1048576: true; the input reads as it did. -/
def saveLoadsUptoRow : OpenClaim := { program := "ytfpjogpjocedaaagreat", sum := "bc57499b98c5d91c20168f4df3776d1822323a87fd85e30625ec14b8d3bef679", func := "ramage/ramagelaw28.SaveLoads", spec := "saveLoads", unfollowed := true, recurses := true, apart := false, narrowed := true }
def SaveLoadsUptoSaid : Prop := saveLoadsUptoRow.holds Tryz.pinned (OpenSpec.upto saveLoadsSpec)

/-- 'ramagelaw28.SaveBack', WHERE WHAT IT READS IS OF BULK AT MOST 1048576: true; the input reads as it did. -/
def saveBackUptoRow : OpenClaim := { program := "ytfpjogpjocedaaagreat", sum := "bc57499b98c5d91c20168f4df3776d1822323a87fd85e30625ec14b8d3bef679", func := "ramage/ramagelaw28.SaveBack", spec := "saveBack", unfollowed := true, recurses := true, apart := false, narrowed := true }
def SaveBackUptoSaid : Prop := saveBackUptoRow.holds Tryz.pinned (OpenSpec.upto saveBackSpec)

/-- 'ramagelaw28.SaveSpoilt', WHERE WHAT IT READS IS OF BULK AT MOST 1048576: true; the input reads as it did. -/
def saveSpoiltUptoRow : OpenClaim := { program := "ytfpjogpjocedaaagreat", sum := "bc57499b98c5d91c20168f4df3776d1822323a87fd85e30625ec14b8d3bef679", func := "ramage/ramagelaw28.SaveSpoilt", spec := "saveSpoilt", unfollowed := true, recurses := true, apart := false, narrowed := true }
def SaveSpoiltUptoSaid : Prop := saveSpoiltUptoRow.holds Tryz.pinned (OpenSpec.upto saveSpoiltSpec)

/-- 'ramagelaw28.SaveRoom', WHERE WHAT IT READS IS OF BULK AT MOST 1048576: true; the input reads as it did. -/
def saveRoomUptoRow : OpenClaim := { program := "ytfpjogpjocedaaagreat", sum := "bc57499b98c5d91c20168f4df3776d1822323a87fd85e30625ec14b8d3bef679", func := "ramage/ramagelaw28.SaveRoom", spec := "saveRoom", unfollowed := true, recurses := true, apart := false, narrowed := true }
def SaveRoomUptoSaid : Prop := saveRoomUptoRow.holds Tryz.pinned (OpenSpec.upto saveRoomSpec)

end Rows
end Go.Proofs.YtfpjogpjocedaaaGreat
