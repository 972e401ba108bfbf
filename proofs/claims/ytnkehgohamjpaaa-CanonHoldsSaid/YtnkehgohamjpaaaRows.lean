/-
  No cell of these rows narrows 'for every input' (looked for: loops, veiled, ifaces, maps, wideKeys, modest, calm, conditions, laid).
  DERIVED. THE GIVEN ROWS OF THIS SEAT. 10 by the template 'for every input the law returns true; each argument reads behind the call as it read before'; 0 by the template 'total and deterministic' (their statements: YtnkehgohamjpaaaTotals.lean).
  GIVEN WITH THE SEED: the statements are not yours to turn. If you find one false, say at which input.
  Laid BY PROGRAM, IN A SANDBOX (cutbox-rows.mjs): the forced cells as the released guide's own fill.sh prints them over the translation 83d0fa6668cdc008… (all of the seat's roots in one cut). By AI agents, Wed Nov 11 2026. No macro, syntax, notation, axiom, sorry.
-/
import Derived.Test.YtnkehgohamjpaaaChecked
import GoSem.Claim
import GoSem.ClaimJoined
import GoSem.ClaimMapViews
import Derived.JoinedTies
import Derived.KernelRfl
namespace Go.Proofs.Ytnkehgohamjpaaa
/- THE CELL 'sum', in the pinned program and in every row, IS THE sha256 OF THE DUMP (.gsa) THAT YtnkehgohamjpaaaProg.lean LOADS. Nothing in Lean hashes anything: it is a label: what it is worth is what the hold of that sum in a sandbox is worth. -/
noncomputable def Try.pinned : Pinned := { name := "ytnkehgohamjpaaa", sum := "83d0fa6668cdc008f9dfbf68f0b24f8f828c571135dfb4ca10e5072848cc3ac0", checked := Try.checked }
namespace Rows
def none {H : Type} : Left H := { results := [], args := [] }

/-- 'ramagelaw16.TbddHalves': WHATEVER THE INPUT: true; the input reads as it did. -/
def tbddHalvesSpec : ChangeSpec := { name := "tbddHalves", fn := fun _ => fun
  | [d1, d2] => { results := [.lit (.bool true)], args := [d1, d2] }
  | _ => none }
def tbddHalvesRow : OpenClaim := { program := "ytnkehgohamjpaaa", sum := "83d0fa6668cdc008f9dfbf68f0b24f8f828c571135dfb4ca10e5072848cc3ac0", func := "ramage/ramagelaw16.TbddHalves", spec := "tbddHalves", unfollowed := true, recurses := true, apart := false }
def TbddHalvesSaid : Prop := tbddHalvesRow.holds Try.pinned (OpenSpec.ofChange tbddHalvesSpec)

/-- ITS FALSE NEIGHBOUR: 'it returns false'. Refute it at one input. -/
def tbddHalvesWrong : ChangeSpec := { name := "tbddHalves", fn := fun _ => fun
  | [d1, d2] => { results := [.lit (.bool false)], args := [d1, d2] }
  | _ => none }
def TbddHalvesWrongFalsely : Prop := tbddHalvesRow.holds Try.pinned (OpenSpec.ofChange tbddHalvesWrong)

/-- 'ramagelaw16.TbddRights': WHATEVER THE INPUT: true; the input reads as it did. -/
def tbddRightsSpec : ChangeSpec := { name := "tbddRights", fn := fun _ => fun
  | [d1, d2, d3, d4] => { results := [.lit (.bool true)], args := [d1, d2, d3, d4] }
  | _ => none }
def tbddRightsRow : OpenClaim := { program := "ytnkehgohamjpaaa", sum := "83d0fa6668cdc008f9dfbf68f0b24f8f828c571135dfb4ca10e5072848cc3ac0", func := "ramage/ramagelaw16.TbddRights", spec := "tbddRights", unfollowed := true, recurses := true, apart := false }
def TbddRightsSaid : Prop := tbddRightsRow.holds Try.pinned (OpenSpec.ofChange tbddRightsSpec)

/-- ITS FALSE NEIGHBOUR: 'it returns false'. Refute it at one input. -/
def tbddRightsWrong : ChangeSpec := { name := "tbddRights", fn := fun _ => fun
  | [d1, d2, d3, d4] => { results := [.lit (.bool false)], args := [d1, d2, d3, d4] }
  | _ => none }
def TbddRightsWrongFalsely : Prop := tbddRightsRow.holds Try.pinned (OpenSpec.ofChange tbddRightsWrong)

/-- 'ramagelaw11.StoreReaches': WHATEVER THE INPUT: true; the input reads as it did. -/
def storeReachesSpec : ChangeSpec := { name := "storeReaches", fn := fun _ => fun
  | [d1, d2, d3, d4, d5, d6] => { results := [.lit (.bool true)], args := [d1, d2, d3, d4, d5, d6] }
  | _ => none }
def storeReachesRow : OpenClaim := { program := "ytnkehgohamjpaaa", sum := "83d0fa6668cdc008f9dfbf68f0b24f8f828c571135dfb4ca10e5072848cc3ac0", func := "ramage/ramagelaw11.StoreReaches", spec := "storeReaches", unfollowed := true, recurses := true, apart := false }
def StoreReachesSaid : Prop := storeReachesRow.holds Try.pinned (OpenSpec.ofChange storeReachesSpec)

/-- ITS FALSE NEIGHBOUR: 'it returns false'. Refute it at one input. -/
def storeReachesWrong : ChangeSpec := { name := "storeReaches", fn := fun _ => fun
  | [d1, d2, d3, d4, d5, d6] => { results := [.lit (.bool false)], args := [d1, d2, d3, d4, d5, d6] }
  | _ => none }
def StoreReachesWrongFalsely : Prop := storeReachesRow.holds Try.pinned (OpenSpec.ofChange storeReachesWrong)

/-- 'ramagelaw15.CzddHalves': WHATEVER THE INPUT: true; the input reads as it did. -/
def czddHalvesSpec : ChangeSpec := { name := "czddHalves", fn := fun _ => fun
  | [d1, d2] => { results := [.lit (.bool true)], args := [d1, d2] }
  | _ => none }
def czddHalvesRow : OpenClaim := { program := "ytnkehgohamjpaaa", sum := "83d0fa6668cdc008f9dfbf68f0b24f8f828c571135dfb4ca10e5072848cc3ac0", func := "ramage/ramagelaw15.CzddHalves", spec := "czddHalves", unfollowed := true, recurses := true, apart := false }
def CzddHalvesSaid : Prop := czddHalvesRow.holds Try.pinned (OpenSpec.ofChange czddHalvesSpec)

/-- ITS FALSE NEIGHBOUR: 'it returns false'. Refute it at one input. -/
def czddHalvesWrong : ChangeSpec := { name := "czddHalves", fn := fun _ => fun
  | [d1, d2] => { results := [.lit (.bool false)], args := [d1, d2] }
  | _ => none }
def CzddHalvesWrongFalsely : Prop := czddHalvesRow.holds Try.pinned (OpenSpec.ofChange czddHalvesWrong)

/-- 'ramagelaw15.CzddRights': WHATEVER THE INPUT: true; the input reads as it did. -/
def czddRightsSpec : ChangeSpec := { name := "czddRights", fn := fun _ => fun
  | [d1, d2, d3, d4] => { results := [.lit (.bool true)], args := [d1, d2, d3, d4] }
  | _ => none }
def czddRightsRow : OpenClaim := { program := "ytnkehgohamjpaaa", sum := "83d0fa6668cdc008f9dfbf68f0b24f8f828c571135dfb4ca10e5072848cc3ac0", func := "ramage/ramagelaw15.CzddRights", spec := "czddRights", unfollowed := true, recurses := true, apart := false }
def CzddRightsSaid : Prop := czddRightsRow.holds Try.pinned (OpenSpec.ofChange czddRightsSpec)

/-- ITS FALSE NEIGHBOUR: 'it returns false'. Refute it at one input. -/
def czddRightsWrong : ChangeSpec := { name := "czddRights", fn := fun _ => fun
  | [d1, d2, d3, d4] => { results := [.lit (.bool false)], args := [d1, d2, d3, d4] }
  | _ => none }
def CzddRightsWrongFalsely : Prop := czddRightsRow.holds Try.pinned (OpenSpec.ofChange czddRightsWrong)

/-- 'ramagelaw14.CbddHalves': WHATEVER THE INPUT: true; the input reads as it did. -/
def cbddHalvesSpec : ChangeSpec := { name := "cbddHalves", fn := fun _ => fun
  | [d1, d2] => { results := [.lit (.bool true)], args := [d1, d2] }
  | _ => none }
def cbddHalvesRow : OpenClaim := { program := "ytnkehgohamjpaaa", sum := "83d0fa6668cdc008f9dfbf68f0b24f8f828c571135dfb4ca10e5072848cc3ac0", func := "ramage/ramagelaw14.CbddHalves", spec := "cbddHalves", unfollowed := true, recurses := true, apart := false }
def CbddHalvesSaid : Prop := cbddHalvesRow.holds Try.pinned (OpenSpec.ofChange cbddHalvesSpec)

/-- ITS FALSE NEIGHBOUR: 'it returns false'. Refute it at one input. -/
def cbddHalvesWrong : ChangeSpec := { name := "cbddHalves", fn := fun _ => fun
  | [d1, d2] => { results := [.lit (.bool false)], args := [d1, d2] }
  | _ => none }
def CbddHalvesWrongFalsely : Prop := cbddHalvesRow.holds Try.pinned (OpenSpec.ofChange cbddHalvesWrong)

/-- 'ramagelaw14.CbddRights': WHATEVER THE INPUT: true; the input reads as it did. -/
def cbddRightsSpec : ChangeSpec := { name := "cbddRights", fn := fun _ => fun
  | [d1, d2, d3, d4] => { results := [.lit (.bool true)], args := [d1, d2, d3, d4] }
  | _ => none }
def cbddRightsRow : OpenClaim := { program := "ytnkehgohamjpaaa", sum := "83d0fa6668cdc008f9dfbf68f0b24f8f828c571135dfb4ca10e5072848cc3ac0", func := "ramage/ramagelaw14.CbddRights", spec := "cbddRights", unfollowed := true, recurses := true, apart := false }
def CbddRightsSaid : Prop := cbddRightsRow.holds Try.pinned (OpenSpec.ofChange cbddRightsSpec)

/-- ITS FALSE NEIGHBOUR: 'it returns false'. Refute it at one input. -/
def cbddRightsWrong : ChangeSpec := { name := "cbddRights", fn := fun _ => fun
  | [d1, d2, d3, d4] => { results := [.lit (.bool false)], args := [d1, d2, d3, d4] }
  | _ => none }
def CbddRightsWrongFalsely : Prop := cbddRightsRow.holds Try.pinned (OpenSpec.ofChange cbddRightsWrong)

/-- 'ramagelaw11.StoreSound': WHATEVER THE INPUT: true; the input reads as it did. -/
def storeSoundSpec : ChangeSpec := { name := "storeSound", fn := fun _ => fun
  | [d1, d2, d3, d4] => { results := [.lit (.bool true)], args := [d1, d2, d3, d4] }
  | _ => none }
def storeSoundRow : OpenClaim := { program := "ytnkehgohamjpaaa", sum := "83d0fa6668cdc008f9dfbf68f0b24f8f828c571135dfb4ca10e5072848cc3ac0", func := "ramage/ramagelaw11.StoreSound", spec := "storeSound", unfollowed := true, recurses := true, apart := false }
def StoreSoundSaid : Prop := storeSoundRow.holds Try.pinned (OpenSpec.ofChange storeSoundSpec)

/-- ITS FALSE NEIGHBOUR: 'it returns false'. Refute it at one input. -/
def storeSoundWrong : ChangeSpec := { name := "storeSound", fn := fun _ => fun
  | [d1, d2, d3, d4] => { results := [.lit (.bool false)], args := [d1, d2, d3, d4] }
  | _ => none }
def StoreSoundWrongFalsely : Prop := storeSoundRow.holds Try.pinned (OpenSpec.ofChange storeSoundWrong)

/-- 'ramagelaw11.StoreNil': WHATEVER THE INPUT: true; the input reads as it did. -/
def storeNilSpec : ChangeSpec := { name := "storeNil", fn := fun _ => fun
  | [d1, d2, d3] => { results := [.lit (.bool true)], args := [d1, d2, d3] }
  | _ => none }
def storeNilRow : OpenClaim := { program := "ytnkehgohamjpaaa", sum := "83d0fa6668cdc008f9dfbf68f0b24f8f828c571135dfb4ca10e5072848cc3ac0", func := "ramage/ramagelaw11.StoreNil", spec := "storeNil", unfollowed := true, recurses := true, apart := false }
def StoreNilSaid : Prop := storeNilRow.holds Try.pinned (OpenSpec.ofChange storeNilSpec)

/-- ITS FALSE NEIGHBOUR: 'it returns false'. Refute it at one input. -/
def storeNilWrong : ChangeSpec := { name := "storeNil", fn := fun _ => fun
  | [d1, d2, d3] => { results := [.lit (.bool false)], args := [d1, d2, d3] }
  | _ => none }
def StoreNilWrongFalsely : Prop := storeNilRow.holds Try.pinned (OpenSpec.ofChange storeNilWrong)

/-- 'ramagelaw17.CanonHolds': WHATEVER THE INPUT: true; the input reads as it did. -/
def canonHoldsSpec : ChangeSpec := { name := "canonHolds", fn := fun _ => fun
  | [d1, d2, d3, d4, d5, d6] => { results := [.lit (.bool true)], args := [d1, d2, d3, d4, d5, d6] }
  | _ => none }
def canonHoldsRow : OpenClaim := { program := "ytnkehgohamjpaaa", sum := "83d0fa6668cdc008f9dfbf68f0b24f8f828c571135dfb4ca10e5072848cc3ac0", func := "ramage/ramagelaw17.CanonHolds", spec := "canonHolds", unfollowed := true, recurses := true, apart := false }
def CanonHoldsSaid : Prop := canonHoldsRow.holds Try.pinned (OpenSpec.ofChange canonHoldsSpec)

/-- ITS FALSE NEIGHBOUR: 'it returns false'. Refute it at one input. -/
def canonHoldsWrong : ChangeSpec := { name := "canonHolds", fn := fun _ => fun
  | [d1, d2, d3, d4, d5, d6] => { results := [.lit (.bool false)], args := [d1, d2, d3, d4, d5, d6] }
  | _ => none }
def CanonHoldsWrongFalsely : Prop := canonHoldsRow.holds Try.pinned (OpenSpec.ofChange canonHoldsWrong)

/- THE SECOND FORM. 'bulk': how many values and letters a reading holds, each counted each time it is reached (what is shared counts as often as it is met; a slice's spare places count too). A statement '..UptoSaid' is the law's where the arguments, and the package variables that the reading takes, are together of bulk at most 1048576: NARROWER than '..Said'. Prove '..Said' where nothing that the law and all that it calls make is longer than what came in: it says more and counts as full. Else prove '..UptoSaid'. A law counts once. -/
mutual
def uptoBulk {H : Type} : DataW H → Nat
  | .lit (.string bytes) => bytes.length + 1
  | .lit _ => 1
  | .nil => 1
  | .ptr d => uptoBulk d + 1
  | .slice elems spare => uptoBulkAll elems + uptoBulkAll spare + 1
  | .agg parts => uptoBulkAll parts + 1
  | .iface _ d => uptoBulk d + 1
  | .map entries => uptoBulkEntries entries + 1
  | .held _ => 1
def uptoBulkAll {H : Type} : List (DataW H) → Nat
  | [] => 0
  | d :: r => uptoBulk d + uptoBulkAll r
def uptoBulkEntries {H : Type} : List (Lit × DataW H) → Nat
  | [] => 0
  | x :: r => uptoBulkEntry x + uptoBulkEntries r
def uptoBulkEntry {H : Type} : Lit × DataW H → Nat
  | (.string bytes, d) => bytes.length + uptoBulk d + 1
  | (_, d) => uptoBulk d + 1
 end
def uptoSmall : (H : Type) → List (DataW H) → Bool := fun _ ds => decide (uptoBulkAll ds ≤ 1048576)
def OpenSpec.upto (s : _root_.Go.ChangeSpec) : _root_.Go.OpenSpec := { _root_.Go.OpenSpec.ofChange s with cond := some uptoSmall }

/-- 'ramagelaw16.TbddHalves', WHERE WHAT IT READS IS OF BULK AT MOST 1048576: true; the input reads as it did. -/
def tbddHalvesUptoRow : OpenClaim := { program := "ytnkehgohamjpaaa", sum := "83d0fa6668cdc008f9dfbf68f0b24f8f828c571135dfb4ca10e5072848cc3ac0", func := "ramage/ramagelaw16.TbddHalves", spec := "tbddHalves", unfollowed := true, recurses := true, apart := false, narrowed := true }
def TbddHalvesUptoSaid : Prop := tbddHalvesUptoRow.holds Try.pinned (OpenSpec.upto tbddHalvesSpec)

/-- 'ramagelaw16.TbddRights', WHERE WHAT IT READS IS OF BULK AT MOST 1048576: true; the input reads as it did. -/
def tbddRightsUptoRow : OpenClaim := { program := "ytnkehgohamjpaaa", sum := "83d0fa6668cdc008f9dfbf68f0b24f8f828c571135dfb4ca10e5072848cc3ac0", func := "ramage/ramagelaw16.TbddRights", spec := "tbddRights", unfollowed := true, recurses := true, apart := false, narrowed := true }
def TbddRightsUptoSaid : Prop := tbddRightsUptoRow.holds Try.pinned (OpenSpec.upto tbddRightsSpec)

/-- 'ramagelaw11.StoreReaches', WHERE WHAT IT READS IS OF BULK AT MOST 1048576: true; the input reads as it did. -/
def storeReachesUptoRow : OpenClaim := { program := "ytnkehgohamjpaaa", sum := "83d0fa6668cdc008f9dfbf68f0b24f8f828c571135dfb4ca10e5072848cc3ac0", func := "ramage/ramagelaw11.StoreReaches", spec := "storeReaches", unfollowed := true, recurses := true, apart := false, narrowed := true }
def StoreReachesUptoSaid : Prop := storeReachesUptoRow.holds Try.pinned (OpenSpec.upto storeReachesSpec)

/-- 'ramagelaw15.CzddHalves', WHERE WHAT IT READS IS OF BULK AT MOST 1048576: true; the input reads as it did. -/
def czddHalvesUptoRow : OpenClaim := { program := "ytnkehgohamjpaaa", sum := "83d0fa6668cdc008f9dfbf68f0b24f8f828c571135dfb4ca10e5072848cc3ac0", func := "ramage/ramagelaw15.CzddHalves", spec := "czddHalves", unfollowed := true, recurses := true, apart := false, narrowed := true }
def CzddHalvesUptoSaid : Prop := czddHalvesUptoRow.holds Try.pinned (OpenSpec.upto czddHalvesSpec)

/-- 'ramagelaw15.CzddRights', WHERE WHAT IT READS IS OF BULK AT MOST 1048576: true; the input reads as it did. -/
def czddRightsUptoRow : OpenClaim := { program := "ytnkehgohamjpaaa", sum := "83d0fa6668cdc008f9dfbf68f0b24f8f828c571135dfb4ca10e5072848cc3ac0", func := "ramage/ramagelaw15.CzddRights", spec := "czddRights", unfollowed := true, recurses := true, apart := false, narrowed := true }
def CzddRightsUptoSaid : Prop := czddRightsUptoRow.holds Try.pinned (OpenSpec.upto czddRightsSpec)

/-- 'ramagelaw14.CbddHalves', WHERE WHAT IT READS IS OF BULK AT MOST 1048576: true; the input reads as it did. -/
def cbddHalvesUptoRow : OpenClaim := { program := "ytnkehgohamjpaaa", sum := "83d0fa6668cdc008f9dfbf68f0b24f8f828c571135dfb4ca10e5072848cc3ac0", func := "ramage/ramagelaw14.CbddHalves", spec := "cbddHalves", unfollowed := true, recurses := true, apart := false, narrowed := true }
def CbddHalvesUptoSaid : Prop := cbddHalvesUptoRow.holds Try.pinned (OpenSpec.upto cbddHalvesSpec)

/-- 'ramagelaw14.CbddRights', WHERE WHAT IT READS IS OF BULK AT MOST 1048576: true; the input reads as it did. -/
def cbddRightsUptoRow : OpenClaim := { program := "ytnkehgohamjpaaa", sum := "83d0fa6668cdc008f9dfbf68f0b24f8f828c571135dfb4ca10e5072848cc3ac0", func := "ramage/ramagelaw14.CbddRights", spec := "cbddRights", unfollowed := true, recurses := true, apart := false, narrowed := true }
def CbddRightsUptoSaid : Prop := cbddRightsUptoRow.holds Try.pinned (OpenSpec.upto cbddRightsSpec)

/-- 'ramagelaw11.StoreSound', WHERE WHAT IT READS IS OF BULK AT MOST 1048576: true; the input reads as it did. -/
def storeSoundUptoRow : OpenClaim := { program := "ytnkehgohamjpaaa", sum := "83d0fa6668cdc008f9dfbf68f0b24f8f828c571135dfb4ca10e5072848cc3ac0", func := "ramage/ramagelaw11.StoreSound", spec := "storeSound", unfollowed := true, recurses := true, apart := false, narrowed := true }
def StoreSoundUptoSaid : Prop := storeSoundUptoRow.holds Try.pinned (OpenSpec.upto storeSoundSpec)

/-- 'ramagelaw11.StoreNil', WHERE WHAT IT READS IS OF BULK AT MOST 1048576: true; the input reads as it did. -/
def storeNilUptoRow : OpenClaim := { program := "ytnkehgohamjpaaa", sum := "83d0fa6668cdc008f9dfbf68f0b24f8f828c571135dfb4ca10e5072848cc3ac0", func := "ramage/ramagelaw11.StoreNil", spec := "storeNil", unfollowed := true, recurses := true, apart := false, narrowed := true }
def StoreNilUptoSaid : Prop := storeNilUptoRow.holds Try.pinned (OpenSpec.upto storeNilSpec)

/-- 'ramagelaw17.CanonHolds', WHERE WHAT IT READS IS OF BULK AT MOST 1048576: true; the input reads as it did. -/
def canonHoldsUptoRow : OpenClaim := { program := "ytnkehgohamjpaaa", sum := "83d0fa6668cdc008f9dfbf68f0b24f8f828c571135dfb4ca10e5072848cc3ac0", func := "ramage/ramagelaw17.CanonHolds", spec := "canonHolds", unfollowed := true, recurses := true, apart := false, narrowed := true }
def CanonHoldsUptoSaid : Prop := canonHoldsUptoRow.holds Try.pinned (OpenSpec.upto canonHoldsSpec)

end Rows
end Go.Proofs.Ytnkehgohamjpaaa
