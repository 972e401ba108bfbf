/-
  No cell of these rows narrows 'for every input' (looked for: loops, veiled, ifaces, maps, wideKeys, modest, calm, conditions, laid).
  DERIVED. THE GIVEN ROWS OF THIS SEAT. 11 by the template 'for every input the law returns true; each argument reads behind the call as it read before'; 0 by the template 'total and deterministic' (their statements: YtimffidpbcflaaaTotals.lean).
  GIVEN WITH THE SEED: the statements are not yours to turn. If you find one false, say at which input.
  Laid BY PROGRAM, IN A SANDBOX (cutbox-rows.mjs): the forced cells as the released guide's own fill.sh prints them over the translation 8bb7d9edee2df68a… (all of the seat's roots in one cut). By AI agents, Wed Nov 11 2026. No macro, syntax, notation, axiom, sorry.
-/
import Derived.Test.YtimffidpbcflaaaChecked
import GoSem.Claim
import GoSem.ClaimJoined
import GoSem.ClaimMapViews
import Derived.JoinedTies
import Derived.KernelRfl
namespace Go.Proofs.Ytimffidpbcflaaa
/- THE CELL 'sum', in the pinned program and in every row, IS THE sha256 OF THE DUMP (.gsa) THAT YtimffidpbcflaaaProg.lean LOADS. Nothing in Lean hashes anything: it is a label: what it is worth is what the hold of that sum in a sandbox is worth. -/
noncomputable def Try.pinned : Pinned := { name := "ytimffidpbcflaaa", sum := "8bb7d9edee2df68a3ea048c990d67d62d83253a8a7f108e4b7d38a9bbdf2db6f", checked := Try.checked }
namespace Rows
def none {H : Type} : Left H := { results := [], args := [] }

/-- 'ramagelaw16.TbddRights': WHATEVER THE INPUT: true; the input reads as it did. -/
def tbddRightsSpec : ChangeSpec := { name := "tbddRights", fn := fun _ => fun
  | [d1, d2, d3, d4] => { results := [.lit (.bool true)], args := [d1, d2, d3, d4] }
  | _ => none }
def tbddRightsRow : OpenClaim := { program := "ytimffidpbcflaaa", sum := "8bb7d9edee2df68a3ea048c990d67d62d83253a8a7f108e4b7d38a9bbdf2db6f", func := "ramage/ramagelaw16.TbddRights", spec := "tbddRights", unfollowed := true, recurses := true, apart := false }
def TbddRightsSaid : Prop := tbddRightsRow.holds Try.pinned (OpenSpec.ofChange tbddRightsSpec)

/-- ITS FALSE NEIGHBOUR: 'it returns false'. Refute it at one input. -/
def tbddRightsWrong : ChangeSpec := { name := "tbddRights", fn := fun _ => fun
  | [d1, d2, d3, d4] => { results := [.lit (.bool false)], args := [d1, d2, d3, d4] }
  | _ => none }
def TbddRightsWrongFalsely : Prop := tbddRightsRow.holds Try.pinned (OpenSpec.ofChange tbddRightsWrong)

/-- 'ramagelaw16.TbddNil': WHATEVER THE INPUT: true; the input reads as it did. -/
def tbddNilSpec : ChangeSpec := { name := "tbddNil", fn := fun _ => fun
  | [d1, d2, d3] => { results := [.lit (.bool true)], args := [d1, d2, d3] }
  | _ => none }
def tbddNilRow : OpenClaim := { program := "ytimffidpbcflaaa", sum := "8bb7d9edee2df68a3ea048c990d67d62d83253a8a7f108e4b7d38a9bbdf2db6f", func := "ramage/ramagelaw16.TbddNil", spec := "tbddNil", unfollowed := true, recurses := true, apart := false }
def TbddNilSaid : Prop := tbddNilRow.holds Try.pinned (OpenSpec.ofChange tbddNilSpec)

/-- ITS FALSE NEIGHBOUR: 'it returns false'. Refute it at one input. -/
def tbddNilWrong : ChangeSpec := { name := "tbddNil", fn := fun _ => fun
  | [d1, d2, d3] => { results := [.lit (.bool false)], args := [d1, d2, d3] }
  | _ => none }
def TbddNilWrongFalsely : Prop := tbddNilRow.holds Try.pinned (OpenSpec.ofChange tbddNilWrong)

/-- 'ramagelaw11.StoreReaches': WHATEVER THE INPUT: true; the input reads as it did. -/
def storeReachesSpec : ChangeSpec := { name := "storeReaches", fn := fun _ => fun
  | [d1, d2, d3, d4, d5, d6] => { results := [.lit (.bool true)], args := [d1, d2, d3, d4, d5, d6] }
  | _ => none }
def storeReachesRow : OpenClaim := { program := "ytimffidpbcflaaa", sum := "8bb7d9edee2df68a3ea048c990d67d62d83253a8a7f108e4b7d38a9bbdf2db6f", func := "ramage/ramagelaw11.StoreReaches", spec := "storeReaches", unfollowed := true, recurses := true, apart := false }
def StoreReachesSaid : Prop := storeReachesRow.holds Try.pinned (OpenSpec.ofChange storeReachesSpec)

/-- ITS FALSE NEIGHBOUR: 'it returns false'. Refute it at one input. -/
def storeReachesWrong : ChangeSpec := { name := "storeReaches", fn := fun _ => fun
  | [d1, d2, d3, d4, d5, d6] => { results := [.lit (.bool false)], args := [d1, d2, d3, d4, d5, d6] }
  | _ => none }
def StoreReachesWrongFalsely : Prop := storeReachesRow.holds Try.pinned (OpenSpec.ofChange storeReachesWrong)

/-- 'ramagelaw15.CzddRights': WHATEVER THE INPUT: true; the input reads as it did. -/
def czddRightsSpec : ChangeSpec := { name := "czddRights", fn := fun _ => fun
  | [d1, d2, d3, d4] => { results := [.lit (.bool true)], args := [d1, d2, d3, d4] }
  | _ => none }
def czddRightsRow : OpenClaim := { program := "ytimffidpbcflaaa", sum := "8bb7d9edee2df68a3ea048c990d67d62d83253a8a7f108e4b7d38a9bbdf2db6f", func := "ramage/ramagelaw15.CzddRights", spec := "czddRights", unfollowed := true, recurses := true, apart := false }
def CzddRightsSaid : Prop := czddRightsRow.holds Try.pinned (OpenSpec.ofChange czddRightsSpec)

/-- ITS FALSE NEIGHBOUR: 'it returns false'. Refute it at one input. -/
def czddRightsWrong : ChangeSpec := { name := "czddRights", fn := fun _ => fun
  | [d1, d2, d3, d4] => { results := [.lit (.bool false)], args := [d1, d2, d3, d4] }
  | _ => none }
def CzddRightsWrongFalsely : Prop := czddRightsRow.holds Try.pinned (OpenSpec.ofChange czddRightsWrong)

/-- 'ramagelaw15.CzddNil': WHATEVER THE INPUT: true; the input reads as it did. -/
def czddNilSpec : ChangeSpec := { name := "czddNil", fn := fun _ => fun
  | [d1, d2, d3] => { results := [.lit (.bool true)], args := [d1, d2, d3] }
  | _ => none }
def czddNilRow : OpenClaim := { program := "ytimffidpbcflaaa", sum := "8bb7d9edee2df68a3ea048c990d67d62d83253a8a7f108e4b7d38a9bbdf2db6f", func := "ramage/ramagelaw15.CzddNil", spec := "czddNil", unfollowed := true, recurses := true, apart := false }
def CzddNilSaid : Prop := czddNilRow.holds Try.pinned (OpenSpec.ofChange czddNilSpec)

/-- ITS FALSE NEIGHBOUR: 'it returns false'. Refute it at one input. -/
def czddNilWrong : ChangeSpec := { name := "czddNil", fn := fun _ => fun
  | [d1, d2, d3] => { results := [.lit (.bool false)], args := [d1, d2, d3] }
  | _ => none }
def CzddNilWrongFalsely : Prop := czddNilRow.holds Try.pinned (OpenSpec.ofChange czddNilWrong)

/-- 'ramagelaw14.CbddRights': WHATEVER THE INPUT: true; the input reads as it did. -/
def cbddRightsSpec : ChangeSpec := { name := "cbddRights", fn := fun _ => fun
  | [d1, d2, d3, d4] => { results := [.lit (.bool true)], args := [d1, d2, d3, d4] }
  | _ => none }
def cbddRightsRow : OpenClaim := { program := "ytimffidpbcflaaa", sum := "8bb7d9edee2df68a3ea048c990d67d62d83253a8a7f108e4b7d38a9bbdf2db6f", func := "ramage/ramagelaw14.CbddRights", spec := "cbddRights", unfollowed := true, recurses := true, apart := false }
def CbddRightsSaid : Prop := cbddRightsRow.holds Try.pinned (OpenSpec.ofChange cbddRightsSpec)

/-- ITS FALSE NEIGHBOUR: 'it returns false'. Refute it at one input. -/
def cbddRightsWrong : ChangeSpec := { name := "cbddRights", fn := fun _ => fun
  | [d1, d2, d3, d4] => { results := [.lit (.bool false)], args := [d1, d2, d3, d4] }
  | _ => none }
def CbddRightsWrongFalsely : Prop := cbddRightsRow.holds Try.pinned (OpenSpec.ofChange cbddRightsWrong)

/-- 'ramagelaw14.CbddNil': WHATEVER THE INPUT: true; the input reads as it did. -/
def cbddNilSpec : ChangeSpec := { name := "cbddNil", fn := fun _ => fun
  | [d1, d2, d3] => { results := [.lit (.bool true)], args := [d1, d2, d3] }
  | _ => none }
def cbddNilRow : OpenClaim := { program := "ytimffidpbcflaaa", sum := "8bb7d9edee2df68a3ea048c990d67d62d83253a8a7f108e4b7d38a9bbdf2db6f", func := "ramage/ramagelaw14.CbddNil", spec := "cbddNil", unfollowed := true, recurses := true, apart := false }
def CbddNilSaid : Prop := cbddNilRow.holds Try.pinned (OpenSpec.ofChange cbddNilSpec)

/-- ITS FALSE NEIGHBOUR: 'it returns false'. Refute it at one input. -/
def cbddNilWrong : ChangeSpec := { name := "cbddNil", fn := fun _ => fun
  | [d1, d2, d3] => { results := [.lit (.bool false)], args := [d1, d2, d3] }
  | _ => none }
def CbddNilWrongFalsely : Prop := cbddNilRow.holds Try.pinned (OpenSpec.ofChange cbddNilWrong)

/-- 'ramagelaw11.StoreSound': WHATEVER THE INPUT: true; the input reads as it did. -/
def storeSoundSpec : ChangeSpec := { name := "storeSound", fn := fun _ => fun
  | [d1, d2, d3, d4] => { results := [.lit (.bool true)], args := [d1, d2, d3, d4] }
  | _ => none }
def storeSoundRow : OpenClaim := { program := "ytimffidpbcflaaa", sum := "8bb7d9edee2df68a3ea048c990d67d62d83253a8a7f108e4b7d38a9bbdf2db6f", func := "ramage/ramagelaw11.StoreSound", spec := "storeSound", unfollowed := true, recurses := true, apart := false }
def StoreSoundSaid : Prop := storeSoundRow.holds Try.pinned (OpenSpec.ofChange storeSoundSpec)

/-- ITS FALSE NEIGHBOUR: 'it returns false'. Refute it at one input. -/
def storeSoundWrong : ChangeSpec := { name := "storeSound", fn := fun _ => fun
  | [d1, d2, d3, d4] => { results := [.lit (.bool false)], args := [d1, d2, d3, d4] }
  | _ => none }
def StoreSoundWrongFalsely : Prop := storeSoundRow.holds Try.pinned (OpenSpec.ofChange storeSoundWrong)

/-- 'ramagelaw11.StoreNil': WHATEVER THE INPUT: true; the input reads as it did. -/
def storeNilSpec : ChangeSpec := { name := "storeNil", fn := fun _ => fun
  | [d1, d2, d3] => { results := [.lit (.bool true)], args := [d1, d2, d3] }
  | _ => none }
def storeNilRow : OpenClaim := { program := "ytimffidpbcflaaa", sum := "8bb7d9edee2df68a3ea048c990d67d62d83253a8a7f108e4b7d38a9bbdf2db6f", func := "ramage/ramagelaw11.StoreNil", spec := "storeNil", unfollowed := true, recurses := true, apart := false }
def StoreNilSaid : Prop := storeNilRow.holds Try.pinned (OpenSpec.ofChange storeNilSpec)

/-- ITS FALSE NEIGHBOUR: 'it returns false'. Refute it at one input. -/
def storeNilWrong : ChangeSpec := { name := "storeNil", fn := fun _ => fun
  | [d1, d2, d3] => { results := [.lit (.bool false)], args := [d1, d2, d3] }
  | _ => none }
def StoreNilWrongFalsely : Prop := storeNilRow.holds Try.pinned (OpenSpec.ofChange storeNilWrong)

/-- 'ramagelaw17.CanonHolds': WHATEVER THE INPUT: true; the input reads as it did. -/
def canonHoldsSpec : ChangeSpec := { name := "canonHolds", fn := fun _ => fun
  | [d1, d2, d3, d4, d5, d6] => { results := [.lit (.bool true)], args := [d1, d2, d3, d4, d5, d6] }
  | _ => none }
def canonHoldsRow : OpenClaim := { program := "ytimffidpbcflaaa", sum := "8bb7d9edee2df68a3ea048c990d67d62d83253a8a7f108e4b7d38a9bbdf2db6f", func := "ramage/ramagelaw17.CanonHolds", spec := "canonHolds", unfollowed := true, recurses := true, apart := false }
def CanonHoldsSaid : Prop := canonHoldsRow.holds Try.pinned (OpenSpec.ofChange canonHoldsSpec)

/-- ITS FALSE NEIGHBOUR: 'it returns false'. Refute it at one input. -/
def canonHoldsWrong : ChangeSpec := { name := "canonHolds", fn := fun _ => fun
  | [d1, d2, d3, d4, d5, d6] => { results := [.lit (.bool false)], args := [d1, d2, d3, d4, d5, d6] }
  | _ => none }
def CanonHoldsWrongFalsely : Prop := canonHoldsRow.holds Try.pinned (OpenSpec.ofChange canonHoldsWrong)

/-- 'ramagelaw17.CanonNil': WHATEVER THE INPUT: true; the input reads as it did. -/
def canonNilSpec : ChangeSpec := { name := "canonNil", fn := fun _ => fun
  | [d1, d2, d3, d4, d5] => { results := [.lit (.bool true)], args := [d1, d2, d3, d4, d5] }
  | _ => none }
def canonNilRow : OpenClaim := { program := "ytimffidpbcflaaa", sum := "8bb7d9edee2df68a3ea048c990d67d62d83253a8a7f108e4b7d38a9bbdf2db6f", func := "ramage/ramagelaw17.CanonNil", spec := "canonNil", unfollowed := true, recurses := true, apart := false }
def CanonNilSaid : Prop := canonNilRow.holds Try.pinned (OpenSpec.ofChange canonNilSpec)

/-- ITS FALSE NEIGHBOUR: 'it returns false'. Refute it at one input. -/
def canonNilWrong : ChangeSpec := { name := "canonNil", fn := fun _ => fun
  | [d1, d2, d3, d4, d5] => { results := [.lit (.bool false)], args := [d1, d2, d3, d4, d5] }
  | _ => none }
def CanonNilWrongFalsely : Prop := canonNilRow.holds Try.pinned (OpenSpec.ofChange canonNilWrong)

/- THE SECOND FORM. 'bulk': how many values and letters a reading holds, each counted each time it is reached (what is shared counts as often as it is met; a slice's spare places count too). A statement '..UptoSaid' is the law's where the arguments, and the package variables that the reading takes, are together of bulk at most 1048576: NARROWER than '..Said'. Prove '..Said' where nothing that the law and all that it calls make is longer than what came in: it says more and counts as full. Else prove '..UptoSaid'. A law counts once. -/
mutual
def uptoBulk {H : Type} : DataW H → Nat
  | .lit (.string bytes) => bytes.length + 1
  | .lit _ => 1
  | .nil => 1
  | .ptr d => uptoBulk d + 1
  | .slice elems spare => uptoBulkAll elems + uptoBulkAll spare + 1
  | .agg parts => uptoBulkAll parts + 1
  | .iface _ d => uptoBulk d + 1
  | .map entries => uptoBulkEntries entries + 1
  | .held _ => 1
def uptoBulkAll {H : Type} : List (DataW H) → Nat
  | [] => 0
  | d :: r => uptoBulk d + uptoBulkAll r
def uptoBulkEntries {H : Type} : List (Lit × DataW H) → Nat
  | [] => 0
  | x :: r => uptoBulkEntry x + uptoBulkEntries r
def uptoBulkEntry {H : Type} : Lit × DataW H → Nat
  | (.string bytes, d) => bytes.length + uptoBulk d + 1
  | (_, d) => uptoBulk d + 1
 end
def uptoSmall : (H : Type) → List (DataW H) → Bool := fun _ ds => decide (uptoBulkAll ds ≤ 1048576)
def OpenSpec.upto (s : _root_.Go.ChangeSpec) : _root_.Go.OpenSpec := { _root_.Go.OpenSpec.ofChange s with cond := some uptoSmall }

/-- 'ramagelaw16.TbddRights', WHERE WHAT IT READS IS OF BULK AT MOST 1048576: true; the input reads as it did. -/
def tbddRightsUptoRow : OpenClaim := { program := "ytimffidpbcflaaa", sum := "8bb7d9edee2df68a3ea048c990d67d62d83253a8a7f108e4b7d38a9bbdf2db6f", func := "ramage/ramagelaw16.TbddRights", spec := "tbddRights", unfollowed := true, recurses := true, apart := false, narrowed := true }
def TbddRightsUptoSaid : Prop := tbddRightsUptoRow.holds Try.pinned (OpenSpec.upto tbddRightsSpec)

/-- 'ramagelaw16.TbddNil', WHERE WHAT IT READS IS OF BULK AT MOST 1048576: true; the input reads as it did. -/
def tbddNilUptoRow : OpenClaim := { program := "ytimffidpbcflaaa", sum := "8bb7d9edee2df68a3ea048c990d67d62d83253a8a7f108e4b7d38a9bbdf2db6f", func := "ramage/ramagelaw16.TbddNil", spec := "tbddNil", unfollowed := true, recurses := true, apart := false, narrowed := true }
def TbddNilUptoSaid : Prop := tbddNilUptoRow.holds Try.pinned (OpenSpec.upto tbddNilSpec)

/-- 'ramagelaw11.StoreReaches', WHERE WHAT IT READS IS OF BULK AT MOST 1048576: true; the input reads as it did. -/
def storeReachesUptoRow : OpenClaim := { program := "ytimffidpbcflaaa", sum := "8bb7d9edee2df68a3ea048c990d67d62d83253a8a7f108e4b7d38a9bbdf2db6f", func := "ramage/ramagelaw11.StoreReaches", spec := "storeReaches", unfollowed := true, recurses := true, apart := false, narrowed := true }
def StoreReachesUptoSaid : Prop := storeReachesUptoRow.holds Try.pinned (OpenSpec.upto storeReachesSpec)

/-- 'ramagelaw15.CzddRights', WHERE WHAT IT READS IS OF BULK AT MOST 1048576: true; the input reads as it did. -/
def czddRightsUptoRow : OpenClaim := { program := "ytimffidpbcflaaa", sum := "8bb7d9edee2df68a3ea048c990d67d62d83253a8a7f108e4b7d38a9bbdf2db6f", func := "ramage/ramagelaw15.CzddRights", spec := "czddRights", unfollowed := true, recurses := true, apart := false, narrowed := true }
def CzddRightsUptoSaid : Prop := czddRightsUptoRow.holds Try.pinned (OpenSpec.upto czddRightsSpec)

/-- 'ramagelaw15.CzddNil', WHERE WHAT IT READS IS OF BULK AT MOST 1048576: true; the input reads as it did. -/
def czddNilUptoRow : OpenClaim := { program := "ytimffidpbcflaaa", sum := "8bb7d9edee2df68a3ea048c990d67d62d83253a8a7f108e4b7d38a9bbdf2db6f", func := "ramage/ramagelaw15.CzddNil", spec := "czddNil", unfollowed := true, recurses := true, apart := false, narrowed := true }
def CzddNilUptoSaid : Prop := czddNilUptoRow.holds Try.pinned (OpenSpec.upto czddNilSpec)

/-- 'ramagelaw14.CbddRights', WHERE WHAT IT READS IS OF BULK AT MOST 1048576: true; the input reads as it did. -/
def cbddRightsUptoRow : OpenClaim := { program := "ytimffidpbcflaaa", sum := "8bb7d9edee2df68a3ea048c990d67d62d83253a8a7f108e4b7d38a9bbdf2db6f", func := "ramage/ramagelaw14.CbddRights", spec := "cbddRights", unfollowed := true, recurses := true, apart := false, narrowed := true }
def CbddRightsUptoSaid : Prop := cbddRightsUptoRow.holds Try.pinned (OpenSpec.upto cbddRightsSpec)

/-- 'ramagelaw14.CbddNil', WHERE WHAT IT READS IS OF BULK AT MOST 1048576: true; the input reads as it did. -/
def cbddNilUptoRow : OpenClaim := { program := "ytimffidpbcflaaa", sum := "8bb7d9edee2df68a3ea048c990d67d62d83253a8a7f108e4b7d38a9bbdf2db6f", func := "ramage/ramagelaw14.CbddNil", spec := "cbddNil", unfollowed := true, recurses := true, apart := false, narrowed := true }
def CbddNilUptoSaid : Prop := cbddNilUptoRow.holds Try.pinned (OpenSpec.upto cbddNilSpec)

/-- 'ramagelaw11.StoreSound', WHERE WHAT IT READS IS OF BULK AT MOST 1048576: true; the input reads as it did. -/
def storeSoundUptoRow : OpenClaim := { program := "ytimffidpbcflaaa", sum := "8bb7d9edee2df68a3ea048c990d67d62d83253a8a7f108e4b7d38a9bbdf2db6f", func := "ramage/ramagelaw11.StoreSound", spec := "storeSound", unfollowed := true, recurses := true, apart := false, narrowed := true }
def StoreSoundUptoSaid : Prop := storeSoundUptoRow.holds Try.pinned (OpenSpec.upto storeSoundSpec)

/-- 'ramagelaw11.StoreNil', WHERE WHAT IT READS IS OF BULK AT MOST 1048576: true; the input reads as it did. -/
def storeNilUptoRow : OpenClaim := { program := "ytimffidpbcflaaa", sum := "8bb7d9edee2df68a3ea048c990d67d62d83253a8a7f108e4b7d38a9bbdf2db6f", func := "ramage/ramagelaw11.StoreNil", spec := "storeNil", unfollowed := true, recurses := true, apart := false, narrowed := true }
def StoreNilUptoSaid : Prop := storeNilUptoRow.holds Try.pinned (OpenSpec.upto storeNilSpec)

/-- 'ramagelaw17.CanonHolds', WHERE WHAT IT READS IS OF BULK AT MOST 1048576: true; the input reads as it did. -/
def canonHoldsUptoRow : OpenClaim := { program := "ytimffidpbcflaaa", sum := "8bb7d9edee2df68a3ea048c990d67d62d83253a8a7f108e4b7d38a9bbdf2db6f", func := "ramage/ramagelaw17.CanonHolds", spec := "canonHolds", unfollowed := true, recurses := true, apart := false, narrowed := true }
def CanonHoldsUptoSaid : Prop := canonHoldsUptoRow.holds Try.pinned (OpenSpec.upto canonHoldsSpec)

/-- 'ramagelaw17.CanonNil', WHERE WHAT IT READS IS OF BULK AT MOST 1048576: true; the input reads as it did. -/
def canonNilUptoRow : OpenClaim := { program := "ytimffidpbcflaaa", sum := "8bb7d9edee2df68a3ea048c990d67d62d83253a8a7f108e4b7d38a9bbdf2db6f", func := "ramage/ramagelaw17.CanonNil", spec := "canonNil", unfollowed := true, recurses := true, apart := false, narrowed := true }
def CanonNilUptoSaid : Prop := canonNilUptoRow.holds Try.pinned (OpenSpec.upto canonNilSpec)

end Rows
end Go.Proofs.Ytimffidpbcflaaa
