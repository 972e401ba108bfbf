/-
  No cell of these rows narrows 'for every input' (looked for: loops, veiled, ifaces, maps, wideKeys, modest, calm, conditions, laid).
  DERIVED. THE GIVEN ROWS OF THIS SEAT. 11 by the template 'for every input the law returns true; each argument reads behind the call as it read before'; 0 by the template 'total and deterministic' (their statements: YtacanmmkhbdmlaaTotals.lean).
  GIVEN WITH THE SEED: the statements are not yours to turn. If you find one false, say at which input.
  Laid BY PROGRAM, IN A SANDBOX (cutbox-rows.mjs): the forced cells as the released guide's own fill.sh prints them over the translation b322e22cef1931b4… (all of the seat's roots in one cut). By AI agents, Wed Nov 11 2026. No macro, syntax, notation, axiom, sorry.
-/
import Derived.Test.YtacanmmkhbdmlaaChecked
import GoSem.Claim
import GoSem.ClaimJoined
import GoSem.ClaimMapViews
import Derived.JoinedTies
import Derived.KernelRfl
namespace Go.Proofs.Ytacanmmkhbdmlaa
/- THE CELL 'sum', in the pinned program and in every row, IS THE sha256 OF THE DUMP (.gsa) THAT YtacanmmkhbdmlaaProg.lean LOADS. Nothing in Lean hashes anything: it is a label: what it is worth is what the hold of that sum in a sandbox is worth. -/
noncomputable def Try.pinned : Pinned := { name := "ytacanmmkhbdmlaa", sum := "b322e22cef1931b4dceac4c2f1ae3280e1fa35cda9213f0138de8e8039d23051", checked := Try.checked }
namespace Rows
def none {H : Type} : Left H := { results := [], args := [] }

/-- 'ramagelaw16.TbddFits': WHATEVER THE INPUT: true; the input reads as it did. -/
def tbddFitsSpec : ChangeSpec := { name := "tbddFits", fn := fun _ => fun
  | [d1, d2, d3] => { results := [.lit (.bool true)], args := [d1, d2, d3] }
  | _ => none }
def tbddFitsRow : OpenClaim := { program := "ytacanmmkhbdmlaa", sum := "b322e22cef1931b4dceac4c2f1ae3280e1fa35cda9213f0138de8e8039d23051", func := "ramage/ramagelaw16.TbddFits", spec := "tbddFits", unfollowed := true, recurses := true, apart := false }
def TbddFitsSaid : Prop := tbddFitsRow.holds Try.pinned (OpenSpec.ofChange tbddFitsSpec)

/-- ITS FALSE NEIGHBOUR: 'it returns false'. Refute it at one input. -/
def tbddFitsWrong : ChangeSpec := { name := "tbddFits", fn := fun _ => fun
  | [d1, d2, d3] => { results := [.lit (.bool false)], args := [d1, d2, d3] }
  | _ => none }
def TbddFitsWrongFalsely : Prop := tbddFitsRow.holds Try.pinned (OpenSpec.ofChange tbddFitsWrong)

/-- 'ramagelaw11.StorePlays': WHATEVER THE INPUT: true; the input reads as it did. -/
def storePlaysSpec : ChangeSpec := { name := "storePlays", fn := fun _ => fun
  | [d1, d2, d3] => { results := [.lit (.bool true)], args := [d1, d2, d3] }
  | _ => none }
def storePlaysRow : OpenClaim := { program := "ytacanmmkhbdmlaa", sum := "b322e22cef1931b4dceac4c2f1ae3280e1fa35cda9213f0138de8e8039d23051", func := "ramage/ramagelaw11.StorePlays", spec := "storePlays", unfollowed := true, recurses := true, apart := false }
def StorePlaysSaid : Prop := storePlaysRow.holds Try.pinned (OpenSpec.ofChange storePlaysSpec)

/-- ITS FALSE NEIGHBOUR: 'it returns false'. Refute it at one input. -/
def storePlaysWrong : ChangeSpec := { name := "storePlays", fn := fun _ => fun
  | [d1, d2, d3] => { results := [.lit (.bool false)], args := [d1, d2, d3] }
  | _ => none }
def StorePlaysWrongFalsely : Prop := storePlaysRow.holds Try.pinned (OpenSpec.ofChange storePlaysWrong)

/-- 'ramagelaw15.CzddSwept': WHATEVER THE INPUT: true; the input reads as it did. -/
def czddSweptSpec : ChangeSpec := { name := "czddSwept", fn := fun _ => fun
  | [d1, d2, d3] => { results := [.lit (.bool true)], args := [d1, d2, d3] }
  | _ => none }
def czddSweptRow : OpenClaim := { program := "ytacanmmkhbdmlaa", sum := "b322e22cef1931b4dceac4c2f1ae3280e1fa35cda9213f0138de8e8039d23051", func := "ramage/ramagelaw15.CzddSwept", spec := "czddSwept", unfollowed := true, recurses := true, apart := false }
def CzddSweptSaid : Prop := czddSweptRow.holds Try.pinned (OpenSpec.ofChange czddSweptSpec)

/-- ITS FALSE NEIGHBOUR: 'it returns false'. Refute it at one input. -/
def czddSweptWrong : ChangeSpec := { name := "czddSwept", fn := fun _ => fun
  | [d1, d2, d3] => { results := [.lit (.bool false)], args := [d1, d2, d3] }
  | _ => none }
def CzddSweptWrongFalsely : Prop := czddSweptRow.holds Try.pinned (OpenSpec.ofChange czddSweptWrong)

/-- 'ramagelaw14.CbddSwept': WHATEVER THE INPUT: true; the input reads as it did. -/
def cbddSweptSpec : ChangeSpec := { name := "cbddSwept", fn := fun _ => fun
  | [d1, d2, d3] => { results := [.lit (.bool true)], args := [d1, d2, d3] }
  | _ => none }
def cbddSweptRow : OpenClaim := { program := "ytacanmmkhbdmlaa", sum := "b322e22cef1931b4dceac4c2f1ae3280e1fa35cda9213f0138de8e8039d23051", func := "ramage/ramagelaw14.CbddSwept", spec := "cbddSwept", unfollowed := true, recurses := true, apart := false }
def CbddSweptSaid : Prop := cbddSweptRow.holds Try.pinned (OpenSpec.ofChange cbddSweptSpec)

/-- ITS FALSE NEIGHBOUR: 'it returns false'. Refute it at one input. -/
def cbddSweptWrong : ChangeSpec := { name := "cbddSwept", fn := fun _ => fun
  | [d1, d2, d3] => { results := [.lit (.bool false)], args := [d1, d2, d3] }
  | _ => none }
def CbddSweptWrongFalsely : Prop := cbddSweptRow.holds Try.pinned (OpenSpec.ofChange cbddSweptWrong)

/-- 'ramagelaw17.CanonBeside': WHATEVER THE INPUT: true; the input reads as it did. -/
def canonBesideSpec : ChangeSpec := { name := "canonBeside", fn := fun _ => fun
  | [d1, d2, d3] => { results := [.lit (.bool true)], args := [d1, d2, d3] }
  | _ => none }
def canonBesideRow : OpenClaim := { program := "ytacanmmkhbdmlaa", sum := "b322e22cef1931b4dceac4c2f1ae3280e1fa35cda9213f0138de8e8039d23051", func := "ramage/ramagelaw17.CanonBeside", spec := "canonBeside", unfollowed := true, recurses := true, apart := false }
def CanonBesideSaid : Prop := canonBesideRow.holds Try.pinned (OpenSpec.ofChange canonBesideSpec)

/-- ITS FALSE NEIGHBOUR: 'it returns false'. Refute it at one input. -/
def canonBesideWrong : ChangeSpec := { name := "canonBeside", fn := fun _ => fun
  | [d1, d2, d3] => { results := [.lit (.bool false)], args := [d1, d2, d3] }
  | _ => none }
def CanonBesideWrongFalsely : Prop := canonBesideRow.holds Try.pinned (OpenSpec.ofChange canonBesideWrong)

/-- 'ramagelaw16.TbddTerms': WHATEVER THE INPUT: true; the input reads as it did. -/
def tbddTermsSpec : ChangeSpec := { name := "tbddTerms", fn := fun _ => fun
  | [d1, d2, d3] => { results := [.lit (.bool true)], args := [d1, d2, d3] }
  | _ => none }
def tbddTermsRow : OpenClaim := { program := "ytacanmmkhbdmlaa", sum := "b322e22cef1931b4dceac4c2f1ae3280e1fa35cda9213f0138de8e8039d23051", func := "ramage/ramagelaw16.TbddTerms", spec := "tbddTerms", unfollowed := true, recurses := true, apart := false }
def TbddTermsSaid : Prop := tbddTermsRow.holds Try.pinned (OpenSpec.ofChange tbddTermsSpec)

/-- ITS FALSE NEIGHBOUR: 'it returns false'. Refute it at one input. -/
def tbddTermsWrong : ChangeSpec := { name := "tbddTerms", fn := fun _ => fun
  | [d1, d2, d3] => { results := [.lit (.bool false)], args := [d1, d2, d3] }
  | _ => none }
def TbddTermsWrongFalsely : Prop := tbddTermsRow.holds Try.pinned (OpenSpec.ofChange tbddTermsWrong)

/-- 'ramagelaw15.CzddTerms': WHATEVER THE INPUT: true; the input reads as it did. -/
def czddTermsSpec : ChangeSpec := { name := "czddTerms", fn := fun _ => fun
  | [d1, d2, d3] => { results := [.lit (.bool true)], args := [d1, d2, d3] }
  | _ => none }
def czddTermsRow : OpenClaim := { program := "ytacanmmkhbdmlaa", sum := "b322e22cef1931b4dceac4c2f1ae3280e1fa35cda9213f0138de8e8039d23051", func := "ramage/ramagelaw15.CzddTerms", spec := "czddTerms", unfollowed := true, recurses := true, apart := false }
def CzddTermsSaid : Prop := czddTermsRow.holds Try.pinned (OpenSpec.ofChange czddTermsSpec)

/-- ITS FALSE NEIGHBOUR: 'it returns false'. Refute it at one input. -/
def czddTermsWrong : ChangeSpec := { name := "czddTerms", fn := fun _ => fun
  | [d1, d2, d3] => { results := [.lit (.bool false)], args := [d1, d2, d3] }
  | _ => none }
def CzddTermsWrongFalsely : Prop := czddTermsRow.holds Try.pinned (OpenSpec.ofChange czddTermsWrong)

/-- 'ramagelaw14.CbddTerms': WHATEVER THE INPUT: true; the input reads as it did. -/
def cbddTermsSpec : ChangeSpec := { name := "cbddTerms", fn := fun _ => fun
  | [d1, d2, d3] => { results := [.lit (.bool true)], args := [d1, d2, d3] }
  | _ => none }
def cbddTermsRow : OpenClaim := { program := "ytacanmmkhbdmlaa", sum := "b322e22cef1931b4dceac4c2f1ae3280e1fa35cda9213f0138de8e8039d23051", func := "ramage/ramagelaw14.CbddTerms", spec := "cbddTerms", unfollowed := true, recurses := true, apart := false }
def CbddTermsSaid : Prop := cbddTermsRow.holds Try.pinned (OpenSpec.ofChange cbddTermsSpec)

/-- ITS FALSE NEIGHBOUR: 'it returns false'. Refute it at one input. -/
def cbddTermsWrong : ChangeSpec := { name := "cbddTerms", fn := fun _ => fun
  | [d1, d2, d3] => { results := [.lit (.bool false)], args := [d1, d2, d3] }
  | _ => none }
def CbddTermsWrongFalsely : Prop := cbddTermsRow.holds Try.pinned (OpenSpec.ofChange cbddTermsWrong)

/-- 'ramagelaw11.StoreReaches': WHATEVER THE INPUT: true; the input reads as it did. -/
def storeReachesSpec : ChangeSpec := { name := "storeReaches", fn := fun _ => fun
  | [d1, d2, d3, d4, d5, d6] => { results := [.lit (.bool true)], args := [d1, d2, d3, d4, d5, d6] }
  | _ => none }
def storeReachesRow : OpenClaim := { program := "ytacanmmkhbdmlaa", sum := "b322e22cef1931b4dceac4c2f1ae3280e1fa35cda9213f0138de8e8039d23051", func := "ramage/ramagelaw11.StoreReaches", spec := "storeReaches", unfollowed := true, recurses := true, apart := false }
def StoreReachesSaid : Prop := storeReachesRow.holds Try.pinned (OpenSpec.ofChange storeReachesSpec)

/-- ITS FALSE NEIGHBOUR: 'it returns false'. Refute it at one input. -/
def storeReachesWrong : ChangeSpec := { name := "storeReaches", fn := fun _ => fun
  | [d1, d2, d3, d4, d5, d6] => { results := [.lit (.bool false)], args := [d1, d2, d3, d4, d5, d6] }
  | _ => none }
def StoreReachesWrongFalsely : Prop := storeReachesRow.holds Try.pinned (OpenSpec.ofChange storeReachesWrong)

/-- 'ramagelaw11.StoreSound': WHATEVER THE INPUT: true; the input reads as it did. -/
def storeSoundSpec : ChangeSpec := { name := "storeSound", fn := fun _ => fun
  | [d1, d2, d3, d4] => { results := [.lit (.bool true)], args := [d1, d2, d3, d4] }
  | _ => none }
def storeSoundRow : OpenClaim := { program := "ytacanmmkhbdmlaa", sum := "b322e22cef1931b4dceac4c2f1ae3280e1fa35cda9213f0138de8e8039d23051", func := "ramage/ramagelaw11.StoreSound", spec := "storeSound", unfollowed := true, recurses := true, apart := false }
def StoreSoundSaid : Prop := storeSoundRow.holds Try.pinned (OpenSpec.ofChange storeSoundSpec)

/-- ITS FALSE NEIGHBOUR: 'it returns false'. Refute it at one input. -/
def storeSoundWrong : ChangeSpec := { name := "storeSound", fn := fun _ => fun
  | [d1, d2, d3, d4] => { results := [.lit (.bool false)], args := [d1, d2, d3, d4] }
  | _ => none }
def StoreSoundWrongFalsely : Prop := storeSoundRow.holds Try.pinned (OpenSpec.ofChange storeSoundWrong)

/-- 'ramagelaw11.StoreNil': WHATEVER THE INPUT: true; the input reads as it did. -/
def storeNilSpec : ChangeSpec := { name := "storeNil", fn := fun _ => fun
  | [d1, d2, d3] => { results := [.lit (.bool true)], args := [d1, d2, d3] }
  | _ => none }
def storeNilRow : OpenClaim := { program := "ytacanmmkhbdmlaa", sum := "b322e22cef1931b4dceac4c2f1ae3280e1fa35cda9213f0138de8e8039d23051", func := "ramage/ramagelaw11.StoreNil", spec := "storeNil", unfollowed := true, recurses := true, apart := false }
def StoreNilSaid : Prop := storeNilRow.holds Try.pinned (OpenSpec.ofChange storeNilSpec)

/-- ITS FALSE NEIGHBOUR: 'it returns false'. Refute it at one input. -/
def storeNilWrong : ChangeSpec := { name := "storeNil", fn := fun _ => fun
  | [d1, d2, d3] => { results := [.lit (.bool false)], args := [d1, d2, d3] }
  | _ => none }
def StoreNilWrongFalsely : Prop := storeNilRow.holds Try.pinned (OpenSpec.ofChange storeNilWrong)

/- THE SECOND FORM. 'bulk': how many values and letters a reading holds, each counted each time it is reached (what is shared counts as often as it is met; a slice's spare places count too). A statement '..UptoSaid' is the law's where the arguments, and the package variables that the reading takes, are together of bulk at most 1048576: NARROWER than '..Said'. Prove '..Said' where nothing that the law and all that it calls make is longer than what came in: it says more and counts as full. Else prove '..UptoSaid'. A law counts once. -/
mutual
def uptoBulk {H : Type} : DataW H → Nat
  | .lit (.string bytes) => bytes.length + 1
  | .lit _ => 1
  | .nil => 1
  | .ptr d => uptoBulk d + 1
  | .slice elems spare => uptoBulkAll elems + uptoBulkAll spare + 1
  | .agg parts => uptoBulkAll parts + 1
  | .iface _ d => uptoBulk d + 1
  | .map entries => uptoBulkEntries entries + 1
  | .held _ => 1
def uptoBulkAll {H : Type} : List (DataW H) → Nat
  | [] => 0
  | d :: r => uptoBulk d + uptoBulkAll r
def uptoBulkEntries {H : Type} : List (Lit × DataW H) → Nat
  | [] => 0
  | x :: r => uptoBulkEntry x + uptoBulkEntries r
def uptoBulkEntry {H : Type} : Lit × DataW H → Nat
  | (.string bytes, d) => bytes.length + uptoBulk d + 1
  | (_, d) => uptoBulk d + 1
 end
def uptoSmall : (H : Type) → List (DataW H) → Bool := fun _ ds => decide (uptoBulkAll ds ≤ 1048576)
def OpenSpec.upto (s : _root_.Go.ChangeSpec) : _root_.Go.OpenSpec := { _root_.Go.OpenSpec.ofChange s with cond := some uptoSmall }

/-- 'ramagelaw16.TbddFits', WHERE WHAT IT READS IS OF BULK AT MOST 1048576: true; the input reads as it did. -/
def tbddFitsUptoRow : OpenClaim := { program := "ytacanmmkhbdmlaa", sum := "b322e22cef1931b4dceac4c2f1ae3280e1fa35cda9213f0138de8e8039d23051", func := "ramage/ramagelaw16.TbddFits", spec := "tbddFits", unfollowed := true, recurses := true, apart := false, narrowed := true }
def TbddFitsUptoSaid : Prop := tbddFitsUptoRow.holds Try.pinned (OpenSpec.upto tbddFitsSpec)

/-- 'ramagelaw11.StorePlays', WHERE WHAT IT READS IS OF BULK AT MOST 1048576: true; the input reads as it did. -/
def storePlaysUptoRow : OpenClaim := { program := "ytacanmmkhbdmlaa", sum := "b322e22cef1931b4dceac4c2f1ae3280e1fa35cda9213f0138de8e8039d23051", func := "ramage/ramagelaw11.StorePlays", spec := "storePlays", unfollowed := true, recurses := true, apart := false, narrowed := true }
def StorePlaysUptoSaid : Prop := storePlaysUptoRow.holds Try.pinned (OpenSpec.upto storePlaysSpec)

/-- 'ramagelaw15.CzddSwept', WHERE WHAT IT READS IS OF BULK AT MOST 1048576: true; the input reads as it did. -/
def czddSweptUptoRow : OpenClaim := { program := "ytacanmmkhbdmlaa", sum := "b322e22cef1931b4dceac4c2f1ae3280e1fa35cda9213f0138de8e8039d23051", func := "ramage/ramagelaw15.CzddSwept", spec := "czddSwept", unfollowed := true, recurses := true, apart := false, narrowed := true }
def CzddSweptUptoSaid : Prop := czddSweptUptoRow.holds Try.pinned (OpenSpec.upto czddSweptSpec)

/-- 'ramagelaw14.CbddSwept', WHERE WHAT IT READS IS OF BULK AT MOST 1048576: true; the input reads as it did. -/
def cbddSweptUptoRow : OpenClaim := { program := "ytacanmmkhbdmlaa", sum := "b322e22cef1931b4dceac4c2f1ae3280e1fa35cda9213f0138de8e8039d23051", func := "ramage/ramagelaw14.CbddSwept", spec := "cbddSwept", unfollowed := true, recurses := true, apart := false, narrowed := true }
def CbddSweptUptoSaid : Prop := cbddSweptUptoRow.holds Try.pinned (OpenSpec.upto cbddSweptSpec)

/-- 'ramagelaw17.CanonBeside', WHERE WHAT IT READS IS OF BULK AT MOST 1048576: true; the input reads as it did. -/
def canonBesideUptoRow : OpenClaim := { program := "ytacanmmkhbdmlaa", sum := "b322e22cef1931b4dceac4c2f1ae3280e1fa35cda9213f0138de8e8039d23051", func := "ramage/ramagelaw17.CanonBeside", spec := "canonBeside", unfollowed := true, recurses := true, apart := false, narrowed := true }
def CanonBesideUptoSaid : Prop := canonBesideUptoRow.holds Try.pinned (OpenSpec.upto canonBesideSpec)

/-- 'ramagelaw16.TbddTerms', WHERE WHAT IT READS IS OF BULK AT MOST 1048576: true; the input reads as it did. -/
def tbddTermsUptoRow : OpenClaim := { program := "ytacanmmkhbdmlaa", sum := "b322e22cef1931b4dceac4c2f1ae3280e1fa35cda9213f0138de8e8039d23051", func := "ramage/ramagelaw16.TbddTerms", spec := "tbddTerms", unfollowed := true, recurses := true, apart := false, narrowed := true }
def TbddTermsUptoSaid : Prop := tbddTermsUptoRow.holds Try.pinned (OpenSpec.upto tbddTermsSpec)

/-- 'ramagelaw15.CzddTerms', WHERE WHAT IT READS IS OF BULK AT MOST 1048576: true; the input reads as it did. -/
def czddTermsUptoRow : OpenClaim := { program := "ytacanmmkhbdmlaa", sum := "b322e22cef1931b4dceac4c2f1ae3280e1fa35cda9213f0138de8e8039d23051", func := "ramage/ramagelaw15.CzddTerms", spec := "czddTerms", unfollowed := true, recurses := true, apart := false, narrowed := true }
def CzddTermsUptoSaid : Prop := czddTermsUptoRow.holds Try.pinned (OpenSpec.upto czddTermsSpec)

/-- 'ramagelaw14.CbddTerms', WHERE WHAT IT READS IS OF BULK AT MOST 1048576: true; the input reads as it did. -/
def cbddTermsUptoRow : OpenClaim := { program := "ytacanmmkhbdmlaa", sum := "b322e22cef1931b4dceac4c2f1ae3280e1fa35cda9213f0138de8e8039d23051", func := "ramage/ramagelaw14.CbddTerms", spec := "cbddTerms", unfollowed := true, recurses := true, apart := false, narrowed := true }
def CbddTermsUptoSaid : Prop := cbddTermsUptoRow.holds Try.pinned (OpenSpec.upto cbddTermsSpec)

/-- 'ramagelaw11.StoreReaches', WHERE WHAT IT READS IS OF BULK AT MOST 1048576: true; the input reads as it did. -/
def storeReachesUptoRow : OpenClaim := { program := "ytacanmmkhbdmlaa", sum := "b322e22cef1931b4dceac4c2f1ae3280e1fa35cda9213f0138de8e8039d23051", func := "ramage/ramagelaw11.StoreReaches", spec := "storeReaches", unfollowed := true, recurses := true, apart := false, narrowed := true }
def StoreReachesUptoSaid : Prop := storeReachesUptoRow.holds Try.pinned (OpenSpec.upto storeReachesSpec)

/-- 'ramagelaw11.StoreSound', WHERE WHAT IT READS IS OF BULK AT MOST 1048576: true; the input reads as it did. -/
def storeSoundUptoRow : OpenClaim := { program := "ytacanmmkhbdmlaa", sum := "b322e22cef1931b4dceac4c2f1ae3280e1fa35cda9213f0138de8e8039d23051", func := "ramage/ramagelaw11.StoreSound", spec := "storeSound", unfollowed := true, recurses := true, apart := false, narrowed := true }
def StoreSoundUptoSaid : Prop := storeSoundUptoRow.holds Try.pinned (OpenSpec.upto storeSoundSpec)

/-- 'ramagelaw11.StoreNil', WHERE WHAT IT READS IS OF BULK AT MOST 1048576: true; the input reads as it did. -/
def storeNilUptoRow : OpenClaim := { program := "ytacanmmkhbdmlaa", sum := "b322e22cef1931b4dceac4c2f1ae3280e1fa35cda9213f0138de8e8039d23051", func := "ramage/ramagelaw11.StoreNil", spec := "storeNil", unfollowed := true, recurses := true, apart := false, narrowed := true }
def StoreNilUptoSaid : Prop := storeNilUptoRow.holds Try.pinned (OpenSpec.upto storeNilSpec)

end Rows
end Go.Proofs.Ytacanmmkhbdmlaa
