/-
  No cell of these rows narrows 'for every input' (looked for: loops, veiled, ifaces, maps, wideKeys, modest, calm, conditions, laid).
  DERIVED. THE GIVEN ROWS OF THIS SEAT. 12 by the template 'for every input the law returns true; each argument reads behind the call as it read before'; 0 by the template 'total and deterministic' (their statements: YtedlchpdbpffmaaTotals.lean).
  GIVEN WITH THE SEED: the statements are not yours to turn. If you find one false, say at which input.
  Laid BY PROGRAM, IN A SANDBOX (cutbox-rows.mjs): the forced cells as the released guide's own fill.sh prints them over the translation 90ad54049aef49f3… (all of the seat's roots in one cut). By AI agents, Wed Nov 11 2026. No macro, syntax, notation, axiom, sorry.
-/
import Derived.Test.YtedlchpdbpffmaaChecked
import GoSem.Claim
import GoSem.ClaimJoined
import GoSem.ClaimMapViews
import Derived.JoinedTies
import Derived.KernelRfl
namespace Go.Proofs.Ytedlchpdbpffmaa
/- THE CELL 'sum', in the pinned program and in every row, IS THE sha256 OF THE DUMP (.gsa) THAT YtedlchpdbpffmaaProg.lean LOADS. Nothing in Lean hashes anything: it is a label: what it is worth is what the hold of that sum in a sandbox is worth. -/
noncomputable def Try.pinned : Pinned := { name := "ytedlchpdbpffmaa", sum := "90ad54049aef49f3d3d673dce90014db692dbe5db4779d592ab8b34483390238", checked := Try.checked }
namespace Rows
def none {H : Type} : Left H := { results := [], args := [] }

/-- 'ramagelaw16.TbddFits': WHATEVER THE INPUT: true; the input reads as it did. -/
def tbddFitsSpec : ChangeSpec := { name := "tbddFits", fn := fun _ => fun
  | [d1, d2, d3] => { results := [.lit (.bool true)], args := [d1, d2, d3] }
  | _ => none }
def tbddFitsRow : OpenClaim := { program := "ytedlchpdbpffmaa", sum := "90ad54049aef49f3d3d673dce90014db692dbe5db4779d592ab8b34483390238", func := "ramage/ramagelaw16.TbddFits", spec := "tbddFits", unfollowed := true, recurses := true, apart := false }
def TbddFitsSaid : Prop := tbddFitsRow.holds Try.pinned (OpenSpec.ofChange tbddFitsSpec)

/-- ITS FALSE NEIGHBOUR: 'it returns false'. Refute it at one input. -/
def tbddFitsWrong : ChangeSpec := { name := "tbddFits", fn := fun _ => fun
  | [d1, d2, d3] => { results := [.lit (.bool false)], args := [d1, d2, d3] }
  | _ => none }
def TbddFitsWrongFalsely : Prop := tbddFitsRow.holds Try.pinned (OpenSpec.ofChange tbddFitsWrong)

/-- 'ramagelaw16.TbddMakes': WHATEVER THE INPUT: true; the input reads as it did. -/
def tbddMakesSpec : ChangeSpec := { name := "tbddMakes", fn := fun _ => fun
  | [d1, d2, d3, d4, d5, d6] => { results := [.lit (.bool true)], args := [d1, d2, d3, d4, d5, d6] }
  | _ => none }
def tbddMakesRow : OpenClaim := { program := "ytedlchpdbpffmaa", sum := "90ad54049aef49f3d3d673dce90014db692dbe5db4779d592ab8b34483390238", func := "ramage/ramagelaw16.TbddMakes", spec := "tbddMakes", unfollowed := true, recurses := true, apart := false }
def TbddMakesSaid : Prop := tbddMakesRow.holds Try.pinned (OpenSpec.ofChange tbddMakesSpec)

/-- ITS FALSE NEIGHBOUR: 'it returns false'. Refute it at one input. -/
def tbddMakesWrong : ChangeSpec := { name := "tbddMakes", fn := fun _ => fun
  | [d1, d2, d3, d4, d5, d6] => { results := [.lit (.bool false)], args := [d1, d2, d3, d4, d5, d6] }
  | _ => none }
def TbddMakesWrongFalsely : Prop := tbddMakesRow.holds Try.pinned (OpenSpec.ofChange tbddMakesWrong)

/-- 'ramagelaw15.CzddMakes': WHATEVER THE INPUT: true; the input reads as it did. -/
def czddMakesSpec : ChangeSpec := { name := "czddMakes", fn := fun _ => fun
  | [d1, d2, d3, d4, d5, d6] => { results := [.lit (.bool true)], args := [d1, d2, d3, d4, d5, d6] }
  | _ => none }
def czddMakesRow : OpenClaim := { program := "ytedlchpdbpffmaa", sum := "90ad54049aef49f3d3d673dce90014db692dbe5db4779d592ab8b34483390238", func := "ramage/ramagelaw15.CzddMakes", spec := "czddMakes", unfollowed := true, recurses := true, apart := false }
def CzddMakesSaid : Prop := czddMakesRow.holds Try.pinned (OpenSpec.ofChange czddMakesSpec)

/-- ITS FALSE NEIGHBOUR: 'it returns false'. Refute it at one input. -/
def czddMakesWrong : ChangeSpec := { name := "czddMakes", fn := fun _ => fun
  | [d1, d2, d3, d4, d5, d6] => { results := [.lit (.bool false)], args := [d1, d2, d3, d4, d5, d6] }
  | _ => none }
def CzddMakesWrongFalsely : Prop := czddMakesRow.holds Try.pinned (OpenSpec.ofChange czddMakesWrong)

/-- 'ramagelaw14.CbddMakes': WHATEVER THE INPUT: true; the input reads as it did. -/
def cbddMakesSpec : ChangeSpec := { name := "cbddMakes", fn := fun _ => fun
  | [d1, d2, d3, d4, d5, d6] => { results := [.lit (.bool true)], args := [d1, d2, d3, d4, d5, d6] }
  | _ => none }
def cbddMakesRow : OpenClaim := { program := "ytedlchpdbpffmaa", sum := "90ad54049aef49f3d3d673dce90014db692dbe5db4779d592ab8b34483390238", func := "ramage/ramagelaw14.CbddMakes", spec := "cbddMakes", unfollowed := true, recurses := true, apart := false }
def CbddMakesSaid : Prop := cbddMakesRow.holds Try.pinned (OpenSpec.ofChange cbddMakesSpec)

/-- ITS FALSE NEIGHBOUR: 'it returns false'. Refute it at one input. -/
def cbddMakesWrong : ChangeSpec := { name := "cbddMakes", fn := fun _ => fun
  | [d1, d2, d3, d4, d5, d6] => { results := [.lit (.bool false)], args := [d1, d2, d3, d4, d5, d6] }
  | _ => none }
def CbddMakesWrongFalsely : Prop := cbddMakesRow.holds Try.pinned (OpenSpec.ofChange cbddMakesWrong)

/-- 'ramagelaw16.TbddViews': WHATEVER THE INPUT: true; the input reads as it did. -/
def tbddViewsSpec : ChangeSpec := { name := "tbddViews", fn := fun _ => fun
  | [d1, d2, d3, d4, d5] => { results := [.lit (.bool true)], args := [d1, d2, d3, d4, d5] }
  | _ => none }
def tbddViewsRow : OpenClaim := { program := "ytedlchpdbpffmaa", sum := "90ad54049aef49f3d3d673dce90014db692dbe5db4779d592ab8b34483390238", func := "ramage/ramagelaw16.TbddViews", spec := "tbddViews", unfollowed := true, recurses := true, apart := false }
def TbddViewsSaid : Prop := tbddViewsRow.holds Try.pinned (OpenSpec.ofChange tbddViewsSpec)

/-- ITS FALSE NEIGHBOUR: 'it returns false'. Refute it at one input. -/
def tbddViewsWrong : ChangeSpec := { name := "tbddViews", fn := fun _ => fun
  | [d1, d2, d3, d4, d5] => { results := [.lit (.bool false)], args := [d1, d2, d3, d4, d5] }
  | _ => none }
def TbddViewsWrongFalsely : Prop := tbddViewsRow.holds Try.pinned (OpenSpec.ofChange tbddViewsWrong)

/-- 'ramagelaw15.CzddViews': WHATEVER THE INPUT: true; the input reads as it did. -/
def czddViewsSpec : ChangeSpec := { name := "czddViews", fn := fun _ => fun
  | [d1, d2, d3, d4, d5] => { results := [.lit (.bool true)], args := [d1, d2, d3, d4, d5] }
  | _ => none }
def czddViewsRow : OpenClaim := { program := "ytedlchpdbpffmaa", sum := "90ad54049aef49f3d3d673dce90014db692dbe5db4779d592ab8b34483390238", func := "ramage/ramagelaw15.CzddViews", spec := "czddViews", unfollowed := true, recurses := true, apart := false }
def CzddViewsSaid : Prop := czddViewsRow.holds Try.pinned (OpenSpec.ofChange czddViewsSpec)

/-- ITS FALSE NEIGHBOUR: 'it returns false'. Refute it at one input. -/
def czddViewsWrong : ChangeSpec := { name := "czddViews", fn := fun _ => fun
  | [d1, d2, d3, d4, d5] => { results := [.lit (.bool false)], args := [d1, d2, d3, d4, d5] }
  | _ => none }
def CzddViewsWrongFalsely : Prop := czddViewsRow.holds Try.pinned (OpenSpec.ofChange czddViewsWrong)

/-- 'ramagelaw14.CbddViews': WHATEVER THE INPUT: true; the input reads as it did. -/
def cbddViewsSpec : ChangeSpec := { name := "cbddViews", fn := fun _ => fun
  | [d1, d2, d3, d4, d5] => { results := [.lit (.bool true)], args := [d1, d2, d3, d4, d5] }
  | _ => none }
def cbddViewsRow : OpenClaim := { program := "ytedlchpdbpffmaa", sum := "90ad54049aef49f3d3d673dce90014db692dbe5db4779d592ab8b34483390238", func := "ramage/ramagelaw14.CbddViews", spec := "cbddViews", unfollowed := true, recurses := true, apart := false }
def CbddViewsSaid : Prop := cbddViewsRow.holds Try.pinned (OpenSpec.ofChange cbddViewsSpec)

/-- ITS FALSE NEIGHBOUR: 'it returns false'. Refute it at one input. -/
def cbddViewsWrong : ChangeSpec := { name := "cbddViews", fn := fun _ => fun
  | [d1, d2, d3, d4, d5] => { results := [.lit (.bool false)], args := [d1, d2, d3, d4, d5] }
  | _ => none }
def CbddViewsWrongFalsely : Prop := cbddViewsRow.holds Try.pinned (OpenSpec.ofChange cbddViewsWrong)

/-- 'ramagelaw11.StorePlays': WHATEVER THE INPUT: true; the input reads as it did. -/
def storePlaysSpec : ChangeSpec := { name := "storePlays", fn := fun _ => fun
  | [d1, d2, d3] => { results := [.lit (.bool true)], args := [d1, d2, d3] }
  | _ => none }
def storePlaysRow : OpenClaim := { program := "ytedlchpdbpffmaa", sum := "90ad54049aef49f3d3d673dce90014db692dbe5db4779d592ab8b34483390238", func := "ramage/ramagelaw11.StorePlays", spec := "storePlays", unfollowed := true, recurses := true, apart := false }
def StorePlaysSaid : Prop := storePlaysRow.holds Try.pinned (OpenSpec.ofChange storePlaysSpec)

/-- ITS FALSE NEIGHBOUR: 'it returns false'. Refute it at one input. -/
def storePlaysWrong : ChangeSpec := { name := "storePlays", fn := fun _ => fun
  | [d1, d2, d3] => { results := [.lit (.bool false)], args := [d1, d2, d3] }
  | _ => none }
def StorePlaysWrongFalsely : Prop := storePlaysRow.holds Try.pinned (OpenSpec.ofChange storePlaysWrong)

/-- 'ramagelaw15.CzddSwept': WHATEVER THE INPUT: true; the input reads as it did. -/
def czddSweptSpec : ChangeSpec := { name := "czddSwept", fn := fun _ => fun
  | [d1, d2, d3] => { results := [.lit (.bool true)], args := [d1, d2, d3] }
  | _ => none }
def czddSweptRow : OpenClaim := { program := "ytedlchpdbpffmaa", sum := "90ad54049aef49f3d3d673dce90014db692dbe5db4779d592ab8b34483390238", func := "ramage/ramagelaw15.CzddSwept", spec := "czddSwept", unfollowed := true, recurses := true, apart := false }
def CzddSweptSaid : Prop := czddSweptRow.holds Try.pinned (OpenSpec.ofChange czddSweptSpec)

/-- ITS FALSE NEIGHBOUR: 'it returns false'. Refute it at one input. -/
def czddSweptWrong : ChangeSpec := { name := "czddSwept", fn := fun _ => fun
  | [d1, d2, d3] => { results := [.lit (.bool false)], args := [d1, d2, d3] }
  | _ => none }
def CzddSweptWrongFalsely : Prop := czddSweptRow.holds Try.pinned (OpenSpec.ofChange czddSweptWrong)

/-- 'ramagelaw14.CbddSwept': WHATEVER THE INPUT: true; the input reads as it did. -/
def cbddSweptSpec : ChangeSpec := { name := "cbddSwept", fn := fun _ => fun
  | [d1, d2, d3] => { results := [.lit (.bool true)], args := [d1, d2, d3] }
  | _ => none }
def cbddSweptRow : OpenClaim := { program := "ytedlchpdbpffmaa", sum := "90ad54049aef49f3d3d673dce90014db692dbe5db4779d592ab8b34483390238", func := "ramage/ramagelaw14.CbddSwept", spec := "cbddSwept", unfollowed := true, recurses := true, apart := false }
def CbddSweptSaid : Prop := cbddSweptRow.holds Try.pinned (OpenSpec.ofChange cbddSweptSpec)

/-- ITS FALSE NEIGHBOUR: 'it returns false'. Refute it at one input. -/
def cbddSweptWrong : ChangeSpec := { name := "cbddSwept", fn := fun _ => fun
  | [d1, d2, d3] => { results := [.lit (.bool false)], args := [d1, d2, d3] }
  | _ => none }
def CbddSweptWrongFalsely : Prop := cbddSweptRow.holds Try.pinned (OpenSpec.ofChange cbddSweptWrong)

/-- 'ramagelaw17.CanonBeside': WHATEVER THE INPUT: true; the input reads as it did. -/
def canonBesideSpec : ChangeSpec := { name := "canonBeside", fn := fun _ => fun
  | [d1, d2, d3] => { results := [.lit (.bool true)], args := [d1, d2, d3] }
  | _ => none }
def canonBesideRow : OpenClaim := { program := "ytedlchpdbpffmaa", sum := "90ad54049aef49f3d3d673dce90014db692dbe5db4779d592ab8b34483390238", func := "ramage/ramagelaw17.CanonBeside", spec := "canonBeside", unfollowed := true, recurses := true, apart := false }
def CanonBesideSaid : Prop := canonBesideRow.holds Try.pinned (OpenSpec.ofChange canonBesideSpec)

/-- ITS FALSE NEIGHBOUR: 'it returns false'. Refute it at one input. -/
def canonBesideWrong : ChangeSpec := { name := "canonBeside", fn := fun _ => fun
  | [d1, d2, d3] => { results := [.lit (.bool false)], args := [d1, d2, d3] }
  | _ => none }
def CanonBesideWrongFalsely : Prop := canonBesideRow.holds Try.pinned (OpenSpec.ofChange canonBesideWrong)

/-- 'ramagelaw17.CanonMakes': WHATEVER THE INPUT: true; the input reads as it did. -/
def canonMakesSpec : ChangeSpec := { name := "canonMakes", fn := fun _ => fun
  | [d1, d2, d3, d4, d5, d6, d7] => { results := [.lit (.bool true)], args := [d1, d2, d3, d4, d5, d6, d7] }
  | _ => none }
def canonMakesRow : OpenClaim := { program := "ytedlchpdbpffmaa", sum := "90ad54049aef49f3d3d673dce90014db692dbe5db4779d592ab8b34483390238", func := "ramage/ramagelaw17.CanonMakes", spec := "canonMakes", unfollowed := true, recurses := true, apart := false }
def CanonMakesSaid : Prop := canonMakesRow.holds Try.pinned (OpenSpec.ofChange canonMakesSpec)

/-- ITS FALSE NEIGHBOUR: 'it returns false'. Refute it at one input. -/
def canonMakesWrong : ChangeSpec := { name := "canonMakes", fn := fun _ => fun
  | [d1, d2, d3, d4, d5, d6, d7] => { results := [.lit (.bool false)], args := [d1, d2, d3, d4, d5, d6, d7] }
  | _ => none }
def CanonMakesWrongFalsely : Prop := canonMakesRow.holds Try.pinned (OpenSpec.ofChange canonMakesWrong)

/- THE SECOND FORM. 'bulk': how many values and letters a reading holds, each counted each time it is reached (what is shared counts as often as it is met; a slice's spare places count too). A statement '..UptoSaid' is the law's where the arguments, and the package variables that the reading takes, are together of bulk at most 1048576: NARROWER than '..Said'. Prove '..Said' where nothing that the law and all that it calls make is longer than what came in: it says more and counts as full. Else prove '..UptoSaid'. A law counts once. -/
mutual
def uptoBulk {H : Type} : DataW H → Nat
  | .lit (.string bytes) => bytes.length + 1
  | .lit _ => 1
  | .nil => 1
  | .ptr d => uptoBulk d + 1
  | .slice elems spare => uptoBulkAll elems + uptoBulkAll spare + 1
  | .agg parts => uptoBulkAll parts + 1
  | .iface _ d => uptoBulk d + 1
  | .map entries => uptoBulkEntries entries + 1
  | .held _ => 1
def uptoBulkAll {H : Type} : List (DataW H) → Nat
  | [] => 0
  | d :: r => uptoBulk d + uptoBulkAll r
def uptoBulkEntries {H : Type} : List (Lit × DataW H) → Nat
  | [] => 0
  | x :: r => uptoBulkEntry x + uptoBulkEntries r
def uptoBulkEntry {H : Type} : Lit × DataW H → Nat
  | (.string bytes, d) => bytes.length + uptoBulk d + 1
  | (_, d) => uptoBulk d + 1
 end
def uptoSmall : (H : Type) → List (DataW H) → Bool := fun _ ds => decide (uptoBulkAll ds ≤ 1048576)
def OpenSpec.upto (s : _root_.Go.ChangeSpec) : _root_.Go.OpenSpec := { _root_.Go.OpenSpec.ofChange s with cond := some uptoSmall }

/-- 'ramagelaw16.TbddFits', WHERE WHAT IT READS IS OF BULK AT MOST 1048576: true; the input reads as it did. -/
def tbddFitsUptoRow : OpenClaim := { program := "ytedlchpdbpffmaa", sum := "90ad54049aef49f3d3d673dce90014db692dbe5db4779d592ab8b34483390238", func := "ramage/ramagelaw16.TbddFits", spec := "tbddFits", unfollowed := true, recurses := true, apart := false, narrowed := true }
def TbddFitsUptoSaid : Prop := tbddFitsUptoRow.holds Try.pinned (OpenSpec.upto tbddFitsSpec)

/-- 'ramagelaw16.TbddMakes', WHERE WHAT IT READS IS OF BULK AT MOST 1048576: true; the input reads as it did. -/
def tbddMakesUptoRow : OpenClaim := { program := "ytedlchpdbpffmaa", sum := "90ad54049aef49f3d3d673dce90014db692dbe5db4779d592ab8b34483390238", func := "ramage/ramagelaw16.TbddMakes", spec := "tbddMakes", unfollowed := true, recurses := true, apart := false, narrowed := true }
def TbddMakesUptoSaid : Prop := tbddMakesUptoRow.holds Try.pinned (OpenSpec.upto tbddMakesSpec)

/-- 'ramagelaw15.CzddMakes', WHERE WHAT IT READS IS OF BULK AT MOST 1048576: true; the input reads as it did. -/
def czddMakesUptoRow : OpenClaim := { program := "ytedlchpdbpffmaa", sum := "90ad54049aef49f3d3d673dce90014db692dbe5db4779d592ab8b34483390238", func := "ramage/ramagelaw15.CzddMakes", spec := "czddMakes", unfollowed := true, recurses := true, apart := false, narrowed := true }
def CzddMakesUptoSaid : Prop := czddMakesUptoRow.holds Try.pinned (OpenSpec.upto czddMakesSpec)

/-- 'ramagelaw14.CbddMakes', WHERE WHAT IT READS IS OF BULK AT MOST 1048576: true; the input reads as it did. -/
def cbddMakesUptoRow : OpenClaim := { program := "ytedlchpdbpffmaa", sum := "90ad54049aef49f3d3d673dce90014db692dbe5db4779d592ab8b34483390238", func := "ramage/ramagelaw14.CbddMakes", spec := "cbddMakes", unfollowed := true, recurses := true, apart := false, narrowed := true }
def CbddMakesUptoSaid : Prop := cbddMakesUptoRow.holds Try.pinned (OpenSpec.upto cbddMakesSpec)

/-- 'ramagelaw16.TbddViews', WHERE WHAT IT READS IS OF BULK AT MOST 1048576: true; the input reads as it did. -/
def tbddViewsUptoRow : OpenClaim := { program := "ytedlchpdbpffmaa", sum := "90ad54049aef49f3d3d673dce90014db692dbe5db4779d592ab8b34483390238", func := "ramage/ramagelaw16.TbddViews", spec := "tbddViews", unfollowed := true, recurses := true, apart := false, narrowed := true }
def TbddViewsUptoSaid : Prop := tbddViewsUptoRow.holds Try.pinned (OpenSpec.upto tbddViewsSpec)

/-- 'ramagelaw15.CzddViews', WHERE WHAT IT READS IS OF BULK AT MOST 1048576: true; the input reads as it did. -/
def czddViewsUptoRow : OpenClaim := { program := "ytedlchpdbpffmaa", sum := "90ad54049aef49f3d3d673dce90014db692dbe5db4779d592ab8b34483390238", func := "ramage/ramagelaw15.CzddViews", spec := "czddViews", unfollowed := true, recurses := true, apart := false, narrowed := true }
def CzddViewsUptoSaid : Prop := czddViewsUptoRow.holds Try.pinned (OpenSpec.upto czddViewsSpec)

/-- 'ramagelaw14.CbddViews', WHERE WHAT IT READS IS OF BULK AT MOST 1048576: true; the input reads as it did. -/
def cbddViewsUptoRow : OpenClaim := { program := "ytedlchpdbpffmaa", sum := "90ad54049aef49f3d3d673dce90014db692dbe5db4779d592ab8b34483390238", func := "ramage/ramagelaw14.CbddViews", spec := "cbddViews", unfollowed := true, recurses := true, apart := false, narrowed := true }
def CbddViewsUptoSaid : Prop := cbddViewsUptoRow.holds Try.pinned (OpenSpec.upto cbddViewsSpec)

/-- 'ramagelaw11.StorePlays', WHERE WHAT IT READS IS OF BULK AT MOST 1048576: true; the input reads as it did. -/
def storePlaysUptoRow : OpenClaim := { program := "ytedlchpdbpffmaa", sum := "90ad54049aef49f3d3d673dce90014db692dbe5db4779d592ab8b34483390238", func := "ramage/ramagelaw11.StorePlays", spec := "storePlays", unfollowed := true, recurses := true, apart := false, narrowed := true }
def StorePlaysUptoSaid : Prop := storePlaysUptoRow.holds Try.pinned (OpenSpec.upto storePlaysSpec)

/-- 'ramagelaw15.CzddSwept', WHERE WHAT IT READS IS OF BULK AT MOST 1048576: true; the input reads as it did. -/
def czddSweptUptoRow : OpenClaim := { program := "ytedlchpdbpffmaa", sum := "90ad54049aef49f3d3d673dce90014db692dbe5db4779d592ab8b34483390238", func := "ramage/ramagelaw15.CzddSwept", spec := "czddSwept", unfollowed := true, recurses := true, apart := false, narrowed := true }
def CzddSweptUptoSaid : Prop := czddSweptUptoRow.holds Try.pinned (OpenSpec.upto czddSweptSpec)

/-- 'ramagelaw14.CbddSwept', WHERE WHAT IT READS IS OF BULK AT MOST 1048576: true; the input reads as it did. -/
def cbddSweptUptoRow : OpenClaim := { program := "ytedlchpdbpffmaa", sum := "90ad54049aef49f3d3d673dce90014db692dbe5db4779d592ab8b34483390238", func := "ramage/ramagelaw14.CbddSwept", spec := "cbddSwept", unfollowed := true, recurses := true, apart := false, narrowed := true }
def CbddSweptUptoSaid : Prop := cbddSweptUptoRow.holds Try.pinned (OpenSpec.upto cbddSweptSpec)

/-- 'ramagelaw17.CanonBeside', WHERE WHAT IT READS IS OF BULK AT MOST 1048576: true; the input reads as it did. -/
def canonBesideUptoRow : OpenClaim := { program := "ytedlchpdbpffmaa", sum := "90ad54049aef49f3d3d673dce90014db692dbe5db4779d592ab8b34483390238", func := "ramage/ramagelaw17.CanonBeside", spec := "canonBeside", unfollowed := true, recurses := true, apart := false, narrowed := true }
def CanonBesideUptoSaid : Prop := canonBesideUptoRow.holds Try.pinned (OpenSpec.upto canonBesideSpec)

/-- 'ramagelaw17.CanonMakes', WHERE WHAT IT READS IS OF BULK AT MOST 1048576: true; the input reads as it did. -/
def canonMakesUptoRow : OpenClaim := { program := "ytedlchpdbpffmaa", sum := "90ad54049aef49f3d3d673dce90014db692dbe5db4779d592ab8b34483390238", func := "ramage/ramagelaw17.CanonMakes", spec := "canonMakes", unfollowed := true, recurses := true, apart := false, narrowed := true }
def CanonMakesUptoSaid : Prop := canonMakesUptoRow.holds Try.pinned (OpenSpec.upto canonMakesSpec)

end Rows
end Go.Proofs.Ytedlchpdbpffmaa
