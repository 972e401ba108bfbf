/-
  slices.Sort at uint32, part 11: pdqsortOrdered.
-/
import Derived.Test.YtiacdpoldgfpbaaPSortA
import Derived.Lib.Tables
import Derived.Lib.BitFns
import Derived.OpenShut
import Derived.Laws.BitsAll
import Derived.Laws.Bits64b
import Derived.Sort.LotC
import Derived.Sort.LotD3
namespace Go.Proofs.Ytiacdpoldgfpbaa
set_option linter.unusedSimpArgs false
set_option linter.unusedVariables false
set_option maxHeartbeats 600000
open Go.RowKit Go.Sort

def Leaves (a b a' b' : Nat) (d dk : Array Int) : Prop :=
  ∀ R, PermIn a' b' dk R → SortedIn ltInt a' b' R → PermIn a b d R ∧ SortedIn ltInt a b R

theorem Leaves.refl (a b : Nat) (d : Array Int) : Leaves a b a b d d := fun _ h1 h2 => ⟨h1, h2⟩

theorem SRow.keeps {w w1 w2 : World} {blk cap : Nat} {d : Array Int} (h : SRow w w1 blk cap d) (hk : Keeps w1 w2) : SRow w w2 blk cap d := h.trans ⟨Keeps.upd hk _, h.row.keep (Keeps.upd hk (fun _ => False)) (fun h => h)⟩

end Go.Proofs.Ytiacdpoldgfpbaa
