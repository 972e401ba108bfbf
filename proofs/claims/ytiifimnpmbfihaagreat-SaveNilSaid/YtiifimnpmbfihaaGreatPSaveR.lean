/-
  Plainly: what bytes are read as; an edge's bytes are read as its text.
-/
import Derived.Test.YtiifimnpmbfihaaGreatPSaveP
namespace Go.Proofs.YtiifimnpmbfihaaGreat
set_option linter.unusedSimpArgs false
set_option linter.unusedVariables false
set_option maxHeartbeats 600000

theorem edgeB_pos (f:Int) (S:List Int) (e:Edge):1 ≤ (edgeB f S e).length:=by
 unfold edgeB
 rw [List.length_append]
 have:=putB_pos (if e.to < 2 then e.to.toNat else S.idxOf e.to + 2)
 omega

end Go.Proofs.YtiifimnpmbfihaaGreat
