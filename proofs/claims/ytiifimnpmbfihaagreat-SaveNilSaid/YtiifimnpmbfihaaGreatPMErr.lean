/-
  The error that Make tells is a byte.
-/
import Derived.Test.YtiifimnpmbfihaaGreatPMBase
import Derived.Test.YtiifimnpmbfihaaGreatPOpensB
namespace Go.Proofs.YtiifimnpmbfihaaGreat
set_option linter.unusedSimpArgs false
set_option linter.unusedVariables false
set_option maxHeartbeats 600000
open Go.RowKit

theorem makeErr (M:St) (f l:Int) (lo hi:Edge) (rest:(Edge × Int) ⊕ Rec) (h:0 ≤ actErr M rest ∧ actErr M rest ≤ 255):0 ≤ actErr M (makeAct M f l lo hi rest) ∧ actErr M (makeAct M f l lo hi rest) ≤ 255:=by
 unfold makeAct
 split
 ·simp [actErr]
 ·split
  ·simp [actErr]
  ·exact h

theorem inrErr (M:St) (r:Rec):0 ≤ actErr M (.inr r) ∧ actErr M (.inr r) ≤ 255:=findErr_range M r

theorem bRest_err (M:St) (l:Int) (lo hi:Edge):0 ≤ actErr M (bRest M l lo hi) ∧ actErr M (bRest M l lo hi) ≤ 255:=by
 unfold bRest
 split
 ·simp [actErr]
 ·exact inrErr M _

theorem zRest_err (M:St) (l:Int) (lo hi:Edge):0 ≤ actErr M (zRest M l lo hi) ∧ actErr M (zRest M l lo hi) ≤ 255:=by
 unfold zRest
 split
 ·simp [actErr]
 ·exact inrErr M _

theorem cRest_err (M:St) (l:Int) (lo hi:Edge):0 ≤ actErr M (cRest M l lo hi) ∧ actErr M (cRest M l lo hi) ≤ 255:=by
 unfold cRest
 split
 ·simp [actErr]
 ·split
  ·exact inrErr M _
  ·split
   ·split <;> exact inrErr M _
   ·exact inrErr M _

theorem qRest_err (M:St) (l:Int) (lo hi:Edge):0 ≤ actErr M (qRest M l lo hi) ∧ actErr M (qRest M l lo hi) ≤ 255:=by
 unfold qRest
 split
 ·simp [actErr]
 ·split
  ·exact inrErr M _
  ·split
   ·split <;> exact inrErr M _
   ·exact inrErr M _

end Go.Proofs.YtiifimnpmbfihaaGreat
