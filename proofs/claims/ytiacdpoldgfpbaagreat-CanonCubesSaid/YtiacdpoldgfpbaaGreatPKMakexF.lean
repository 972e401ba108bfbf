/-
  What the statements' walks share.
-/
import Derived.Test.YtiacdpoldgfpbaaGreatPCube
import Derived.Test.YtiacdpoldgfpbaaGreatPLeadsAxB
namespace Go.Proofs.YtiacdpoldgfpbaaGreat
set_option linter.unusedSimpArgs false
set_option linter.unusedVariables false
set_option maxHeartbeats 600000
open Go.RowKit

theorem findErr_range (M : St) (r : Rec) : 0 ≤ M.findErr r ∧ M.findErr r ≤ 255 := by
  unfold St.findErr
  split
  · decide
  · split
    · decide
    · split <;> decide

theorem actErr_range (M : St) (l : Int) (lo hi : Edge) : 0 ≤ actErr M (tAct M l lo hi) ∧ actErr M (tAct M l lo hi) ≤ 255 := by
  unfold tAct
  split
  · simp [actErr]
  · split
    · simp [actErr]
    · split
      · simp [actErr]
      · split
        · simp [actErr]
        · exact findErr_range M _

end Go.Proofs.YtiacdpoldgfpbaaGreat

namespace Go.Proofs.YtiacdpoldgfpbaaGreat
set_option linter.unusedSimpArgs false
set_option linter.unusedVariables false
set_option maxHeartbeats 600000
open Go.RowKit

theorem makeErr (M : St) (f l : Int) (lo hi : Edge) (rest : (Edge × Int) ⊕ Rec) (h : 0 ≤ actErr M rest ∧ actErr M rest ≤ 255) : 0 ≤ actErr M (makeAct M f l lo hi rest) ∧ actErr M (makeAct M f l lo hi rest) ≤ 255 := by
  unfold makeAct
  split
  · simp [actErr]
  · split
    · simp [actErr]
    · exact h

theorem inrErr (M : St) (r : Rec) : 0 ≤ actErr M (.inr r) ∧ actErr M (.inr r) ≤ 255 := findErr_range M r

theorem bRest_err (M : St) (l : Int) (lo hi : Edge) : 0 ≤ actErr M (bRest M l lo hi) ∧ actErr M (bRest M l lo hi) ≤ 255 := by
  unfold bRest
  split
  · simp [actErr]
  · exact inrErr M _

theorem zRest_err (M : St) (l : Int) (lo hi : Edge) : 0 ≤ actErr M (zRest M l lo hi) ∧ actErr M (zRest M l lo hi) ≤ 255 := by
  unfold zRest
  split
  · simp [actErr]
  · exact inrErr M _

theorem cRest_err (M : St) (l : Int) (lo hi : Edge) : 0 ≤ actErr M (cRest M l lo hi) ∧ actErr M (cRest M l lo hi) ≤ 255 := by
  unfold cRest
  split
  · simp [actErr]
  · split
    · exact inrErr M _
    · split
      · split <;> exact inrErr M _
      · exact inrErr M _

theorem qRest_err (M : St) (l : Int) (lo hi : Edge) : 0 ≤ actErr M (qRest M l lo hi) ∧ actErr M (qRest M l lo hi) ≤ 255 := by
  unfold qRest
  split
  · simp [actErr]
  · split
    · exact inrErr M _
    · split
      · split <;> exact inrErr M _
      · exact inrErr M _

end Go.Proofs.YtiacdpoldgfpbaaGreat

namespace Go.Proofs.YtiacdpoldgfpbaaGreat
set_option linter.unusedSimpArgs false
set_option linter.unusedVariables false
set_option maxHeartbeats 600000
open Go.RowKit

theorem kErr (M : St) (f l : Int) (lo hi : Edge) : 0 ≤ actErr M (kAct M f l lo hi) ∧ actErr M (kAct M f l lo hi) ≤ 255 := by
  unfold kAct
  split
  · exact makeErr M 1 l lo hi _ (bRest_err M l lo hi)
  · split
    · exact makeErr M 2 l lo hi _ (zRest_err M l lo hi)
    · split
      · exact makeErr M 3 l lo hi _ (cRest_err M l lo hi)
      · split
        · exact makeErr M 4 l lo hi _ (qRest_err M l lo hi)
        · split
          · exact actErr_range M l lo hi
          · simp [actErr]

end Go.Proofs.YtiacdpoldgfpbaaGreat
