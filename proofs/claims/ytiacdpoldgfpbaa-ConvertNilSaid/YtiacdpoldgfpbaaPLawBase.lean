/-
  What the statements' walks share.
-/
import Derived.Test.YtiacdpoldgfpbaaPBuiltA
import Derived.Test.YtiacdpoldgfpbaaPOpens
import Derived.Test.YtiacdpoldgfpbaaPVBase
namespace Go.Proofs.Ytiacdpoldgfpbaa
set_option linter.unusedSimpArgs false
set_option linter.unusedVariables false
set_option maxHeartbeats 600000
open Go.RowKit

theorem IsRecs.keeps {w W : World} {a : Option Addr} {len : Nat} {rs : List Rec} (h : IsRecs w a len rs) (hk : Keeps w W) : IsRecs W a len rs := by
  refine ⟨h.1, fun i r hr => ?_⟩
  obtain ⟨h1, b, off, h2, h3⟩ := h.2 i r hr
  exact ⟨h1, b, off, h2, fun j hj => by
    rw [List.getElem?_eq_getElem (show j < (recVals r).length from hj)]
    exact hk.cell ((h3 j hj).trans (List.getElem?_eq_getElem (show j < (recVals r).length from hj)))⟩

theorem findErr_range (M : St) (r : Rec) : 0 ≤ M.findErr r ∧ M.findErr r ≤ 255 := by
  unfold St.findErr
  split
  · decide
  · split
    · decide
    · split <;> decide

theorem actErr_range (M : St) (l : Int) (lo hi : Edge) : 0 ≤ actErr M (tAct M l lo hi) ∧ actErr M (tAct M l lo hi) ≤ 255 := by
  unfold tAct
  split
  · simp [actErr]
  · split
    · simp [actErr]
    · split
      · simp [actErr]
      · split
        · simp [actErr]
        · exact findErr_range M _

theorem vErr_range (M : St) (f : Int) (e : Edge) (l : Int) : 0 ≤ vErr M (viewAct M f e l) ∧ vErr M (viewAct M f e l) ≤ 255 := by
  have hv : ∀ f l e, (vOut f l e).2.2 = 0 := by
    intro f l e
    unfold vOut
    split
    · rfl
    · split <;> rfl
  unfold viewAct
  split
  · simp [vErr]
  · split
    · simp [vErr]
    · split
      · simp [vErr]
      · split
        · simp [vErr, hv]
        · split
          · simp [vErr, hv]
          · split
            · exact findErr_range M _
            · simp [vErr]

end Go.Proofs.Ytiacdpoldgfpbaa
