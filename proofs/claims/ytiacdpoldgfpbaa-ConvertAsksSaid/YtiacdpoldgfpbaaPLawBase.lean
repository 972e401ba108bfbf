/-
  What the statements' walks share.
-/
import Derived.Test.YtiacdpoldgfpbaaPOpens
import Derived.Test.YtiacdpoldgfpbaaPVBase
namespace Go.Proofs.Ytiacdpoldgfpbaa
set_option linter.unusedSimpArgs false
set_option linter.unusedVariables false
set_option maxHeartbeats 600000
open Go.RowKit

theorem IsRecs.keeps {w W : World} {a : Option Addr} {len : Nat} {rs : List Rec} (h : IsRecs w a len rs) (hk : Keeps w W) : IsRecs W a len rs := by
  refine ⟨h.1, fun i r hr => ?_⟩
  obtain ⟨h1, b, off, h2, h3⟩ := h.2 i r hr
  exact ⟨h1, b, off, h2, fun j hj => by
    rw [List.getElem?_eq_getElem (show j < (recVals r).length from hj)]
    exact hk.cell ((h3 j hj).trans (List.getElem?_eq_getElem (show j < (recVals r).length from hj)))⟩

end Go.Proofs.Ytiacdpoldgfpbaa
