/-
  Unfold of law12 over the state (printed by wip/mk_unfold.py).
-/
import Derived.Test.YtiacdpoldgfpbaaPRightA
import Derived.Test.YtiacdpoldgfpbaaPUnfBase
namespace Go.Proofs.Ytiacdpoldgfpbaa
set_option linter.unusedSimpArgs false
set_option linter.unusedVariables false
set_option maxHeartbeats 600000
open Go.RowKit

end Go.Proofs.Ytiacdpoldgfpbaa

/-
  Unfold of law13 over the state (printed by wip/mk_unfold.py).
-/
namespace Go.Proofs.Ytiacdpoldgfpbaa
set_option linter.unusedSimpArgs false
set_option linter.unusedVariables false
set_option maxHeartbeats 600000
open Go.RowKit

end Go.Proofs.Ytiacdpoldgfpbaa

/-
  Unfold of law14 over the state (printed by wip/mk_unfold.py).
-/
namespace Go.Proofs.Ytiacdpoldgfpbaa
set_option linter.unusedSimpArgs false
set_option linter.unusedVariables false
set_option maxHeartbeats 600000
open Go.RowKit

end Go.Proofs.Ytiacdpoldgfpbaa

/-
  Unfold of law15 over the state (printed by wip/mk_unfold.py).
-/
namespace Go.Proofs.Ytiacdpoldgfpbaa
set_option linter.unusedSimpArgs false
set_option linter.unusedVariables false
set_option maxHeartbeats 600000
open Go.RowKit

end Go.Proofs.Ytiacdpoldgfpbaa

/-
  Unfold of law16 over the state (printed by wip/mk_unfold.py).
-/
namespace Go.Proofs.Ytiacdpoldgfpbaa
set_option linter.unusedSimpArgs false
set_option linter.unusedVariables false
set_option maxHeartbeats 600000
open Go.RowKit

theorem lead_tag {M : St} {f : Int} {e : Edge} {l : Int} (h : M.leads f e l = true) (hn : M.n ≤ 9) : e.tag < 10 := by
  obtain ⟨p1, p2, p3, p4, p5, p6, p7, p8⟩ := plainB_iff.1 (leads_cases h).1
  by_cases c : f ≠ 5 ∨ e.to = 0
  · have := p7 c; omega
  · have := p8 (by omega) (by omega); omega

theorem grec_tags {M : St} (h : M.wf) (hn : M.n ≤ 9) (id : Int) : (grec (look M.cs id)).lo.tag < 10 ∧ (grec (look M.cs id)).hi.tag < 10 := by
  cases hl : look M.cs id with
  | none => exact ⟨by decide, by decide⟩
  | some r => exact ⟨lead_tag (h.goodRec hl).lo hn, lead_tag (h.goodRec hl).hi hn⟩

end Go.Proofs.Ytiacdpoldgfpbaa
