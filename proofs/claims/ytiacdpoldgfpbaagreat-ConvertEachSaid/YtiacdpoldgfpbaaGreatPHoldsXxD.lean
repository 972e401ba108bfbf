/-
  canon.Holds over the state: by levels, and from node to node.
-/
import Derived.Test.YtiacdpoldgfpbaaGreatPHPlainAxD
import Derived.Test.YtiacdpoldgfpbaaGreatPHoldsY
namespace Go.Proofs.YtiacdpoldgfpbaaGreat
set_option linter.unusedSimpArgs false
set_option linter.unusedVariables false
set_option maxHeartbeats 600000
open Go.RowKit

def mayC (M : St) (f : Int) (e : Edge) (l : Int) : Int := if isFormB f = false then 4 else if l < 0 ∨ M.n < l then 3 else if M.leads f e l = false then 1 else 0

theorem mayC_range (M : St) (f : Int) (e : Edge) (l : Int) : 0 ≤ mayC M f e l ∧ mayC M f e l ≤ 4 := by
  unfold mayC
  split
  · decide
  · split
    · decide
    · split <;> decide

theorem side_leads {M : St} (h : M.wf) {id x : Int} {r : Rec} (hl : look M.cs id = some r) : M.leads r.form (sideE x r) (r.bot + 1) = true := by
  have g := h.goodRec hl
  unfold sideE
  split
  · exact g.hi
  · exact g.lo

end Go.Proofs.YtiacdpoldgfpbaaGreat

namespace Go.Proofs.YtiacdpoldgfpbaaGreat
set_option linter.unusedSimpArgs false
set_option linter.unusedVariables false
set_option maxHeartbeats 600000

theorem reaches_ext {M N : St} (hE : Ext M N) {roots : List Int} {id : Int} (h : Reaches M.cs roots id) : Reaches N.cs roots id := by
  intro S hS hC
  refine h S (fun x hx hl => ?_) (fun x r hx hl => ?_)
  · cases hk : look M.cs x with
    | none => exact absurd hk hl
    | some r => exact hS x hx (by rw [hE.sub _ _ hk]; simp)
  · have hc := hC x r hx (hE.sub _ _ hl)
    refine ⟨fun hh => hc.1 ?_, fun hh => hc.2 ?_⟩
    · cases hk : look M.cs r.lo.to with
      | none => exact absurd hk hh
      | some q => rw [hE.sub _ _ hk]; simp
    · cases hk : look M.cs r.hi.to with
      | none => exact absurd hk hh
      | some q => rw [hE.sub _ _ hk]; simp

end Go.Proofs.YtiacdpoldgfpbaaGreat
