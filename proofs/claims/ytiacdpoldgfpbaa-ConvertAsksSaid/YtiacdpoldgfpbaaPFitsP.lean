/-
  Plainly: a diagram with tags, made from below: each node that came in is reached; with more room it could be made.
-/
import Derived.Test.YtiacdpoldgfpbaaPHPlainA
namespace Go.Proofs.Ytiacdpoldgfpbaa
set_option linter.unusedSimpArgs false
set_option linter.unusedVariables false
set_option maxHeartbeats 600000

theorem reaches_ext {M N : St} (hE : Ext M N) {roots : List Int} {id : Int} (h : Reaches M.cs roots id) : Reaches N.cs roots id := by
  intro S hS hC
  refine h S (fun x hx hl => ?_) (fun x r hx hl => ?_)
  · cases hk : look M.cs x with
    | none => exact absurd hk hl
    | some r => exact hS x hx (by rw [hE.sub _ _ hk]; simp)
  · have hc := hC x r hx (hE.sub _ _ hl)
    refine ⟨fun hh => hc.1 ?_, fun hh => hc.2 ?_⟩
    · cases hk : look M.cs r.lo.to with
      | none => exact absurd hk hh
      | some q => rw [hE.sub _ _ hk]; simp
    · cases hk : look M.cs r.hi.to with
      | none => exact absurd hk hh
      | some q => rw [hE.sub _ _ hk]; simp

end Go.Proofs.Ytiacdpoldgfpbaa
