/-
  A diagram's text behind a sweep, and behind nodes that came in.
-/
import Derived.Test.YtiacdpoldgfpbaaPHPlainA
import Derived.Test.YtiacdpoldgfpbaaPPartsA
namespace Go.Proofs.Ytiacdpoldgfpbaa
set_option linter.unusedSimpArgs false
set_option linter.unusedVariables false
set_option maxHeartbeats 600000
open Go.RowKit

/-- Where what is reached has stayed, a text has stayed. -/
theorem unf_agree {f : Int} {M M' : St} (hM : Fine f M) {roots : List Int} (hR : ∀ id, Reaches M.cs roots id → look M'.cs id = look M.cs id) :
    ∀ (n : Nat) (e : Edge) (l : Int), At f M e l n → (look M.cs e.to ≠ none → Reaches M.cs roots e.to) → unfL f M' n e = unfL f M n e := by
  intro n
  induction n with
  | zero => intro e l h; obtain ⟨m, hm⟩ := h.pos hM; omega
  | succ n ih =>
    intro e l h hr
    rcases h.cases hM with ⟨h0, h2⟩ | ⟨r, hl, _, _, _, _, _, _, _, _, hlo, hhi⟩
    · rw [unfL_leaf h0 h2, unfL_leaf h0 h2]
    · have hre := hr (by rw [hl]; simp)
      have hl' : look M'.cs e.to = some r := by rw [hR _ hre, hl]
      have hc := Reaches.closed M.cs roots e.to r hre hl
      rw [unfL_node hl, unfL_node hl']
      unfold nodeL
      rw [ih _ _ hlo hc.1, ih _ _ hhi hc.2]

theorem unfS_of {f : Int} {M M' : St} {n : Nat} {e : Edge} (h : unfL f M' n e = unfL f M n e) : unfS f M' n e = unfS f M n e := by
  apply ByteArray.ext
  exact Array.toList_inj.1 h

theorem StoreRep.fine {F : Nat → Prop} {w : World} {sb : Nat} {M : St} (h : StoreRep F w sb M) (f : Int) (h9 : M.n ≤ 9) : Fine f M := ⟨h.wf, fun _ _ hl => ⟨(h.fit hl).lo.2.1, (h.fit hl).hi.2.1⟩, h9⟩

/-- Behind a sweep of all but an edge: its text, and as many nodes as the text has. -/
theorem sweep_text {F : Nat → Prop} {w : World} {sb : Nat} {M : St} {f : Int} {x : Edge} {n : Nat} (h : StoreRep F w sb M) (h9 : M.n ≤ 9) (hx : At f M x 0 n) :
    unfS f (sweepSt M [x.to]) n x = unfS f M n x ∧ (sweepSt M [x.to]).len = ((partsTo (unfS f M n x) (unfS f M n x).size).length : Int) ∧ (sweepSt M [x.to]).leads f x 0 = true := by
  have hF := h.fine f h9
  refine ⟨unfS_of (unf_agree hF (roots := [x.to]) (fun id hid => ?_) n x 0 hx (fun hl => Reaches.root (by simp) hl)), ?_, leads_sweep hx.lead (fun hl => Reaches.root (by simp) hl)⟩
  · rw [look_sweep, if_neg (fun hg => (goneL_mem.1 hg).2 hid)]
  · rw [parts_count hF n x 0 hx, sweep_len]
    have := part_len M [x.to]
    have := ids_len h
    omega

/-- Behind nodes that came in. -/
theorem ext_text {F : Nat → Prop} {w : World} {sb : Nat} {M M' : St} {f : Int} {x : Edge} {n : Nat} (h : StoreRep F w sb M) (h9 : M.n ≤ 9) (hx : At f M x 0 n) (hE : Ext M M') : unfS f M' n x = unfS f M n x := by
  refine unfS_of (unf_agree (h.fine f h9) (roots := [x.to]) (fun id hid => ?_) n x 0 hx (fun hl => Reaches.root (by simp) hl))
  cases hl : look M.cs id with
  | none => exact absurd hl hid.some
  | some r => exact hE.sub _ _ hl

end Go.Proofs.Ytiacdpoldgfpbaa
