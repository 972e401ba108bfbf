/-
  Plainly: View of a right edge and Make of its halves tell it again.
-/
import Derived.Test.YtiacdpoldgfpbaaGreatPHPlainA
import Derived.Test.YtiacdpoldgfpbaaGreatPViewTxD
namespace Go.Proofs.YtiacdpoldgfpbaaGreat
set_option linter.unusedSimpArgs false
set_option linter.unusedVariables false
set_option maxHeartbeats 600000

theorem rest_good {M : St} {r : Rec} (g : GoodRec M r) (hn : M.n ≤ 16) (h0 : 0 ≤ r.top) (hc : r.form = 3 ∨ r.form = 4) (hne : r.bot ≠ r.top) : M.bad ⟨r.form, r.top + 1, r.bot, r.lo, r.hi⟩ = false := by
  have t1 := g.tb
  have t2 := g.bn
  have p1 := (leads_iff.1 g.lo).1
  have p2 := (leads_iff.1 g.hi).1
  unfold St.bad
  simp only [Bool.or_eq_false_iff, Bool.not_eq_false']
  refine ⟨⟨?_, g.lo⟩, g.hi⟩
  unfold rightB isFormB mayB chainedB
  have c1 : ¬ (!(decide (1 ≤ r.form) && decide (r.form ≤ 5)) || !(decide (0 ≤ M.n) && decide (M.n ≤ 16)) || decide (r.bot < r.top + 1) || decide (M.n ≤ r.bot) || (r.top + 1 != r.bot && !(r.form == 3 || r.form == 4))) = true := by
    simp only [Bool.or_eq_true, Bool.not_eq_true', Bool.and_eq_true, Bool.and_eq_false_iff, Bool.or_eq_false_iff, decide_eq_false_iff_not, decide_eq_true_eq, beq_eq_false_iff_ne]
    have := g.f1
    have := g.f5
    omega
  rw [if_neg c1, if_neg (by rw [p1, p2]; simp)]
  rcases hc with hc | hc
  · rw [if_neg (by simp [hc])]
    have := g.apart (by omega) (by omega)
    cases he : (r.lo.tag == r.hi.tag && r.lo.to == r.hi.to) with
    | false => rfl
    | true =>
      simp only [Bool.and_eq_true, beq_iff_eq] at he
      exact absurd (by cases hl : r.lo; cases hh : r.hi; rw [hl, hh] at he; simp at he; rw [he.1, he.2]) this
  · rw [if_pos (by simp [hc])]
    simpa using g.zero (.inr hc)

end Go.Proofs.YtiacdpoldgfpbaaGreat

namespace Go.Proofs.YtiacdpoldgfpbaaGreat
set_option linter.unusedSimpArgs false
set_option linter.unusedVariables false
set_option maxHeartbeats 600000

theorem findId_fit {M : St} (h : M.wf) (hf : M.cs.length ≤ 1048576) (r : Rec) : 0 ≤ M.findId r ∧ M.findId r ≤ 4294967295 := by
  unfold St.findId
  cases hi : M.idOf r with
  | some id => have := look_some (idOf_look hi); simp only []; omega
  | none =>
    simp only []
    have := putId_range h.gone
    split
    · omega
    · split <;> omega

theorem foundE_fit {M : St} (h : M.wf) (hf : M.cs.length ≤ 1048576) (t : Int) (ht : 0 ≤ t ∧ t ≤ 255) (r : Rec) : (foundE M t r).ok := by
  unfold foundE
  split
  · exact ⟨ht, findId_fit h hf r⟩
  · exact ⟨⟨by show (0 : Int) ≤ 0; omega, by show (0 : Int) ≤ 255; omega⟩, ⟨by show (0 : Int) ≤ 0; omega, by show (0 : Int) ≤ 4294967295; omega⟩⟩

theorem view_fit {M : St} (h : M.wf) (hf : M.cs.length ≤ 1048576) (hfit : ∀ id r, look M.cs id = some r → r.ok) {f : Int} {e : Edge} {l : Int} (he : e.ok) (h0 : 0 ≤ l) (h1 : l < M.n) :
    (vLo M (viewAct M f e l)).ok ∧ (vHi M f (viewAct M f e l)).ok := by
  have hn := h.n16
  have hout : (vOut f l e).1.ok ∧ (vOut f l e).2.1.ok := by
    unfold vOut
    split
    · exact ⟨he, he⟩
    · split
      · exact ⟨⟨⟨by show 0 ≤ l + 1; omega, by show l + 1 ≤ 255; omega⟩, he.2⟩, edge0_ok⟩
      · exact ⟨he, edge0_ok⟩
  unfold viewAct
  split
  · exact ⟨edge0_ok, edge0_ok⟩
  · split
    · exact ⟨edge0_ok, edge0_ok⟩
    · split
      · exact ⟨he, he⟩
      · cases hk : look M.cs e.to with
        | none => exact hout
        | some r =>
          have hok := hfit _ _ hk
          simp only []
          split
          · exact hout
          · split
            · refine ⟨foundE_fit h hf 0 (by omega) _, ?_⟩
              show (if M.findErr _ = 0 then (if f = 4 then foundE M 0 _ else _) else ⟨0, 0⟩ : Edge).ok
              split
              · split
                · exact foundE_fit h hf 0 (by omega) _
                · exact hok.hi
              · exact edge0_ok
            · exact ⟨hok.lo, hok.hi⟩

end Go.Proofs.YtiacdpoldgfpbaaGreat

namespace Go.Proofs.YtiacdpoldgfpbaaGreat
set_option linter.unusedSimpArgs false
set_option linter.unusedVariables false
set_option maxHeartbeats 600000
open Go.RowKit

theorem mkE_ok {f : Int} {M : St} {l : Int} {lo hi : Edge} (h : M.wf) (hf : M.cs.length ≤ 1048576) (hlo : lo.ok) (hhi : hi.ok) (h0 : 0 ≤ l) (h1 : l ≤ 255) (hff : f = 3 ∨ f = 4 ∨ f = 5) : (mkE f M (mkA f M l lo hi)).ok := by
  rcases hff with rfl | rfl | rfl
  · rw [mk3]
    show (actE0 M _).ok
    unfold makeAct cRest
    repeat' split
    all_goals first | exact edge0_ok | exact hlo | exact foundE_fit h hf 0 (by omega) _
  · rw [mk4]
    show (actE0 M _).ok
    unfold makeAct qRest
    repeat' split
    all_goals first | exact edge0_ok | exact hlo | exact foundE_fit h hf 0 (by omega) _
  · rw [mk5]
    show (actE M _).ok
    unfold tAct
    repeat' split
    all_goals first | exact edge0_ok | exact hlo | exact ⟨⟨h0, h1⟩, hlo.2⟩ | exact foundE_fit h hf l ⟨h0, h1⟩ _

theorem Stood.of {F : Nat → Prop} {W w' : World} {sb : Nat} {M : St} (hu : Upd F W w') (hS : StoreRep (Grow F W w') w' sb M) : Stood F W w' sb M :=
  ⟨⟨_, hS, fun j hj => by rcases hj with hj | hj; exact .inl hj; exact .inr hj.1⟩, hu⟩

end Go.Proofs.YtiacdpoldgfpbaaGreat
