/-
  Plainly: a diagram with tags, made from below: each node that came in is reached; with more room it could be made.
-/
import Derived.Test.YtoeoehbpahodnaaPTwoBase
import Derived.RangeFuncBox
import Derived.Shelf.Abstract
import Derived.Shelf.RegionOpen
import Derived.OwnWalkIn
import Derived.TacticsInMore
import Derived.LoopNIn
import Derived.LoopIn
namespace Go.Proofs.Ytoeoehbpahodnaa
set_option linter.unusedSimpArgs false
set_option linter.unusedVariables false
set_option maxHeartbeats 600000

theorem reaches_ext {M N : St} (hE : Ext M N) {roots : List Int} {id : Int} (h : Reaches M.cs roots id) : Reaches N.cs roots id := by
  intro S hS hC
  refine h S (fun x hx hl => ?_) (fun x r hx hl => ?_)
  · cases hk : look M.cs x with
    | none => exact absurd hk hl
    | some r => exact hS x hx (by rw [hE.sub _ _ hk]; simp)
  · have hc := hC x r hx (hE.sub _ _ hl)
    refine ⟨fun hh => hc.1 ?_, fun hh => hc.2 ?_⟩
    · cases hk : look M.cs r.lo.to with
      | none => exact absurd hk hh
      | some q => rw [hE.sub _ _ hk]; simp
    · cases hk : look M.cs r.hi.to with
      | none => exact absurd hk hh
      | some q => rw [hE.sub _ _ hk]; simp

end Go.Proofs.Ytoeoehbpahodnaa

namespace Go.Proofs.Ytoeoehbpahodnaa
set_option linter.unusedSimpArgs false
set_option linter.unusedVariables false
set_option maxHeartbeats 600000

inductive SubT : Nat → List Bool → Int → Nat → List Bool → Int → Prop
  | here (k : Nat) (ts : List Bool) (l : Int) : SubT k ts l k ts l
  | lo {k : Nat} {ts : List Bool} {l : Int} {k' : Nat} {s : List Bool} {j : Int} : SubT k (ts.take (2 ^ k)) (l + 1) k' s j → SubT (k + 1) ts l k' s j
  | hi {k : Nat} {ts : List Bool} {l : Int} {k' : Nat} {s : List Bool} {j : Int} : SubT k (ts.drop (2 ^ k)) (l + 1) k' s j → SubT (k + 1) ts l k' s j

theorem SubT.level {k k' : Nat} {ts s : List Bool} {l j : Int} (h : SubT k ts l k' s j) : l + (k : Int) = j + (k' : Int) ∧ l ≤ j := by
  induction h with
  | here => exact ⟨rfl, by omega⟩
  | lo _ ih => push_cast; omega
  | hi _ ih => push_cast; omega

def IsPart (f : Int) (M : St) (k : Nat) (ts : List Bool) (l : Int) (id : Int) : Prop :=
  ∃ k' s j e r, SubT k ts l (k' + 1) s j ∧ IsT f M (k' + 1) s j e ∧ e.to = id ∧ look M.cs id = some r ∧ r.top = j

theorem IsPart.lo {f : Int} {M : St} {k : Nat} {ts : List Bool} {l : Int} {id : Int} (h : IsPart f M k (ts.take (2 ^ k)) (l + 1) id) : IsPart f M (k + 1) ts l id := by
  obtain ⟨k', s, j, e, r, h1, h2⟩ := h
  exact ⟨k', s, j, e, r, .lo h1, h2⟩

theorem IsPart.hi {f : Int} {M : St} {k : Nat} {ts : List Bool} {l : Int} {id : Int} (h : IsPart f M k (ts.drop (2 ^ k)) (l + 1) id) : IsPart f M (k + 1) ts l id := by
  obtain ⟨k', s, j, e, r, h1, h2⟩ := h
  exact ⟨k', s, j, e, r, .hi h1, h2⟩

theorem SubT.trans {k k' k2 : Nat} {ts s s2 : List Bool} {l j j2 : Int} (h : SubT k ts l k' s j) (h2 : SubT k' s j k2 s2 j2) : SubT k ts l k2 s2 j2 := by
  induction h with
  | here => exact h2
  | lo _ ih => exact .lo (ih h2)
  | hi _ ih => exact .hi (ih h2)

theorem IsPart.up {f : Int} {M : St} {k k' : Nat} {ts s : List Bool} {l j id : Int} (h : SubT k ts l k' s j) (hp : IsPart f M k' s j id) : IsPart f M k ts l id := by
  obtain ⟨k2, s2, j2, e, r, h1, h2⟩ := hp
  exact ⟨k2, s2, j2, e, r, h.trans h1, h2⟩

theorem tag_none {f : Int} {M : St} {e : Edge} {l : Int} (hf : f ≠ 5) (h : M.leads f e l = true) : e.tag = 0 := by
  have h1 := (leads_cases h).1
  unfold plainB at h1
  split at h1
  · cases h1
  · rw [if_pos (by simp [hf])] at h1
    simpa using h1

def Twin (f g : Int) (M : St) (k : Nat) (ts : List Bool) (l : Int) (x y : Int) : Prop :=
  ∃ k' s j ef eg q, SubT k ts l (k' + 1) s j ∧ IsT f M (k' + 1) s j ef ∧ ef.to = x ∧ IsT g M (k' + 1) s j eg ∧ eg.to = y ∧ look M.cs y = some q ∧ q.top = j

theorem Twin.inj {f g : Int} {M : St} (hw : M.wf) (hg : g = 1 ∨ g = 2) {k : Nat} {ts : List Bool} {l : Int} (hn : l + (k : Int) = M.n) {x x' y : Int} (h : Twin f g M k ts l x y) (h' : Twin f g M k ts l x' y) : x = x' := by
  obtain ⟨k1, s1, j1, e1, d1, q1, a1, a2, a3, a4, a5, a6, a7⟩ := h
  obtain ⟨k2, s2, j2, e2, d2, q2, b1, b2, b3, b4, b5, b6, b7⟩ := h'
  have hg5 : 1 ≤ g ∧ g ≤ 5 := by omega
  rw [a6] at b6
  cases b6
  have l1 := a1.level
  have l2 := b1.level
  have ej : j1 = j2 := by omega
  subst ej
  have ek : k1 = k2 := by push_cast at l1 l2; omega
  subst ek
  have t1 := tag_none (f := g) (by omega) (a4.leads hw hg5 (by omega))
  have t2 := tag_none (f := g) (by omega) (b4.leads hw hg5 (by omega))
  have ed : d1 = d2 := by
    cases d1
    cases d2
    simp only at a5 b5 t1 t2
    rw [a5, b5, t1, t2]
  subst ed
  have es := IsT.inj hw _ _ _ _ _ a4 b4
  subst es
  have ee := IsT.det hw _ _ _ _ _ a2 b2
  subst ee
  rw [← a3, ← b3]

end Go.Proofs.Ytoeoehbpahodnaa
