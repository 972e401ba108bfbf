/-
  Plainly: the nodes that a made edge reaches are those of its table's parts.
-/
import Derived.Test.YtoeoehbpahodnaaGreatPTwoA
namespace Go.Proofs.YtoeoehbpahodnaaGreat
set_option linter.unusedSimpArgs false
set_option linter.unusedVariables false
set_option maxHeartbeats 600000

inductive SubT : Nat → List Bool → Int → Nat → List Bool → Int → Prop
  | here (k : Nat) (ts : List Bool) (l : Int) : SubT k ts l k ts l
  | lo {k : Nat} {ts : List Bool} {l : Int} {k' : Nat} {s : List Bool} {j : Int} : SubT k (ts.take (2 ^ k)) (l + 1) k' s j → SubT (k + 1) ts l k' s j
  | hi {k : Nat} {ts : List Bool} {l : Int} {k' : Nat} {s : List Bool} {j : Int} : SubT k (ts.drop (2 ^ k)) (l + 1) k' s j → SubT (k + 1) ts l k' s j

theorem SubT.level {k k' : Nat} {ts s : List Bool} {l j : Int} (h : SubT k ts l k' s j) : l + (k : Int) = j + (k' : Int) ∧ l ≤ j := by
  induction h with
  | here => exact ⟨rfl, by omega⟩
  | lo _ ih => push_cast; omega
  | hi _ ih => push_cast; omega

def IsPart (f : Int) (M : St) (k : Nat) (ts : List Bool) (l : Int) (id : Int) : Prop :=
  ∃ k' s j e r, SubT k ts l (k' + 1) s j ∧ IsT f M (k' + 1) s j e ∧ e.to = id ∧ look M.cs id = some r ∧ r.top = j

theorem IsPart.lo {f : Int} {M : St} {k : Nat} {ts : List Bool} {l : Int} {id : Int} (h : IsPart f M k (ts.take (2 ^ k)) (l + 1) id) : IsPart f M (k + 1) ts l id := by
  obtain ⟨k', s, j, e, r, h1, h2⟩ := h
  exact ⟨k', s, j, e, r, .lo h1, h2⟩

theorem IsPart.hi {f : Int} {M : St} {k : Nat} {ts : List Bool} {l : Int} {id : Int} (h : IsPart f M k (ts.drop (2 ^ k)) (l + 1) id) : IsPart f M (k + 1) ts l id := by
  obtain ⟨k', s, j, e, r, h1, h2⟩ := h
  exact ⟨k', s, j, e, r, .hi h1, h2⟩

theorem SubT.trans {k k' k2 : Nat} {ts s s2 : List Bool} {l j j2 : Int} (h : SubT k ts l k' s j) (h2 : SubT k' s j k2 s2 j2) : SubT k ts l k2 s2 j2 := by
  induction h with
  | here => exact h2
  | lo _ ih => exact .lo (ih h2)
  | hi _ ih => exact .hi (ih h2)

theorem IsPart.up {f : Int} {M : St} {k k' : Nat} {ts s : List Bool} {l j id : Int} (h : SubT k ts l k' s j) (hp : IsPart f M k' s j id) : IsPart f M k ts l id := by
  obtain ⟨k2, s2, j2, e, r, h1, h2⟩ := hp
  exact ⟨k2, s2, j2, e, r, h.trans h1, h2⟩

theorem tag_none {f : Int} {M : St} {e : Edge} {l : Int} (hf : f ≠ 5) (h : M.leads f e l = true) : e.tag = 0 := by
  have h1 := (leads_cases h).1
  unfold plainB at h1
  split at h1
  · cases h1
  · rw [if_pos (by simp [hf])] at h1
    simpa using h1

def Twin (f g : Int) (M : St) (k : Nat) (ts : List Bool) (l : Int) (x y : Int) : Prop :=
  ∃ k' s j ef eg q, SubT k ts l (k' + 1) s j ∧ IsT f M (k' + 1) s j ef ∧ ef.to = x ∧ IsT g M (k' + 1) s j eg ∧ eg.to = y ∧ look M.cs y = some q ∧ q.top = j

theorem Twin.inj {f g : Int} {M : St} (hw : M.wf) (hg : g = 1 ∨ g = 2) {k : Nat} {ts : List Bool} {l : Int} (hn : l + (k : Int) = M.n) {x x' y : Int} (h : Twin f g M k ts l x y) (h' : Twin f g M k ts l x' y) : x = x' := by
  obtain ⟨k1, s1, j1, e1, d1, q1, a1, a2, a3, a4, a5, a6, a7⟩ := h
  obtain ⟨k2, s2, j2, e2, d2, q2, b1, b2, b3, b4, b5, b6, b7⟩ := h'
  have hg5 : 1 ≤ g ∧ g ≤ 5 := by omega
  rw [a6] at b6
  cases b6
  have l1 := a1.level
  have l2 := b1.level
  have ej : j1 = j2 := by omega
  subst ej
  have ek : k1 = k2 := by push_cast at l1 l2; omega
  subst ek
  have t1 := tag_none (f := g) (by omega) (a4.leads hw hg5 (by omega))
  have t2 := tag_none (f := g) (by omega) (b4.leads hw hg5 (by omega))
  have ed : d1 = d2 := by
    cases d1
    cases d2
    simp only at a5 b5 t1 t2
    rw [a5, b5, t1, t2]
  subst ed
  have es := IsT.inj hw _ _ _ _ _ a4 b4
  subst es
  have ee := IsT.det hw _ _ _ _ _ a2 b2
  subst ee
  rw [← a3, ← b3]

end Go.Proofs.YtoeoehbpahodnaaGreat

namespace Go.Proofs.YtoeoehbpahodnaaGreat
set_option linter.unusedSimpArgs false
set_option linter.unusedVariables false
set_option maxHeartbeats 600000
open Go.RowKit

def termK (f : Int) (k : Nat) (ts : List Bool) (l : Int) : ByteArray :=
  if f = 1 then termB k ts l else if f = 2 then termZ k ts l else if f = 3 then termC (k + 1) k ts l else if f = 4 then termQ (k + 1) k ts l else termT (k + 1) k ts l

theorem form_cases {f : Int} (hf : 1 ≤ f ∧ f ≤ 5) : f = 1 ∨ f = 2 ∨ f = 3 ∨ f = 4 ∨ f = 5 := by omega

theorem twoK {f : Int} {M : St} (hw : M.wf) (hf : 1 ≤ f ∧ f ≤ 5) {k : Nat} {ts : List Bool} {l : Int} {e : Edge} (h : IsT f M k ts l e) (hl : l + (k : Nat) = M.n) (h0 : 0 ≤ l) (m : Nat) (hm : k ≤ m) : unfS f M (m + 1) e = termK f k ts l := by
  rcases form_cases hf with rfl | rfl | rfl | rfl | rfl
  · exact two1 hw k ts l e h m hm
  · exact two2 k ts l e h m hm
  · exact two3 hw k ts l e h hl m k hm (Nat.le_refl _)
  · exact two4 hw k ts l e h hl m k hm (Nat.le_refl _)
  · exact two5 hw k ts l e h hl h0 m k hm (Nat.le_refl _)

end Go.Proofs.YtoeoehbpahodnaaGreat

namespace Go.Proofs.YtoeoehbpahodnaaGreat
set_option linter.unusedSimpArgs false
set_option linter.unusedVariables false
set_option maxHeartbeats 600000

def TwinZ (M : St) (x y : Int) : Prop :=
  ∃ (k' : Nat) (s : List Bool) (j : Int) (eg : Edge) (q : Rec), j + ((k' + 1 : Nat) : Int) = M.n ∧ IsT 2 M (k' + 1) s j eg ∧ eg.to = y ∧ look M.cs y = some q ∧ q.top = j ∧
    ((s.take (2 ^ k') ≠ s.drop (2 ^ k') ∧ ∃ ef, IsT 5 M (k' + 1) s j ef ∧ ef.to = x) ∨
     (s.take (2 ^ k') = s.drop (2 ^ k') ∧ ∃ s0 e0, IsT 5 M (k' + 1 + 1) s0 (j - 1) e0 ∧ e0.to = x ∧ s0.take (2 ^ (k' + 1)) = s ∧ noneL (s0.drop (2 ^ (k' + 1))) = true))

theorem TwinZ.inj {M : St} (hw : M.wf) {x x' y : Int} (h : TwinZ M x y) (h' : TwinZ M x' y) : x = x' := by
  obtain ⟨k1, s1, j1, d1, q1, a1, a4, a5, a6, a7, a8⟩ := h
  obtain ⟨k2, s2, j2, d2, q2, b1, b4, b5, b6, b7, b8⟩ := h'
  rw [a6] at b6
  cases b6
  have ej : j1 = j2 := by omega
  subst ej
  have ek : k1 = k2 := by push_cast at a1 b1; omega
  subst ek
  have t1 := tag_none (f := 2) (by omega) (a4.leads hw (by omega) a1)
  have t2 := tag_none (f := 2) (by omega) (b4.leads hw (by omega) a1)
  have ed : d1 = d2 := by
    cases d1
    cases d2
    simp only at a5 b5 t1 t2
    rw [a5, b5, t1, t2]
  subst ed
  have es := IsT.inj hw _ _ _ _ _ a4 b4
  subst es
  rcases a8 with ⟨n1, e1, p1, p2⟩ | ⟨n1, s0, e0, p1, p2, p3, p4⟩
  · rcases b8 with ⟨n2, e2, r1, r2⟩ | ⟨n2, _⟩
    · have ee := IsT.det hw _ _ _ _ _ p1 r1
      subst ee
      rw [← p2, ← r2]
    · exact absurd n2 n1
  · rcases b8 with ⟨n2, _⟩ | ⟨n2, s0', e0', r1, r2, r3, r4⟩
    · exact absurd n1 n2
    · have hl1 := p1.length
      have hl2 := r1.length
      have hd : s0.drop (2 ^ (k1 + 1)) = s0'.drop (2 ^ (k1 + 1)) := noneL_len (by rw [List.length_drop, List.length_drop, hl1, hl2]) p4 r4
      have hs : s0 = s0' := by
        rw [← List.take_append_drop (2 ^ (k1 + 1)) s0, ← List.take_append_drop (2 ^ (k1 + 1)) s0', p3, r3, hd]
      subst hs
      have ee := IsT.det hw _ _ _ _ _ p1 r1
      subst ee
      rw [← p2, ← r2]

end Go.Proofs.YtoeoehbpahodnaaGreat
