/-
  Plainly: the nodes that a made edge reaches are those of its table's parts.
-/
import Derived.Test.YtiacdpoldgfpbaaGreatPKPlain
import Derived.Test.YtiacdpoldgfpbaaGreatPLeadsAxB
import Derived.RangeFuncStops
import Derived.RangeFuncCalls
import Derived.RangeFuncLeaves
import Derived.RangeFuncBox
import Derived.Shelf.Abstract
import Derived.Shelf.RegionOpen
import Derived.OwnWalkIn
import Derived.TacticsInMore
import Derived.LoopNIn
import Derived.LoopIn
namespace Go.Proofs.YtiacdpoldgfpbaaGreat
set_option linter.unusedSimpArgs false
set_option linter.unusedVariables false
set_option maxHeartbeats 600000

inductive SubT : Nat → List Bool → Int → Nat → List Bool → Int → Prop
  | here (k : Nat) (ts : List Bool) (l : Int) : SubT k ts l k ts l
  | lo {k : Nat} {ts : List Bool} {l : Int} {k' : Nat} {s : List Bool} {j : Int} : SubT k (ts.take (2 ^ k)) (l + 1) k' s j → SubT (k + 1) ts l k' s j
  | hi {k : Nat} {ts : List Bool} {l : Int} {k' : Nat} {s : List Bool} {j : Int} : SubT k (ts.drop (2 ^ k)) (l + 1) k' s j → SubT (k + 1) ts l k' s j

theorem SubT.level {k k' : Nat} {ts s : List Bool} {l j : Int} (h : SubT k ts l k' s j) : l + (k : Int) = j + (k' : Int) ∧ l ≤ j := by
  induction h with
  | here => exact ⟨rfl, by omega⟩
  | lo _ ih => push_cast; omega
  | hi _ ih => push_cast; omega

structure MadeBy (f : Int) (M : St) (l : Int) (lo hi e : Edge) (r : Rec) : Prop where
  here : look M.cs e.to = some r
  top : r.top = l
  form : r.form = f
  same : f = 1 ∨ f = 3 ∨ f = 5 → lo ≠ hi
  none : f = 2 ∨ f = 4 → hi.to ≠ 0
  tag : f = 5 → ¬ (hi.to = 0 ∧ lo.tag = l + 1)
  parts : (r.lo = lo ∧ r.hi = hi ∧ (f = 1 ∨ f = 2 ∨ f = 5 → r.bot = l)) ∨ ((f = 3 ∨ f = 4) ∧ ∃ x, look M.cs lo.to = some x ∧ x.top = l + 1 ∧ r.lo = x.lo ∧ (r.hi = hi ∨ r.hi = x.hi))

theorem pair_cases {f : Int} {M : St} {l : Int} {lo hi e : Edge} (hf : 1 ≤ f ∧ f ≤ 5) (h : Pair f M l lo hi e) : (e.to = lo.to ∧ ((lo = hi ∧ f ≠ 2 ∧ f ≠ 4) ∨ (hi.to = 0 ∧ f ≠ 1 ∧ f ≠ 3))) ∨ ∃ r, MadeBy f M l lo hi e r := by
  have hff : f = 1 ∨ f = 2 ∨ f = 3 ∨ f = 4 ∨ f = 5 := by omega
  have hu := h.up
  rcases hff with rfl | rfl | rfl | rfl | rfl
  · rw [mkK1] at hu
    unfold makeAct bRest at hu
    split at hu
    · rcases hu with hu | ⟨r, hu, _⟩ <;> cases hu
    · split at hu
      · rcases hu with hu | ⟨r, hu, _⟩ <;> cases hu
      · split at hu
        · rename_i hc
          rcases hu with hu | ⟨r, hu, _⟩
          · cases hu; exact .inl ⟨rfl, .inl ⟨hc, by omega, by omega⟩⟩
          · cases hu
        · rename_i hc
          rcases hu with hu | ⟨r, hu, hl, _⟩
          · cases hu
          · cases hu
            exact .inr ⟨_, hl, rfl, rfl, fun _ => hc, fun hh => by omega, fun hh => by omega, .inl ⟨rfl, rfl, fun _ => rfl⟩⟩
  · rw [mkK2] at hu
    unfold makeAct zRest at hu
    split at hu
    · rcases hu with hu | ⟨r, hu, _⟩ <;> cases hu
    · split at hu
      · rcases hu with hu | ⟨r, hu, _⟩ <;> cases hu
      · split at hu
        · rename_i hc
          rcases hu with hu | ⟨r, hu, _⟩
          · cases hu; exact .inl ⟨rfl, .inr ⟨hc, by omega, by omega⟩⟩
          · cases hu
        · rename_i hc
          rcases hu with hu | ⟨r, hu, hl, _⟩
          · cases hu
          · cases hu
            exact .inr ⟨_, hl, rfl, rfl, fun hh => by omega, fun _ => hc, fun hh => by omega, .inl ⟨rfl, rfl, fun _ => rfl⟩⟩
  · rw [mkK3] at hu
    unfold makeAct cRest at hu
    split at hu
    · rcases hu with hu | ⟨r, hu, _⟩ <;> cases hu
    · split at hu
      · rcases hu with hu | ⟨r, hu, _⟩ <;> cases hu
      · split at hu
        · rename_i hc
          rcases hu with hu | ⟨r, hu, _⟩
          · cases hu; exact .inl ⟨rfl, .inl ⟨hc, by omega, by omega⟩⟩
          · cases hu
        · rename_i hc
          have plain : ∀ {r : Rec}, r = ⟨3, l, l, lo, hi⟩ → look M.cs e.to = some r → ∃ r, MadeBy 3 M l lo hi e r := fun {r} hr hl => by
            subst hr
            exact ⟨_, hl, rfl, rfl, fun _ => hc, fun hh => by omega, fun hh => by omega, .inl ⟨rfl, rfl, fun hh => by omega⟩⟩
          split at hu
          · rcases hu with hu | ⟨r, hu, hl, _⟩
            · cases hu
            · cases hu; exact .inr (plain rfl hl)
          · rename_i x hx
            split at hu
            · rename_i ht
              split at hu
              · rcases hu with hu | ⟨r, hu, hl, _⟩
                · cases hu
                · cases hu
                  exact .inr ⟨_, hl, rfl, rfl, fun _ => hc, fun hh => by omega, fun hh => by omega, .inr ⟨.inl rfl, x, hx, ht, rfl, .inl rfl⟩⟩
              · rcases hu with hu | ⟨r, hu, hl, _⟩
                · cases hu
                · cases hu; exact .inr (plain rfl hl)
            · rcases hu with hu | ⟨r, hu, hl, _⟩
              · cases hu
              · cases hu; exact .inr (plain rfl hl)
  · rw [mkK4] at hu
    unfold makeAct qRest at hu
    split at hu
    · rcases hu with hu | ⟨r, hu, _⟩ <;> cases hu
    · split at hu
      · rcases hu with hu | ⟨r, hu, _⟩ <;> cases hu
      · split at hu
        · rename_i hc
          rcases hu with hu | ⟨r, hu, _⟩
          · cases hu; exact .inl ⟨rfl, .inr ⟨hc, by omega, by omega⟩⟩
          · cases hu
        · rename_i hc
          have plain : ∀ {r : Rec}, r = ⟨4, l, l, lo, hi⟩ → look M.cs e.to = some r → ∃ r, MadeBy 4 M l lo hi e r := fun {r} hr hl => by
            subst hr
            exact ⟨_, hl, rfl, rfl, fun hh => by omega, fun _ => hc, fun hh => by omega, .inl ⟨rfl, rfl, fun hh => by omega⟩⟩
          split at hu
          · rcases hu with hu | ⟨r, hu, hl, _⟩
            · cases hu
            · cases hu; exact .inr (plain rfl hl)
          · rename_i x hx
            split at hu
            · split at hu
              · rename_i ht
                rcases hu with hu | ⟨r, hu, hl, _⟩
                · cases hu
                · cases hu
                  exact .inr ⟨_, hl, rfl, rfl, fun hh => by omega, fun _ => hc, fun hh => by omega, .inr ⟨.inr rfl, x, hx, ht, rfl, .inr rfl⟩⟩
              · rcases hu with hu | ⟨r, hu, hl, _⟩
                · cases hu
                · cases hu; exact .inr (plain rfl hl)
            · rcases hu with hu | ⟨r, hu, hl, _⟩
              · cases hu
              · cases hu; exact .inr (plain rfl hl)
  · rw [mkK5] at hu
    unfold tAct at hu
    split at hu
    · rcases hu with hu | ⟨r, hu, _⟩ <;> cases hu
    · split at hu
      · rcases hu with hu | ⟨r, hu, _⟩ <;> cases hu
      · split at hu
        · rename_i hc
          rcases hu with hu | ⟨r, hu, _⟩
          · cases hu; exact .inl ⟨rfl, .inl ⟨hc, by omega, by omega⟩⟩
          · cases hu
        · rename_i hc
          split at hu
          · rename_i hz
            rcases hu with hu | ⟨r, hu, _⟩
            · cases hu; exact .inl ⟨rfl, .inr ⟨hz.1, by omega, by omega⟩⟩
            · cases hu
          · rename_i hz
            rcases hu with hu | ⟨r, hu, hl, _⟩
            · cases hu
            · cases hu
              exact .inr ⟨_, hl, rfl, rfl, fun _ => hc, fun hh => by omega, fun _ => hz, .inl ⟨rfl, rfl, fun _ => rfl⟩⟩

def IsPart (f : Int) (M : St) (k : Nat) (ts : List Bool) (l : Int) (id : Int) : Prop :=
  ∃ k' s j e r, SubT k ts l (k' + 1) s j ∧ IsT f M (k' + 1) s j e ∧ e.to = id ∧ look M.cs id = some r ∧ r.top = j

theorem IsPart.lo {f : Int} {M : St} {k : Nat} {ts : List Bool} {l : Int} {id : Int} (h : IsPart f M k (ts.take (2 ^ k)) (l + 1) id) : IsPart f M (k + 1) ts l id := by
  obtain ⟨k', s, j, e, r, h1, h2⟩ := h
  exact ⟨k', s, j, e, r, .lo h1, h2⟩

theorem IsPart.hi {f : Int} {M : St} {k : Nat} {ts : List Bool} {l : Int} {id : Int} (h : IsPart f M k (ts.drop (2 ^ k)) (l + 1) id) : IsPart f M (k + 1) ts l id := by
  obtain ⟨k', s, j, e, r, h1, h2⟩ := h
  exact ⟨k', s, j, e, r, .hi h1, h2⟩

theorem SubT.trans {k k' k2 : Nat} {ts s s2 : List Bool} {l j j2 : Int} (h : SubT k ts l k' s j) (h2 : SubT k' s j k2 s2 j2) : SubT k ts l k2 s2 j2 := by
  induction h with
  | here => exact h2
  | lo _ ih => exact .lo (ih h2)
  | hi _ ih => exact .hi (ih h2)

theorem IsPart.up {f : Int} {M : St} {k k' : Nat} {ts s : List Bool} {l j id : Int} (h : SubT k ts l k' s j) (hp : IsPart f M k' s j id) : IsPart f M k ts l id := by
  obtain ⟨k2, s2, j2, e, r, h1, h2⟩ := hp
  exact ⟨k2, s2, j2, e, r, h.trans h1, h2⟩

theorem tag_none {f : Int} {M : St} {e : Edge} {l : Int} (hf : f ≠ 5) (h : M.leads f e l = true) : e.tag = 0 := by
  have h1 := (leads_cases h).1
  unfold plainB at h1
  split at h1
  · cases h1
  · rw [if_pos (by simp [hf])] at h1
    simpa using h1

def Twin (f g : Int) (M : St) (k : Nat) (ts : List Bool) (l : Int) (x y : Int) : Prop :=
  ∃ k' s j ef eg q, SubT k ts l (k' + 1) s j ∧ IsT f M (k' + 1) s j ef ∧ ef.to = x ∧ IsT g M (k' + 1) s j eg ∧ eg.to = y ∧ look M.cs y = some q ∧ q.top = j

theorem Twin.inj {f g : Int} {M : St} (hw : M.wf) (hg : g = 1 ∨ g = 2) {k : Nat} {ts : List Bool} {l : Int} (hn : l + (k : Int) = M.n) {x x' y : Int} (h : Twin f g M k ts l x y) (h' : Twin f g M k ts l x' y) : x = x' := by
  obtain ⟨k1, s1, j1, e1, d1, q1, a1, a2, a3, a4, a5, a6, a7⟩ := h
  obtain ⟨k2, s2, j2, e2, d2, q2, b1, b2, b3, b4, b5, b6, b7⟩ := h'
  have hg5 : 1 ≤ g ∧ g ≤ 5 := by omega
  rw [a6] at b6
  cases b6
  have l1 := a1.level
  have l2 := b1.level
  have ej : j1 = j2 := by omega
  subst ej
  have ek : k1 = k2 := by push_cast at l1 l2; omega
  subst ek
  have t1 := tag_none (f := g) (by omega) (a4.leads hw hg5 (by omega))
  have t2 := tag_none (f := g) (by omega) (b4.leads hw hg5 (by omega))
  have ed : d1 = d2 := by
    cases d1
    cases d2
    simp only at a5 b5 t1 t2
    rw [a5, b5, t1, t2]
  subst ed
  have es := IsT.inj hw _ _ _ _ _ a4 b4
  subst es
  have ee := IsT.det hw _ _ _ _ _ a2 b2
  subst ee
  rw [← a3, ← b3]

end Go.Proofs.YtiacdpoldgfpbaaGreat
