/-
  Plainly: what steps, one behind the other, make of roots and of the order.
-/
import Derived.Test.YtiacdpoldgfpbaaPSwapQ
import Derived.RangeFuncBox
import Derived.Shelf.Abstract
import Derived.Shelf.RegionOpen
import Derived.OwnWalkIn
import Derived.TacticsInMore
import Derived.LoopNIn
import Derived.LoopIn
namespace Go.Proofs.Ytiacdpoldgfpbaa
set_option linter.unusedSimpArgs false
set_option linter.unusedVariables false
set_option maxHeartbeats 600000

def runL (ps : List Int) (ss : List Nat) : List Int := ss.foldl stepL ps

theorem runL_len (ss : List Nat) : ∀ ps : List Int, (runL ps ss).length = ps.length := by
  induction ss with
  | nil => intro ps; rfl
  | cons s ss ih => intro ps; show (runL (stepL ps s) ss).length = _; rw [ih, stepL_len]

theorem runL_snoc (ps : List Int) (ss : List Nat) (s : Nat) : runL ps (ss ++ [s]) = stepL (runL ps ss) s := by
  unfold runL
  rw [List.foldl_append]
  rfl

structure RootOk (n : Nat) (ss : List Nat) (M0 M : St) (f : Int) (e x : Edge) : Prop where
  lead : M.leads f x 0 = true
  ok : x.ok
  tab : ∀ ps : List Int, ps.length = n → tabP M (runL ps ss) f x = tabP M0 ps f e
  right : rightK M0 f e 0 → rightK M f x 0

theorem RootOk.start {n : Nat} {M : St} {f : Int} {e : Edge} (hl : M.leads f e 0 = true) (he : e.ok) : RootOk n [] M M f e e := ⟨hl, he, fun _ _ => rfl, fun h => h⟩

theorem RootOk.ext {n : Nat} {ss : List Nat} {M0 M M' : St} {f : Int} {e x : Edge} (h : RootOk n ss M0 M f e x) (hw : M.wf) (hE : Ext M M') : RootOk n ss M0 M' f e x :=
  ⟨hE.leads h.lead, h.ok, fun ps hp => by rw [tabP_ext hw hE h.lead]; exact h.tab ps hp, fun hr => rightK_ext hE hw (h.right hr)⟩

theorem RootOk.step {n : Nat} {ss : List Nat} {M0 M M' : St} {f : Int} {e x x' : Edge} {lv : Nat} (h : RootOk n ss M0 M f e x) (hw : M.wf) (hE : Ext M M') (hg : GoodS (lv : Int) f M' x 0 x') (hlv : lv + 1 < n) : RootOk n (ss ++ [lv]) M0 M' f e x' :=
  ⟨hg.lead, hg.ok, fun ps hp => by
    rw [runL_snoc, hg.tabP (by rw [runL_len, hp]; exact hlv), tabP_ext hw hE h.lead]
    exact h.tab ps hp, fun hr => hg.right (rightK_ext hE hw (h.right hr))⟩

def RootsOk (n : Nat) (ss : List Nat) (M0 M : St) (rs : List (Int × Edge)) (es : List Edge) : Prop :=
  es.length = rs.length ∧ ∀ (i : Nat) (r : Int × Edge) (x : Edge), rs[i]? = some r → es[i]? = some x → RootOk n ss M0 M r.1 r.2 x

def RootsMid (n : Nat) (ss : List Nat) (lv d : Nat) (M0 M : St) (rs : List (Int × Edge)) (es : List Edge) : Prop :=
  es.length = rs.length ∧ ∀ (i : Nat) (r : Int × Edge) (x : Edge), rs[i]? = some r → es[i]? = some x → RootOk n (if i < d then ss ++ [lv] else ss) M0 M r.1 r.2 x

theorem RootsOk.mid {n : Nat} {ss : List Nat} {M0 M : St} {rs : List (Int × Edge)} {es : List Edge} (h : RootsOk n ss M0 M rs es) (lv : Nat) : RootsMid n ss lv 0 M0 M rs es :=
  ⟨h.1, fun i r x h1 h2 => by rw [if_neg (by omega)]; exact h.2 i r x h1 h2⟩

theorem RootsMid.all {n : Nat} {ss : List Nat} {lv : Nat} {M0 M : St} {rs : List (Int × Edge)} {es : List Edge} (h : RootsMid n ss lv rs.length M0 M rs es) : RootsOk n (ss ++ [lv]) M0 M rs es :=
  ⟨h.1, fun i r x h1 h2 => by
    have := h.2 i r x h1 h2
    rw [if_pos (List.getElem?_eq_some_iff.1 h1).1] at this
    exact this⟩

theorem RootsMid.next {n : Nat} {ss : List Nat} {lv d : Nat} {M0 M M' : St} {rs : List (Int × Edge)} {es : List Edge} {r : Int × Edge} {x x' : Edge} (h : RootsMid n ss lv d M0 M rs es) (hr : rs[d]? = some r) (hx : es[d]? = some x) (hw : M.wf) (hE : Ext M M') (hg : GoodS (lv : Int) r.1 M' x 0 x') (hlv : lv + 1 < n) :
    RootsMid n ss lv (d + 1) M0 M' rs (es.set d x') := by
  refine ⟨by rw [List.length_set]; exact h.1, fun i q y h1 h2 => ?_⟩
  by_cases hid : i = d
  · subst hid
    rw [hr] at h1
    cases h1
    rw [List.getElem?_set_self (List.getElem?_eq_some_iff.1 hx).1] at h2
    cases h2
    have := h.2 i r x hr hx
    rw [if_neg (by omega)] at this
    rw [if_pos (by omega)]
    exact this.step hw hE hg hlv
  · rw [List.getElem?_set_ne (fun e => hid e.symm)] at h2
    have := (h.2 i q y h1 h2).ext hw hE
    by_cases hlt : i < d
    · rw [if_pos hlt] at this
      rw [if_pos (by omega)]
      exact this
    · rw [if_neg hlt] at this
      rw [if_neg (by omega)]
      exact this

end Go.Proofs.Ytiacdpoldgfpbaa

namespace Go.Proofs.Ytiacdpoldgfpbaa
set_option linter.unusedSimpArgs false
set_option linter.unusedVariables false
set_option maxHeartbeats 600000

inductive SubT : Nat → List Bool → Int → Nat → List Bool → Int → Prop
  | here (k : Nat) (ts : List Bool) (l : Int) : SubT k ts l k ts l
  | lo {k : Nat} {ts : List Bool} {l : Int} {k' : Nat} {s : List Bool} {j : Int} : SubT k (ts.take (2 ^ k)) (l + 1) k' s j → SubT (k + 1) ts l k' s j
  | hi {k : Nat} {ts : List Bool} {l : Int} {k' : Nat} {s : List Bool} {j : Int} : SubT k (ts.drop (2 ^ k)) (l + 1) k' s j → SubT (k + 1) ts l k' s j

theorem SubT.level {k k' : Nat} {ts s : List Bool} {l j : Int} (h : SubT k ts l k' s j) : l + (k : Int) = j + (k' : Int) ∧ l ≤ j := by
  induction h with
  | here => exact ⟨rfl, by omega⟩
  | lo _ ih => push_cast; omega
  | hi _ ih => push_cast; omega

def IsPart (f : Int) (M : St) (k : Nat) (ts : List Bool) (l : Int) (id : Int) : Prop :=
  ∃ k' s j e r, SubT k ts l (k' + 1) s j ∧ IsT f M (k' + 1) s j e ∧ e.to = id ∧ look M.cs id = some r ∧ r.top = j

theorem IsPart.lo {f : Int} {M : St} {k : Nat} {ts : List Bool} {l : Int} {id : Int} (h : IsPart f M k (ts.take (2 ^ k)) (l + 1) id) : IsPart f M (k + 1) ts l id := by
  obtain ⟨k', s, j, e, r, h1, h2⟩ := h
  exact ⟨k', s, j, e, r, .lo h1, h2⟩

theorem IsPart.hi {f : Int} {M : St} {k : Nat} {ts : List Bool} {l : Int} {id : Int} (h : IsPart f M k (ts.drop (2 ^ k)) (l + 1) id) : IsPart f M (k + 1) ts l id := by
  obtain ⟨k', s, j, e, r, h1, h2⟩ := h
  exact ⟨k', s, j, e, r, .hi h1, h2⟩

theorem SubT.trans {k k' k2 : Nat} {ts s s2 : List Bool} {l j j2 : Int} (h : SubT k ts l k' s j) (h2 : SubT k' s j k2 s2 j2) : SubT k ts l k2 s2 j2 := by
  induction h with
  | here => exact h2
  | lo _ ih => exact .lo (ih h2)
  | hi _ ih => exact .hi (ih h2)

theorem IsPart.up {f : Int} {M : St} {k k' : Nat} {ts s : List Bool} {l j id : Int} (h : SubT k ts l k' s j) (hp : IsPart f M k' s j id) : IsPart f M k ts l id := by
  obtain ⟨k2, s2, j2, e, r, h1, h2⟩ := hp
  exact ⟨k2, s2, j2, e, r, h.trans h1, h2⟩

theorem tag_none {f : Int} {M : St} {e : Edge} {l : Int} (hf : f ≠ 5) (h : M.leads f e l = true) : e.tag = 0 := by
  have h1 := (leads_cases h).1
  unfold plainB at h1
  split at h1
  · cases h1
  · rw [if_pos (by simp [hf])] at h1
    simpa using h1

def Twin (f g : Int) (M : St) (k : Nat) (ts : List Bool) (l : Int) (x y : Int) : Prop :=
  ∃ k' s j ef eg q, SubT k ts l (k' + 1) s j ∧ IsT f M (k' + 1) s j ef ∧ ef.to = x ∧ IsT g M (k' + 1) s j eg ∧ eg.to = y ∧ look M.cs y = some q ∧ q.top = j

theorem Twin.inj {f g : Int} {M : St} (hw : M.wf) (hg : g = 1 ∨ g = 2) {k : Nat} {ts : List Bool} {l : Int} (hn : l + (k : Int) = M.n) {x x' y : Int} (h : Twin f g M k ts l x y) (h' : Twin f g M k ts l x' y) : x = x' := by
  obtain ⟨k1, s1, j1, e1, d1, q1, a1, a2, a3, a4, a5, a6, a7⟩ := h
  obtain ⟨k2, s2, j2, e2, d2, q2, b1, b2, b3, b4, b5, b6, b7⟩ := h'
  have hg5 : 1 ≤ g ∧ g ≤ 5 := by omega
  rw [a6] at b6
  cases b6
  have l1 := a1.level
  have l2 := b1.level
  have ej : j1 = j2 := by omega
  subst ej
  have ek : k1 = k2 := by push_cast at l1 l2; omega
  subst ek
  have t1 := tag_none (f := g) (by omega) (a4.leads hw hg5 (by omega))
  have t2 := tag_none (f := g) (by omega) (b4.leads hw hg5 (by omega))
  have ed : d1 = d2 := by
    cases d1
    cases d2
    simp only at a5 b5 t1 t2
    rw [a5, b5, t1, t2]
  subst ed
  have es := IsT.inj hw _ _ _ _ _ a4 b4
  subst es
  have ee := IsT.det hw _ _ _ _ _ a2 b2
  subst ee
  rw [← a3, ← b3]

end Go.Proofs.Ytiacdpoldgfpbaa
