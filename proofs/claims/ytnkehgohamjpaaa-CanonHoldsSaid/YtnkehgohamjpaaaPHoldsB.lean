/-
  canon.Holds over the state: by levels, and from node to node.
-/
import Derived.Test.YtnkehgohamjpaaaPHoldsA
import Derived.Test.YtnkehgohamjpaaaPStA
namespace Go.Proofs.Ytnkehgohamjpaaa
set_option linter.unusedSimpArgs false
set_option linter.unusedVariables false
set_option maxHeartbeats 600000
open Go.RowKit

/-- Is a level that an edge leaves out 0? -/
def zeroAt (f : Int) (e : Edge) (l : Int) : Bool := decide (f = 2) || decide (f = 4) || (decide (f = 5) && decide (e.tag ≤ l))

/-- Is an assignment in what an edge means, level by level? -/
def hS (M : St) (f x : Int) : Nat → Int → Edge → Bool
  | 0, _, e => decide (e.to ≠ 0)
  | k + 1, l, e => if e.to = 0 then false else if M.n ≤ l then true else match look M.cs e.to with
    | none => if zeroAt f e l && bitB x l then false else hS M f x k (l + 1) e
    | some r => if l < r.top then (if zeroAt f e l && bitB x l then false else hS M f x k (l + 1) e) else hS M f x k (r.bot + 1) (sideE x r)

/-- From where on the levels that are left out are 0. -/
def fromI (f : Int) (e : Edge) (l top : Int) : Int := if f = 1 ∨ f = 3 then top else if f = 5 then max l e.tag else l

theorem from_step {f x : Int} {e : Edge} {l top : Int} (hf : 1 ≤ f ∧ f ≤ 5) (hl : l < top) (ht : f = 5 → e.tag ≤ top) :
    clearN x (fromI f e l top) (top - fromI f e l top).toNat = (if zeroAt f e l && bitB x l then false else clearN x (fromI f e (l + 1) top) (top - fromI f e (l + 1) top).toNat) := by
  have succ : ∀ a b : Int, (top - l).toNat = (top - (l + 1)).toNat + 1 := fun _ _ => by omega
  have hs : clearN x l (top - l).toNat = (!bitB x l && clearN x (l + 1) (top - (l + 1)).toNat) := by rw [succ 0 0]; rfl
  by_cases h13 : f = 1 ∨ f = 3
  · have hz : zeroAt f e l = false := by unfold zeroAt; rcases h13 with rfl | rfl <;> rfl
    unfold fromI
    rw [hz, if_pos h13, if_pos h13]
    rfl
  · by_cases h5 : f = 5
    · subst h5
      unfold fromI
      rw [if_neg h13, if_neg h13, if_pos rfl, if_pos rfl]
      by_cases hlt : e.tag ≤ l
      · have hz : zeroAt 5 e l = true := by unfold zeroAt; rw [decide_eq_true hlt]; rfl
        rw [hz, show max l e.tag = l by omega, show max (l + 1) e.tag = l + 1 by omega, hs]
        cases bitB x l <;> rfl
      · have hz : zeroAt 5 e l = false := by unfold zeroAt; rw [decide_eq_false hlt]; rfl
        rw [hz, show max l e.tag = e.tag by omega, show max (l + 1) e.tag = e.tag by omega]
        rfl
    · have hz : zeroAt f e l = true := by
        unfold zeroAt
        have : f = 2 ∨ f = 4 := by omega
        rcases this with rfl | rfl <;> rfl
      unfold fromI
      rw [hz, if_neg h13, if_neg h13, if_neg h5, if_neg h5, hs]
      cases bitB x l <;> rfl

theorem from_end {f x : Int} {e : Edge} {top : Int} (hf : 1 ≤ f ∧ f ≤ 5) (ht : f = 5 → e.tag ≤ top) : clearN x (fromI f e top top) (top - fromI f e top top).toNat = true := by
  have : fromI f e top top = top := by
    unfold fromI
    split
    · rfl
    · split
      · have := ht (by assumption); omega
      · rfl
  rw [this, show (top - top).toNat = 0 by omega]
  rfl

theorem jump_none {M : St} {f x : Int} {e : Edge} (hf : 1 ≤ f ∧ f ≤ 5) (hz : e.to ≠ 0) (hk : look M.cs e.to = none) (ht : f = 5 → e.tag ≤ M.n) : ∀ (K : Nat) (l : Int), l ≤ M.n → M.n - l ≤ (K : Int) → hS M f x K l e = clearN x (fromI f e l M.n) (M.n - fromI f e l M.n).toNat := by
  intro K
  induction K with
  | zero =>
    intro l h1 h2
    have e1 : l = M.n := by omega
    subst e1
    rw [from_end hf ht]
    exact decide_eq_true hz
  | succ K ih =>
    intro l h1 h2
    by_cases hl : M.n ≤ l
    · have e1 : l = M.n := by omega
      subst e1
      rw [from_end hf ht]
      show (if e.to = 0 then false else if M.n ≤ M.n then true else _) = true
      rw [if_neg hz, if_pos (Int.le_refl _)]
    · rw [from_step hf (by omega) ht]
      show (if e.to = 0 then false else if M.n ≤ l then true else match look M.cs e.to with | none => _ | some r => _) = _
      rw [if_neg hz, if_neg hl, hk]
      simp only []
      rw [ih (l + 1) (by omega) (by push_cast at h2; omega)]

theorem jump_some {M : St} {f x : Int} {e : Edge} {r : Rec} (hf : 1 ≤ f ∧ f ≤ 5) (hz : e.to ≠ 0) (hk : look M.cs e.to = some r) (ht : f = 5 → e.tag ≤ r.top) (hb : r.top ≤ r.bot) (hn : r.bot < M.n) : ∀ (K : Nat) (l : Int), l ≤ r.top → M.n - l ≤ (K : Int) →
    ∃ K' : Nat, M.n - (r.bot + 1) ≤ (K' : Int) ∧ hS M f x K l e = (clearN x (fromI f e l r.top) (r.top - fromI f e l r.top).toNat && hS M f x K' (r.bot + 1) (sideE x r)) := by
  intro K
  induction K with
  | zero => intro l h1 h2; omega
  | succ K ih =>
    intro l h1 h2
    have e1 : hS M f x (K + 1) l e = (if l < r.top then (if zeroAt f e l && bitB x l then false else hS M f x K (l + 1) e) else hS M f x K (r.bot + 1) (sideE x r)) := by
      show (if e.to = 0 then false else if M.n ≤ l then true else match look M.cs e.to with | none => _ | some r => _) = _
      rw [if_neg hz, if_neg (by omega), hk]
    by_cases hl : l < r.top
    · obtain ⟨K', k1, k2⟩ := ih (l + 1) (by omega) (by push_cast at h2; omega)
      refine ⟨K', k1, ?_⟩
      rw [e1, if_pos hl, from_step hf hl ht, k2]
      cases (zeroAt f e l && bitB x l) <;> rfl
    · have e2 : l = r.top := by omega
      refine ⟨K, by push_cast at h2; omega, ?_⟩
      rw [e1, if_neg hl, e2, from_end hf ht]
      rfl

/-- With an edge that leads, the program's word is that one. -/
theorem free_from {M : St} {f : Int} {e : Edge} {l top : Int} (h : M.leads f e l = true) (hz : e.to ≠ 0) : freeI f e l top = fromI f e l top := by
  obtain ⟨p1, p2, p3, p4, p5, p6, p7, p8⟩ := plainB_iff.1 (leads_iff.1 h).1
  unfold freeI fromI
  split
  · rfl
  · split
    · have := p8 (by assumption) hz
      omega
    · rfl

/-- Why an edge at a level may not be asked. -/
def mayC (M : St) (f : Int) (e : Edge) (l : Int) : Int := if isFormB f = false then 4 else if l < 0 ∨ M.n < l then 3 else if M.leads f e l = false then 1 else 0

theorem mayC_range (M : St) (f : Int) (e : Edge) (l : Int) : 0 ≤ mayC M f e l ∧ mayC M f e l ≤ 4 := by
  unfold mayC
  split
  · decide
  · split
    · decide
    · split <;> decide

theorem side_leads {M : St} (h : M.wf) {id x : Int} {r : Rec} (hl : look M.cs id = some r) : M.leads r.form (sideE x r) (r.bot + 1) = true := by
  have g := h.goodRec hl
  unfold sideE
  split
  · exact g.hi
  · exact g.lo

end Go.Proofs.Ytnkehgohamjpaaa
