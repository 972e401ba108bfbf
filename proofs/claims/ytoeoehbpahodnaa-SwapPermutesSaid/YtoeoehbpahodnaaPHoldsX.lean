/-
  What an assignment has at levels: Value, clear, free, side; may.
-/
import Derived.Test.YtoeoehbpahodnaaPCube
import Derived.Test.YtoeoehbpahodnaaPHPlainA
namespace Go.Proofs.Ytoeoehbpahodnaa
set_option linter.unusedSimpArgs false
set_option linter.unusedVariables false
set_option maxHeartbeats 600000
open Go.RowKit

def bitB (x k : Int) : Bool := decide (x / 2 ^ k.toNat % 2 = 1)

def clearN (x a : Int) : Nat → Bool
  | 0 => true
  | n + 1 => !bitB x a && clearN x (a + 1) n

def someB (x : Int) (r : Rec) : Bool := if r.form = 3 then !clearN x r.top (r.bot + 1 - r.top).toNat else bitB x r.bot

def sideE (x : Int) (r : Rec) : Edge := if someB x r then r.hi else r.lo

end Go.Proofs.Ytoeoehbpahodnaa

namespace Go.Proofs.Ytoeoehbpahodnaa
set_option linter.unusedSimpArgs false
set_option linter.unusedVariables false
set_option maxHeartbeats 600000
open Go.RowKit

def zeroAt (f : Int) (e : Edge) (l : Int) : Bool := decide (f = 2) || decide (f = 4) || (decide (f = 5) && decide (e.tag ≤ l))

def hS (M : St) (f x : Int) : Nat → Int → Edge → Bool
  | 0, _, e => decide (e.to ≠ 0)
  | k + 1, l, e => if e.to = 0 then false else if M.n ≤ l then true else match look M.cs e.to with
    | none => if zeroAt f e l && bitB x l then false else hS M f x k (l + 1) e
    | some r => if l < r.top then (if zeroAt f e l && bitB x l then false else hS M f x k (l + 1) e) else hS M f x k (r.bot + 1) (sideE x r)

def mayC (M : St) (f : Int) (e : Edge) (l : Int) : Int := if isFormB f = false then 4 else if l < 0 ∨ M.n < l then 3 else if M.leads f e l = false then 1 else 0

theorem mayC_range (M : St) (f : Int) (e : Edge) (l : Int) : 0 ≤ mayC M f e l ∧ mayC M f e l ≤ 4 := by
  unfold mayC
  split
  · decide
  · split
    · decide
    · split <;> decide

theorem side_leads {M : St} (h : M.wf) {id x : Int} {r : Rec} (hl : look M.cs id = some r) : M.leads r.form (sideE x r) (r.bot + 1) = true := by
  have g := h.goodRec hl
  unfold sideE
  split
  · exact g.hi
  · exact g.lo

end Go.Proofs.Ytoeoehbpahodnaa
