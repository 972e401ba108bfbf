/-
  Plain definitions and laws: edges, records, which of them may be. No program in sight.
-/
import Derived.WalkKit
namespace Go.Proofs.Ytimffidpbcflaaa
set_option linter.unusedSimpArgs false
set_option linter.unusedVariables false
set_option maxHeartbeats 600000

structure Edge where
  tag : Int
  to : Int

structure Rec where
  form : Int
  top : Int
  bot : Int
  lo : Edge
  hi : Edge

instance : DecidableEq Edge := fun a b => decidable_of_iff (a.tag = b.tag ∧ a.to = b.to) (by cases a; cases b; simp)

instance : DecidableEq Rec := fun a b => decidable_of_iff (a.form = b.form ∧ a.top = b.top ∧ a.bot = b.bot ∧ a.lo = b.lo ∧ a.hi = b.hi) (by cases a; cases b; simp)

def Edge.ok (e : Edge) : Prop := (0 ≤ e.tag ∧ e.tag ≤ 255) ∧ (0 ≤ e.to ∧ e.to ≤ 4294967295)

structure Rec.ok (r : Rec) : Prop where
  form : 0 ≤ r.form ∧ r.form ≤ 255
  top : 0 ≤ r.top ∧ r.top ≤ 255
  bot : 0 ≤ r.bot ∧ r.bot ≤ 255
  lo : r.lo.ok
  hi : r.hi.ok

def Edge.zero : Edge := ⟨0, 0⟩

def Rec.zero : Rec := ⟨0, 0, 0, ⟨0, 0⟩, ⟨0, 0⟩⟩

def isFormB (f : Int) : Bool := decide (1 ≤ f) && decide (f ≤ 5)

def mayB (n : Int) : Bool := decide (0 ≤ n) && decide (n ≤ 16)

def chainedB (f : Int) : Bool := f == 3 || f == 4

def plainB (f : Int) (e : Edge) (l n : Int) : Bool :=
  if !isFormB f || !mayB n || decide (l < 0) || decide (n < l) then false
  else if f != 5 || e.to == 0 then e.tag == 0
  else decide (l ≤ e.tag) && decide (e.tag ≤ n)

def rightB (r : Rec) (n : Int) : Bool :=
  if !isFormB r.form || !mayB n || decide (r.bot < r.top) || decide (n ≤ r.bot) || r.top != r.bot && !chainedB r.form then false
  else if !plainB r.form r.lo (r.bot + 1) n || !plainB r.form r.hi (r.bot + 1) n then false
  else if r.form == 2 || r.form == 4 then r.hi.to != 0
  else !(r.lo.tag == r.hi.tag && r.lo.to == r.hi.to)

end Go.Proofs.Ytimffidpbcflaaa
