/-
  What an assignment has at levels: Value, clear, free, side; may.
-/
import Derived.Test.YtiifimnpmbfihaaGreatPCube
import Derived.Test.YtiifimnpmbfihaaGreatPHPlainA
namespace Go.Proofs.YtiifimnpmbfihaaGreat
set_option linter.unusedSimpArgs false
set_option linter.unusedVariables false
set_option maxHeartbeats 600000
open Go.RowKit

def bitB (x k:Int):Bool:=decide (x / 2 ^ k.toNat % 2=1)

def clearN (x a:Int):Nat → Bool
 | 0=>true
 | n + 1=>!bitB x a && clearN x (a + 1) n

def someB (x:Int) (r:Rec):Bool:=if r.form=3 then !clearN x r.top (r.bot + 1 - r.top).toNat else bitB x r.bot

def sideE (x:Int) (r:Rec):Edge:=if someB x r then r.hi else r.lo

def zeroAt (f:Int) (e:Edge) (l:Int):Bool:=decide (f=2) || decide (f=4) || (decide (f=5) && decide (e.tag ≤ l))

def hS (M:St) (f x:Int):Nat → Int → Edge → Bool
 | 0,_,e=>decide (e.to ≠ 0)
 | k + 1,l,e=>if e.to=0 then false else if M.n ≤ l then true else match look M.cs e.to with
  | none=>if zeroAt f e l && bitB x l then false else hS M f x k (l + 1) e
  | some r=>if l < r.top then (if zeroAt f e l && bitB x l then false else hS M f x k (l + 1) e) else hS M f x k (r.bot + 1) (sideE x r)

end Go.Proofs.YtiifimnpmbfihaaGreat
