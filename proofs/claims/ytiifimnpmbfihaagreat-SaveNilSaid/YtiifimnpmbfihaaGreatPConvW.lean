/-
  The walk of convert.from: an edge to nothing, at the end, or kept.
-/
import Derived.Test.YtiifimnpmbfihaaGreatPHoldsX
import Derived.Laws.BytesArg
import Derived.Maps.Views
import Derived.Maps.OwnSet
import Derived.Maps.Keyed
import Derived.DeepKeys4
namespace Go.Proofs.YtiifimnpmbfihaaGreat
set_option linter.unusedSimpArgs false
set_option linter.unusedVariables false
set_option maxHeartbeats 600000
open Go.RowKit

theorem Upd.later {F G:Nat → Prop} {a b c:World} (h:Upd F a b) (k:Upd G b c) (hG:∀ i,i < a.heap.size → G i → F i):Upd F a c:=
 ⟨k.os.trans h.os,k.tape.trans h.tape,k.output.trans h.output,Nat.le_trans h.size k.size,fun i hi hf=>(k.block i (Nat.lt_of_lt_of_le hi h.size) (fun hg=>hf (hG i hi hg))).trans (h.block i hi hf)⟩

section
variable {F:Nat → Prop} {w:World} {sb wb b:Nat} {f g:Int} {M:St} {V:List (Edge × Int)} {D:DataW Unit}

theorem updR {R:Nat} {x y:World} (h:Upd (fun j=>j=R) x y) (o:Nat) (v:Value):Upd (fun j=>j=R) x (y.setCell ⟨R,o,none⟩ v):=h.setCell (Or.inl rfl) v

end

end Go.Proofs.YtiifimnpmbfihaaGreat
