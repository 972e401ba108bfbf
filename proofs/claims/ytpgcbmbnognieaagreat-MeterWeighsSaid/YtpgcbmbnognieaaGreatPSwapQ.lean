/-
  Plainly: what Make of any two edges that lead means; what a step of swap tells.
-/
import Derived.Test.YtpgcbmbnognieaaGreatPTableW
import Derived.RangeFuncStops
import Derived.RangeFuncCalls
import Derived.RangeFuncLeaves
import Derived.RangeFuncBox
import Derived.Shelf.Abstract
import Derived.Shelf.RegionOpen
import Derived.OwnWalkIn
import Derived.TacticsInMore
import Derived.LoopNIn
import Derived.LoopIn
namespace Go.Proofs.YtpgcbmbnognieaaGreat
set_option linter.unusedSimpArgs false
set_option linter.unusedVariables false
set_option maxHeartbeats 600000

def St.solid (M:St):Prop:=M.gone=[] ∧ ∀ o ∈ M.cs,o ≠ none

theorem solid_find {M:St} (h:M.solid) (r:Rec):(M.findSt r).solid:=by
 unfold St.findSt
 cases M.idOf r with
 | some id=>exact h
 | none=>
  simp only []
  split
  ·exact h
  ·split
   ·exact h
   ·refine ⟨by show M.gone.dropLast=[];rw [h.1];rfl,fun o ho=>?_⟩
    change o ∈ putCs M.cs M.gone r at ho
    unfold putCs at ho
    rw [h.1] at ho
    simp only [List.getLast?_nil] at ho
    rcases List.mem_append.1 ho with ho | ho
    ·exact h.2 o ho
    ·rw [List.mem_singleton] at ho
     subst ho
     simp

theorem solid_act {M:St} (h:M.solid) (a:(Edge × Int) ⊕ Rec):(actSt M a).solid:=by
 cases a with
 | inl x=>exact h
 | inr r=>exact solid_find h r

def vb (X:Nat) (v:Int):Nat:=if bitB (X:Int) v=true then 1 else 0

open Go.RowKit

def MadeAt (f:Int) (M:St) (bs:List Bool) (k off:Nat) (l:Int) (e:Edge):Prop:=IsT f M k ((bs.drop off).take (2 ^ k)) l e ∧ rightK M f e l

theorem kAct_mkK {M:St} {f l:Int} {lo hi:Edge} (hf:1 ≤ f ∧ f ≤ 5):kAct M f l lo hi=mkK f M l lo hi:=by
 have hff:f=1 ∨ f=2 ∨ f=3 ∨ f=4 ∨ f=5:=by omega
 rcases hff with rfl | rfl | rfl | rfl | rfl <;> rfl

theorem mkK_ok {f:Int} {M:St} {l:Int} {lo hi:Edge} (h:M.wf) (hf:M.cs.length ≤ 1048576) (hlo:lo.ok) (hhi:hi.ok) (h0:0 ≤ l) (h1:l ≤ 255) (hff:1 ≤ f ∧ f ≤ 5):(mkE f M (mkK f M l lo hi)).ok:=by
 have hc:f=1 ∨ f=2 ∨ f=3 ∨ f=4 ∨ f=5:=by omega
 rcases hc with rfl | rfl | hc | hc | hc
 ·rw [mkK1]
  show (actE0 M _).ok
  unfold makeAct bRest
  repeat' split
  all_goals first | exact edge0_ok | exact hlo | exact foundE_fit h hf 0 (by omega) _
 ·rw [mkK2]
  show (actE0 M _).ok
  unfold makeAct zRest
  repeat' split
  all_goals first | exact edge0_ok | exact hlo | exact foundE_fit h hf 0 (by omega) _
 ·have e:mkK f M l lo hi=mkA f M l lo hi:=by subst hc;rfl
  rw [e];exact mkE_ok h hf hlo hhi h0 h1 (.inl hc)
 ·have e:mkK f M l lo hi=mkA f M l lo hi:=by subst hc;rfl
  rw [e];exact mkE_ok h hf hlo hhi h0 h1 (.inr (.inl hc))
 ·have e:mkK f M l lo hi=mkA f M l lo hi:=by subst hc;rfl
  rw [e];exact mkE_ok h hf hlo hhi h0 h1 (.inr (.inr hc))

theorem rising_nodup {a:List Int} (h:a.Pairwise (· < ·)):a.Nodup:=h.imp (fun hab e=>by omega)

end Go.Proofs.YtpgcbmbnognieaaGreat
