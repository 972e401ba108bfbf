/-
  What an assignment has at levels: Value, clear, free, side; may.
-/
import Derived.Test.YtafkamlhimkbmaaGreatPCube
import Derived.Test.YtafkamlhimkbmaaGreatPHPlainA
namespace Go.Proofs.YtafkamlhimkbmaaGreat
set_option maxRecDepth 1000000
set_option maxHeartbeats 8000000
set_option linter.unusedSimpArgs false
set_option linter.unusedVariables false
open Go.RowKit
def aO (x k:Int):Bool:=decide (x / 2 ^ k.toNat%2=1)
def dM (x a:Int):Nat→Bool
 |0=>true
 |n+1=>!aO x a&&dM x (a+1) n
def dO (f:Int)(e:Edge)(l top:Int):Int:=if f=1∨f=3 then top else if f=5 then e.tag else l
def dU (x:Int)(r:Rec):Bool:=if r.ad=3 then !dM x r.top (r.J+1-r.top).toNat else aO x r.J
def bL (x:Int)(r:Rec):Edge:=if dU x r then r.hi else r.lo
def ct (f:Int)(e:Edge)(l:Int):Bool:=decide (f=2)||decide (f=4)||(decide (f=5)&&decide (e.tag≤l))
def hS (M:St)(f x:Int):Nat→Int→Edge→Bool
 |0,_,e=>decide (e.to≠0)
 |k+1,l,e=>if e.to=0 then false else if M.n≤l then true else match look M.cs e.to with
  |none=>if ct f e l&&aO x l then false else hS M f x k (l+1) e
  |some r=>if l<r.top then(if ct f e l&&aO x l then false else hS M f x k (l+1) e)else hS M f x k (r.J+1) (bL x r)
def cq (M:St)(f:Int)(e:Edge)(l:Int):Int:=if bZ f=false then 4 else if l<0∨M.n<l then 3 else if M.leads f e l=false then 1 else 0
theorem vF (M:St)(f:Int)(e:Edge)(l:Int):0≤cq M f e l∧cq M f e l≤4:=by
 unfold cq;split;·decide
 ·split;·decide
  ·split<;>decide
theorem yJ {M:St}(h:M.wf){id x:Int}{r:Rec}(s:look M.cs id=some r):M.leads r.ad (bL x r) (r.J+1)=true:=by
 have g:=h.b4 s;unfold bL;split;·exact g.hi
 ·exact g.lo
theorem vH {F:Nat→Prop}{w:World}{sb:Nat}{M:St}(h:aq F w sb M)(f:Int)(v:Edge)(l:Int)(U:v.ok) :
  Calls Tryz.prog 79 #[.pointer (some ⟨sb,0,none⟩),.int .u8 f,.agg #[.int .u8 v.tag,.int .u32 v.to],.int .i64 l] w fun r t=>r=.returned (.int .u8 (cq M f v l))∧ae w t:=by
 have J:=aa (fun(O:World) (Q:ae w O)=>cX (h.U Q))
 have u:=fun(O:World) (Q:ae w O)=>df (h.U Q) f v l U
 have E:=iJ f
 rcases cS (bZ f)with s|s
 ·have e:cq M f v l=4:=by unfold cq;rw[ai s]
  rw[e];rw[s]at E;have D:=aa E;clear h u E s e;go_enter Tryz.func79,Tryz.ntmps79;go_wp2_with (first|(go_at_call 100;refine(D.out _).mono ?_;rintro e t ⟨rfl,rfl⟩)|fail)
  go_ret;exact⟨rfl,kp⟩
 ·rw[s]at E;have D:=aa E;clear E;by_cases I:l<0∨M.n<l
  ·have e:cq M f v l=3:=(by unfold cq;rw[ag (by rw[s];simp),ai I]);rw[e];clear h u s e;by_cases E:l<0
   ·go_enter Tryz.func79,Tryz.ntmps79;go_wp2_with (first|(go_at_call 100;refine(D.out _).mono ?_;rintro e t ⟨rfl,rfl⟩)|(go_at_call 48;refine(J.out _ kp).mono ?_;rintro e t ⟨rfl,rfl⟩)|fail)
    all_goals go_ret
    all_goals exact⟨rfl,kp⟩
   ·have E:M.n<l:=(by omega);go_enter Tryz.func79,Tryz.ntmps79;go_wp2_with (first|(go_at_call 100;refine(D.out _).mono ?_;rintro e t ⟨rfl,rfl⟩)|(go_at_call 48;refine(J.out _ kp).mono ?_;rintro e t ⟨rfl,rfl⟩)|fail)
    all_goals go_ret
    all_goals exact⟨rfl,kp⟩
  ·have E:¬l<0:=(by omega);have E:¬M.n<l:=(by omega);rcases cS (M.leads f v l)with z|z
   ·have e:cq M f v l=1:=(by unfold cq;rw[ag (by rw[s];simp),ag I,ai z]);rw[e];rw[z]at u;have N:=aa u;clear h u s e I z;go_enter Tryz.func79,Tryz.ntmps79;go_wp2_with (first|(go_at_call 100;refine(D.out _).mono ?_;rintro e t ⟨rfl,rfl⟩)|(go_at_call 48;refine(J.out _ kp).mono ?_;rintro e t ⟨rfl,rfl⟩)|(go_at_call 134;refine(N.out _ kp).mono ?_;rintro e w1 ⟨rfl,T⟩)|fail)
    all_goals go_ret
    all_goals exact⟨rfl,kp⟩
   ·have e:cq M f v l=0:=(by unfold cq;rw[ag (by rw[s];simp),ag I,ag (by rw[z];simp)]);rw[e];rw[z]at u;have N:=aa u;clear h u s e I z;go_enter Tryz.func79,Tryz.ntmps79;go_wp2_with (first|(go_at_call 100;refine(D.out _).mono ?_;rintro e t ⟨rfl,rfl⟩)|(go_at_call 48;refine(J.out _ kp).mono ?_;rintro e t ⟨rfl,rfl⟩)|(go_at_call 134;refine(N.out _ kp).mono ?_;rintro e w1 ⟨rfl,T⟩)|fail)
    all_goals go_ret
    all_goals exact⟨rfl,kp⟩
theorem lE {F:Nat→Prop}{w:World}{sb:Nat}{M:St}(h:aq F w sb M)(f:Int)(v:Edge)(l:Int)(Q:v.ok) :
  Calls Tryz.prog 32 #[.pointer (some ⟨sb,0,none⟩),.int .u8 f,.agg #[.int .u8 v.tag,.int .u32 v.to],.int .i64 l] w fun r s=>r=.returned (.tuple #[.int .i64 (if cq M f v l=0 then((bV M.cs [v.to]).length:Int)else 0),.int .u8 (cq M f v l)])∧ae w s:=by
 have D:=fun(s:World) (u:ae w s)=>vH (h.U u) f v l Q
 have J:=aa (fun(s:World) (u:ae w s) (b:Nat) (cap:Nat) (U:iV s (some ⟨b,0,none⟩) 1 [v])=>xY (h.U u) (some ⟨b,0,none⟩) 1 cap [v] U (by omega))
 have W:=vF M f v l
 obtain⟨c,N⟩:∃c,c=cq M f v l:=⟨_,rfl⟩
 rw[←N]at D W ⊢
 have I:=aa D
 clear h D N
 by_cases t:c=0
 ·subst t;rw[ai rfl];go_enter Tryz.func32,Tryz.ntmps32;go_wp2_with (first|(go_at_call 79;refine(I.out _ kp).mono ?_;rintro e w1 ⟨rfl,z⟩;have s:w1.cell? ⟨w.heap.size,0,none⟩=some (.int .u8 v.tag):=z.cell (by simp);have s:w1.cell? ⟨w.heap.size,1,none⟩=some (.int .u32 v.to):=z.cell (by simp);have s:ae w w1:=kp)|fail)
  refine(J.out _ kp _ _ (oq Q (by simp[go_sem]) (by simp[go_sem]))).mono ?_;rintro e s ⟨Y,rfl,X,s⟩;obtain⟨a,cap,rfl,V⟩:=X;obtain⟨n,E⟩:∃n,n=(bV M.cs [v.to]).length:=⟨_,rfl⟩;have O:(bV M.cs (List.map Edge.to [v])).length=n:=by rw[E];rfl
  rw[O];have T:=aa E;clear V E O;go_wp2_with fail;go_ret2;exact⟨by rw[←T.out];rfl,kp⟩
 ·rw[ag t];have g0:(c != 0)=true:=by simp[t]
  clear J;go_enter Tryz.func32,Tryz.ntmps32;go_wp2_with (first|(go_at_call 79;refine(I.out _ kp).mono ?_;rintro e w1 ⟨rfl,z⟩)|fail)
  go_ret2;exact⟨rfl,kp⟩
end Go.Proofs.YtafkamlhimkbmaaGreat
