/-
  Make of form 1 over the state: the program's and the document's (printed by wip/mk_mstore.py).
-/
import Derived.Test.YtafkamlhimkbmaaGreatPMakeC
import Derived.Test.YtafkamlhimkbmaaGreatPMakeQ
import Derived.Test.YtafkamlhimkbmaaGreatPViewBZ
namespace Go.Proofs.YtafkamlhimkbmaaGreat
set_option maxRecDepth 1000000
set_option maxHeartbeats 8000000
set_option linter.unusedSimpArgs false
set_option linter.unusedVariables false
open Go.RowKit

theorem sZ {F:Nat→Prop}{w:World}{s:Nat}{M:St}(h:ag F w s M)(l:Int)(lo hi:Edge)(X:lo.ok)(W:hi.ok) :
  Calls Tryz.prog 121 #[.pointer (some ⟨s,0,none⟩),.int .i64 l,.agg #[.int .u8 lo.tag,.int .u32 lo.to],.agg #[.int .u8 hi.tag,.int .u32 hi.to]] w fun r w'=>
   r=.returned (.tuple #[.agg #[.int .u8 (dA M (al M 1 l lo hi (bY M l lo hi))).tag,.int .u32 (dA M (al M 1 l lo hi (bY M l lo hi))).to],.int .u8 (bX M (al M 1 l lo hi (bY M l lo hi)))])∧ae F w w'∧ag (au F w w') w' s (aR M (al M 1 l lo hi (bY M l lo hi))):=by
 have J:=h.wf.bw
 have K:=fun(q:World) (A:aa w q)=>dw (h.U A)
 have E:=fun(q:World) (A:aa w q)=>cX (h.U A) 1 lo (l+1) X
 have N:=fun(q:World) (A:aa w q)=>cX (h.U A) 1 hi (l+1) W
 by_cases U:l<0∨M.n≤l
 ·have L:al M 1 l lo hi (bY M l lo hi)=.inl (⟨0,0⟩,3):=if_pos U;rw[L];by_cases Y:l<0;·exact(tN s l M.n lo hi w J h.pos K Y).mono fun r w' j=>⟨j.1,h.a8 j.2⟩
  ·exact(tJ s l M.n lo hi w J h.pos K (by omega) (by omega)).mono fun r w' j=>⟨j.1,h.a8 j.2⟩
 ·have I:0≤l:=by omega
  have O:l<M.n:=by omega
  by_cases t:M.leads 1 lo (l+1)=false∨M.leads 1 hi (l+1)=false
  ·have L:al M 1 l lo hi (bY M l lo hi)=.inl (⟨0,0⟩,1):=(by unfold al;rw[if_neg U,if_pos t]);rw[L];rcases cL (M.leads 1 lo (l+1))with z|z
   ·rw[z]at E;exact(tM s l M.n lo hi w J h.pos K I O E).mono fun r w' j=>⟨j.1,h.a8 j.2⟩
   ·have T:M.leads 1 hi (l+1)=false:=(by rcases t with t|t;rw[t]at z;cases z;exact t);rw[z]at E;rw[T]at N;exact(tL s l M.n lo hi w J h.pos K I O E N).mono fun r w' j=>⟨j.1,h.a8 j.2⟩
  ·have z:M.leads 1 lo (l+1)=true:=(by rcases cL (M.leads 1 lo (l+1))with b|b;exact(t (.inl b)).elim;exact b);have T:M.leads 1 hi (l+1)=true:=(by rcases cL (M.leads 1 hi (l+1))with b|b;exact(t (.inr b)).elim;exact b);have L:al M 1 l lo hi (bY M l lo hi)=bY M l lo hi:=(by unfold al;rw[if_neg U,if_neg t]);rw[L];rw[z]at E;rw[T]at N;by_cases t:lo=hi
   ·have z:bY M l lo hi=.inl (lo,0):=if_pos t;rw[z];exact(tO s l M.n lo hi w J h.pos K I O E N t).mono fun r w' j=>⟨j.1,h.a8 j.2⟩
   have j:(⟨1,l,l,lo,hi⟩:Rec).ok:=iY (by decide) I (by omega) ⟨I,by omega⟩ X W;have z:bY M l lo hi=.inr ⟨1,l,l,lo,hi⟩:=if_neg t;rw[z];have z:=fun(q:World) (A:aa w q)=>sY (h.U A) ⟨1,l,l,lo,hi⟩ j;refine(tK (fun q S=>ag (au F q S) S s (M.a6 ⟨1,l,l,lo,hi⟩)) s l M.n lo hi _ _ _ w J h.pos K I O E N t h.lt z).mono ?_;rintro e w' ⟨rfl,q,S,Z,ab,ad,am⟩;exact⟨rfl,ad.after h.lt Z ab am⟩

theorem CQ {F:Nat→Prop}{w:World}{s:Nat}{M:St}(h:ag F w s M)(l:Int)(lo hi:Edge)(Z:lo.ok)(Y:hi.ok) :
  Calls Tryz.prog 122 #[.pointer (some ⟨s,0,none⟩),.int .i64 l,.agg #[.int .u8 lo.tag,.int .u32 lo.to],.agg #[.int .u8 hi.tag,.int .u32 hi.to]] w fun r w'=>
   r=.returned (.tuple #[.agg #[.int .u8 (dA M (al M 2 l lo hi (cr M l lo hi))).tag,.int .u32 (dA M (al M 2 l lo hi (cr M l lo hi))).to],.int .u8 (bX M (al M 2 l lo hi (cr M l lo hi)))])∧ae F w w'∧ag (au F w w') w' s (aR M (al M 2 l lo hi (cr M l lo hi))):=by
 have J:=h.wf.bw
 have K:=fun(q:World) (A:aa w q)=>dw (h.U A)
 have E:=fun(q:World) (A:aa w q)=>cX (h.U A) 2 lo (l+1) Z
 have N:=fun(q:World) (A:aa w q)=>cX (h.U A) 2 hi (l+1) Y
 by_cases W:l<0∨M.n≤l
 ·have L:al M 2 l lo hi (cr M l lo hi)=.inl (⟨0,0⟩,3):=if_pos W;rw[L];by_cases ab:l<0;·exact(C0 s l M.n lo hi w J h.pos K ab).mono fun r w' j=>⟨j.1,h.a8 j.2⟩
  ·exact(CW s l M.n lo hi w J h.pos K (by omega) (by omega)).mono fun r w' j=>⟨j.1,h.a8 j.2⟩
 ·have I:0≤l:=by omega
  have S:l<M.n:=by omega
  by_cases t:M.leads 2 lo (l+1)=false∨M.leads 2 hi (l+1)=false
  ·have L:al M 2 l lo hi (cr M l lo hi)=.inl (⟨0,0⟩,1):=(by unfold al;rw[if_neg W,if_pos t]);rw[L];rcases cL (M.leads 2 lo (l+1))with z|z
   ·rw[z]at E;exact(CZ s l M.n lo hi w J h.pos K I S E).mono fun r w' j=>⟨j.1,h.a8 j.2⟩
   ·have U:M.leads 2 hi (l+1)=false:=(by rcases t with t|t;rw[t]at z;cases z;exact t);rw[z]at E;rw[U]at N;exact(CY s l M.n lo hi w J h.pos K I S E N).mono fun r w' j=>⟨j.1,h.a8 j.2⟩
  ·have z:M.leads 2 lo (l+1)=true:=(by rcases cL (M.leads 2 lo (l+1))with b|b;exact(t (.inl b)).elim;exact b);have U:M.leads 2 hi (l+1)=true:=(by rcases cL (M.leads 2 hi (l+1))with b|b;exact(t (.inr b)).elim;exact b);have L:al M 2 l lo hi (cr M l lo hi)=cr M l lo hi:=(by unfold al;rw[if_neg W,if_neg t]);rw[L];rw[z]at E;rw[U]at N;by_cases O:hi.to=0
   ·have X:cr M l lo hi=.inl (lo,0):=if_pos O;rw[X];obtain⟨a1,t⟩:=hi;dsimp only at O;subst O;exact(C3 s l M.n lo a1 w J h.pos K I S E N).mono fun r w' j=>⟨j.1,h.a8 j.2⟩
   have j:(⟨2,l,l,lo,hi⟩:Rec).ok:=iY (by decide) I (by omega) ⟨I,by omega⟩ Z Y;have X:cr M l lo hi=.inr ⟨2,l,l,lo,hi⟩:=if_neg O;rw[X];have t:=fun(q:World) (A:aa w q)=>CP (h.U A) ⟨2,l,l,lo,hi⟩ j;refine(CX (fun q T=>ag (au F q T) T s (M.a6 ⟨2,l,l,lo,hi⟩)) s l M.n lo hi _ _ _ w J h.pos K I S E N O h.lt t).mono ?_;rintro e w' ⟨rfl,q,T,ad,am,av,aw⟩;exact⟨rfl,av.after h.lt ad am aw⟩

theorem ud {F:Nat→Prop}{w:World}{s:Nat}{M:St}(h:ag F w s M)(l:Int)(lo hi:Edge)(a8:lo.ok)(a7:hi.ok) :
  Calls Tryz.prog 123 #[.pointer (some ⟨s,0,none⟩),.int .i64 l,.agg #[.int .u8 lo.tag,.int .u32 lo.to],.agg #[.int .u8 hi.tag,.int .u32 hi.to]] w fun r w'=>
   r=.returned (.tuple #[.agg #[.int .u8 (dA M (al M 3 l lo hi (aW M l lo hi))).tag,.int .u32 (dA M (al M 3 l lo hi (aW M l lo hi))).to],.int .u8 (bX M (al M 3 l lo hi (aW M l lo hi)))])∧ae F w w'∧ag (au F w w') w' s (aR M (al M 3 l lo hi (aW M l lo hi))):=by
 have L:=h.wf.bw
 have N:=fun(j:World) (z:aa w j)=>dw (h.U z)
 have E:=fun(j:World) (z:aa w j)=>cX (h.U z) 3 lo (l+1) a8
 have S:=fun(j:World) (z:aa w j)=>cX (h.U z) 3 hi (l+1) a7
 by_cases a6:l<0∨M.n≤l
 ·have a1:al M 3 l lo hi (aW M l lo hi)=.inl (⟨0,0⟩,3):=if_pos a6;rw[a1];by_cases bb:l<0;·exact(uA s l M.n lo hi w L h.pos N bb).mono fun r w' q=>⟨q.1,h.a8 q.2⟩
  ·exact(uv s l M.n lo hi w L h.pos N (by omega) (by omega)).mono fun r w' q=>⟨q.1,h.a8 q.2⟩
 ·have A:0≤l:=by omega
  have U:l<M.n:=by omega
  by_cases J:M.leads 3 lo (l+1)=false∨M.leads 3 hi (l+1)=false
  ·have a1:al M 3 l lo hi (aW M l lo hi)=.inl (⟨0,0⟩,1):=(by unfold al;rw[if_neg a6,if_pos J]);rw[a1];rcases cL (M.leads 3 lo (l+1))with T|T
   ·rw[T]at E;exact(uz s l M.n lo hi w L h.pos N A U E).mono fun r w' q=>⟨q.1,h.a8 q.2⟩
   ·have a5:M.leads 3 hi (l+1)=false:=(by rcases J with J|J;rw[J]at T;cases T;exact J);rw[T]at E;rw[a5]at S;exact(ux s l M.n lo hi w L h.pos N A U E S).mono fun r w' q=>⟨q.1,h.a8 q.2⟩
  ·have T:M.leads 3 lo (l+1)=true:=(by rcases cL (M.leads 3 lo (l+1))with b|b;exact(J (.inl b)).elim;exact b);have a5:M.leads 3 hi (l+1)=true:=(by rcases cL (M.leads 3 hi (l+1))with b|b;exact(J (.inr b)).elim;exact b);have a1:al M 3 l lo hi (aW M l lo hi)=aW M l lo hi:=(by unfold al;rw[if_neg a6,if_neg J]);rw[a1];rw[T]at E;rw[a5]at S;by_cases I:lo=hi
   ·have K:aW M l lo hi=.inl (lo,0):=if_pos I;rw[K];exact(uC s l M.n lo hi w L h.pos N A U E S I).mono fun r w' q=>⟨q.1,h.a8 q.2⟩
   have q:(⟨3,l,l,lo,hi⟩:Rec).ok:=iY (by decide) A (by omega) ⟨A,by omega⟩ a8 a7;have av:=fun(j:World) (z:aa w j)=>ef (h.U z) lo.to a8.2.2;cases X:look M.cs lo.to with
   |none=>
    rw[X]at av;have K:aW M l lo hi=.inr ⟨3,l,l,lo,hi⟩:=(by unfold aW;rw[if_neg I,X]);rw[K];have W:=fun(j:World) (z:aa w j)=>jq (h.U z) ⟨3,l,l,lo,hi⟩ q;refine(uB (fun j t=>ag (au F j t) t s (M.a6 ⟨3,l,l,lo,hi⟩)) s l M.n lo hi Rec.zero _ _ _ w L h.pos N A U E S I av h.lt W).mono ?_;rintro e w' ⟨rfl,j,t,Y,Z,ab,ad⟩;exact⟨rfl,ab.after h.lt Y Z ad⟩
   |some r=>
    have a4:=h.b1 X;rw[X]at av;by_cases O:r.I=l+1
    ·by_cases am:r.hi=hi
     ·have K:aW M l lo hi=.inr ⟨3,l,r.J,r.lo,hi⟩:=(by unfold aW;rw[if_neg I,X];show(if r.I=l+1 then _ else _)=_;rw[if_pos O,if_pos am]);rw[K];clear q;have q:(⟨3,l,r.J,r.lo,hi⟩:Rec).ok:=iY (by decide) A (by omega) a4.J a4.lo a7;obtain⟨a',rt,a2,a3,aw⟩:=r;dsimp only at O am q ⊢;subst am;subst O;have W:=fun(j:World) (z:aa w j)=>jq (h.U z) ⟨3,l,a2,a3,aw⟩ q;refine(uw (fun j t=>ag (au F j t) t s (M.a6 ⟨3,l,a2,a3,aw⟩)) s l M.n lo aw ⟨a',l+1,a2,a3,aw⟩ _ _ _ w L h.pos N A U E S I av h.lt W).mono ?_;rintro e w' ⟨rfl,j,t,Y,Z,ab,ad⟩;exact⟨rfl,ab.after h.lt Y Z ad⟩
     ·have K:aW M l lo hi=.inr ⟨3,l,l,lo,hi⟩:=(by unfold aW;rw[if_neg I,X];show(if r.I=l+1 then _ else _)=_;rw[if_pos O,if_neg am]);rw[K];obtain⟨a',rt,a2,a3,aw⟩:=r;dsimp only at O am;subst O;have W:=fun(j:World) (z:aa w j)=>jq (h.U z) ⟨3,l,l,lo,hi⟩ q;refine(uy (fun j t=>ag (au F j t) t s (M.a6 ⟨3,l,l,lo,hi⟩)) s l M.n lo hi ⟨a',l+1,a2,a3,aw⟩ _ _ _ w L h.pos N A U E S I am av h.lt W).mono ?_;rintro e w' ⟨rfl,j,t,Y,Z,ab,ad⟩;exact⟨rfl,ab.after h.lt Y Z ad⟩
    ·have K:aW M l lo hi=.inr ⟨3,l,l,lo,hi⟩:=(by unfold aW;rw[if_neg I,X];show(if r.I=l+1 then _ else _)=_;rw[if_neg O]);rw[K];have W:=fun(j:World) (z:aa w j)=>jq (h.U z) ⟨3,l,l,lo,hi⟩ q;refine(uD (fun j t=>ag (au F j t) t s (M.a6 ⟨3,l,l,lo,hi⟩)) s l M.n lo hi r _ _ _ w L h.pos N A U E S I O a4.I.1 a4.I.2 av h.lt W).mono ?_;rintro e w' ⟨rfl,j,t,Y,Z,ab,ad⟩;exact⟨rfl,ab.after h.lt Y Z ad⟩

theorem uP {F:Nat→Prop}{w:World}{s:Nat}{M:St}(h:ag F w s M)(l:Int)(lo hi:Edge)(a4:lo.ok)(a8:hi.ok) :
  Calls Tryz.prog 124 #[.pointer (some ⟨s,0,none⟩),.int .i64 l,.agg #[.int .u8 lo.tag,.int .u32 lo.to],.agg #[.int .u8 hi.tag,.int .u32 hi.to]] w fun r w'=>
   r=.returned (.tuple #[.agg #[.int .u8 (dA M (al M 4 l lo hi (aZ M l lo hi))).tag,.int .u32 (dA M (al M 4 l lo hi (aZ M l lo hi))).to],.int .u8 (bX M (al M 4 l lo hi (aZ M l lo hi)))])∧ae F w w'∧ag (au F w w') w' s (aR M (al M 4 l lo hi (aZ M l lo hi))):=by
 have L:=h.wf.bw
 have N:=fun(j:World) (z:aa w j)=>dw (h.U z)
 have I:=fun(j:World) (z:aa w j)=>cX (h.U z) 4 lo (l+1) a4
 have O:=fun(j:World) (z:aa w j)=>cX (h.U z) 4 hi (l+1) a8
 by_cases a3:l<0∨M.n≤l
 ·have a1:al M 4 l lo hi (aZ M l lo hi)=.inl (⟨0,0⟩,3):=if_pos a3;rw[a1];by_cases a':l<0;·exact(za s l M.n lo hi w L h.pos N a').mono fun r w' q=>⟨q.1,h.a8 q.2⟩
  ·exact(yX s l M.n lo hi w L h.pos N (by omega) (by omega)).mono fun r w' q=>⟨q.1,h.a8 q.2⟩
 ·have E:0≤l:=by omega
  have U:l<M.n:=by omega
  by_cases J:M.leads 4 lo (l+1)=false∨M.leads 4 hi (l+1)=false
  ·have a1:al M 4 l lo hi (aZ M l lo hi)=.inl (⟨0,0⟩,1):=(by unfold al;rw[if_neg a3,if_pos J]);rw[a1];rcases cL (M.leads 4 lo (l+1))with S|S
   ·rw[S]at I;exact(y9 s l M.n lo hi w L h.pos N E U I).mono fun r w' q=>⟨q.1,h.a8 q.2⟩
   ·have a2:M.leads 4 hi (l+1)=false:=(by rcases J with J|J;rw[J]at S;cases S;exact J);rw[S]at I;rw[a2]at O;exact(yZ s l M.n lo hi w L h.pos N E U I O).mono fun r w' q=>⟨q.1,h.a8 q.2⟩
  ·have S:M.leads 4 lo (l+1)=true:=(by rcases cL (M.leads 4 lo (l+1))with b|b;exact(J (.inl b)).elim;exact b);have a2:M.leads 4 hi (l+1)=true:=(by rcases cL (M.leads 4 hi (l+1))with b|b;exact(J (.inr b)).elim;exact b);have a1:al M 4 l lo hi (aZ M l lo hi)=aZ M l lo hi:=(by unfold al;rw[if_neg a3,if_neg J]);rw[a1];rw[S]at I;rw[a2]at O;by_cases A:hi.to=0
   ·have K:aZ M l lo hi=.inl (lo,0):=if_pos A;rw[K];obtain⟨be,J⟩:=hi;dsimp only at A;subst A;exact(zd s l M.n lo be w L h.pos N E U I O).mono fun r w' q=>⟨q.1,h.a8 q.2⟩
   have q:(⟨4,l,l,lo,hi⟩:Rec).ok:=iY (by decide) E (by omega) ⟨E,by omega⟩ a4 a8;have av:=fun(j:World) (z:aa w j)=>ef (h.U z) lo.to a4.2.2;cases X:look M.cs lo.to with
   |none=>
    rw[X]at av;have K:aZ M l lo hi=.inr ⟨4,l,l,lo,hi⟩:=(by unfold aZ;rw[if_neg A,X]);rw[K];have W:=fun(j:World) (z:aa w j)=>js (h.U z) ⟨4,l,l,lo,hi⟩ q;refine(zb (fun j t=>ag (au F j t) t s (M.a6 ⟨4,l,l,lo,hi⟩)) s l M.n lo hi Rec.zero _ _ _ w L h.pos N E U I O A av h.lt W).mono ?_;rintro e w' ⟨rfl,j,t,Z,ab,ad,am⟩;exact⟨rfl,ad.after h.lt Z ab am⟩
   |some r=>
    have Y:=h.b1 X;rw[X]at av;by_cases T:lo=hi
    ·by_cases aw:r.I=l+1
     ·have K:aZ M l lo hi=.inr ⟨4,l,r.J,r.lo,r.hi⟩:=(by unfold aZ;rw[if_neg A,X];show(if lo=hi then _ else _)=_;rw[if_pos T,if_pos aw]);rw[K];clear q;have q:(⟨4,l,r.J,r.lo,r.hi⟩:Rec).ok:=iY (by decide) E (by omega) Y.J Y.lo Y.hi;obtain⟨bb,rt,a5,a7,a6⟩:=r;dsimp only at aw T q ⊢;subst T;subst aw;have W:=fun(j:World) (z:aa w j)=>js (h.U z) ⟨4,l,a5,a7,a6⟩ q;refine(yY (fun j t=>ag (au F j t) t s (M.a6 ⟨4,l,a5,a7,a6⟩)) s l M.n lo ⟨bb,l+1,a5,a7,a6⟩ _ _ _ w L h.pos N E U I O A av h.lt W).mono ?_;rintro e w' ⟨rfl,j,t,Z,ab,ad,am⟩;exact⟨rfl,ad.after h.lt Z ab am⟩
     ·have K:aZ M l lo hi=.inr ⟨4,l,l,lo,hi⟩:=(by unfold aZ;rw[if_neg A,X];show(if lo=hi then _ else _)=_;rw[if_pos T,if_neg aw]);rw[K];subst T;have W:=fun(j:World) (z:aa w j)=>js (h.U z) ⟨4,l,l,lo,lo⟩ q;refine(zc (fun j t=>ag (au F j t) t s (M.a6 ⟨4,l,l,lo,lo⟩)) s l M.n lo r _ _ _ w L h.pos N E U I O A aw Y.I.1 Y.I.2 av h.lt W).mono ?_;rintro e w' ⟨rfl,j,t,Z,ab,ad,am⟩;exact⟨rfl,ad.after h.lt Z ab am⟩
    ·have K:aZ M l lo hi=.inr ⟨4,l,l,lo,hi⟩:=(by unfold aZ;rw[if_neg A,X];show(if lo=hi then _ else _)=_;rw[if_neg T]);rw[K];have W:=fun(j:World) (z:aa w j)=>js (h.U z) ⟨4,l,l,lo,hi⟩ q;refine(y' (fun j t=>ag (au F j t) t s (M.a6 ⟨4,l,l,lo,hi⟩)) s l M.n lo hi r _ _ _ w L h.pos N E U I O A T Y.I.1 Y.I.2 av h.lt W).mono ?_;rintro e w' ⟨rfl,j,t,Z,ab,ad,am⟩;exact⟨rfl,ad.after h.lt Z ab am⟩

theorem BO (q:Nat)(l n:Int)(v:Edge)(w:World)(A:n≤16)(E:q<w.heap.size)
  (s:∀j,aa w j→Calls Tryz.prog 48 #[.pointer (some ⟨q,0,none⟩)] j fun e w'=>e=.returned (.int .i64 n)∧j=w')
  (z:l<0)
  : Calls Tryz.prog 271 #[.pointer (some ⟨q,0,none⟩),.agg #[.int .u8 v.tag,.int .u32 v.to],.int .i64 l] w fun e w'=>e=.returned (.tuple #[.agg #[.int .u8 0,.int .u32 0],.agg #[.int .u8 0,.int .u32 0],.int .u8 3])∧aa w w':=by
 have t:=Lib.hid s
 clear s
 go_enter Tryz.func271,Tryz.ntmps271
 go_wp2_with (first|(go_at_call 48;refine(t.out _ (by(exact kp))).mono ?_;rintro e w' ⟨rfl,rfl⟩)|fail)
 go_region
 all_goals go_wp2
 all_goals refine bodyPost_ret (v:=.tuple #[.agg #[.int .u8 0,.int .u32 0],.agg #[.int .u8 0,.int .u32 0],.int .u8 3]) (by simp[results,Tryz.results271,go_sem]) rfl ⟨rfl,by(exact kp)⟩

theorem BN (q:Nat)(l n:Int)(v:Edge)(w:World)(E:n≤16)(I:q<w.heap.size)
  (s:∀j,aa w j→Calls Tryz.prog 48 #[.pointer (some ⟨q,0,none⟩)] j fun e w'=>e=.returned (.int .i64 n)∧j=w')
  (z:0≤l) (A:n≤l)
  : Calls Tryz.prog 271 #[.pointer (some ⟨q,0,none⟩),.agg #[.int .u8 v.tag,.int .u32 v.to],.int .i64 l] w fun e w'=>e=.returned (.tuple #[.agg #[.int .u8 0,.int .u32 0],.agg #[.int .u8 0,.int .u32 0],.int .u8 3])∧aa w w':=by
 have t:=Lib.hid s
 clear s
 go_enter Tryz.func271,Tryz.ntmps271
 go_wp2_with (first|(go_at_call 48;refine(t.out _ (by(exact kp))).mono ?_;rintro e w' ⟨rfl,rfl⟩)|fail)
 go_region
 all_goals go_wp2
 all_goals refine bodyPost_ret (v:=.tuple #[.agg #[.int .u8 0,.int .u32 0],.agg #[.int .u8 0,.int .u32 0],.int .u8 3]) (by simp[results,Tryz.results271,go_sem]) rfl ⟨rfl,by(exact kp)⟩

theorem BP (s:Nat)(l n:Int)(v:Edge)(w:World)(W:n≤16)(X:s<w.heap.size)
  (z:∀q,aa w q→Calls Tryz.prog 48 #[.pointer (some ⟨s,0,none⟩)] q fun e w'=>e=.returned (.int .i64 n)∧q=w')
  (T:0≤l) (U:l<n)
  (t:∀q,aa w q→Calls Tryz.prog 134 #[.pointer (some ⟨s,0,none⟩),.int .u8 5,.agg #[.int .u8 v.tag,.int .u32 v.to],.int .i64 l] q fun e w'=>e=.returned (.bool false)∧aa q w')
  : Calls Tryz.prog 271 #[.pointer (some ⟨s,0,none⟩),.agg #[.int .u8 v.tag,.int .u32 v.to],.int .i64 l] w fun e w'=>e=.returned (.tuple #[.agg #[.int .u8 0,.int .u32 0],.agg #[.int .u8 0,.int .u32 0],.int .u8 1])∧aa w w':=by
 have E:=Lib.hid z
 clear z
 have A:=Lib.hid t
 clear t
 go_enter Tryz.func271,Tryz.ntmps271
 go_wp2_with (first|(go_at_call 48;refine(E.out _ (by(exact kp))).mono ?_;rintro e w' ⟨rfl,rfl⟩)|fail)
 (go_at_call 134;refine(A.out _ (by(exact kp))).mono ?_;rintro e w1 ⟨rfl,j⟩;have I:=j.size;simp only[World.size_alloc]at I;have q:w.heap.size<w1.heap.size:=(by omega);have J:w.heap.size+1<w1.heap.size:=(by omega);have K:w.heap.size+2<w1.heap.size:=(by omega);have q:=j.cell (a:=⟨w.heap.size,0,none⟩) (v:=.int .u8 v.tag) (by simp[go_sem]);have q:=j.cell (a:=⟨w.heap.size,1,none⟩) (v:=.int .u32 v.to) (by simp[go_sem]);have L:=j.cell (a:=⟨w.heap.size+1,0,none⟩) (v:=.int .u8 0) (by simp[go_sem]);have N:=j.cell (a:=⟨w.heap.size+1,1,none⟩) (v:=.int .u32 0) (by simp[go_sem]);have O:=j.cell (a:=⟨w.heap.size+2,0,none⟩) (v:=.int .u8 0) (by simp[go_sem]);have S:=j.cell (a:=⟨w.heap.size+2,1,none⟩) (v:=.int .u32 0) (by simp[go_sem]);have q:=fun o:Nat=>j.a2 (a:=⟨w.heap.size+1,o,none⟩) (by simp[go_sem]) (by simp[go_sem]);have q:=fun o:Nat=>j.a2 (a:=⟨w.heap.size+2,o,none⟩) (by simp[go_sem]) (by simp[go_sem]);have j:aa w w1:=(by(exact kp)))
 go_wp2_with fail
 go_region
 all_goals go_wp2
 all_goals refine bodyPost_ret (v:=.tuple #[.agg #[.int .u8 0,.int .u32 0],.agg #[.int .u8 0,.int .u32 0],.int .u8 1]) (by simp[results,Tryz.results271,go_sem,J,K,L,N,O,S]) rfl ⟨rfl,by(exact kp)⟩

theorem BU (t:Nat)(l n:Int)(s:Int)(w:World)(X:n≤16)(Y:t<w.heap.size)
  (A:∀q,aa w q→Calls Tryz.prog 48 #[.pointer (some ⟨t,0,none⟩)] q fun e w'=>e=.returned (.int .i64 n)∧q=w')
  (U:0≤l) (W:l<n)
  (z:∀q,aa w q→Calls Tryz.prog 134 #[.pointer (some ⟨t,0,none⟩),.int .u8 5,.agg #[.int .u8 s,.int .u32 0],.int .i64 l] q fun e w'=>e=.returned (.bool true)∧aa q w')
  : Calls Tryz.prog 271 #[.pointer (some ⟨t,0,none⟩),.agg #[.int .u8 s,.int .u32 0],.int .i64 l] w fun e w'=>e=.returned (.tuple #[.agg #[.int .u8 s,.int .u32 0],.agg #[.int .u8 s,.int .u32 0],.int .u8 0])∧aa w w':=by
 have I:=Lib.hid A
 clear A
 have E:=Lib.hid z
 clear z
 go_enter Tryz.func271,Tryz.ntmps271
 go_wp2_with (first|(go_at_call 48;refine(I.out _ (by(exact kp))).mono ?_;rintro e w' ⟨rfl,rfl⟩)|fail)
 (go_at_call 134;refine(E.out _ (by(exact kp))).mono ?_;rintro e w1 ⟨rfl,j⟩;have J:=j.size;simp only[World.size_alloc]at J;have q:w.heap.size<w1.heap.size:=(by omega);have K:w.heap.size+1<w1.heap.size:=(by omega);have L:w.heap.size+2<w1.heap.size:=(by omega);have q:=j.cell (a:=⟨w.heap.size,0,none⟩) (v:=.int .u8 s) (by simp[go_sem]);have q:=j.cell (a:=⟨w.heap.size,1,none⟩) (v:=.int .u32 0) (by simp[go_sem]);have N:=j.cell (a:=⟨w.heap.size+1,0,none⟩) (v:=.int .u8 0) (by simp[go_sem]);have O:=j.cell (a:=⟨w.heap.size+1,1,none⟩) (v:=.int .u32 0) (by simp[go_sem]);have S:=j.cell (a:=⟨w.heap.size+2,0,none⟩) (v:=.int .u8 0) (by simp[go_sem]);have T:=j.cell (a:=⟨w.heap.size+2,1,none⟩) (v:=.int .u32 0) (by simp[go_sem]);have q:=fun o:Nat=>j.a2 (a:=⟨w.heap.size+1,o,none⟩) (by simp[go_sem]) (by simp[go_sem]);have q:=fun o:Nat=>j.a2 (a:=⟨w.heap.size+2,o,none⟩) (by simp[go_sem]) (by simp[go_sem]);have j:aa w w1:=(by(exact kp)))
 go_wp2_with fail
 go_region
 all_goals go_wp2
 all_goals refine bodyPost_ret (v:=.tuple #[.agg #[.int .u8 s,.int .u32 0],.agg #[.int .u8 s,.int .u32 0],.int .u8 0]) (by simp[results,Tryz.results271,go_sem,K,L,N,O,S,T]) rfl ⟨rfl,by(exact kp)⟩

theorem BR (s:Nat)(l n:Int)(v:Edge)(w:World)(X:n≤16)(Y:s<w.heap.size)
  (z:∀q,aa w q→Calls Tryz.prog 48 #[.pointer (some ⟨s,0,none⟩)] q fun e w'=>e=.returned (.int .i64 n)∧q=w')
  (T:0≤l) (U:l<n)
  (t:∀q,aa w q→Calls Tryz.prog 134 #[.pointer (some ⟨s,0,none⟩),.int .u8 5,.agg #[.int .u8 v.tag,.int .u32 v.to],.int .i64 l] q fun e w'=>e=.returned (.bool true)∧aa q w')
  (ab:0≤v.tag) (ad:v.tag≤255) (W:¬v.to=0) (Z:l<v.tag)
  : Calls Tryz.prog 271 #[.pointer (some ⟨s,0,none⟩),.agg #[.int .u8 v.tag,.int .u32 v.to],.int .i64 l] w fun e w'=>e=.returned (.tuple #[.agg #[.int .u8 v.tag,.int .u32 v.to],.agg #[.int .u8 v.tag,.int .u32 v.to],.int .u8 0])∧aa w w':=by
 have E:=Lib.hid z
 clear z
 have A:=Lib.hid t
 clear t
 go_enter Tryz.func271,Tryz.ntmps271
 go_wp2_with (first|(go_at_call 48;refine(E.out _ (by(exact kp))).mono ?_;rintro e w' ⟨rfl,rfl⟩)|fail)
 (go_at_call 134;refine(A.out _ (by(exact kp))).mono ?_;rintro e w1 ⟨rfl,j⟩;have I:=j.size;simp only[World.size_alloc]at I;have q:w.heap.size<w1.heap.size:=(by omega);have J:w.heap.size+1<w1.heap.size:=(by omega);have K:w.heap.size+2<w1.heap.size:=(by omega);have q:=j.cell (a:=⟨w.heap.size,0,none⟩) (v:=.int .u8 v.tag) (by simp[go_sem]);have q:=j.cell (a:=⟨w.heap.size,1,none⟩) (v:=.int .u32 v.to) (by simp[go_sem]);have L:=j.cell (a:=⟨w.heap.size+1,0,none⟩) (v:=.int .u8 0) (by simp[go_sem]);have N:=j.cell (a:=⟨w.heap.size+1,1,none⟩) (v:=.int .u32 0) (by simp[go_sem]);have O:=j.cell (a:=⟨w.heap.size+2,0,none⟩) (v:=.int .u8 0) (by simp[go_sem]);have S:=j.cell (a:=⟨w.heap.size+2,1,none⟩) (v:=.int .u32 0) (by simp[go_sem]);have q:=fun o:Nat=>j.a2 (a:=⟨w.heap.size+1,o,none⟩) (by simp[go_sem]) (by simp[go_sem]);have q:=fun o:Nat=>j.a2 (a:=⟨w.heap.size+2,o,none⟩) (by simp[go_sem]) (by simp[go_sem]);have j:aa w w1:=(by(exact kp)))
 go_wp2_with fail
 go_region
 all_goals go_wp2
 all_goals refine bodyPost_ret (v:=.tuple #[.agg #[.int .u8 v.tag,.int .u32 v.to],.agg #[.int .u8 v.tag,.int .u32 v.to],.int .u8 0]) (by simp[results,Tryz.results271,go_sem,J,K,L,N,O,S]) rfl ⟨rfl,by(exact kp)⟩

theorem BQ (t:Nat)(l n:Int)(v:Edge)(x:Rec)(w:World)(a3:n≤16)(a4:t<w.heap.size)
  (N:∀j,aa w j→Calls Tryz.prog 48 #[.pointer (some ⟨t,0,none⟩)] j fun e w'=>e=.returned (.int .i64 n)∧j=w')
  (aw:0≤l) (a1:l<n)
  (L:∀j,aa w j→Calls Tryz.prog 134 #[.pointer (some ⟨t,0,none⟩),.int .u8 5,.agg #[.int .u8 v.tag,.int .u32 v.to],.int .i64 l] j fun e w'=>e=.returned (.bool true)∧aa j w')
  (a6:0≤v.tag) (a7:v.tag≤255) (a2:¬v.to=0) (a5:v.tag≤l)
  (K:∀j,aa w j→Calls Tryz.prog 78 #[.pointer (some ⟨t,0,none⟩),.int .u32 v.to] j fun e w'=>e=.returned (.tuple #[.agg #[.int .u8 x.ad,.int .u8 x.I,.int .u8 x.J,.int .u8 x.lo.tag,.int .u32 x.lo.to,.int .u8 x.hi.tag,.int .u32 x.hi.to],.bool false])∧aa j w')
  : Calls Tryz.prog 271 #[.pointer (some ⟨t,0,none⟩),.agg #[.int .u8 v.tag,.int .u32 v.to],.int .i64 l] w fun e w'=>e=.returned (.tuple #[.agg #[.int .u8 (l+1),.int .u32 v.to],.agg #[.int .u8 0,.int .u32 0],.int .u8 0])∧aa w w':=by
 have ab:=Lib.hid N
 clear N
 have Z:=Lib.hid L
 clear L
 have Y:=Lib.hid K
 clear K
 go_enter Tryz.func271,Tryz.ntmps271
 go_wp2_with (first|(go_at_call 48;refine(ab.out _ (by(exact kp))).mono ?_;rintro e w' ⟨rfl,rfl⟩)|fail)
 (go_at_call 134;refine(Z.out _ (by(exact kp))).mono ?_;rintro e w1 ⟨rfl,s⟩;have am:=s.size;simp only[World.size_alloc]at am;have av:w.heap.size<w1.heap.size:=(by omega);have O:w.heap.size+1<w1.heap.size:=(by omega);have S:w.heap.size+2<w1.heap.size:=(by omega);have U:=s.cell (a:=⟨w.heap.size,0,none⟩) (v:=.int .u8 v.tag) (by simp[go_sem]);have W:=s.cell (a:=⟨w.heap.size,1,none⟩) (v:=.int .u32 v.to) (by simp[go_sem]);have A:=s.cell (a:=⟨w.heap.size+1,0,none⟩) (v:=.int .u8 0) (by simp[go_sem]);have E:=s.cell (a:=⟨w.heap.size+1,1,none⟩) (v:=.int .u32 0) (by simp[go_sem]);have I:=s.cell (a:=⟨w.heap.size+2,0,none⟩) (v:=.int .u8 0) (by simp[go_sem]);have J:=s.cell (a:=⟨w.heap.size+2,1,none⟩) (v:=.int .u32 0) (by simp[go_sem]);have T:=fun o:Nat=>s.a2 (a:=⟨w.heap.size+1,o,none⟩) (by simp[go_sem]) (by simp[go_sem]);have X:=fun o:Nat=>s.a2 (a:=⟨w.heap.size+2,o,none⟩) (by simp[go_sem]) (by simp[go_sem]);have ad:aa w w1:=(by(exact kp)))
 go_wp2_with fail
 ·exfalso;simp_all;omega
 (go_at_call 78;refine(Y.out _ (by(exact kp))).mono ?_;rintro e z ⟨rfl,q⟩;have j:=q.size;have T:=fun o:Nat=>q.a2 (a:=⟨w.heap.size+1,o,none⟩) (by dsimp only;omega) (T o);have X:=fun o:Nat=>q.a2 (a:=⟨w.heap.size+2,o,none⟩) (by dsimp only;omega) (X o);have U:=q.cell U;have W:=q.cell W;have A:=q.cell A;have E:=q.cell E;have I:=q.cell I;have J:=q.cell J;have av:w.heap.size<z.heap.size:=(by omega);have O:w.heap.size+1<z.heap.size:=(by omega);have S:w.heap.size+2<z.heap.size:=(by omega);have j:aa w z:=ad.trans q)
 go_wp2_with fail
 all_goals refine bodyPost_ret (v:=.tuple #[.agg #[.int .u8 (l+1),.int .u32 v.to],.agg #[.int .u8 0,.int .u32 0],.int .u8 0]) (by simp[results,Tryz.results271,go_sem,O,S,A,E,I,J]) rfl ⟨rfl,by(exact kp)⟩

theorem BS (t:Nat)(l n:Int)(v:Edge)(x:Rec)(w:World)(a3:n≤16)(a4:t<w.heap.size)
  (N:∀j,aa w j→Calls Tryz.prog 48 #[.pointer (some ⟨t,0,none⟩)] j fun e w'=>e=.returned (.int .i64 n)∧j=w')
  (aw:0≤l) (a1:l<n)
  (L:∀j,aa w j→Calls Tryz.prog 134 #[.pointer (some ⟨t,0,none⟩),.int .u8 5,.agg #[.int .u8 v.tag,.int .u32 v.to],.int .i64 l] j fun e w'=>e=.returned (.bool true)∧aa j w')
  (a6:0≤v.tag) (a7:v.tag≤255) (a2:¬v.to=0) (a5:v.tag≤l)
  (a8:l<x.I) (a':0≤x.I) (bb:x.I≤255) (be:0≤x.J) (bg:x.J≤255)
  (K:∀j,aa w j→Calls Tryz.prog 78 #[.pointer (some ⟨t,0,none⟩),.int .u32 v.to] j fun e w'=>e=.returned (.tuple #[.agg #[.int .u8 x.ad,.int .u8 x.I,.int .u8 x.J,.int .u8 x.lo.tag,.int .u32 x.lo.to,.int .u8 x.hi.tag,.int .u32 x.hi.to],.bool true])∧aa j w')
  : Calls Tryz.prog 271 #[.pointer (some ⟨t,0,none⟩),.agg #[.int .u8 v.tag,.int .u32 v.to],.int .i64 l] w fun e w'=>e=.returned (.tuple #[.agg #[.int .u8 (l+1),.int .u32 v.to],.agg #[.int .u8 0,.int .u32 0],.int .u8 0])∧aa w w':=by
 have ab:=Lib.hid N
 clear N
 have Z:=Lib.hid L
 clear L
 have Y:=Lib.hid K
 clear K
 go_enter Tryz.func271,Tryz.ntmps271
 go_wp2_with (first|(go_at_call 48;refine(ab.out _ (by(exact kp))).mono ?_;rintro e w' ⟨rfl,rfl⟩)|fail)
 (go_at_call 134;refine(Z.out _ (by(exact kp))).mono ?_;rintro e w1 ⟨rfl,s⟩;have am:=s.size;simp only[World.size_alloc]at am;have av:w.heap.size<w1.heap.size:=(by omega);have O:w.heap.size+1<w1.heap.size:=(by omega);have S:w.heap.size+2<w1.heap.size:=(by omega);have U:=s.cell (a:=⟨w.heap.size,0,none⟩) (v:=.int .u8 v.tag) (by simp[go_sem]);have W:=s.cell (a:=⟨w.heap.size,1,none⟩) (v:=.int .u32 v.to) (by simp[go_sem]);have A:=s.cell (a:=⟨w.heap.size+1,0,none⟩) (v:=.int .u8 0) (by simp[go_sem]);have E:=s.cell (a:=⟨w.heap.size+1,1,none⟩) (v:=.int .u32 0) (by simp[go_sem]);have I:=s.cell (a:=⟨w.heap.size+2,0,none⟩) (v:=.int .u8 0) (by simp[go_sem]);have J:=s.cell (a:=⟨w.heap.size+2,1,none⟩) (v:=.int .u32 0) (by simp[go_sem]);have T:=fun o:Nat=>s.a2 (a:=⟨w.heap.size+1,o,none⟩) (by simp[go_sem]) (by simp[go_sem]);have X:=fun o:Nat=>s.a2 (a:=⟨w.heap.size+2,o,none⟩) (by simp[go_sem]) (by simp[go_sem]);have ad:aa w w1:=(by(exact kp)))
 go_wp2_with fail
 ·exfalso;simp_all;omega
 (go_at_call 78;refine(Y.out _ (by(exact kp))).mono ?_;rintro e z ⟨rfl,q⟩;have j:=q.size;have T:=fun o:Nat=>q.a2 (a:=⟨w.heap.size+1,o,none⟩) (by dsimp only;omega) (T o);have X:=fun o:Nat=>q.a2 (a:=⟨w.heap.size+2,o,none⟩) (by dsimp only;omega) (X o);have U:=q.cell U;have W:=q.cell W;have A:=q.cell A;have E:=q.cell E;have I:=q.cell I;have J:=q.cell J;have av:w.heap.size<z.heap.size:=(by omega);have O:w.heap.size+1<z.heap.size:=(by omega);have S:w.heap.size+2<z.heap.size:=(by omega);have j:aa w z:=ad.trans q)
 go_wp2_with fail
 all_goals refine bodyPost_ret (v:=.tuple #[.agg #[.int .u8 (l+1),.int .u32 v.to],.agg #[.int .u8 0,.int .u32 0],.int .u8 0]) (by simp[results,Tryz.results271,go_sem,O,S,A,E,I,J]) rfl ⟨rfl,by(exact kp)⟩

theorem BM (t:Nat)(l n:Int)(v:Edge)(x:Rec)(w:World)(a3:n≤16)(a4:t<w.heap.size)
  (N:∀j,aa w j→Calls Tryz.prog 48 #[.pointer (some ⟨t,0,none⟩)] j fun e w'=>e=.returned (.int .i64 n)∧j=w')
  (aw:0≤l) (a1:l<n)
  (L:∀j,aa w j→Calls Tryz.prog 134 #[.pointer (some ⟨t,0,none⟩),.int .u8 5,.agg #[.int .u8 v.tag,.int .u32 v.to],.int .i64 l] j fun e w'=>e=.returned (.bool true)∧aa j w')
  (a6:0≤v.tag) (a7:v.tag≤255) (a2:¬v.to=0) (a5:v.tag≤l)
   (a8:0≤x.I) (a':x.I≤255) (bb:0≤x.J) (be:x.J≤255)
  (K:∀j,aa w j→Calls Tryz.prog 78 #[.pointer (some ⟨t,0,none⟩),.int .u32 v.to] j fun e w'=>e=.returned (.tuple #[.agg #[.int .u8 x.ad,.int .u8 l,.int .u8 x.J,.int .u8 x.lo.tag,.int .u32 x.lo.to,.int .u8 x.hi.tag,.int .u32 x.hi.to],.bool true])∧aa j w')
  : Calls Tryz.prog 271 #[.pointer (some ⟨t,0,none⟩),.agg #[.int .u8 v.tag,.int .u32 v.to],.int .i64 l] w fun e w'=>e=.returned (.tuple #[.agg #[.int .u8 x.lo.tag,.int .u32 x.lo.to],.agg #[.int .u8 x.hi.tag,.int .u32 x.hi.to],.int .u8 0])∧aa w w':=by
 have ab:=Lib.hid N
 clear N
 have Z:=Lib.hid L
 clear L
 have Y:=Lib.hid K
 clear K
 go_enter Tryz.func271,Tryz.ntmps271
 go_wp2_with (first|(go_at_call 48;refine(ab.out _ (by(exact kp))).mono ?_;rintro e w' ⟨rfl,rfl⟩)|fail)
 (go_at_call 134;refine(Z.out _ (by(exact kp))).mono ?_;rintro e w1 ⟨rfl,s⟩;have am:=s.size;simp only[World.size_alloc]at am;have av:w.heap.size<w1.heap.size:=(by omega);have O:w.heap.size+1<w1.heap.size:=(by omega);have S:w.heap.size+2<w1.heap.size:=(by omega);have U:=s.cell (a:=⟨w.heap.size,0,none⟩) (v:=.int .u8 v.tag) (by simp[go_sem]);have W:=s.cell (a:=⟨w.heap.size,1,none⟩) (v:=.int .u32 v.to) (by simp[go_sem]);have A:=s.cell (a:=⟨w.heap.size+1,0,none⟩) (v:=.int .u8 0) (by simp[go_sem]);have E:=s.cell (a:=⟨w.heap.size+1,1,none⟩) (v:=.int .u32 0) (by simp[go_sem]);have I:=s.cell (a:=⟨w.heap.size+2,0,none⟩) (v:=.int .u8 0) (by simp[go_sem]);have J:=s.cell (a:=⟨w.heap.size+2,1,none⟩) (v:=.int .u32 0) (by simp[go_sem]);have T:=fun o:Nat=>s.a2 (a:=⟨w.heap.size+1,o,none⟩) (by simp[go_sem]) (by simp[go_sem]);have X:=fun o:Nat=>s.a2 (a:=⟨w.heap.size+2,o,none⟩) (by simp[go_sem]) (by simp[go_sem]);have ad:aa w w1:=(by(exact kp)))
 go_wp2_with fail
 ·exfalso;simp_all;omega
 (go_at_call 78;refine(Y.out _ (by(exact kp))).mono ?_;rintro e z ⟨rfl,q⟩;have j:=q.size;have T:=fun o:Nat=>q.a2 (a:=⟨w.heap.size+1,o,none⟩) (by dsimp only;omega) (T o);have X:=fun o:Nat=>q.a2 (a:=⟨w.heap.size+2,o,none⟩) (by dsimp only;omega) (X o);have U:=q.cell U;have W:=q.cell W;have A:=q.cell A;have E:=q.cell E;have I:=q.cell I;have J:=q.cell J;have av:w.heap.size<z.heap.size:=(by omega);have O:w.heap.size+1<z.heap.size:=(by omega);have S:w.heap.size+2<z.heap.size:=(by omega);have j:aa w z:=ad.trans q)
 go_wp2_with fail
 go_region
 all_goals go_wp2
 all_goals refine bodyPost_ret (v:=.tuple #[.agg #[.int .u8 x.lo.tag,.int .u32 x.lo.to],.agg #[.int .u8 x.hi.tag,.int .u32 x.hi.to],.int .u8 0]) (by simp[results,Tryz.results271,go_sem,O,S,A,E,I,J]) rfl ⟨rfl,by(exact kp)⟩

end Go.Proofs.YtafkamlhimkbmaaGreat
