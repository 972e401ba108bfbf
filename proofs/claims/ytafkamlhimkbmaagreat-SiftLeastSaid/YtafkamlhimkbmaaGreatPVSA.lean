/-
  View of form 1 over the state: the program's and the document's (printed by wip/mk_vstore.py).
-/
import Derived.Test.YtafkamlhimkbmaaGreatPViewBZ
import Derived.Test.YtafkamlhimkbmaaGreatPViewC
import Derived.Test.YtafkamlhimkbmaaGreatPViewQ
namespace Go.Proofs.YtafkamlhimkbmaaGreat
set_option maxRecDepth 1000000
set_option maxHeartbeats 8000000
set_option linter.unusedSimpArgs false
set_option linter.unusedVariables false
open Go.RowKit

theorem sA {F:Nat→Prop}{w:World}{s:Nat}{M:St}(h:ag F w s M)(e:Edge)(l:Int)(Z:e.ok) :
  Calls Tryz.prog 267 #[.pointer (some ⟨s,0,none⟩),.agg #[.int .u8 e.tag,.int .u32 e.to],.int .i64 l] w fun r t=>
   r=.returned (.tuple #[.agg #[.int .u8 (bK M (af M 1 e l)).tag,.int .u32 (bK M (af M 1 e l)).to],.agg #[.int .u8 (bf M 1 (af M 1 e l)).tag,.int .u32 (bf M 1 (af M 1 e l)).to],.int .u8 (bQ M (af M 1 e l))])∧ae F w t∧ag (ao F w t) t s (bN M (af M 1 e l)):=by
 have I:=h.wf.br
 have J:=fun(K:World) (N:aa w K)=>dz (h.U N)
 have O:=fun(K:World) (N:aa w K)=>dU (h.U N) e.to Z.2.2
 have E:=fun(K:World) (N:aa w K)=>cV (h.U N) 1 e l Z
 by_cases L:l<0∨M.n≤l
 ·have q:af M 1 e l=.inl (⟨0,0⟩,⟨0,0⟩,3):=if_pos L;rw[q];by_cases K:l<0;·exact(tq s l M.n e w I h.pos J K).mono fun r t j=>⟨j.1,h.a8 j.2⟩
  ·exact(tp s l M.n e w I h.pos J (by omega) (by omega)).mono fun r t j=>⟨j.1,h.a8 j.2⟩
 ·have S:0≤l:=by omega
  have T:l<M.n:=by omega
  rcases cI (M.leads 1 e l)with b|b
  ·have q:af M 1 e l=.inl (⟨0,0⟩,⟨0,0⟩,1):=(by unfold af;rw[if_neg L,if_pos b]);rw[q];rw[b]at E;exact(tt s l M.n e w I h.pos J S T E).mono fun r t j=>⟨j.1,h.a8 j.2⟩
  ·have W:¬M.leads 1 e l=false:=(by rw[b];simp);rw[b]at E;have X:¬((1:Int)=5∧(e.to=0∨l<e.tag)):=(by omega);have Y:aF 1 l e=(e,e,0):=(by simp[aF]);cases A:look M.cs e.to with
   |none=>
    have q:af M 1 e l=.inl (e,e,0):=(by unfold af;rw[if_neg L,if_neg W,if_neg X,A];show Sum.inl (aF 1 l e)=_;rw[Y]);rw[q];rw[A]at O;exact(tu s l M.n e Rec.zero w I h.pos J S T E O).mono fun r t j=>⟨j.1,h.a8 j.2⟩
   |some r=>
    obtain⟨K,N,Z⟩:=dx b A;have z:=h.b1 A;rw[A]at O;by_cases U:l<r.I
    ·have q:af M 1 e l=.inl (e,e,0):=(by unfold af;rw[if_neg L,if_neg W,if_neg X,A];show(if l<r.I then Sum.inl (aF 1 l e)else _)=_;rw[if_pos U,Y]);rw[q];exact(tz s l M.n e r w I h.pos J S T E U z.I.1 z.I.2 z.J.1 z.J.2 O).mono fun r t j=>⟨j.1,h.a8 j.2⟩
    ·have ab:r.I=l:=(by omega);have q:af M 1 e l=.inl (r.lo,r.hi,0):=(by unfold af;rw[if_neg L,if_neg W,if_neg X,A];show(if l<r.I then Sum.inl (aF 1 l e)else _)=_;rw[if_neg U,if_neg (by omega)]);rw[q];obtain⟨am,rt,ad,aw,av⟩:=r;dsimp only at ab;subst ab;exact(tn s rt M.n e ⟨am,rt,ad,aw,av⟩ w I h.pos J S T E z.I.1 z.I.2 z.J.1 z.J.2 O).mono fun r t j=>⟨j.1,h.a8 j.2⟩

theorem Cu {F:Nat→Prop}{w:World}{s:Nat}{M:St}(h:ag F w s M)(e:Edge)(l:Int)(Z:e.ok) :
  Calls Tryz.prog 268 #[.pointer (some ⟨s,0,none⟩),.agg #[.int .u8 e.tag,.int .u32 e.to],.int .i64 l] w fun r t=>
   r=.returned (.tuple #[.agg #[.int .u8 (bK M (af M 2 e l)).tag,.int .u32 (bK M (af M 2 e l)).to],.agg #[.int .u8 (bf M 2 (af M 2 e l)).tag,.int .u32 (bf M 2 (af M 2 e l)).to],.int .u8 (bQ M (af M 2 e l))])∧ae F w t∧ag (ao F w t) t s (bN M (af M 2 e l)):=by
 have I:=h.wf.br
 have J:=fun(K:World) (N:aa w K)=>dz (h.U N)
 have O:=fun(K:World) (N:aa w K)=>dU (h.U N) e.to Z.2.2
 have E:=fun(K:World) (N:aa w K)=>cV (h.U N) 2 e l Z
 by_cases L:l<0∨M.n≤l
 ·have q:af M 2 e l=.inl (⟨0,0⟩,⟨0,0⟩,3):=if_pos L;rw[q];by_cases K:l<0;·exact(CG s l M.n e w I h.pos J K).mono fun r t j=>⟨j.1,h.a8 j.2⟩
  ·exact(CF s l M.n e w I h.pos J (by omega) (by omega)).mono fun r t j=>⟨j.1,h.a8 j.2⟩
 ·have S:0≤l:=by omega
  have T:l<M.n:=by omega
  rcases cI (M.leads 2 e l)with b|b
  ·have q:af M 2 e l=.inl (⟨0,0⟩,⟨0,0⟩,1):=(by unfold af;rw[if_neg L,if_pos b]);rw[q];rw[b]at E;exact(CH s l M.n e w I h.pos J S T E).mono fun r t j=>⟨j.1,h.a8 j.2⟩
  ·have W:¬M.leads 2 e l=false:=(by rw[b];simp);rw[b]at E;have X:¬((2:Int)=5∧(e.to=0∨l<e.tag)):=(by omega);have Y:aF 2 l e=(e,⟨0,0⟩,0):=(by simp[aF]);cases A:look M.cs e.to with
   |none=>
    have q:af M 2 e l=.inl (e,⟨0,0⟩,0):=(by unfold af;rw[if_neg L,if_neg W,if_neg X,A];show Sum.inl (aF 2 l e)=_;rw[Y]);rw[q];rw[A]at O;exact(CI s l M.n e Rec.zero w I h.pos J S T E O).mono fun r t j=>⟨j.1,h.a8 j.2⟩
   |some r=>
    obtain⟨K,N,Z⟩:=dx b A;have z:=h.b1 A;rw[A]at O;by_cases U:l<r.I
    ·have q:af M 2 e l=.inl (e,⟨0,0⟩,0):=(by unfold af;rw[if_neg L,if_neg W,if_neg X,A];show(if l<r.I then Sum.inl (aF 2 l e)else _)=_;rw[if_pos U,Y]);rw[q];exact(CJ s l M.n e r w I h.pos J S T E U z.I.1 z.I.2 z.J.1 z.J.2 O).mono fun r t j=>⟨j.1,h.a8 j.2⟩
    ·have ab:r.I=l:=(by omega);have q:af M 2 e l=.inl (r.lo,r.hi,0):=(by unfold af;rw[if_neg L,if_neg W,if_neg X,A];show(if l<r.I then Sum.inl (aF 2 l e)else _)=_;rw[if_neg U,if_neg (by omega)]);rw[q];obtain⟨am,rt,ad,aw,av⟩:=r;dsimp only at ab;subst ab;exact(CE s rt M.n e ⟨am,rt,ad,aw,av⟩ w I h.pos J S T E z.I.1 z.I.2 z.J.1 z.J.2 O).mono fun r t j=>⟨j.1,h.a8 j.2⟩

theorem tE {F:Nat→Prop}{w:World}{E:Nat}{M:St}(h:ag F w E M)(e:Edge)(l:Int)(a8:e.ok) :
  Calls Tryz.prog 269 #[.pointer (some ⟨E,0,none⟩),.agg #[.int .u8 e.tag,.int .u32 e.to],.int .i64 l] w fun r J=>
   r=.returned (.tuple #[.agg #[.int .u8 (bK M (af M 3 e l)).tag,.int .u32 (bK M (af M 3 e l)).to],.agg #[.int .u8 (bf M 3 (af M 3 e l)).tag,.int .u32 (bf M 3 (af M 3 e l)).to],.int .u8 (bQ M (af M 3 e l))])∧ae F w J∧ag (ao F w J) J E (bN M (af M 3 e l)):=by
 have N:=h.wf.br
 have O:=fun(z:World) (W:aa w z)=>dz (h.U W)
 have X:=fun(z:World) (W:aa w z)=>dU (h.U W) e.to a8.2.2
 have L:=fun(z:World) (W:aa w z)=>cV (h.U W) 3 e l a8
 by_cases Y:l<0∨M.n≤l
 ·have I:af M 3 e l=.inl (⟨0,0⟩,⟨0,0⟩,3):=if_pos Y;rw[I];by_cases a8:l<0;·exact(uc E l M.n e w N h.pos O a8).mono fun r J j=>⟨j.1,h.a8 j.2⟩
  ·exact(tZ E l M.n e w N h.pos O (by omega) (by omega)).mono fun r J j=>⟨j.1,h.a8 j.2⟩
 ·have U:0≤l:=by omega
  have Z:l<M.n:=by omega
  rcases cI (M.leads 3 e l)with b|b
  ·have I:af M 3 e l=.inl (⟨0,0⟩,⟨0,0⟩,1):=(by unfold af;rw[if_neg Y,if_pos b]);rw[I];rw[b]at L;exact(ud E l M.n e w N h.pos O U Z L).mono fun r J j=>⟨j.1,h.a8 j.2⟩
  ·have av:¬M.leads 3 e l=false:=(by rw[b];simp);rw[b]at L;have aw:¬((3:Int)=5∧(e.to=0∨l<e.tag)):=(by omega);have a7:aF 3 l e=(e,e,0):=(by simp[aF]);cases K:look M.cs e.to with
   |none=>
    have I:af M 3 e l=.inl (e,e,0):=(by unfold af;rw[if_neg Y,if_neg av,if_neg aw,K];show Sum.inl (aF 3 l e)=_;rw[a7]);rw[I];rw[K]at X;exact(ue E l M.n e Rec.zero w N h.pos O U Z L X).mono fun r J j=>⟨j.1,h.a8 j.2⟩
   |some r=>
    obtain⟨a',a8,bg⟩:=dx b K;have q:=h.b1 K;rw[K]at X;by_cases ad:l<r.I
    ·have I:af M 3 e l=.inl (e,e,0):=(by unfold af;rw[if_neg Y,if_neg av,if_neg aw,K];show(if l<r.I then Sum.inl (aF 3 l e)else _)=_;rw[if_pos ad,a7]);rw[I];exact(uh E l M.n e r w N h.pos O U Z L ad q.I.1 q.I.2 q.J.1 q.J.2 X).mono fun r J j=>⟨j.1,h.a8 j.2⟩
    ·have am:r.I=l:=(by omega);by_cases T:r.J=r.I
     ·have I:af M 3 e l=.inl (r.lo,r.hi,0):=(by unfold af;rw[if_neg Y,if_neg av,if_neg aw,K];show(if l<r.I then Sum.inl (aF 3 l e)else _)=_;rw[if_neg ad,if_neg (fun a7=>a7.2 T)]);rw[I];obtain⟨bb,rt,s,A,t⟩:=r;dsimp only at am T;subst T;subst am;exact(tY E s M.n e ⟨bb,s,s,A,t⟩ w N h.pos O U Z L q.I.1 q.I.2 q.J.1 q.J.2 X).mono fun r J j=>⟨j.1,h.a8 j.2⟩
     ·have I:af M 3 e l=.inr ⟨r.ad,r.I+1,r.J,r.lo,r.hi⟩:=(by unfold af;rw[if_neg Y,if_neg av,if_neg aw,K];show(if l<r.I then Sum.inl (aF 3 l e)else _)=_;rw[if_neg ad,if_pos ⟨.inl rfl,T⟩]);rw[I];have j:=oB (M:=M) (f:=3) q U (by omega) (by decide);obtain⟨bb,rt,s,A,t⟩:=r;dsimp only at a' am T j ⊢;subst a';subst am;have a2:=fun(z:World) (W:aa w z)=>jm (h.U W) ⟨3,rt+1,s,A,t⟩ j;by_cases ab:M.a7 ⟨3,rt+1,s,A,t⟩=0
      ·have a1:bf M 3 (.inr ⟨3,rt+1,s,A,t⟩)=t:=(by simp[bf,ab]);have j:bQ M (.inr ⟨3,rt+1,s,A,t⟩)=0:=ab;rw[a1,j];rw[ab]at a2;refine(t' (fun z S=>ag (ao F z S) S E (M.a6 ⟨3,rt+1,s,A,t⟩)) E rt M.n e ⟨3,rt,s,A,t⟩ _ _ w N h.pos O U Z L T q.I.1 q.I.2 q.J.1 q.J.2 X h.lt a2).mono ?_;rintro r J ⟨rfl,z,S,a3,a4,a5,a6⟩;exact⟨rfl,a5.after h.lt a3 a4 a6⟩
      ·have be:bK M (.inr ⟨3,rt+1,s,A,t⟩)=⟨0,0⟩:=iL ab;have a1:bf M 3 (.inr ⟨3,rt+1,s,A,t⟩)=⟨0,0⟩:=(by simp[bf,ab]);rw[be,a1];refine(ub (fun z S=>ag (ao F z S) S E (M.a6 ⟨3,rt+1,s,A,t⟩)) E rt M.n e ⟨3,rt,s,A,t⟩ _ _ (M.a7 ⟨3,rt+1,s,A,t⟩) ab w N h.pos O U Z L T q.I.1 q.I.2 q.J.1 q.J.2 X h.lt a2).mono ?_;rintro r J ⟨rfl,z,S,a3,a4,a5,a6⟩;exact⟨rfl,a5.after h.lt a3 a4 a6⟩

theorem uk {F:Nat→Prop}{w:World}{E:Nat}{M:St}(h:ag F w E M)(e:Edge)(l:Int)(a8:e.ok) :
  Calls Tryz.prog 270 #[.pointer (some ⟨E,0,none⟩),.agg #[.int .u8 e.tag,.int .u32 e.to],.int .i64 l] w fun r J=>
   r=.returned (.tuple #[.agg #[.int .u8 (bK M (af M 4 e l)).tag,.int .u32 (bK M (af M 4 e l)).to],.agg #[.int .u8 (bf M 4 (af M 4 e l)).tag,.int .u32 (bf M 4 (af M 4 e l)).to],.int .u8 (bQ M (af M 4 e l))])∧ae F w J∧ag (ao F w J) J E (bN M (af M 4 e l)):=by
 have N:=h.wf.br
 have O:=fun(A:World) (W:aa w A)=>dz (h.U W)
 have X:=fun(A:World) (W:aa w A)=>dU (h.U W) e.to a8.2.2
 have L:=fun(A:World) (W:aa w A)=>cV (h.U W) 4 e l a8
 by_cases Y:l<0∨M.n≤l
 ·have I:af M 4 e l=.inl (⟨0,0⟩,⟨0,0⟩,3):=if_pos Y;rw[I];by_cases a8:l<0;·exact(yQ E l M.n e w N h.pos O a8).mono fun r J j=>⟨j.1,h.a8 j.2⟩
  ·exact(yN E l M.n e w N h.pos O (by omega) (by omega)).mono fun r J j=>⟨j.1,h.a8 j.2⟩
 ·have U:0≤l:=by omega
  have Z:l<M.n:=by omega
  rcases cI (M.leads 4 e l)with b|b
  ·have I:af M 4 e l=.inl (⟨0,0⟩,⟨0,0⟩,1):=(by unfold af;rw[if_neg Y,if_pos b]);rw[I];rw[b]at L;exact(yR E l M.n e w N h.pos O U Z L).mono fun r J j=>⟨j.1,h.a8 j.2⟩
  ·have av:¬M.leads 4 e l=false:=(by rw[b];simp);rw[b]at L;have aw:¬((4:Int)=5∧(e.to=0∨l<e.tag)):=(by omega);have a7:aF 4 l e=(e,⟨0,0⟩,0):=(by simp[aF]);cases K:look M.cs e.to with
   |none=>
    have I:af M 4 e l=.inl (e,⟨0,0⟩,0):=(by unfold af;rw[if_neg Y,if_neg av,if_neg aw,K];show Sum.inl (aF 4 l e)=_;rw[a7]);rw[I];rw[K]at X;exact(yS E l M.n e Rec.zero w N h.pos O U Z L X).mono fun r J j=>⟨j.1,h.a8 j.2⟩
   |some r=>
    obtain⟨a',a8,bg⟩:=dx b K;have q:=h.b1 K;rw[K]at X;by_cases ad:l<r.I
    ·have I:af M 4 e l=.inl (e,⟨0,0⟩,0):=(by unfold af;rw[if_neg Y,if_neg av,if_neg aw,K];show(if l<r.I then Sum.inl (aF 4 l e)else _)=_;rw[if_pos ad,a7]);rw[I];exact(yT E l M.n e r w N h.pos O U Z L ad q.I.1 q.I.2 q.J.1 q.J.2 X).mono fun r J j=>⟨j.1,h.a8 j.2⟩
    ·have am:r.I=l:=(by omega);by_cases T:r.J=r.I
     ·have I:af M 4 e l=.inl (r.lo,r.hi,0):=(by unfold af;rw[if_neg Y,if_neg av,if_neg aw,K];show(if l<r.I then Sum.inl (aF 4 l e)else _)=_;rw[if_neg ad,if_neg (fun a7=>a7.2 T)]);rw[I];obtain⟨bb,rt,s,z,t⟩:=r;dsimp only at am T;subst T;subst am;exact(yM E s M.n e ⟨bb,s,s,z,t⟩ w N h.pos O U Z L q.I.1 q.I.2 q.J.1 q.J.2 X).mono fun r J j=>⟨j.1,h.a8 j.2⟩
     ·have I:af M 4 e l=.inr ⟨r.ad,r.I+1,r.J,r.lo,r.hi⟩:=(by unfold af;rw[if_neg Y,if_neg av,if_neg aw,K];show(if l<r.I then Sum.inl (aF 4 l e)else _)=_;rw[if_neg ad,if_pos ⟨.inr rfl,T⟩]);rw[I];have j:=oB (M:=M) (f:=4) q U (by omega) (by decide);obtain⟨bb,rt,s,z,t⟩:=r;dsimp only at a' am T j ⊢;subst a';subst am;have a2:=fun(A:World) (W:aa w A)=>jo (h.U W) ⟨4,rt+1,s,z,t⟩ j;by_cases ab:M.a7 ⟨4,rt+1,s,z,t⟩=0
      ·have a1:bf M 4 (.inr ⟨4,rt+1,s,z,t⟩)=aX M 0 ⟨4,rt+1,s,z,t⟩:=(by simp[bf,ab]);have j:bQ M (.inr ⟨4,rt+1,s,z,t⟩)=0:=ab;rw[a1,j];rw[ab]at a2;refine(yO (fun A S=>ag (ao F A S) S E (M.a6 ⟨4,rt+1,s,z,t⟩)) E rt M.n e ⟨4,rt,s,z,t⟩ _ _ w N h.pos O U Z L T q.I.1 q.I.2 q.J.1 q.J.2 X h.lt a2).mono ?_;rintro r J ⟨rfl,A,S,a3,a4,a5,a6⟩;exact⟨rfl,a5.after h.lt a3 a4 a6⟩
      ·have be:bK M (.inr ⟨4,rt+1,s,z,t⟩)=⟨0,0⟩:=iL ab;have a1:bf M 4 (.inr ⟨4,rt+1,s,z,t⟩)=⟨0,0⟩:=(by simp[bf,ab]);rw[be,a1];refine(yP (fun A S=>ag (ao F A S) S E (M.a6 ⟨4,rt+1,s,z,t⟩)) E rt M.n e ⟨4,rt,s,z,t⟩ _ _ (M.a7 ⟨4,rt+1,s,z,t⟩) ab w N h.pos O U Z L T q.I.1 q.I.2 q.J.1 q.J.2 X h.lt a2).mono ?_;rintro r J ⟨rfl,A,S,a3,a4,a5,a6⟩;exact⟨rfl,a5.after h.lt a3 a4 a6⟩

theorem Bq (s:Nat)(l n:Int)(v:Edge)(w:World)(E:n≤16)(I:s<w.heap.size)
  (t:∀q,aa w q→Calls Tryz.prog 48 #[.pointer (some ⟨s,0,none⟩)] q fun e j=>e=.returned (.int .i64 n)∧q=j)
  (A:l<0)
  : Calls Tryz.prog 271 #[.pointer (some ⟨s,0,none⟩),.agg #[.int .u8 v.tag,.int .u32 v.to],.int .i64 l] w fun e j=>e=.returned (.tuple #[.agg #[.int .u8 0,.int .u32 0],.agg #[.int .u8 0,.int .u32 0],.int .u8 3])∧aa w j:=by
 have z:=Lib.hid t
 clear t
 go_enter Tryz.func271,Tryz.ntmps271
 go_wp2_with (first|(go_at_call 48;refine(z.out _ (by(exact kp))).mono ?_;rintro e j ⟨rfl,rfl⟩)|fail)
 go_region
 all_goals go_wp2
 all_goals refine bodyPost_ret (v:=.tuple #[.agg #[.int .u8 0,.int .u32 0],.agg #[.int .u8 0,.int .u32 0],.int .u8 3]) (by simp[results,Tryz.results271,go_sem]) rfl ⟨rfl,by(exact kp)⟩

theorem Bp (s:Nat)(l n:Int)(v:Edge)(w:World)(I:n≤16)(J:s<w.heap.size)
  (t:∀q,aa w q→Calls Tryz.prog 48 #[.pointer (some ⟨s,0,none⟩)] q fun e j=>e=.returned (.int .i64 n)∧q=j)
  (A:0≤l) (E:n≤l)
  : Calls Tryz.prog 271 #[.pointer (some ⟨s,0,none⟩),.agg #[.int .u8 v.tag,.int .u32 v.to],.int .i64 l] w fun e j=>e=.returned (.tuple #[.agg #[.int .u8 0,.int .u32 0],.agg #[.int .u8 0,.int .u32 0],.int .u8 3])∧aa w j:=by
 have z:=Lib.hid t
 clear t
 go_enter Tryz.func271,Tryz.ntmps271
 go_wp2_with (first|(go_at_call 48;refine(z.out _ (by(exact kp))).mono ?_;rintro e j ⟨rfl,rfl⟩)|fail)
 go_region
 all_goals go_wp2
 all_goals refine bodyPost_ret (v:=.tuple #[.agg #[.int .u8 0,.int .u32 0],.agg #[.int .u8 0,.int .u32 0],.int .u8 3]) (by simp[results,Tryz.results271,go_sem]) rfl ⟨rfl,by(exact kp)⟩

theorem Br (t:Nat)(l n:Int)(v:Edge)(w:World)(X:n≤16)(Y:t<w.heap.size)
  (A:∀q,aa w q→Calls Tryz.prog 48 #[.pointer (some ⟨t,0,none⟩)] q fun e s=>e=.returned (.int .i64 n)∧q=s)
  (U:0≤l) (W:l<n)
  (z:∀q,aa w q→Calls Tryz.prog 134 #[.pointer (some ⟨t,0,none⟩),.int .u8 5,.agg #[.int .u8 v.tag,.int .u32 v.to],.int .i64 l] q fun e s=>e=.returned (.bool false)∧aa q s)
  : Calls Tryz.prog 271 #[.pointer (some ⟨t,0,none⟩),.agg #[.int .u8 v.tag,.int .u32 v.to],.int .i64 l] w fun e s=>e=.returned (.tuple #[.agg #[.int .u8 0,.int .u32 0],.agg #[.int .u8 0,.int .u32 0],.int .u8 1])∧aa w s:=by
 have I:=Lib.hid A
 clear A
 have E:=Lib.hid z
 clear z
 go_enter Tryz.func271,Tryz.ntmps271
 go_wp2_with (first|(go_at_call 48;refine(I.out _ (by(exact kp))).mono ?_;rintro e s ⟨rfl,rfl⟩)|fail)
 (go_at_call 134;refine(E.out _ (by(exact kp))).mono ?_;rintro e w1 ⟨rfl,j⟩;have J:=j.size;simp only[World.size_alloc]at J;have q:w.heap.size<w1.heap.size:=(by omega);have K:w.heap.size+1<w1.heap.size:=(by omega);have L:w.heap.size+2<w1.heap.size:=(by omega);have q:=j.cell (a:=⟨w.heap.size,0,none⟩) (v:=.int .u8 v.tag) (by simp[go_sem]);have q:=j.cell (a:=⟨w.heap.size,1,none⟩) (v:=.int .u32 v.to) (by simp[go_sem]);have N:=j.cell (a:=⟨w.heap.size+1,0,none⟩) (v:=.int .u8 0) (by simp[go_sem]);have O:=j.cell (a:=⟨w.heap.size+1,1,none⟩) (v:=.int .u32 0) (by simp[go_sem]);have S:=j.cell (a:=⟨w.heap.size+2,0,none⟩) (v:=.int .u8 0) (by simp[go_sem]);have T:=j.cell (a:=⟨w.heap.size+2,1,none⟩) (v:=.int .u32 0) (by simp[go_sem]);have q:=fun o:Nat=>j.a2 (a:=⟨w.heap.size+1,o,none⟩) (by simp[go_sem]) (by simp[go_sem]);have q:=fun o:Nat=>j.a2 (a:=⟨w.heap.size+2,o,none⟩) (by simp[go_sem]) (by simp[go_sem]);have j:aa w w1:=(by(exact kp)))
 go_wp2_with fail
 go_region
 all_goals go_wp2
 all_goals refine bodyPost_ret (v:=.tuple #[.agg #[.int .u8 0,.int .u32 0],.agg #[.int .u8 0,.int .u32 0],.int .u8 1]) (by simp[results,Tryz.results271,go_sem,K,L,N,O,S,T]) rfl ⟨rfl,by(exact kp)⟩

theorem Bv (z:Nat)(l n:Int)(s:Int)(w:World)(Y:n≤16)(Z:z<w.heap.size)
  (E:∀q,aa w q→Calls Tryz.prog 48 #[.pointer (some ⟨z,0,none⟩)] q fun e t=>e=.returned (.int .i64 n)∧q=t)
  (W:0≤l) (X:l<n)
  (A:∀q,aa w q→Calls Tryz.prog 134 #[.pointer (some ⟨z,0,none⟩),.int .u8 5,.agg #[.int .u8 s,.int .u32 0],.int .i64 l] q fun e t=>e=.returned (.bool true)∧aa q t)
  : Calls Tryz.prog 271 #[.pointer (some ⟨z,0,none⟩),.agg #[.int .u8 s,.int .u32 0],.int .i64 l] w fun e t=>e=.returned (.tuple #[.agg #[.int .u8 s,.int .u32 0],.agg #[.int .u8 s,.int .u32 0],.int .u8 0])∧aa w t:=by
 have J:=Lib.hid E
 clear E
 have I:=Lib.hid A
 clear A
 go_enter Tryz.func271,Tryz.ntmps271
 go_wp2_with (first|(go_at_call 48;refine(J.out _ (by(exact kp))).mono ?_;rintro e t ⟨rfl,rfl⟩)|fail)
 (go_at_call 134;refine(I.out _ (by(exact kp))).mono ?_;rintro e w1 ⟨rfl,j⟩;have K:=j.size;simp only[World.size_alloc]at K;have q:w.heap.size<w1.heap.size:=(by omega);have L:w.heap.size+1<w1.heap.size:=(by omega);have N:w.heap.size+2<w1.heap.size:=(by omega);have q:=j.cell (a:=⟨w.heap.size,0,none⟩) (v:=.int .u8 s) (by simp[go_sem]);have q:=j.cell (a:=⟨w.heap.size,1,none⟩) (v:=.int .u32 0) (by simp[go_sem]);have O:=j.cell (a:=⟨w.heap.size+1,0,none⟩) (v:=.int .u8 0) (by simp[go_sem]);have S:=j.cell (a:=⟨w.heap.size+1,1,none⟩) (v:=.int .u32 0) (by simp[go_sem]);have T:=j.cell (a:=⟨w.heap.size+2,0,none⟩) (v:=.int .u8 0) (by simp[go_sem]);have U:=j.cell (a:=⟨w.heap.size+2,1,none⟩) (v:=.int .u32 0) (by simp[go_sem]);have q:=fun o:Nat=>j.a2 (a:=⟨w.heap.size+1,o,none⟩) (by simp[go_sem]) (by simp[go_sem]);have q:=fun o:Nat=>j.a2 (a:=⟨w.heap.size+2,o,none⟩) (by simp[go_sem]) (by simp[go_sem]);have j:aa w w1:=(by(exact kp)))
 go_wp2_with fail
 go_region
 all_goals go_wp2
 all_goals refine bodyPost_ret (v:=.tuple #[.agg #[.int .u8 s,.int .u32 0],.agg #[.int .u8 s,.int .u32 0],.int .u8 0]) (by simp[results,Tryz.results271,go_sem,L,N,O,S,T,U]) rfl ⟨rfl,by(exact kp)⟩

theorem Bt (t:Nat)(l n:Int)(v:Edge)(w:World)(Y:n≤16)(Z:t<w.heap.size)
  (A:∀q,aa w q→Calls Tryz.prog 48 #[.pointer (some ⟨t,0,none⟩)] q fun e s=>e=.returned (.int .i64 n)∧q=s)
  (U:0≤l) (W:l<n)
  (z:∀q,aa w q→Calls Tryz.prog 134 #[.pointer (some ⟨t,0,none⟩),.int .u8 5,.agg #[.int .u8 v.tag,.int .u32 v.to],.int .i64 l] q fun e s=>e=.returned (.bool true)∧aa q s)
  (ad:0≤v.tag) (am:v.tag≤255) (X:¬v.to=0) (ab:l<v.tag)
  : Calls Tryz.prog 271 #[.pointer (some ⟨t,0,none⟩),.agg #[.int .u8 v.tag,.int .u32 v.to],.int .i64 l] w fun e s=>e=.returned (.tuple #[.agg #[.int .u8 v.tag,.int .u32 v.to],.agg #[.int .u8 v.tag,.int .u32 v.to],.int .u8 0])∧aa w s:=by
 have I:=Lib.hid A
 clear A
 have E:=Lib.hid z
 clear z
 go_enter Tryz.func271,Tryz.ntmps271
 go_wp2_with (first|(go_at_call 48;refine(I.out _ (by(exact kp))).mono ?_;rintro e s ⟨rfl,rfl⟩)|fail)
 (go_at_call 134;refine(E.out _ (by(exact kp))).mono ?_;rintro e w1 ⟨rfl,j⟩;have J:=j.size;simp only[World.size_alloc]at J;have q:w.heap.size<w1.heap.size:=(by omega);have K:w.heap.size+1<w1.heap.size:=(by omega);have L:w.heap.size+2<w1.heap.size:=(by omega);have q:=j.cell (a:=⟨w.heap.size,0,none⟩) (v:=.int .u8 v.tag) (by simp[go_sem]);have q:=j.cell (a:=⟨w.heap.size,1,none⟩) (v:=.int .u32 v.to) (by simp[go_sem]);have N:=j.cell (a:=⟨w.heap.size+1,0,none⟩) (v:=.int .u8 0) (by simp[go_sem]);have O:=j.cell (a:=⟨w.heap.size+1,1,none⟩) (v:=.int .u32 0) (by simp[go_sem]);have S:=j.cell (a:=⟨w.heap.size+2,0,none⟩) (v:=.int .u8 0) (by simp[go_sem]);have T:=j.cell (a:=⟨w.heap.size+2,1,none⟩) (v:=.int .u32 0) (by simp[go_sem]);have q:=fun o:Nat=>j.a2 (a:=⟨w.heap.size+1,o,none⟩) (by simp[go_sem]) (by simp[go_sem]);have q:=fun o:Nat=>j.a2 (a:=⟨w.heap.size+2,o,none⟩) (by simp[go_sem]) (by simp[go_sem]);have j:aa w w1:=(by(exact kp)))
 go_wp2_with fail
 go_region
 all_goals go_wp2
 all_goals refine bodyPost_ret (v:=.tuple #[.agg #[.int .u8 v.tag,.int .u32 v.to],.agg #[.int .u8 v.tag,.int .u32 v.to],.int .u8 0]) (by simp[results,Tryz.results271,go_sem,K,L,N,O,S,T]) rfl ⟨rfl,by(exact kp)⟩

theorem Bs (z:Nat)(l n:Int)(v:Edge)(x:Rec)(w:World)(a4:n≤16)(a5:z<w.heap.size)
  (O:∀j,aa w j→Calls Tryz.prog 48 #[.pointer (some ⟨z,0,none⟩)] j fun e t=>e=.returned (.int .i64 n)∧j=t)
  (a1:0≤l) (a2:l<n)
  (N:∀j,aa w j→Calls Tryz.prog 134 #[.pointer (some ⟨z,0,none⟩),.int .u8 5,.agg #[.int .u8 v.tag,.int .u32 v.to],.int .i64 l] j fun e t=>e=.returned (.bool true)∧aa j t)
  (a7:0≤v.tag) (a8:v.tag≤255) (a3:¬v.to=0) (a6:v.tag≤l)
  (L:∀j,aa w j→Calls Tryz.prog 78 #[.pointer (some ⟨z,0,none⟩),.int .u32 v.to] j fun e t=>e=.returned (.tuple #[.agg #[.int .u8 x.ad,.int .u8 x.I,.int .u8 x.J,.int .u8 x.lo.tag,.int .u32 x.lo.to,.int .u8 x.hi.tag,.int .u32 x.hi.to],.bool false])∧aa j t)
  : Calls Tryz.prog 271 #[.pointer (some ⟨z,0,none⟩),.agg #[.int .u8 v.tag,.int .u32 v.to],.int .i64 l] w fun e t=>e=.returned (.tuple #[.agg #[.int .u8 (l+1),.int .u32 v.to],.agg #[.int .u8 0,.int .u32 0],.int .u8 0])∧aa w t:=by
 have ad:=Lib.hid O
 clear O
 have ab:=Lib.hid N
 clear N
 have Z:=Lib.hid L
 clear L
 go_enter Tryz.func271,Tryz.ntmps271
 go_wp2_with (first|(go_at_call 48;refine(ad.out _ (by(exact kp))).mono ?_;rintro e t ⟨rfl,rfl⟩)|fail)
 (go_at_call 134;refine(ab.out _ (by(exact kp))).mono ?_;rintro e w1 ⟨rfl,s⟩;have av:=s.size;simp only[World.size_alloc]at av;have aw:w.heap.size<w1.heap.size:=(by omega);have S:w.heap.size+1<w1.heap.size:=(by omega);have T:w.heap.size+2<w1.heap.size:=(by omega);have W:=s.cell (a:=⟨w.heap.size,0,none⟩) (v:=.int .u8 v.tag) (by simp[go_sem]);have X:=s.cell (a:=⟨w.heap.size,1,none⟩) (v:=.int .u32 v.to) (by simp[go_sem]);have E:=s.cell (a:=⟨w.heap.size+1,0,none⟩) (v:=.int .u8 0) (by simp[go_sem]);have I:=s.cell (a:=⟨w.heap.size+1,1,none⟩) (v:=.int .u32 0) (by simp[go_sem]);have J:=s.cell (a:=⟨w.heap.size+2,0,none⟩) (v:=.int .u8 0) (by simp[go_sem]);have K:=s.cell (a:=⟨w.heap.size+2,1,none⟩) (v:=.int .u32 0) (by simp[go_sem]);have U:=fun o:Nat=>s.a2 (a:=⟨w.heap.size+1,o,none⟩) (by simp[go_sem]) (by simp[go_sem]);have Y:=fun o:Nat=>s.a2 (a:=⟨w.heap.size+2,o,none⟩) (by simp[go_sem]) (by simp[go_sem]);have am:aa w w1:=(by(exact kp)))
 go_wp2_with fail
 ·exfalso;simp_all;omega
 (go_at_call 78;refine(Z.out _ (by(exact kp))).mono ?_;rintro e A ⟨rfl,q⟩;have j:=q.size;have U:=fun o:Nat=>q.a2 (a:=⟨w.heap.size+1,o,none⟩) (by dsimp only;omega) (U o);have Y:=fun o:Nat=>q.a2 (a:=⟨w.heap.size+2,o,none⟩) (by dsimp only;omega) (Y o);have W:=q.cell W;have X:=q.cell X;have E:=q.cell E;have I:=q.cell I;have J:=q.cell J;have K:=q.cell K;have aw:w.heap.size<A.heap.size:=(by omega);have S:w.heap.size+1<A.heap.size:=(by omega);have T:w.heap.size+2<A.heap.size:=(by omega);have j:aa w A:=am.trans q)
 go_wp2_with fail
 all_goals refine bodyPost_ret (v:=.tuple #[.agg #[.int .u8 (l+1),.int .u32 v.to],.agg #[.int .u8 0,.int .u32 0],.int .u8 0]) (by simp[results,Tryz.results271,go_sem,S,T,E,I,J,K]) rfl ⟨rfl,by(exact kp)⟩

theorem Bu (z:Nat)(l n:Int)(v:Edge)(x:Rec)(w:World)(a4:n≤16)(a5:z<w.heap.size)
  (O:∀j,aa w j→Calls Tryz.prog 48 #[.pointer (some ⟨z,0,none⟩)] j fun e t=>e=.returned (.int .i64 n)∧j=t)
  (a1:0≤l) (a2:l<n)
  (N:∀j,aa w j→Calls Tryz.prog 134 #[.pointer (some ⟨z,0,none⟩),.int .u8 5,.agg #[.int .u8 v.tag,.int .u32 v.to],.int .i64 l] j fun e t=>e=.returned (.bool true)∧aa j t)
  (a7:0≤v.tag) (a8:v.tag≤255) (a3:¬v.to=0) (a6:v.tag≤l)
  (a':l<x.I) (bb:0≤x.I) (be:x.I≤255) (bg:0≤x.J) (bi:x.J≤255)
  (L:∀j,aa w j→Calls Tryz.prog 78 #[.pointer (some ⟨z,0,none⟩),.int .u32 v.to] j fun e t=>e=.returned (.tuple #[.agg #[.int .u8 x.ad,.int .u8 x.I,.int .u8 x.J,.int .u8 x.lo.tag,.int .u32 x.lo.to,.int .u8 x.hi.tag,.int .u32 x.hi.to],.bool true])∧aa j t)
  : Calls Tryz.prog 271 #[.pointer (some ⟨z,0,none⟩),.agg #[.int .u8 v.tag,.int .u32 v.to],.int .i64 l] w fun e t=>e=.returned (.tuple #[.agg #[.int .u8 (l+1),.int .u32 v.to],.agg #[.int .u8 0,.int .u32 0],.int .u8 0])∧aa w t:=by
 have ad:=Lib.hid O
 clear O
 have ab:=Lib.hid N
 clear N
 have Z:=Lib.hid L
 clear L
 go_enter Tryz.func271,Tryz.ntmps271
 go_wp2_with (first|(go_at_call 48;refine(ad.out _ (by(exact kp))).mono ?_;rintro e t ⟨rfl,rfl⟩)|fail)
 (go_at_call 134;refine(ab.out _ (by(exact kp))).mono ?_;rintro e w1 ⟨rfl,s⟩;have av:=s.size;simp only[World.size_alloc]at av;have aw:w.heap.size<w1.heap.size:=(by omega);have S:w.heap.size+1<w1.heap.size:=(by omega);have T:w.heap.size+2<w1.heap.size:=(by omega);have W:=s.cell (a:=⟨w.heap.size,0,none⟩) (v:=.int .u8 v.tag) (by simp[go_sem]);have X:=s.cell (a:=⟨w.heap.size,1,none⟩) (v:=.int .u32 v.to) (by simp[go_sem]);have E:=s.cell (a:=⟨w.heap.size+1,0,none⟩) (v:=.int .u8 0) (by simp[go_sem]);have I:=s.cell (a:=⟨w.heap.size+1,1,none⟩) (v:=.int .u32 0) (by simp[go_sem]);have J:=s.cell (a:=⟨w.heap.size+2,0,none⟩) (v:=.int .u8 0) (by simp[go_sem]);have K:=s.cell (a:=⟨w.heap.size+2,1,none⟩) (v:=.int .u32 0) (by simp[go_sem]);have U:=fun o:Nat=>s.a2 (a:=⟨w.heap.size+1,o,none⟩) (by simp[go_sem]) (by simp[go_sem]);have Y:=fun o:Nat=>s.a2 (a:=⟨w.heap.size+2,o,none⟩) (by simp[go_sem]) (by simp[go_sem]);have am:aa w w1:=(by(exact kp)))
 go_wp2_with fail
 ·exfalso;simp_all;omega
 (go_at_call 78;refine(Z.out _ (by(exact kp))).mono ?_;rintro e A ⟨rfl,q⟩;have j:=q.size;have U:=fun o:Nat=>q.a2 (a:=⟨w.heap.size+1,o,none⟩) (by dsimp only;omega) (U o);have Y:=fun o:Nat=>q.a2 (a:=⟨w.heap.size+2,o,none⟩) (by dsimp only;omega) (Y o);have W:=q.cell W;have X:=q.cell X;have E:=q.cell E;have I:=q.cell I;have J:=q.cell J;have K:=q.cell K;have aw:w.heap.size<A.heap.size:=(by omega);have S:w.heap.size+1<A.heap.size:=(by omega);have T:w.heap.size+2<A.heap.size:=(by omega);have j:aa w A:=am.trans q)
 go_wp2_with fail
 all_goals refine bodyPost_ret (v:=.tuple #[.agg #[.int .u8 (l+1),.int .u32 v.to],.agg #[.int .u8 0,.int .u32 0],.int .u8 0]) (by simp[results,Tryz.results271,go_sem,S,T,E,I,J,K]) rfl ⟨rfl,by(exact kp)⟩

theorem Bo (z:Nat)(l n:Int)(v:Edge)(x:Rec)(w:World)(a4:n≤16)(a5:z<w.heap.size)
  (O:∀j,aa w j→Calls Tryz.prog 48 #[.pointer (some ⟨z,0,none⟩)] j fun e t=>e=.returned (.int .i64 n)∧j=t)
  (a1:0≤l) (a2:l<n)
  (N:∀j,aa w j→Calls Tryz.prog 134 #[.pointer (some ⟨z,0,none⟩),.int .u8 5,.agg #[.int .u8 v.tag,.int .u32 v.to],.int .i64 l] j fun e t=>e=.returned (.bool true)∧aa j t)
  (a7:0≤v.tag) (a8:v.tag≤255) (a3:¬v.to=0) (a6:v.tag≤l)
   (a':0≤x.I) (bb:x.I≤255) (be:0≤x.J) (bg:x.J≤255)
  (L:∀j,aa w j→Calls Tryz.prog 78 #[.pointer (some ⟨z,0,none⟩),.int .u32 v.to] j fun e t=>e=.returned (.tuple #[.agg #[.int .u8 x.ad,.int .u8 l,.int .u8 x.J,.int .u8 x.lo.tag,.int .u32 x.lo.to,.int .u8 x.hi.tag,.int .u32 x.hi.to],.bool true])∧aa j t)
  : Calls Tryz.prog 271 #[.pointer (some ⟨z,0,none⟩),.agg #[.int .u8 v.tag,.int .u32 v.to],.int .i64 l] w fun e t=>e=.returned (.tuple #[.agg #[.int .u8 x.lo.tag,.int .u32 x.lo.to],.agg #[.int .u8 x.hi.tag,.int .u32 x.hi.to],.int .u8 0])∧aa w t:=by
 have ad:=Lib.hid O
 clear O
 have ab:=Lib.hid N
 clear N
 have Z:=Lib.hid L
 clear L
 go_enter Tryz.func271,Tryz.ntmps271
 go_wp2_with (first|(go_at_call 48;refine(ad.out _ (by(exact kp))).mono ?_;rintro e t ⟨rfl,rfl⟩)|fail)
 (go_at_call 134;refine(ab.out _ (by(exact kp))).mono ?_;rintro e w1 ⟨rfl,s⟩;have av:=s.size;simp only[World.size_alloc]at av;have aw:w.heap.size<w1.heap.size:=(by omega);have S:w.heap.size+1<w1.heap.size:=(by omega);have T:w.heap.size+2<w1.heap.size:=(by omega);have W:=s.cell (a:=⟨w.heap.size,0,none⟩) (v:=.int .u8 v.tag) (by simp[go_sem]);have X:=s.cell (a:=⟨w.heap.size,1,none⟩) (v:=.int .u32 v.to) (by simp[go_sem]);have E:=s.cell (a:=⟨w.heap.size+1,0,none⟩) (v:=.int .u8 0) (by simp[go_sem]);have I:=s.cell (a:=⟨w.heap.size+1,1,none⟩) (v:=.int .u32 0) (by simp[go_sem]);have J:=s.cell (a:=⟨w.heap.size+2,0,none⟩) (v:=.int .u8 0) (by simp[go_sem]);have K:=s.cell (a:=⟨w.heap.size+2,1,none⟩) (v:=.int .u32 0) (by simp[go_sem]);have U:=fun o:Nat=>s.a2 (a:=⟨w.heap.size+1,o,none⟩) (by simp[go_sem]) (by simp[go_sem]);have Y:=fun o:Nat=>s.a2 (a:=⟨w.heap.size+2,o,none⟩) (by simp[go_sem]) (by simp[go_sem]);have am:aa w w1:=(by(exact kp)))
 go_wp2_with fail
 ·exfalso;simp_all;omega
 (go_at_call 78;refine(Z.out _ (by(exact kp))).mono ?_;rintro e A ⟨rfl,q⟩;have j:=q.size;have U:=fun o:Nat=>q.a2 (a:=⟨w.heap.size+1,o,none⟩) (by dsimp only;omega) (U o);have Y:=fun o:Nat=>q.a2 (a:=⟨w.heap.size+2,o,none⟩) (by dsimp only;omega) (Y o);have W:=q.cell W;have X:=q.cell X;have E:=q.cell E;have I:=q.cell I;have J:=q.cell J;have K:=q.cell K;have aw:w.heap.size<A.heap.size:=(by omega);have S:w.heap.size+1<A.heap.size:=(by omega);have T:w.heap.size+2<A.heap.size:=(by omega);have j:aa w A:=am.trans q)
 go_wp2_with fail
 go_region
 all_goals go_wp2
 all_goals refine bodyPost_ret (v:=.tuple #[.agg #[.int .u8 x.lo.tag,.int .u32 x.lo.to],.agg #[.int .u8 x.hi.tag,.int .u32 x.hi.to],.int .u8 0]) (by simp[results,Tryz.results271,go_sem,S,T,E,I,J,K]) rfl ⟨rfl,by(exact kp)⟩

theorem AQ {F:Nat→Prop}{w:World}{s:Nat}{M:St}(h:ag F w s M)(e:Edge)(l:Int)(z:e.ok) :
  Calls Tryz.prog 271 #[.pointer (some ⟨s,0,none⟩),.agg #[.int .u8 e.tag,.int .u32 e.to],.int .i64 l] w fun r t=>
   r=.returned (.tuple #[.agg #[.int .u8 (bK M (af M 5 e l)).tag,.int .u32 (bK M (af M 5 e l)).to],.agg #[.int .u8 (bf M 5 (af M 5 e l)).tag,.int .u32 (bf M 5 (af M 5 e l)).to],.int .u8 (bQ M (af M 5 e l))])∧ae F w t∧ag (ao F w t) t s (bN M (af M 5 e l)):=by
 have E:=h.wf.br
 have J:=fun(T:World) (U:aa w T)=>dz (h.U U)
 have W:=fun(T:World) (U:aa w T)=>dU (h.U U) e.to z.2.2
 have A:=fun(T:World) (U:aa w T)=>cV (h.U U) 5 e l z
 by_cases K:l<0∨M.n≤l
 ·have q:af M 5 e l=.inl (⟨0,0⟩,⟨0,0⟩,3):=if_pos K;rw[q];by_cases T:l<0;·exact(Bq s l M.n e w E h.pos J T).mono fun r t j=>⟨j.1,h.a8 j.2⟩
  ·exact(Bp s l M.n e w E h.pos J (by omega) (by omega)).mono fun r t j=>⟨j.1,h.a8 j.2⟩
 ·have O:0≤l:=by omega
  have S:l<M.n:=by omega
  rcases cI (M.leads 5 e l)with b|b
  ·have q:af M 5 e l=.inl (⟨0,0⟩,⟨0,0⟩,1):=(by unfold af;rw[if_neg K,if_pos b]);rw[q];rw[b]at A;exact(Br s l M.n e w E h.pos J O S A).mono fun r t j=>⟨j.1,h.a8 j.2⟩
  ·have X:¬M.leads 5 e l=false:=(by rw[b];simp);rw[b]at A;by_cases N:e.to=0
   ·have q:af M 5 e l=.inl (e,e,0):=(by unfold af;rw[if_neg K,if_neg X,if_pos ⟨rfl,.inl N⟩]);rw[q];obtain⟨aw,T⟩:=e;dsimp only at N;subst N;exact(Bv s l M.n aw w E h.pos J O S A).mono fun r t j=>⟨j.1,h.a8 j.2⟩
   by_cases av:l<e.tag
   ·have q:af M 5 e l=.inl (e,e,0):=(by unfold af;rw[if_neg K,if_neg X,if_pos ⟨rfl,.inr av⟩]);rw[q];exact(Bt s l M.n e w E h.pos J O S A z.1.1 z.1.2 N av).mono fun r t j=>⟨j.1,h.a8 j.2⟩
   have Z:¬((5:Int)=5∧(e.to=0∨l<e.tag)):=(by omega);have ab:e.tag≤l:=(by omega);have ad:aF 5 l e=(⟨l+1,e.to⟩,⟨0,0⟩,0):=(by simp[aF]);cases L:look M.cs e.to with
   |none=>
    have q:af M 5 e l=.inl (⟨l+1,e.to⟩,⟨0,0⟩,0):=(by unfold af;rw[if_neg K,if_neg X,if_neg Z,L];show Sum.inl (aF 5 l e)=_;rw[ad]);rw[q];rw[L]at W;exact(Bs s l M.n e Rec.zero w E h.pos J O S A z.1.1 z.1.2 N ab W).mono fun r t j=>⟨j.1,h.a8 j.2⟩
   |some r=>
    obtain⟨T,U,av⟩:=dx b L;have I:=h.b1 L;rw[L]at W;by_cases Y:l<r.I
    ·have q:af M 5 e l=.inl (⟨l+1,e.to⟩,⟨0,0⟩,0):=(by unfold af;rw[if_neg K,if_neg X,if_neg Z,L];show(if l<r.I then Sum.inl (aF 5 l e)else _)=_;rw[if_pos Y,ad]);rw[q];exact(Bu s l M.n e r w E h.pos J O S A z.1.1 z.1.2 N ab Y I.I.1 I.I.2 I.J.1 I.J.2 W).mono fun r t j=>⟨j.1,h.a8 j.2⟩
    ·have am:r.I=l:=(by omega);have q:af M 5 e l=.inl (r.lo,r.hi,0):=(by unfold af;rw[if_neg K,if_neg X,if_neg Z,L];show(if l<r.I then Sum.inl (aF 5 l e)else _)=_;rw[if_neg Y,if_neg (by omega)]);rw[q];obtain⟨a2,rt,a1,a4,a3⟩:=r;dsimp only at am;subst am;exact(Bo s rt M.n e ⟨a2,rt,a1,a4,a3⟩ w E h.pos J O S A z.1.1 z.1.2 N ab I.I.1 I.I.2 I.J.1 I.J.2 W).mono fun r t j=>⟨j.1,h.a8 j.2⟩

end Go.Proofs.YtafkamlhimkbmaaGreat
