/-
  View of form 1 over the state: the program's and the document's (printed by wip/mk_vstore.py).
-/
import Derived.Test.YtafkamlhimkbmaaGreatPViewC
import Derived.Test.YtafkamlhimkbmaaGreatPViewT
namespace Go.Proofs.YtafkamlhimkbmaaGreat
set_option maxRecDepth 1000000
set_option maxHeartbeats 8000000
set_option linter.unusedSimpArgs false
set_option linter.unusedVariables false
open Go.RowKit

theorem te {F:Nat→Prop}{w:World}{s:Nat}{M:St}(h:ag F w s M)(e:Edge)(l:Int)(Y:e.ok) :
  Calls Tryz.prog 267 #[.pointer (some ⟨s,0,none⟩),.agg #[.int .u8 e.tag,.int .u32 e.to],.int .i64 l] w fun r w'=>
   r=.returned (.tuple #[.agg #[.int .u8 (bN M (af M 1 e l)).tag,.int .u32 (bN M (af M 1 e l)).to],.agg #[.int .u8 (bk M 1 (af M 1 e l)).tag,.int .u32 (bk M 1 (af M 1 e l)).to],.int .u8 (bT M (af M 1 e l))])∧ae F w w'∧ag (au F w w') w' s (bQ M (af M 1 e l)):=by
 have E:=h.wf.bw
 have I:=fun(J:World) (L:aa w J)=>dw (h.U L)
 have N:=fun(J:World) (L:aa w J)=>ef (h.U L) e.to Y.2.2
 have A:=fun(J:World) (L:aa w J)=>cX (h.U L) 1 e l Y
 by_cases K:l<0∨M.n≤l
 ·have q:af M 1 e l=.inl (⟨0,0⟩,⟨0,0⟩,3):=if_pos K;rw[q];by_cases J:l<0;·exact(tY s l M.n e w E h.pos I J).mono fun r w' j=>⟨j.1,h.a8 j.2⟩
  ·exact(tX s l M.n e w E h.pos I (by omega) (by omega)).mono fun r w' j=>⟨j.1,h.a8 j.2⟩
 ·have O:0≤l:=by omega
  have S:l<M.n:=by omega
  rcases cL (M.leads 1 e l)with b|b
  ·have q:af M 1 e l=.inl (⟨0,0⟩,⟨0,0⟩,1):=(by unfold af;rw[if_neg K,if_pos b]);rw[q];rw[b]at A;exact(tZ s l M.n e w E h.pos I O S A).mono fun r w' j=>⟨j.1,h.a8 j.2⟩
  ·have U:¬M.leads 1 e l=false:=(by rw[b];simp);rw[b]at A;have W:¬((1:Int)=5∧(e.to=0∨l<e.tag)):=(by omega);have X:aI 1 l e=(e,e,0):=(by simp[aI]);cases z:look M.cs e.to with
   |none=>
    have q:af M 1 e l=.inl (e,e,0):=(by unfold af;rw[if_neg K,if_neg U,if_neg W,z];show Sum.inl (aI 1 l e)=_;rw[X]);rw[q];rw[z]at N;exact(t' s l M.n e Rec.zero w E h.pos I O S A N).mono fun r w' j=>⟨j.1,h.a8 j.2⟩
   |some r=>
    obtain⟨J,L,Y⟩:=dD b z;have t:=h.b1 z;rw[z]at N;by_cases T:l<r.I
    ·have q:af M 1 e l=.inl (e,e,0):=(by unfold af;rw[if_neg K,if_neg U,if_neg W,z];show(if l<r.I then Sum.inl (aI 1 l e)else _)=_;rw[if_pos T,X]);rw[q];exact(ub s l M.n e r w E h.pos I O S A T t.I.1 t.I.2 t.J.1 t.J.2 N).mono fun r w' j=>⟨j.1,h.a8 j.2⟩
    ·have Z:r.I=l:=(by omega);have q:af M 1 e l=.inl (r.lo,r.hi,0):=(by unfold af;rw[if_neg K,if_neg U,if_neg W,z];show(if l<r.I then Sum.inl (aI 1 l e)else _)=_;rw[if_neg T,if_neg (by omega)]);rw[q];obtain⟨ad,rt,ab,av,am⟩:=r;dsimp only at Z;subst Z;exact(tW s rt M.n e ⟨ad,rt,ab,av,am⟩ w E h.pos I O S A t.I.1 t.I.2 t.J.1 t.J.2 N).mono fun r w' j=>⟨j.1,h.a8 j.2⟩

theorem CS {F:Nat→Prop}{w:World}{s:Nat}{M:St}(h:ag F w s M)(e:Edge)(l:Int)(Y:e.ok) :
  Calls Tryz.prog 268 #[.pointer (some ⟨s,0,none⟩),.agg #[.int .u8 e.tag,.int .u32 e.to],.int .i64 l] w fun r w'=>
   r=.returned (.tuple #[.agg #[.int .u8 (bN M (af M 2 e l)).tag,.int .u32 (bN M (af M 2 e l)).to],.agg #[.int .u8 (bk M 2 (af M 2 e l)).tag,.int .u32 (bk M 2 (af M 2 e l)).to],.int .u8 (bT M (af M 2 e l))])∧ae F w w'∧ag (au F w w') w' s (bQ M (af M 2 e l)):=by
 have E:=h.wf.bw
 have I:=fun(J:World) (L:aa w J)=>dw (h.U L)
 have N:=fun(J:World) (L:aa w J)=>ef (h.U L) e.to Y.2.2
 have A:=fun(J:World) (L:aa w J)=>cX (h.U L) 2 e l Y
 by_cases K:l<0∨M.n≤l
 ·have q:af M 2 e l=.inl (⟨0,0⟩,⟨0,0⟩,3):=if_pos K;rw[q];by_cases J:l<0;·exact(C6 s l M.n e w E h.pos I J).mono fun r w' j=>⟨j.1,h.a8 j.2⟩
  ·exact(C5 s l M.n e w E h.pos I (by omega) (by omega)).mono fun r w' j=>⟨j.1,h.a8 j.2⟩
 ·have O:0≤l:=by omega
  have S:l<M.n:=by omega
  rcases cL (M.leads 2 e l)with b|b
  ·have q:af M 2 e l=.inl (⟨0,0⟩,⟨0,0⟩,1):=(by unfold af;rw[if_neg K,if_pos b]);rw[q];rw[b]at A;exact(C7 s l M.n e w E h.pos I O S A).mono fun r w' j=>⟨j.1,h.a8 j.2⟩
  ·have U:¬M.leads 2 e l=false:=(by rw[b];simp);rw[b]at A;have W:¬((2:Int)=5∧(e.to=0∨l<e.tag)):=(by omega);have X:aI 2 l e=(e,⟨0,0⟩,0):=(by simp[aI]);cases z:look M.cs e.to with
   |none=>
    have q:af M 2 e l=.inl (e,⟨0,0⟩,0):=(by unfold af;rw[if_neg K,if_neg U,if_neg W,z];show Sum.inl (aI 2 l e)=_;rw[X]);rw[q];rw[z]at N;exact(C9 s l M.n e Rec.zero w E h.pos I O S A N).mono fun r w' j=>⟨j.1,h.a8 j.2⟩
   |some r=>
    obtain⟨J,L,Y⟩:=dD b z;have t:=h.b1 z;rw[z]at N;by_cases T:l<r.I
    ·have q:af M 2 e l=.inl (e,⟨0,0⟩,0):=(by unfold af;rw[if_neg K,if_neg U,if_neg W,z];show(if l<r.I then Sum.inl (aI 2 l e)else _)=_;rw[if_pos T,X]);rw[q];exact(C' s l M.n e r w E h.pos I O S A T t.I.1 t.I.2 t.J.1 t.J.2 N).mono fun r w' j=>⟨j.1,h.a8 j.2⟩
    ·have Z:r.I=l:=(by omega);have q:af M 2 e l=.inl (r.lo,r.hi,0):=(by unfold af;rw[if_neg K,if_neg U,if_neg W,z];show(if l<r.I then Sum.inl (aI 2 l e)else _)=_;rw[if_neg T,if_neg (by omega)]);rw[q];obtain⟨ad,rt,ab,av,am⟩:=r;dsimp only at Z;subst Z;exact(C4 s rt M.n e ⟨ad,rt,ab,av,am⟩ w E h.pos I O S A t.I.1 t.I.2 t.J.1 t.J.2 N).mono fun r w' j=>⟨j.1,h.a8 j.2⟩

theorem uh {F:Nat→Prop}{w:World}{E:Nat}{M:St}(h:ag F w E M)(e:Edge)(l:Int)(a7:e.ok) :
  Calls Tryz.prog 269 #[.pointer (some ⟨E,0,none⟩),.agg #[.int .u8 e.tag,.int .u32 e.to],.int .i64 l] w fun r w'=>
   r=.returned (.tuple #[.agg #[.int .u8 (bN M (af M 3 e l)).tag,.int .u32 (bN M (af M 3 e l)).to],.agg #[.int .u8 (bk M 3 (af M 3 e l)).tag,.int .u32 (bk M 3 (af M 3 e l)).to],.int .u8 (bT M (af M 3 e l))])∧ae F w w'∧ag (au F w w') w' E (bQ M (af M 3 e l)):=by
 have L:=h.wf.bw
 have N:=fun(z:World) (U:aa w z)=>dw (h.U U)
 have W:=fun(z:World) (U:aa w z)=>ef (h.U U) e.to a7.2.2
 have K:=fun(z:World) (U:aa w z)=>cX (h.U U) 3 e l a7
 by_cases X:l<0∨M.n≤l
 ·have I:af M 3 e l=.inl (⟨0,0⟩,⟨0,0⟩,3):=if_pos X;rw[I];by_cases a7:l<0;·exact(uL E l M.n e w L h.pos N a7).mono fun r w' j=>⟨j.1,h.a8 j.2⟩
  ·exact(uI E l M.n e w L h.pos N (by omega) (by omega)).mono fun r w' j=>⟨j.1,h.a8 j.2⟩
 ·have T:0≤l:=by omega
  have Y:l<M.n:=by omega
  rcases cL (M.leads 3 e l)with b|b
  ·have I:af M 3 e l=.inl (⟨0,0⟩,⟨0,0⟩,1):=(by unfold af;rw[if_neg X,if_pos b]);rw[I];rw[b]at K;exact(uM E l M.n e w L h.pos N T Y K).mono fun r w' j=>⟨j.1,h.a8 j.2⟩
  ·have am:¬M.leads 3 e l=false:=(by rw[b];simp);rw[b]at K;have av:¬((3:Int)=5∧(e.to=0∨l<e.tag)):=(by omega);have a6:aI 3 l e=(e,e,0):=(by simp[aI]);cases J:look M.cs e.to with
   |none=>
    have I:af M 3 e l=.inl (e,e,0):=(by unfold af;rw[if_neg X,if_neg am,if_neg av,J];show Sum.inl (aI 3 l e)=_;rw[a6]);rw[I];rw[J]at W;exact(uN E l M.n e Rec.zero w L h.pos N T Y K W).mono fun r w' j=>⟨j.1,h.a8 j.2⟩
   |some r=>
    obtain⟨a8,a7,be⟩:=dD b J;have q:=h.b1 J;rw[J]at W;by_cases ab:l<r.I
    ·have I:af M 3 e l=.inl (e,e,0):=(by unfold af;rw[if_neg X,if_neg am,if_neg av,J];show(if l<r.I then Sum.inl (aI 3 l e)else _)=_;rw[if_pos ab,a6]);rw[I];exact(uO E l M.n e r w L h.pos N T Y K ab q.I.1 q.I.2 q.J.1 q.J.2 W).mono fun r w' j=>⟨j.1,h.a8 j.2⟩
    ·have ad:r.I=l:=(by omega);by_cases S:r.J=r.I
     ·have I:af M 3 e l=.inl (r.lo,r.hi,0):=(by unfold af;rw[if_neg X,if_neg am,if_neg av,J];show(if l<r.I then Sum.inl (aI 3 l e)else _)=_;rw[if_neg ab,if_neg (fun a6=>a6.2 S)]);rw[I];obtain⟨a',rt,s,A,t⟩:=r;dsimp only at ad S;subst S;subst ad;exact(uH E s M.n e ⟨a',s,s,A,t⟩ w L h.pos N T Y K q.I.1 q.I.2 q.J.1 q.J.2 W).mono fun r w' j=>⟨j.1,h.a8 j.2⟩
     ·have I:af M 3 e l=.inr ⟨r.ad,r.I+1,r.J,r.lo,r.hi⟩:=(by unfold af;rw[if_neg X,if_neg am,if_neg av,J];show(if l<r.I then Sum.inl (aI 3 l e)else _)=_;rw[if_neg ab,if_pos ⟨.inl rfl,S⟩]);rw[I];have j:=oX (M:=M) (f:=3) q T (by omega) (by decide);obtain⟨a',rt,s,A,t⟩:=r;dsimp only at a8 ad S j ⊢;subst a8;subst ad;have a1:=fun(z:World) (U:aa w z)=>jq (h.U U) ⟨3,rt+1,s,A,t⟩ j;by_cases Z:M.a7 ⟨3,rt+1,s,A,t⟩=0
      ·have aw:bk M 3 (.inr ⟨3,rt+1,s,A,t⟩)=t:=(by simp[bk,Z]);have j:bT M (.inr ⟨3,rt+1,s,A,t⟩)=0:=Z;rw[aw,j];rw[Z]at a1;refine(uJ (fun z O=>ag (au F z O) O E (M.a6 ⟨3,rt+1,s,A,t⟩)) E rt M.n e ⟨3,rt,s,A,t⟩ _ _ w L h.pos N T Y K S q.I.1 q.I.2 q.J.1 q.J.2 W h.lt a1).mono ?_;rintro r w' ⟨rfl,z,O,a2,a3,a4,a5⟩;exact⟨rfl,a4.after h.lt a2 a3 a5⟩
      ·have bb:bN M (.inr ⟨3,rt+1,s,A,t⟩)=⟨0,0⟩:=iM Z;have aw:bk M 3 (.inr ⟨3,rt+1,s,A,t⟩)=⟨0,0⟩:=(by simp[bk,Z]);rw[bb,aw];refine(uK (fun z O=>ag (au F z O) O E (M.a6 ⟨3,rt+1,s,A,t⟩)) E rt M.n e ⟨3,rt,s,A,t⟩ _ _ (M.a7 ⟨3,rt+1,s,A,t⟩) Z w L h.pos N T Y K S q.I.1 q.I.2 q.J.1 q.J.2 W h.lt a1).mono ?_;rintro r w' ⟨rfl,z,O,a2,a3,a4,a5⟩;exact⟨rfl,a4.after h.lt a2 a3 a5⟩

theorem zj (q:Nat)(l n:Int)(v:Edge)(w:World)(A:n≤16)(E:q<w.heap.size)
  (s:∀j,aa w j→Calls Tryz.prog 48 #[.pointer (some ⟨q,0,none⟩)] j fun e w'=>e=.returned (.int .i64 n)∧j=w')
  (z:l<0)
  : Calls Tryz.prog 270 #[.pointer (some ⟨q,0,none⟩),.agg #[.int .u8 v.tag,.int .u32 v.to],.int .i64 l] w fun e w'=>e=.returned (.tuple #[.agg #[.int .u8 0,.int .u32 0],.agg #[.int .u8 0,.int .u32 0],.int .u8 3])∧aa w w':=by
 have t:=Lib.hid s
 clear s
 go_enter Tryz.func270,Tryz.ntmps270
 go_wp2_with (first|(go_at_call 48;refine(t.out _ (by(exact kp))).mono ?_;rintro e w' ⟨rfl,rfl⟩)|fail)
 go_region
 all_goals go_wp2
 all_goals refine bodyPost_ret (v:=.tuple #[.agg #[.int .u8 0,.int .u32 0],.agg #[.int .u8 0,.int .u32 0],.int .u8 3]) (by simp[results,Tryz.results270,go_sem]) rfl ⟨rfl,by(exact kp)⟩

theorem zg (q:Nat)(l n:Int)(v:Edge)(w:World)(E:n≤16)(I:q<w.heap.size)
  (s:∀j,aa w j→Calls Tryz.prog 48 #[.pointer (some ⟨q,0,none⟩)] j fun e w'=>e=.returned (.int .i64 n)∧j=w')
  (z:0≤l) (A:n≤l)
  : Calls Tryz.prog 270 #[.pointer (some ⟨q,0,none⟩),.agg #[.int .u8 v.tag,.int .u32 v.to],.int .i64 l] w fun e w'=>e=.returned (.tuple #[.agg #[.int .u8 0,.int .u32 0],.agg #[.int .u8 0,.int .u32 0],.int .u8 3])∧aa w w':=by
 have t:=Lib.hid s
 clear s
 go_enter Tryz.func270,Tryz.ntmps270
 go_wp2_with (first|(go_at_call 48;refine(t.out _ (by(exact kp))).mono ?_;rintro e w' ⟨rfl,rfl⟩)|fail)
 go_region
 all_goals go_wp2
 all_goals refine bodyPost_ret (v:=.tuple #[.agg #[.int .u8 0,.int .u32 0],.agg #[.int .u8 0,.int .u32 0],.int .u8 3]) (by simp[results,Tryz.results270,go_sem]) rfl ⟨rfl,by(exact kp)⟩

theorem zk (s:Nat)(l n:Int)(v:Edge)(w:World)(W:n≤16)(X:s<w.heap.size)
  (z:∀q,aa w q→Calls Tryz.prog 48 #[.pointer (some ⟨s,0,none⟩)] q fun e w'=>e=.returned (.int .i64 n)∧q=w')
  (T:0≤l) (U:l<n)
  (t:∀q,aa w q→Calls Tryz.prog 134 #[.pointer (some ⟨s,0,none⟩),.int .u8 4,.agg #[.int .u8 v.tag,.int .u32 v.to],.int .i64 l] q fun e w'=>e=.returned (.bool false)∧aa q w')
  : Calls Tryz.prog 270 #[.pointer (some ⟨s,0,none⟩),.agg #[.int .u8 v.tag,.int .u32 v.to],.int .i64 l] w fun e w'=>e=.returned (.tuple #[.agg #[.int .u8 0,.int .u32 0],.agg #[.int .u8 0,.int .u32 0],.int .u8 1])∧aa w w':=by
 have E:=Lib.hid z
 clear z
 have A:=Lib.hid t
 clear t
 go_enter Tryz.func270,Tryz.ntmps270
 go_wp2_with (first|(go_at_call 48;refine(E.out _ (by(exact kp))).mono ?_;rintro e w' ⟨rfl,rfl⟩)|fail)
 (go_at_call 134;refine(A.out _ (by(exact kp))).mono ?_;rintro e w1 ⟨rfl,j⟩;have I:=j.size;simp only[World.size_alloc]at I;have q:w.heap.size<w1.heap.size:=(by omega);have J:w.heap.size+1<w1.heap.size:=(by omega);have K:w.heap.size+2<w1.heap.size:=(by omega);have q:=j.cell (a:=⟨w.heap.size,0,none⟩) (v:=.int .u8 v.tag) (by simp[go_sem]);have q:=j.cell (a:=⟨w.heap.size,1,none⟩) (v:=.int .u32 v.to) (by simp[go_sem]);have L:=j.cell (a:=⟨w.heap.size+1,0,none⟩) (v:=.int .u8 0) (by simp[go_sem]);have N:=j.cell (a:=⟨w.heap.size+1,1,none⟩) (v:=.int .u32 0) (by simp[go_sem]);have O:=j.cell (a:=⟨w.heap.size+2,0,none⟩) (v:=.int .u8 0) (by simp[go_sem]);have S:=j.cell (a:=⟨w.heap.size+2,1,none⟩) (v:=.int .u32 0) (by simp[go_sem]);have q:=fun o:Nat=>j.a2 (a:=⟨w.heap.size+1,o,none⟩) (by simp[go_sem]) (by simp[go_sem]);have q:=fun o:Nat=>j.a2 (a:=⟨w.heap.size+2,o,none⟩) (by simp[go_sem]) (by simp[go_sem]);have j:aa w w1:=(by(exact kp)))
 go_wp2_with fail
 go_region
 all_goals go_wp2
 all_goals refine bodyPost_ret (v:=.tuple #[.agg #[.int .u8 0,.int .u32 0],.agg #[.int .u8 0,.int .u32 0],.int .u8 1]) (by simp[results,Tryz.results270,go_sem,J,K,L,N,O,S]) rfl ⟨rfl,by(exact kp)⟩

theorem zl (t:Nat)(l n:Int)(v:Edge)(x:Rec)(w:World)(a2:n≤16)(a3:t<w.heap.size)
  (N:∀j,aa w j→Calls Tryz.prog 48 #[.pointer (some ⟨t,0,none⟩)] j fun e w'=>e=.returned (.int .i64 n)∧j=w')
  (aw:0≤l) (a1:l<n)
  (L:∀j,aa w j→Calls Tryz.prog 134 #[.pointer (some ⟨t,0,none⟩),.int .u8 4,.agg #[.int .u8 v.tag,.int .u32 v.to],.int .i64 l] j fun e w'=>e=.returned (.bool true)∧aa j w')
  (K:∀j,aa w j→Calls Tryz.prog 78 #[.pointer (some ⟨t,0,none⟩),.int .u32 v.to] j fun e w'=>e=.returned (.tuple #[.agg #[.int .u8 x.ad,.int .u8 x.I,.int .u8 x.J,.int .u8 x.lo.tag,.int .u32 x.lo.to,.int .u8 x.hi.tag,.int .u32 x.hi.to],.bool false])∧aa j w')
  : Calls Tryz.prog 270 #[.pointer (some ⟨t,0,none⟩),.agg #[.int .u8 v.tag,.int .u32 v.to],.int .i64 l] w fun e w'=>e=.returned (.tuple #[.agg #[.int .u8 v.tag,.int .u32 v.to],.agg #[.int .u8 0,.int .u32 0],.int .u8 0])∧aa w w':=by
 have ab:=Lib.hid N
 clear N
 have Z:=Lib.hid L
 clear L
 have Y:=Lib.hid K
 clear K
 go_enter Tryz.func270,Tryz.ntmps270
 go_wp2_with (first|(go_at_call 48;refine(ab.out _ (by(exact kp))).mono ?_;rintro e w' ⟨rfl,rfl⟩)|fail)
 (go_at_call 134;refine(Z.out _ (by(exact kp))).mono ?_;rintro e w1 ⟨rfl,s⟩;have am:=s.size;simp only[World.size_alloc]at am;have av:w.heap.size<w1.heap.size:=(by omega);have O:w.heap.size+1<w1.heap.size:=(by omega);have S:w.heap.size+2<w1.heap.size:=(by omega);have U:=s.cell (a:=⟨w.heap.size,0,none⟩) (v:=.int .u8 v.tag) (by simp[go_sem]);have W:=s.cell (a:=⟨w.heap.size,1,none⟩) (v:=.int .u32 v.to) (by simp[go_sem]);have A:=s.cell (a:=⟨w.heap.size+1,0,none⟩) (v:=.int .u8 0) (by simp[go_sem]);have E:=s.cell (a:=⟨w.heap.size+1,1,none⟩) (v:=.int .u32 0) (by simp[go_sem]);have I:=s.cell (a:=⟨w.heap.size+2,0,none⟩) (v:=.int .u8 0) (by simp[go_sem]);have J:=s.cell (a:=⟨w.heap.size+2,1,none⟩) (v:=.int .u32 0) (by simp[go_sem]);have T:=fun o:Nat=>s.a2 (a:=⟨w.heap.size+1,o,none⟩) (by simp[go_sem]) (by simp[go_sem]);have X:=fun o:Nat=>s.a2 (a:=⟨w.heap.size+2,o,none⟩) (by simp[go_sem]) (by simp[go_sem]);have ad:aa w w1:=(by(exact kp)))
 go_wp2_with fail
 (go_at_call 78;refine(Y.out _ (by(exact kp))).mono ?_;rintro e z ⟨rfl,q⟩;have j:=q.size;have T:=fun o:Nat=>q.a2 (a:=⟨w.heap.size+1,o,none⟩) (by dsimp only;omega) (T o);have X:=fun o:Nat=>q.a2 (a:=⟨w.heap.size+2,o,none⟩) (by dsimp only;omega) (X o);have U:=q.cell U;have W:=q.cell W;have A:=q.cell A;have E:=q.cell E;have I:=q.cell I;have J:=q.cell J;have av:w.heap.size<z.heap.size:=(by omega);have O:w.heap.size+1<z.heap.size:=(by omega);have S:w.heap.size+2<z.heap.size:=(by omega);have j:aa w z:=ad.trans q)
 go_wp2_with fail
 all_goals refine bodyPost_ret (v:=.tuple #[.agg #[.int .u8 v.tag,.int .u32 v.to],.agg #[.int .u8 0,.int .u32 0],.int .u8 0]) (by simp[results,Tryz.results270,go_sem,O,S,A,E,I,J]) rfl ⟨rfl,by(exact kp)⟩

theorem zm (t:Nat)(l n:Int)(v:Edge)(x:Rec)(w:World)(a2:n≤16)(a3:t<w.heap.size)
  (N:∀j,aa w j→Calls Tryz.prog 48 #[.pointer (some ⟨t,0,none⟩)] j fun e w'=>e=.returned (.int .i64 n)∧j=w')
  (aw:0≤l) (a1:l<n)
  (L:∀j,aa w j→Calls Tryz.prog 134 #[.pointer (some ⟨t,0,none⟩),.int .u8 4,.agg #[.int .u8 v.tag,.int .u32 v.to],.int .i64 l] j fun e w'=>e=.returned (.bool true)∧aa j w')
  (a4:l<x.I) (a5:0≤x.I) (a6:x.I≤255) (a7:0≤x.J) (a8:x.J≤255)
  (K:∀j,aa w j→Calls Tryz.prog 78 #[.pointer (some ⟨t,0,none⟩),.int .u32 v.to] j fun e w'=>e=.returned (.tuple #[.agg #[.int .u8 x.ad,.int .u8 x.I,.int .u8 x.J,.int .u8 x.lo.tag,.int .u32 x.lo.to,.int .u8 x.hi.tag,.int .u32 x.hi.to],.bool true])∧aa j w')
  : Calls Tryz.prog 270 #[.pointer (some ⟨t,0,none⟩),.agg #[.int .u8 v.tag,.int .u32 v.to],.int .i64 l] w fun e w'=>e=.returned (.tuple #[.agg #[.int .u8 v.tag,.int .u32 v.to],.agg #[.int .u8 0,.int .u32 0],.int .u8 0])∧aa w w':=by
 have ab:=Lib.hid N
 clear N
 have Z:=Lib.hid L
 clear L
 have Y:=Lib.hid K
 clear K
 go_enter Tryz.func270,Tryz.ntmps270
 go_wp2_with (first|(go_at_call 48;refine(ab.out _ (by(exact kp))).mono ?_;rintro e w' ⟨rfl,rfl⟩)|fail)
 (go_at_call 134;refine(Z.out _ (by(exact kp))).mono ?_;rintro e w1 ⟨rfl,s⟩;have am:=s.size;simp only[World.size_alloc]at am;have av:w.heap.size<w1.heap.size:=(by omega);have O:w.heap.size+1<w1.heap.size:=(by omega);have S:w.heap.size+2<w1.heap.size:=(by omega);have U:=s.cell (a:=⟨w.heap.size,0,none⟩) (v:=.int .u8 v.tag) (by simp[go_sem]);have W:=s.cell (a:=⟨w.heap.size,1,none⟩) (v:=.int .u32 v.to) (by simp[go_sem]);have A:=s.cell (a:=⟨w.heap.size+1,0,none⟩) (v:=.int .u8 0) (by simp[go_sem]);have E:=s.cell (a:=⟨w.heap.size+1,1,none⟩) (v:=.int .u32 0) (by simp[go_sem]);have I:=s.cell (a:=⟨w.heap.size+2,0,none⟩) (v:=.int .u8 0) (by simp[go_sem]);have J:=s.cell (a:=⟨w.heap.size+2,1,none⟩) (v:=.int .u32 0) (by simp[go_sem]);have T:=fun o:Nat=>s.a2 (a:=⟨w.heap.size+1,o,none⟩) (by simp[go_sem]) (by simp[go_sem]);have X:=fun o:Nat=>s.a2 (a:=⟨w.heap.size+2,o,none⟩) (by simp[go_sem]) (by simp[go_sem]);have ad:aa w w1:=(by(exact kp)))
 go_wp2_with fail
 (go_at_call 78;refine(Y.out _ (by(exact kp))).mono ?_;rintro e z ⟨rfl,q⟩;have j:=q.size;have T:=fun o:Nat=>q.a2 (a:=⟨w.heap.size+1,o,none⟩) (by dsimp only;omega) (T o);have X:=fun o:Nat=>q.a2 (a:=⟨w.heap.size+2,o,none⟩) (by dsimp only;omega) (X o);have U:=q.cell U;have W:=q.cell W;have A:=q.cell A;have E:=q.cell E;have I:=q.cell I;have J:=q.cell J;have av:w.heap.size<z.heap.size:=(by omega);have O:w.heap.size+1<z.heap.size:=(by omega);have S:w.heap.size+2<z.heap.size:=(by omega);have j:aa w z:=ad.trans q)
 go_wp2_with fail
 all_goals refine bodyPost_ret (v:=.tuple #[.agg #[.int .u8 v.tag,.int .u32 v.to],.agg #[.int .u8 0,.int .u32 0],.int .u8 0]) (by simp[results,Tryz.results270,go_sem,O,S,A,E,I,J]) rfl ⟨rfl,by(exact kp)⟩

theorem ze (t:Nat)(l n:Int)(v:Edge)(x:Rec)(w:World)(a2:n≤16)(a3:t<w.heap.size)
  (N:∀j,aa w j→Calls Tryz.prog 48 #[.pointer (some ⟨t,0,none⟩)] j fun e w'=>e=.returned (.int .i64 n)∧j=w')
  (aw:0≤l) (a1:l<n)
  (L:∀j,aa w j→Calls Tryz.prog 134 #[.pointer (some ⟨t,0,none⟩),.int .u8 4,.agg #[.int .u8 v.tag,.int .u32 v.to],.int .i64 l] j fun e w'=>e=.returned (.bool true)∧aa j w')
   (a4:0≤x.I) (a5:x.I≤255) (a6:0≤x.J) (a7:x.J≤255)
  (K:∀j,aa w j→Calls Tryz.prog 78 #[.pointer (some ⟨t,0,none⟩),.int .u32 v.to] j fun e w'=>e=.returned (.tuple #[.agg #[.int .u8 x.ad,.int .u8 l,.int .u8 l,.int .u8 x.lo.tag,.int .u32 x.lo.to,.int .u8 x.hi.tag,.int .u32 x.hi.to],.bool true])∧aa j w')
  : Calls Tryz.prog 270 #[.pointer (some ⟨t,0,none⟩),.agg #[.int .u8 v.tag,.int .u32 v.to],.int .i64 l] w fun e w'=>e=.returned (.tuple #[.agg #[.int .u8 x.lo.tag,.int .u32 x.lo.to],.agg #[.int .u8 x.hi.tag,.int .u32 x.hi.to],.int .u8 0])∧aa w w':=by
 have ab:=Lib.hid N
 clear N
 have Z:=Lib.hid L
 clear L
 have Y:=Lib.hid K
 clear K
 go_enter Tryz.func270,Tryz.ntmps270
 go_wp2_with (first|(go_at_call 48;refine(ab.out _ (by(exact kp))).mono ?_;rintro e w' ⟨rfl,rfl⟩)|fail)
 (go_at_call 134;refine(Z.out _ (by(exact kp))).mono ?_;rintro e w1 ⟨rfl,s⟩;have am:=s.size;simp only[World.size_alloc]at am;have av:w.heap.size<w1.heap.size:=(by omega);have O:w.heap.size+1<w1.heap.size:=(by omega);have S:w.heap.size+2<w1.heap.size:=(by omega);have U:=s.cell (a:=⟨w.heap.size,0,none⟩) (v:=.int .u8 v.tag) (by simp[go_sem]);have W:=s.cell (a:=⟨w.heap.size,1,none⟩) (v:=.int .u32 v.to) (by simp[go_sem]);have A:=s.cell (a:=⟨w.heap.size+1,0,none⟩) (v:=.int .u8 0) (by simp[go_sem]);have E:=s.cell (a:=⟨w.heap.size+1,1,none⟩) (v:=.int .u32 0) (by simp[go_sem]);have I:=s.cell (a:=⟨w.heap.size+2,0,none⟩) (v:=.int .u8 0) (by simp[go_sem]);have J:=s.cell (a:=⟨w.heap.size+2,1,none⟩) (v:=.int .u32 0) (by simp[go_sem]);have T:=fun o:Nat=>s.a2 (a:=⟨w.heap.size+1,o,none⟩) (by simp[go_sem]) (by simp[go_sem]);have X:=fun o:Nat=>s.a2 (a:=⟨w.heap.size+2,o,none⟩) (by simp[go_sem]) (by simp[go_sem]);have ad:aa w w1:=(by(exact kp)))
 go_wp2_with fail
 (go_at_call 78;refine(Y.out _ (by(exact kp))).mono ?_;rintro e z ⟨rfl,q⟩;have j:=q.size;have T:=fun o:Nat=>q.a2 (a:=⟨w.heap.size+1,o,none⟩) (by dsimp only;omega) (T o);have X:=fun o:Nat=>q.a2 (a:=⟨w.heap.size+2,o,none⟩) (by dsimp only;omega) (X o);have U:=q.cell U;have W:=q.cell W;have A:=q.cell A;have E:=q.cell E;have I:=q.cell I;have J:=q.cell J;have av:w.heap.size<z.heap.size:=(by omega);have O:w.heap.size+1<z.heap.size:=(by omega);have S:w.heap.size+2<z.heap.size:=(by omega);have j:aa w z:=ad.trans q)
 go_wp2_with fail
 go_region
 all_goals go_wp2
 all_goals refine bodyPost_ret (v:=.tuple #[.agg #[.int .u8 x.lo.tag,.int .u32 x.lo.to],.agg #[.int .u8 x.hi.tag,.int .u32 x.hi.to],.int .u8 0]) (by simp[results,Tryz.results270,go_sem,O,S,A,E,I,J]) rfl ⟨rfl,by(exact kp)⟩

theorem zh {F:Nat→Prop}(R:World→World→Prop)(O:Nat)(l n:Int)(v:Edge)(x:Rec)(a b:Int)(w:World)(bx:n≤16)(b0:O<w.heap.size)
  (a1:∀j,aa w j→Calls Tryz.prog 48 #[.pointer (some ⟨O,0,none⟩)] j fun e w'=>e=.returned (.int .i64 n)∧j=w')
  (bv:0≤l) (bw:l<n)
  (av:∀j,aa w j→Calls Tryz.prog 134 #[.pointer (some ⟨O,0,none⟩),.int .u8 4,.agg #[.int .u8 v.tag,.int .u32 v.to],.int .i64 l] j fun e w'=>e=.returned (.bool true)∧aa j w')
  (b5:¬x.J=l) (b1:0≤x.I) (b2:x.I≤255) (b3:0≤x.J) (b4:x.J≤255)
  (am:∀j,aa w j→Calls Tryz.prog 78 #[.pointer (some ⟨O,0,none⟩),.int .u32 v.to] j fun e w'=>e=.returned (.tuple #[.agg #[.int .u8 4,.int .u8 l,.int .u8 x.J,.int .u8 x.lo.tag,.int .u32 x.lo.to,.int .u8 x.hi.tag,.int .u32 x.hi.to],.bool true])∧aa j w')
  (aw:∀k,F k→k<w.heap.size) (ad:∀j,aa w j→Calls Tryz.prog 189 #[.pointer (some ⟨O,0,none⟩),.agg #[.int .u8 4,.int .u8 (l+1),.int .u8 x.J,.int .u8 x.lo.tag,.int .u32 x.lo.to,.int .u8 x.hi.tag,.int .u32 x.hi.to]] j fun e w'=>e=.returned (.tuple #[.agg #[.int .u8 a,.int .u32 b],.int .u8 0])∧ae F j w'∧R j w')
  : Calls Tryz.prog 270 #[.pointer (some ⟨O,0,none⟩),.agg #[.int .u8 v.tag,.int .u32 v.to],.int .i64 l] w fun e w'=>e=.returned (.tuple #[.agg #[.int .u8 a,.int .u32 b],.agg #[.int .u8 a,.int .u32 b],.int .u8 0]) ∧ 
   ∃j Y,aa w j∧ae F j Y∧R j Y∧ae (fun k=>w.heap.size≤k∧k<j.heap.size) Y w':=by
 have a7:=Lib.hid a1
 clear a1
 have a6:=Lib.hid av
 clear av
 have a4:=Lib.hid ad
 have j:∀k,w.heap.size≤k→¬F k:=fun k W h=>by have:=aw k h;omega
 have Z:=j (w.heap.size+1) (by omega)
 have ab:=j (w.heap.size+2) (by omega)
 have O:=Lib.hid j
 clear ad aw j
 have a5:=Lib.hid am
 clear am
 go_enter Tryz.func270,Tryz.ntmps270
 go_wp2_with (first|(go_at_call 48;refine(a7.out _ (by(exact kp))).mono ?_;rintro e w' ⟨rfl,rfl⟩)|fail)
 (go_at_call 134;refine(a6.out _ (by(exact kp))).mono ?_;rintro e w1 ⟨rfl,z⟩;have be:=z.size;simp only[World.size_alloc]at be;have bp:w.heap.size<w1.heap.size:=(by omega);have E:w.heap.size+1<w1.heap.size:=(by omega);have I:w.heap.size+2<w1.heap.size:=(by omega);have a2:=z.cell (a:=⟨w.heap.size,0,none⟩) (v:=.int .u8 v.tag) (by simp[go_sem]);have a3:=z.cell (a:=⟨w.heap.size,1,none⟩) (v:=.int .u32 v.to) (by simp[go_sem]);have J:=z.cell (a:=⟨w.heap.size+1,0,none⟩) (v:=.int .u8 0) (by simp[go_sem]);have K:=z.cell (a:=⟨w.heap.size+1,1,none⟩) (v:=.int .u32 0) (by simp[go_sem]);have L:=z.cell (a:=⟨w.heap.size+2,0,none⟩) (v:=.int .u8 0) (by simp[go_sem]);have N:=z.cell (a:=⟨w.heap.size+2,1,none⟩) (v:=.int .u32 0) (by simp[go_sem]);have T:=fun o:Nat=>z.a2 (a:=⟨w.heap.size+1,o,none⟩) (by simp[go_sem]) (by simp[go_sem]);have U:=fun o:Nat=>z.a2 (a:=⟨w.heap.size+2,o,none⟩) (by simp[go_sem]) (by simp[go_sem]);have W:aa w w1:=(by(exact kp)))
 go_wp2_with fail
 (go_at_call 78;refine(a5.out _ (by(exact kp))).mono ?_;rintro e X ⟨rfl,s⟩;have j:=s.size;have T:=fun o:Nat=>s.a2 (a:=⟨w.heap.size+1,o,none⟩) (by dsimp only;omega) (T o);have U:=fun o:Nat=>s.a2 (a:=⟨w.heap.size+2,o,none⟩) (by dsimp only;omega) (U o);have a2:=s.cell a2;have a3:=s.cell a3;have J:=s.cell J;have K:=s.cell K;have L:=s.cell L;have N:=s.cell N;have bp:w.heap.size<X.heap.size:=(by omega);have E:w.heap.size+1<X.heap.size:=(by omega);have I:w.heap.size+2<X.heap.size:=(by omega);have j:aa w X:=W.trans s)
 go_wp2_with fail
 (go_at_call 189;refine(a4.out _ (by(exact kp))).mono ?_;rintro e S ⟨rfl,A,a8⟩;have a':=A.size;(try simp only[World.size_alloc,World.size_setCell,World.a3]at a');have J:=A.cell (a:=⟨w.heap.size+1,0,none⟩) Z (v:=.int .u8 0) (by simp[go_sem,E,I,J,K]);have K:=A.cell (a:=⟨w.heap.size+1,1,none⟩) Z (v:=.int .u32 0) (by simp[go_sem,E,I,J,K]);have L:=A.cell (a:=⟨w.heap.size+2,0,none⟩) ab (v:=.int .u8 0) (by simp[go_sem,E,I,L,N]);have N:=A.cell (a:=⟨w.heap.size+2,1,none⟩) ab (v:=.int .u32 0) (by simp[go_sem,E,I,L,N]);have T:=fun o:Nat=>A.frozen (a:=⟨w.heap.size+1,o,none⟩) (by(try simp only[World.size_alloc,World.size_setCell,World.a3]);omega) Z (by(try simp only[World.frozen?_setCell,frozen?_alloc_cells]);exact T o);have U:=fun o:Nat=>A.frozen (a:=⟨w.heap.size+2,o,none⟩) (by(try simp only[World.size_alloc,World.size_setCell,World.a3]);omega) ab (by(try simp only[World.frozen?_setCell,frozen?_alloc_cells]);exact U o);have E:w.heap.size+1<S.heap.size:=(by omega);have I:w.heap.size+2<S.heap.size:=(by omega))
 go_wp2_with fail
 obtain⟨q,t⟩:∃q,q=((S.setCell ⟨w.heap.size+1,0,none⟩ (.int .u8 a)).setCell ⟨w.heap.size+1,1,none⟩ (.int .u32 b)):=⟨_,rfl⟩
 have bq:q.cell? ⟨w.heap.size+1,0,none⟩=some (.int .u8 a):=by rw[t];simp[go_sem,J,K,E]
 have br:q.cell? ⟨w.heap.size+1,1,none⟩=some (.int .u32 b):=by rw[t];simp[go_sem,J,K,E]
 have bs:q.cell? ⟨w.heap.size+2,0,none⟩=some (.int .u8 0):=by rw[t];simp[go_sem,L,N,I]
 have bt:q.cell? ⟨w.heap.size+2,1,none⟩=some (.int .u32 0):=by rw[t];simp[go_sem,L,N,I]
 have j:∀o,q.frozen? ⟨w.heap.size+1,o,none⟩=false:=by intro o;rw[t];simp only[World.frozen?_setCell];exact T o
 have j:∀o,q.frozen? ⟨w.heap.size+2,o,none⟩=false:=by intro o;rw[t];simp only[World.frozen?_setCell];exact U o
 have bb:q.heap.size=S.heap.size:=by rw[t];simp only[World.size_setCell]
 have bg:ae (fun k=>w.heap.size≤k∧k<w.heap.size+3) S q:=by rw[t];exact((ae.refl _ _).setCell (Or.inl (by dsimp only;omega)) _).setCell (Or.inl (by dsimp only;omega)) _
 rw[←t]
 have bi:w.heap.size+1<q.heap.size:=by omega
 have bn:w.heap.size+2<q.heap.size:=by omega
 clear t J K L N T U bb
 all_goals refine bodyPost_ret (v:=.tuple #[.agg #[.int .u8 a,.int .u32 b],.agg #[.int .u8 a,.int .u32 b],.int .u8 0]) (by simp[results,Tryz.results270,go_sem,bi,bn,bq,br,bs,bt]) rfl ⟨rfl,_,S,by(exact kp),A,a8,?_⟩
 all_goals(try simp only[World.size_alloc,World.size_setCell,World.a3])
 all_goals(repeat (first|with_reducible exact ae.refl _ _|exact ae.mono bg (fun k _ W=>⟨W.1,by(try simp only[World.size_alloc,World.size_setCell,World.a3]);have:=W.2;omega⟩)|refine ae.setCell ?_ (Or.inl (by dsimp only;omega)) _|refine ae.setCell ?_ (Or.inr (by dsimp only;omega)) _|with_reducible refine ae.drewN ?_ _|with_reducible refine ae.drew ?_|with_reducible refine ae.alloc ?_ _))

theorem zi {F:Nat→Prop}(R:World→World→Prop)(O:Nat)(l n:Int)(v:Edge)(x:Rec)(a b X:Int)(b0:X≠0)(w:World)(b1:n≤16)(b2:O<w.heap.size)
  (a2:∀j,aa w j→Calls Tryz.prog 48 #[.pointer (some ⟨O,0,none⟩)] j fun e w'=>e=.returned (.int .i64 n)∧j=w')
  (bw:0≤l) (bx:l<n)
  (aw:∀j,aa w j→Calls Tryz.prog 134 #[.pointer (some ⟨O,0,none⟩),.int .u8 4,.agg #[.int .u8 v.tag,.int .u32 v.to],.int .i64 l] j fun e w'=>e=.returned (.bool true)∧aa j w')
  (b7:¬x.J=l) (b3:0≤x.I) (b4:x.I≤255) (b5:0≤x.J) (b6:x.J≤255)
  (av:∀j,aa w j→Calls Tryz.prog 78 #[.pointer (some ⟨O,0,none⟩),.int .u32 v.to] j fun e w'=>e=.returned (.tuple #[.agg #[.int .u8 4,.int .u8 l,.int .u8 x.J,.int .u8 x.lo.tag,.int .u32 x.lo.to,.int .u8 x.hi.tag,.int .u32 x.hi.to],.bool true])∧aa j w')
  (a1:∀k,F k→k<w.heap.size) (am:∀j,aa w j→Calls Tryz.prog 189 #[.pointer (some ⟨O,0,none⟩),.agg #[.int .u8 4,.int .u8 (l+1),.int .u8 x.J,.int .u8 x.lo.tag,.int .u32 x.lo.to,.int .u8 x.hi.tag,.int .u32 x.hi.to]] j fun e w'=>e=.returned (.tuple #[.agg #[.int .u8 a,.int .u32 b],.int .u8 X])∧ae F j w'∧R j w')
  : Calls Tryz.prog 270 #[.pointer (some ⟨O,0,none⟩),.agg #[.int .u8 v.tag,.int .u32 v.to],.int .i64 l] w fun e w'=>e=.returned (.tuple #[.agg #[.int .u8 0,.int .u32 0],.agg #[.int .u8 0,.int .u32 0],.int .u8 X]) ∧ 
   ∃j Z,aa w j∧ae F j Z∧R j Z∧ae (fun k=>w.heap.size≤k∧k<j.heap.size) Z w':=by
 have a8:=Lib.hid a2
 clear a2
 have a7:=Lib.hid aw
 clear aw
 have a5:=Lib.hid am
 have j:∀k,w.heap.size≤k→¬F k:=fun k W h=>by have:=a1 k h;omega
 have ab:=j (w.heap.size+1) (by omega)
 have ad:=j (w.heap.size+2) (by omega)
 have O:=Lib.hid j
 clear am a1 j
 have a6:=Lib.hid av
 clear av
 go_enter Tryz.func270,Tryz.ntmps270
 go_wp2_with (first|(go_at_call 48;refine(a8.out _ (by(exact kp))).mono ?_;rintro e w' ⟨rfl,rfl⟩)|fail)
 (go_at_call 134;refine(a7.out _ (by(exact kp))).mono ?_;rintro e w1 ⟨rfl,z⟩;have bg:=z.size;simp only[World.size_alloc]at bg;have bq:w.heap.size<w1.heap.size:=(by omega);have E:w.heap.size+1<w1.heap.size:=(by omega);have I:w.heap.size+2<w1.heap.size:=(by omega);have a3:=z.cell (a:=⟨w.heap.size,0,none⟩) (v:=.int .u8 v.tag) (by simp[go_sem]);have a4:=z.cell (a:=⟨w.heap.size,1,none⟩) (v:=.int .u32 v.to) (by simp[go_sem]);have J:=z.cell (a:=⟨w.heap.size+1,0,none⟩) (v:=.int .u8 0) (by simp[go_sem]);have K:=z.cell (a:=⟨w.heap.size+1,1,none⟩) (v:=.int .u32 0) (by simp[go_sem]);have L:=z.cell (a:=⟨w.heap.size+2,0,none⟩) (v:=.int .u8 0) (by simp[go_sem]);have N:=z.cell (a:=⟨w.heap.size+2,1,none⟩) (v:=.int .u32 0) (by simp[go_sem]);have T:=fun o:Nat=>z.a2 (a:=⟨w.heap.size+1,o,none⟩) (by simp[go_sem]) (by simp[go_sem]);have U:=fun o:Nat=>z.a2 (a:=⟨w.heap.size+2,o,none⟩) (by simp[go_sem]) (by simp[go_sem]);have W:aa w w1:=(by(exact kp)))
 go_wp2_with fail
 (go_at_call 78;refine(a6.out _ (by(exact kp))).mono ?_;rintro e Y ⟨rfl,s⟩;have j:=s.size;have T:=fun o:Nat=>s.a2 (a:=⟨w.heap.size+1,o,none⟩) (by dsimp only;omega) (T o);have U:=fun o:Nat=>s.a2 (a:=⟨w.heap.size+2,o,none⟩) (by dsimp only;omega) (U o);have a3:=s.cell a3;have a4:=s.cell a4;have J:=s.cell J;have K:=s.cell K;have L:=s.cell L;have N:=s.cell N;have bq:w.heap.size<Y.heap.size:=(by omega);have E:w.heap.size+1<Y.heap.size:=(by omega);have I:w.heap.size+2<Y.heap.size:=(by omega);have j:aa w Y:=W.trans s)
 go_wp2_with fail
 (go_at_call 189;refine(a5.out _ (by(exact kp))).mono ?_;rintro e S ⟨rfl,A,a'⟩;have bb:=A.size;(try simp only[World.size_alloc,World.size_setCell,World.a3]at bb);have J:=A.cell (a:=⟨w.heap.size+1,0,none⟩) ab (v:=.int .u8 0) (by simp[go_sem,E,I,J,K]);have K:=A.cell (a:=⟨w.heap.size+1,1,none⟩) ab (v:=.int .u32 0) (by simp[go_sem,E,I,J,K]);have L:=A.cell (a:=⟨w.heap.size+2,0,none⟩) ad (v:=.int .u8 0) (by simp[go_sem,E,I,L,N]);have N:=A.cell (a:=⟨w.heap.size+2,1,none⟩) ad (v:=.int .u32 0) (by simp[go_sem,E,I,L,N]);have T:=fun o:Nat=>A.frozen (a:=⟨w.heap.size+1,o,none⟩) (by(try simp only[World.size_alloc,World.size_setCell,World.a3]);omega) ab (by(try simp only[World.frozen?_setCell,frozen?_alloc_cells]);exact T o);have U:=fun o:Nat=>A.frozen (a:=⟨w.heap.size+2,o,none⟩) (by(try simp only[World.size_alloc,World.size_setCell,World.a3]);omega) ad (by(try simp only[World.frozen?_setCell,frozen?_alloc_cells]);exact U o);have E:w.heap.size+1<S.heap.size:=(by omega);have I:w.heap.size+2<S.heap.size:=(by omega))
 go_wp2_with fail
 obtain⟨q,t⟩:∃q,q=((S.setCell ⟨w.heap.size+1,0,none⟩ (.int .u8 a)).setCell ⟨w.heap.size+1,1,none⟩ (.int .u32 b)):=⟨_,rfl⟩
 have br:q.cell? ⟨w.heap.size+1,0,none⟩=some (.int .u8 a):=by rw[t];simp[go_sem,J,K,E]
 have bs:q.cell? ⟨w.heap.size+1,1,none⟩=some (.int .u32 b):=by rw[t];simp[go_sem,J,K,E]
 have bt:q.cell? ⟨w.heap.size+2,0,none⟩=some (.int .u8 0):=by rw[t];simp[go_sem,L,N,I]
 have bv:q.cell? ⟨w.heap.size+2,1,none⟩=some (.int .u32 0):=by rw[t];simp[go_sem,L,N,I]
 have j:∀o,q.frozen? ⟨w.heap.size+1,o,none⟩=false:=by intro o;rw[t];simp only[World.frozen?_setCell];exact T o
 have j:∀o,q.frozen? ⟨w.heap.size+2,o,none⟩=false:=by intro o;rw[t];simp only[World.frozen?_setCell];exact U o
 have be:q.heap.size=S.heap.size:=by rw[t];simp only[World.size_setCell]
 have bi:ae (fun k=>w.heap.size≤k∧k<w.heap.size+3) S q:=by rw[t];exact((ae.refl _ _).setCell (Or.inl (by dsimp only;omega)) _).setCell (Or.inl (by dsimp only;omega)) _
 rw[←t]
 have bn:w.heap.size+1<q.heap.size:=by omega
 have bp:w.heap.size+2<q.heap.size:=by omega
 clear t J K L N T U be
 all_goals refine bodyPost_ret (v:=.tuple #[.agg #[.int .u8 0,.int .u32 0],.agg #[.int .u8 0,.int .u32 0],.int .u8 X]) (by simp[results,Tryz.results270,go_sem,bn,bp,br,bs,bt,bv]) rfl ⟨rfl,_,S,by(exact kp),A,a',?_⟩
 all_goals(try simp only[World.size_alloc,World.size_setCell,World.a3])
 all_goals(repeat (first|with_reducible exact ae.refl _ _|exact ae.mono bi (fun k _ W=>⟨W.1,by(try simp only[World.size_alloc,World.size_setCell,World.a3]);have:=W.2;omega⟩)|refine ae.setCell ?_ (Or.inl (by dsimp only;omega)) _|refine ae.setCell ?_ (Or.inr (by dsimp only;omega)) _|with_reducible refine ae.drewN ?_ _|with_reducible refine ae.drew ?_|with_reducible refine ae.alloc ?_ _))

theorem uR {F:Nat→Prop}{w:World}{E:Nat}{M:St}(h:ag F w E M)(e:Edge)(l:Int)(a7:e.ok) :
  Calls Tryz.prog 270 #[.pointer (some ⟨E,0,none⟩),.agg #[.int .u8 e.tag,.int .u32 e.to],.int .i64 l] w fun r w'=>
   r=.returned (.tuple #[.agg #[.int .u8 (bN M (af M 4 e l)).tag,.int .u32 (bN M (af M 4 e l)).to],.agg #[.int .u8 (bk M 4 (af M 4 e l)).tag,.int .u32 (bk M 4 (af M 4 e l)).to],.int .u8 (bT M (af M 4 e l))])∧ae F w w'∧ag (au F w w') w' E (bQ M (af M 4 e l)):=by
 have L:=h.wf.bw
 have N:=fun(A:World) (U:aa w A)=>dw (h.U U)
 have W:=fun(A:World) (U:aa w A)=>ef (h.U U) e.to a7.2.2
 have K:=fun(A:World) (U:aa w A)=>cX (h.U U) 4 e l a7
 by_cases X:l<0∨M.n≤l
 ·have I:af M 4 e l=.inl (⟨0,0⟩,⟨0,0⟩,3):=if_pos X;rw[I];by_cases a7:l<0;·exact(zj E l M.n e w L h.pos N a7).mono fun r w' j=>⟨j.1,h.a8 j.2⟩
  ·exact(zg E l M.n e w L h.pos N (by omega) (by omega)).mono fun r w' j=>⟨j.1,h.a8 j.2⟩
 ·have T:0≤l:=by omega
  have Y:l<M.n:=by omega
  rcases cL (M.leads 4 e l)with b|b
  ·have I:af M 4 e l=.inl (⟨0,0⟩,⟨0,0⟩,1):=(by unfold af;rw[if_neg X,if_pos b]);rw[I];rw[b]at K;exact(zk E l M.n e w L h.pos N T Y K).mono fun r w' j=>⟨j.1,h.a8 j.2⟩
  ·have am:¬M.leads 4 e l=false:=(by rw[b];simp);rw[b]at K;have av:¬((4:Int)=5∧(e.to=0∨l<e.tag)):=(by omega);have a6:aI 4 l e=(e,⟨0,0⟩,0):=(by simp[aI]);cases J:look M.cs e.to with
   |none=>
    have I:af M 4 e l=.inl (e,⟨0,0⟩,0):=(by unfold af;rw[if_neg X,if_neg am,if_neg av,J];show Sum.inl (aI 4 l e)=_;rw[a6]);rw[I];rw[J]at W;exact(zl E l M.n e Rec.zero w L h.pos N T Y K W).mono fun r w' j=>⟨j.1,h.a8 j.2⟩
   |some r=>
    obtain⟨a8,a7,be⟩:=dD b J;have q:=h.b1 J;rw[J]at W;by_cases ab:l<r.I
    ·have I:af M 4 e l=.inl (e,⟨0,0⟩,0):=(by unfold af;rw[if_neg X,if_neg am,if_neg av,J];show(if l<r.I then Sum.inl (aI 4 l e)else _)=_;rw[if_pos ab,a6]);rw[I];exact(zm E l M.n e r w L h.pos N T Y K ab q.I.1 q.I.2 q.J.1 q.J.2 W).mono fun r w' j=>⟨j.1,h.a8 j.2⟩
    ·have ad:r.I=l:=(by omega);by_cases S:r.J=r.I
     ·have I:af M 4 e l=.inl (r.lo,r.hi,0):=(by unfold af;rw[if_neg X,if_neg am,if_neg av,J];show(if l<r.I then Sum.inl (aI 4 l e)else _)=_;rw[if_neg ab,if_neg (fun a6=>a6.2 S)]);rw[I];obtain⟨a',rt,s,z,t⟩:=r;dsimp only at ad S;subst S;subst ad;exact(ze E s M.n e ⟨a',s,s,z,t⟩ w L h.pos N T Y K q.I.1 q.I.2 q.J.1 q.J.2 W).mono fun r w' j=>⟨j.1,h.a8 j.2⟩
     ·have I:af M 4 e l=.inr ⟨r.ad,r.I+1,r.J,r.lo,r.hi⟩:=(by unfold af;rw[if_neg X,if_neg am,if_neg av,J];show(if l<r.I then Sum.inl (aI 4 l e)else _)=_;rw[if_neg ab,if_pos ⟨.inr rfl,S⟩]);rw[I];have j:=oX (M:=M) (f:=4) q T (by omega) (by decide);obtain⟨a',rt,s,z,t⟩:=r;dsimp only at a8 ad S j ⊢;subst a8;subst ad;have a1:=fun(A:World) (U:aa w A)=>js (h.U U) ⟨4,rt+1,s,z,t⟩ j;by_cases Z:M.a7 ⟨4,rt+1,s,z,t⟩=0
      ·have aw:bk M 4 (.inr ⟨4,rt+1,s,z,t⟩)=ba M 0 ⟨4,rt+1,s,z,t⟩:=(by simp[bk,Z]);have j:bT M (.inr ⟨4,rt+1,s,z,t⟩)=0:=Z;rw[aw,j];rw[Z]at a1;refine(zh (fun A O=>ag (au F A O) O E (M.a6 ⟨4,rt+1,s,z,t⟩)) E rt M.n e ⟨4,rt,s,z,t⟩ _ _ w L h.pos N T Y K S q.I.1 q.I.2 q.J.1 q.J.2 W h.lt a1).mono ?_;rintro r w' ⟨rfl,A,O,a2,a3,a4,a5⟩;exact⟨rfl,a4.after h.lt a2 a3 a5⟩
      ·have bb:bN M (.inr ⟨4,rt+1,s,z,t⟩)=⟨0,0⟩:=iM Z;have aw:bk M 4 (.inr ⟨4,rt+1,s,z,t⟩)=⟨0,0⟩:=(by simp[bk,Z]);rw[bb,aw];refine(zi (fun A O=>ag (au F A O) O E (M.a6 ⟨4,rt+1,s,z,t⟩)) E rt M.n e ⟨4,rt,s,z,t⟩ _ _ (M.a7 ⟨4,rt+1,s,z,t⟩) Z w L h.pos N T Y K S q.I.1 q.I.2 q.J.1 q.J.2 W h.lt a1).mono ?_;rintro r w' ⟨rfl,A,O,a2,a3,a4,a5⟩;exact⟨rfl,a4.after h.lt a2 a3 a5⟩

theorem Bc {F:Nat→Prop}{w:World}{s:Nat}{M:St}(h:ag F w s M)(e:Edge)(l:Int)(t:e.ok) :
  Calls Tryz.prog 271 #[.pointer (some ⟨s,0,none⟩),.agg #[.int .u8 e.tag,.int .u32 e.to],.int .i64 l] w fun r w'=>
   r=.returned (.tuple #[.agg #[.int .u8 (bN M (af M 5 e l)).tag,.int .u32 (bN M (af M 5 e l)).to],.agg #[.int .u8 (bk M 5 (af M 5 e l)).tag,.int .u32 (bk M 5 (af M 5 e l)).to],.int .u8 (bT M (af M 5 e l))])∧ae F w w'∧ag (au F w w') w' s (bQ M (af M 5 e l)):=by
 have A:=h.wf.bw
 have I:=fun(S:World) (T:aa w S)=>dw (h.U T)
 have U:=fun(S:World) (T:aa w S)=>ef (h.U T) e.to t.2.2
 have z:=fun(S:World) (T:aa w S)=>cX (h.U T) 5 e l t
 by_cases J:l<0∨M.n≤l
 ·have q:af M 5 e l=.inl (⟨0,0⟩,⟨0,0⟩,3):=if_pos J;rw[q];by_cases S:l<0;·exact(BO s l M.n e w A h.pos I S).mono fun r w' j=>⟨j.1,h.a8 j.2⟩
  ·exact(BN s l M.n e w A h.pos I (by omega) (by omega)).mono fun r w' j=>⟨j.1,h.a8 j.2⟩
 ·have N:0≤l:=by omega
  have O:l<M.n:=by omega
  rcases cL (M.leads 5 e l)with b|b
  ·have q:af M 5 e l=.inl (⟨0,0⟩,⟨0,0⟩,1):=(by unfold af;rw[if_neg J,if_pos b]);rw[q];rw[b]at z;exact(BP s l M.n e w A h.pos I N O z).mono fun r w' j=>⟨j.1,h.a8 j.2⟩
  ·have W:¬M.leads 5 e l=false:=(by rw[b];simp);rw[b]at z;by_cases L:e.to=0
   ·have q:af M 5 e l=.inl (e,e,0):=(by unfold af;rw[if_neg J,if_neg W,if_pos ⟨rfl,.inl L⟩]);rw[q];obtain⟨av,S⟩:=e;dsimp only at L;subst L;exact(BU s l M.n av w A h.pos I N O z).mono fun r w' j=>⟨j.1,h.a8 j.2⟩
   by_cases am:l<e.tag
   ·have q:af M 5 e l=.inl (e,e,0):=(by unfold af;rw[if_neg J,if_neg W,if_pos ⟨rfl,.inr am⟩]);rw[q];exact(BR s l M.n e w A h.pos I N O z t.1.1 t.1.2 L am).mono fun r w' j=>⟨j.1,h.a8 j.2⟩
   have Y:¬((5:Int)=5∧(e.to=0∨l<e.tag)):=(by omega);have Z:e.tag≤l:=(by omega);have ab:aI 5 l e=(⟨l+1,e.to⟩,⟨0,0⟩,0):=(by simp[aI]);cases K:look M.cs e.to with
   |none=>
    have q:af M 5 e l=.inl (⟨l+1,e.to⟩,⟨0,0⟩,0):=(by unfold af;rw[if_neg J,if_neg W,if_neg Y,K];show Sum.inl (aI 5 l e)=_;rw[ab]);rw[q];rw[K]at U;exact(BQ s l M.n e Rec.zero w A h.pos I N O z t.1.1 t.1.2 L Z U).mono fun r w' j=>⟨j.1,h.a8 j.2⟩
   |some r=>
    obtain⟨S,T,am⟩:=dD b K;have E:=h.b1 K;rw[K]at U;by_cases X:l<r.I
    ·have q:af M 5 e l=.inl (⟨l+1,e.to⟩,⟨0,0⟩,0):=(by unfold af;rw[if_neg J,if_neg W,if_neg Y,K];show(if l<r.I then Sum.inl (aI 5 l e)else _)=_;rw[if_pos X,ab]);rw[q];exact(BS s l M.n e r w A h.pos I N O z t.1.1 t.1.2 L Z X E.I.1 E.I.2 E.J.1 E.J.2 U).mono fun r w' j=>⟨j.1,h.a8 j.2⟩
    ·have ad:r.I=l:=(by omega);have q:af M 5 e l=.inl (r.lo,r.hi,0):=(by unfold af;rw[if_neg J,if_neg W,if_neg Y,K];show(if l<r.I then Sum.inl (aI 5 l e)else _)=_;rw[if_neg X,if_neg (by omega)]);rw[q];obtain⟨a1,rt,aw,a3,a2⟩:=r;dsimp only at ad;subst ad;exact(BM s rt M.n e ⟨a1,rt,aw,a3,a2⟩ w A h.pos I N O z t.1.1 t.1.2 L Z E.I.1 E.I.2 E.J.1 E.J.2 U).mono fun r w' j=>⟨j.1,h.a8 j.2⟩

end Go.Proofs.YtafkamlhimkbmaaGreat
