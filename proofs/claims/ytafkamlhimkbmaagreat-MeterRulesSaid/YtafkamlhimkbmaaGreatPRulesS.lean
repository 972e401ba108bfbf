/-
  apply.Ops.At, Apply; ramagelaw19.Hand.Do, Not, Engine.
-/
import Derived.Test.YtafkamlhimkbmaaGreatPApplyD
import Derived.OwnWalk
namespace Go.Proofs.YtafkamlhimkbmaaGreat
set_option maxRecDepth 1000000
set_option maxHeartbeats 8000000
set_option linter.unusedSimpArgs false
set_option linter.unusedVariables false
open Go.RowKit
def cH (F:Nat→Prop)(w:World)(ob sb kb lb:Nat)(M:St)(j:aD)(k:Nat)(x:Edge)(s:World):Prop:=
 ∃(M':St) (F':Nat→Prop) (t:Nat→Option (aD×Edge)),bB M' j x∧ck M M' (aX k)∧af (eL F kb lb) w s∧(∀i,F' i→F i∨w.heap.size≤i)∧bj F' s ob sb kb lb M' t
section
variable {F:Nat→Prop}{w:World}{ob sb kb lb:Nat}{M:St}{en:Nat→Option (aD×Edge)}
theorem fk.mid {j:aD}{k:Nat}{r:Ending}{s:World}(h:fk F w ob sb kb lb M j k r s):∃x:Edge,r=.returned (.tuple #[.agg #[.int .u8 x.tag,.int .u32 x.to],.int .u8 0])∧x.ok∧cH F w ob sb kb lb M j k x s:=by
 obtain⟨M',x,F',t,u,s,z,D,E,I⟩:=h;exact⟨x,u,s.ok,M',F',t,s,z,D,E,I⟩
theorem cH.wrap {W u N:World}{j:aD}{k:Nat}{x:Edge}{G:Nat→Prop}(E:bj F w ob sb kb lb M en)(h:cH F W ob sb kb lb M j k x u)(I:ae w W)(J:af G u N)(t:∀i,G i→w.heap.size≤i∧(i<W.heap.size∨u.heap.size≤i)):cH F w ob sb kb lb M j k x N:=by
 obtain⟨M',F',O,Q,T,U,z,D⟩:=h;obtain⟨u,N,V⟩:=E.lt;have u:=I.size;refine⟨M',F',O,Q,T,((ae.upd I _).bd U).da J (fun i hi s=>absurd (t i s).1 (by omega)),fun i hi=>?_,D.keep J (fun i hi s=>?_) (fun s=>absurd (t _ s).1 (by omega)) (fun s=>absurd (t _ s).1 (by omega)) (fun s=>absurd (t _ s).1 (by omega))⟩
 ·rcases z i hi with q|q;·exact .inl q
  ·exact .inr (by omega)
 ·obtain⟨g1,u⟩:=t i s;have:=D.a'.lt _ hi;rcases z i hi with q|q;·have:=E.a'.lt _ q;omega
  ·omega
theorem cH.out {j:aD}{k:Nat}{x:Edge}{s:World}(h:cH F w ob sb kb lb M j k x s):fk F w ob sb kb lb M j k (.returned (.tuple #[.agg #[.int .u8 x.tag,.int .u32 x.to],.int .u8 0])) s:=by
 obtain⟨M',F',t,u,z,D,E,I⟩:=h;exact⟨M',x,F',t,rfl,u,z,D,E,I⟩
theorem cH.row {W u:World}{j:aD}{k:Nat}{x:Edge}(t:bj F w ob sb kb lb M en)(h:cH F W ob sb kb lb M j k x u){B:Nat}{cs:List Value}(D:aE W B cs)(E:w.heap.size≤B):aE u B cs:=by
 obtain⟨M',F',u,E,I,z,J,N⟩:=h;obtain⟨u,E,I⟩:=t.lt
 exact D.upd z (fun s=>by
  rcases s with s|s|s;·have:=t.a'.lt _ s;omega
  ·omega
  ·omega)
theorem wQ (k:Nat)(z:bj F w ob sb kb lb M en)(f op:Int)(a b c:Edge)(u:dv M ⟨f,op,0,a,b,c⟩)(a':M.n=(k:Int))(a0:M.len+aX k≤M.a7)(a1:M.a7<1048576) :
  Calls Tryz.prog 126 #[.pointer (some ⟨ob,0,none⟩),.int .u8 f,.int .i64 op,.int .i64 0,.agg #[.int .u8 a.tag,.int .u32 a.to],.agg #[.int .u8 b.tag,.int .u32 b.to],.agg #[.int .u8 c.tag,.int .u32 c.to]] w (fk F w ob sb kb lb M ⟨f,op,0,a,b,c⟩ k):=by
 have ax:bZ f=true:=by have:=u.f;unfold bZ;simp;simp at this;omega
 have N:=fun(W:World)=>iJ f W
 rw[ax]at N
 have U:=fun(W:World) (s:ae w W)=>cX (z.a'.U s)
 have O:=fun(W:World) (s:ae w W)=>df (z.a'.U s) f a 0 u.ok.a
 have Q:=fun(W:World) (s:ae w W)=>df (z.a'.U s) f b 0 u.ok.b
 have T:=fun(W:World) (s:ae w W)=>df (z.a'.U s) f c 0 u.ok.c
 rw[show M.leads f a 0=true from u.a]at O
 rw[show M.leads f b 0=true from u.b]at Q
 rw[show M.leads f c 0=true from u.c]at T
 have aw:=fun(W:World) (s:ae w W)=>ti k F W M en ⟨f,op,0,a,b,c⟩ (z.U s) u (by show M.n-0=_;omega) a0 a1
 obtain⟨b2,b3⟩:0≤op∧op≤255:=u.ok.o
 obtain⟨b2,b3⟩:0≤f∧f≤255:=u.ok.f
 have b2:IntKind.u8.wrap op=op:=by rw[IntKind.wrap_u8];omega
 obtain⟨⟨b2,b3⟩,b4,b5⟩:a.ok:=u.ok.a
 obtain⟨⟨b2,b3⟩,b4,b5⟩:b.ok:=u.ok.b
 obtain⟨⟨b2,b3⟩,b4,b5⟩:c.ok:=u.ok.c
 have ba:=z.a'.wf.n0
 obtain⟨n,ay⟩:∃n,n=M.n:=⟨_,rfl⟩
 rw[←ay]at U ba
 have a4:=aa N
 have a9:=aa U
 have a3:=aa aw
 have av:=aa z
 have bb:=z.c0
 have ba:=z.lt.1
 have ba:ob<w.heap.size+1:=by omega
 have ba:ob<w.heap.size+1+1:=by omega
 have ba:ob<w.heap.size+1+1+1:=by omega
 clear N U aw ay z u a' a0 a1 ax
 go_enter Tryz.func126,Tryz.ntmps126
 go_wp2_with (first|(go_at_call 100;refine(a4.out _).mono ?_;rintro e V ⟨rfl,rfl⟩)|(go_at_call 48;refine(a9.out _ kp).mono ?_;rintro e V ⟨rfl,rfl⟩)|fail)
 obtain⟨t,D⟩:∃t,t=(((w.alloc (.cells #[.int .u8 a.tag,.int .u32 a.to] 52)).alloc (.cells #[.int .u8 b.tag,.int .u32 b.to] 52)).alloc (.cells #[.int .u8 c.tag,.int .u32 c.to] 52)).alloc (.cells #[.int .u8 0,.int .u32 0] 52):=⟨_,rfl⟩
 have J:ae w t:=by rw[D];exact((((ae.refl _).alloc _).alloc _).alloc _).alloc _
 have Z:t.cell? ⟨w.heap.size,0,none⟩=some (.int .u8 a.tag):=by rw[D];simp[go_sem]
 have ab:t.cell? ⟨w.heap.size,1,none⟩=some (.int .u32 a.to):=by rw[D];simp[go_sem]
 have ad:t.cell? ⟨w.heap.size+1,0,none⟩=some (.int .u8 b.tag):=by rw[D];simp[go_sem]
 have ah:t.cell? ⟨w.heap.size+1,1,none⟩=some (.int .u32 b.to):=by rw[D];simp[go_sem]
 have al:t.cell? ⟨w.heap.size+1+1,0,none⟩=some (.int .u8 c.tag):=by rw[D];simp[go_sem]
 have am:t.cell? ⟨w.heap.size+1+1,1,none⟩=some (.int .u32 c.to):=by rw[D];simp[go_sem]
 have pr:aE t (w.heap.size+1+1+1) [.int .u8 0,.int .u32 0]:=by
  rw[D];have:=aE.cf (((w.alloc (.cells #[.int .u8 a.tag,.int .u32 a.to] 52)).alloc (.cells #[.int .u8 b.tag,.int .u32 b.to] 52)).alloc (.cells #[.int .u8 c.tag,.int .u32 c.to] 52)) [.int .u8 0,.int .u32 0] 52;simp only[ak]at this;exact this
 have u:=J.cell bb
 have a5:=aa (fun(W:World) (s:ae t W)=>O W (J.trans s))
 have a6:=aa (fun(W:World) (s:ae t W)=>Q W (J.trans s))
 have a7:=aa (fun(W:World) (s:ae t W)=>T W (J.trans s))
 rw[←D]
 clear D O Q T
 have be:=au.cell u
 have bh:=au.cell Z
 have bi:=au.cell ab
 have bn:=au.cell ad
 have bt:=au.cell ah
 have bv:=au.cell al
 have bw:=au.cell am
 refine eJ (t) (by kernel_rfl) (by kernel_rfl) kp ?_;(repeat (go_big_quiet_step ((first|(go_at_call 134;with_reducible refine Calls.b' (a5.out _ (au.keep _)))|(go_at_call 134;with_reducible refine Calls.b' (a6.out _ (au.keep _)))|(go_at_call 134;with_reducible refine Calls.b' (a7.out _ (au.keep _)))))));refine wpQuiet_nil ?_;rintro b1 ⟨⟨_,E⟩,rfl⟩;try dsimp only
 have a2:ae w b1:=J.trans E
 replace Z:=E.cell Z
 replace ab:=E.cell ab
 replace ad:=E.cell ad
 replace ah:=E.cell ah
 replace al:=E.cell al
 replace am:=E.cell am
 replace pr:=pr.U E
 clear be bh bi bn bt bv bw
 go_wp2_with fail
 refine(a3.out _ a2).mono ?_
 intro s b0 I
 obtain⟨x,rfl,s,I⟩:=I.mid
 have s:=pr.lt
 have pr:=cH.row av.out I pr (by omega)
 have bc:=pr.cell 0 (.int .u8 0) rfl
 have bd:=pr.cell 1 (.int .u32 0) rfl
 have s:=pr.frz 0
 have s:=pr.frz 1
 have a8:=aa (fun(V:World) (s:af (fun i=>i=w.heap.size+1+1+1) b0 V)=>(I.wrap av.out a2 s (fun i hi=>by subst hi;omega)).out)
 clear I
 go_wp2_with fail
 refine an (v:=.tuple #[.agg #[.int .u8 x.tag,.int .u32 x.to],.int .u8 0]) (by simp[results,Tryz.results126,go_sem,bc,bd]) rfl (a8.out _ ?_)
 (repeat (first|with_reducible exact af.refl _ _|refine fc ?_ _ _))
theorem wP (k:Nat)(O:bj F w ob sb kb lb M en)(f op r:Int)(Z:op=8∧r=192∨op=14∧r=252∨op=3∧r=15)(a b:Edge)(D:dv M ⟨f,r,0,a,b,⟨0,0⟩⟩)(V:M.n=(k:Int))(ab:M.len+aX k≤M.a7)(ad:M.a7<1048576) :
  Calls Tryz.prog 72 #[.pointer (some ⟨ob,0,none⟩),.int .u8 f,.int .i64 op,.agg #[.int .u8 a.tag,.int .u32 a.to],.agg #[.int .u8 b.tag,.int .u32 b.to]] w (fk F w ob sb kb lb M ⟨f,r,0,a,b,⟨0,0⟩⟩ k):=by
 have U:=fun(W:World) (a0:ae w W)=>wQ k (O.U a0) f r a b ⟨0,0⟩ D V ab ad
 have ah:=fun(W:World)=>An op r Z W
 obtain⟨a0,a6⟩:0≤f∧f≤255:=D.ok.f
 obtain⟨⟨a0,a6⟩,a7,a8⟩:a.ok:=D.ok.a
 obtain⟨⟨a0,a6⟩,a7,a8⟩:b.ok:=D.ok.b
 have a0:0≤op:=by omega
 have a0:op<16:=by omega
 have al:=aa U
 have ay:=aa ah
 have I:=aa O
 clear U ah O D V ab ad Z
 go_enter Tryz.func72,Tryz.ntmps72
 go_wp2_with fail
 obtain⟨t,u⟩:∃t,t=((w.alloc (.cells #[.int .u8 a.tag,.int .u32 a.to] 52)).alloc (.cells #[.int .u8 b.tag,.int .u32 b.to] 52)).alloc (.cells #[.int .u8 0,.int .u32 0] 52):=⟨_,rfl⟩
 have a2:ae w t:=by rw[u];exact(((ae.refl _).alloc _).alloc _).alloc _
 have J:aE t w.heap.size [.int .u8 a.tag,.int .u32 a.to]:=by
  rw[u];exact(aE.cf w [.int .u8 a.tag,.int .u32 a.to] 52).U (((ae.refl _).alloc _).alloc _)
 have N:aE t (w.heap.size+1) [.int .u8 b.tag,.int .u32 b.to]:=by
  rw[u];have:=(aE.cf (w.alloc (.cells #[.int .u8 a.tag,.int .u32 a.to] 52)) [.int .u8 b.tag,.int .u32 b.to] 52).U ((ae.refl _).alloc (.cells #[.int .u8 0,.int .u32 0] 52));simp only[ak]at this;exact this
 have pr:aE t (w.heap.size+1+1) [.int .u8 0,.int .u32 0]:=by
  rw[u];have:=aE.cf ((w.alloc (.cells #[.int .u8 a.tag,.int .u32 a.to] 52)).alloc (.cells #[.int .u8 b.tag,.int .u32 b.to] 52)) [.int .u8 0,.int .u32 0] 52;simp only[ak]at this;exact this
 rw[←u]
 clear u
 have t:=J.cell 0 (.int .u8 a.tag) rfl
 have t:=J.cell 1 (.int .u32 a.to) rfl
 have t:=N.cell 0 (.int .u8 b.tag) rfl
 have t:=N.cell 1 (.int .u32 b.to) rfl
 have t:=pr.lt
 have t:w.heap.size+1+1≠w.heap.size:=by omega
 have t:w.heap.size+1+1≠w.heap.size+1:=by omega
 have av:=aa J
 have aw:=aa N
 have ax:=aa pr
 clear J N pr
 go_region_held3 (fun z=>z.cell? ⟨w.heap.size,0,none⟩=some (.int .u8 a.tag)∧z.cell? ⟨w.heap.size,1,none⟩=some (.int .u32 a.to)∧z.cell? ⟨w.heap.size+1,0,none⟩=some (.int .u8 b.tag)∧z.cell? ⟨w.heap.size+1,1,none⟩=some (.int .u32 b.to)) (go_keep) ((first
  |(go_at_call 127;refine(ay.out _).mono ?_;rintro a9 bn ⟨rfl,rfl⟩)
  |(go_at_call 126;refine(al.out _ kp).mono ?_;intro a' a5 s;obtain⟨x,rfl,ba,s⟩:=s.mid;have Q:=cH.row I.out s (av.out.U (ae.refl _).drew) (by omega);have T:=cH.row I.out s (aw.out.U (ae.refl _).drew) (by omega);have E:=cH.row I.out s (ax.out.U (ae.refl _).drew) (by omega);have a3:=E.cell 0 (.int .u8 0) rfl;have a4:=E.cell 1 (.int .u32 0) rfl;have bb:=E.frz 0;have bc:=E.frz 1;have bd:=Q.cell 0 (.int .u8 a.tag) rfl;have be:=Q.cell 1 (.int .u32 a.to) rfl;have bh:=T.cell 0 (.int .u8 b.tag) rfl;have bi:=T.cell 1 (.int .u32 b.to) rfl;have am:=aa (fun(z:World) (a1:af (fun i=>i=w.heap.size+1+1) a5 z)=>(s.wrap I.out a2.drew a1 (fun i hi=>by subst hi;simp only[World.a6];omega)).out);clear Q T E s)))
 all_goals(try go_wp2_with fail)
 all_goals refine an (v:=.tuple #[.agg #[.int .u8 x.tag,.int .u32 x.to],.int .u8 0]) (by simp[results,Tryz.results72,go_sem,a3,a4]) rfl (am.out _ ?_)
 all_goals(repeat (first|with_reducible exact af.refl _ _|refine fc ?_ _ _|with_reducible refine af.drew ?_))
end
def iZ (ob:Nat)(f:Int):List Value:=[.pointer (some ⟨ob,0,none⟩),.int .u8 f,.bool false]
def jy (F:Nat→Prop)(w:World)(hb ob sb kb lb:Nat)(M:St)(j:aD)(k:Nat)(r:Ending)(s:World):Prop:=
 ∃(x:Edge) (M':St) (F':Nat→Prop) (t:Nat→Option (aD×Edge)),r=.returned (.agg #[.int .u8 x.tag,.int .u32 x.to])∧bB M' j x∧ck M M' (aX k)∧af (fun i=>eL F kb lb i∨i=hb) w s∧(∀i,F' i→F i∨w.heap.size≤i)∧bj F' s ob sb kb lb M' t∧aE s hb (iZ ob j.fo)∧¬F' hb
structure fR (F:Nat→Prop)(w:World)(hb ob kb lb:Nat)(f:Int):Prop where
 row:aE w hb (iZ ob f)
 nF:¬F hb
 nO:hb≠ob
 nK:hb≠kb
 nL:hb≠lb
section
variable {F:Nat→Prop}{w:World}{hb ob sb kb lb:Nat}{M:St}{en:Nat→Option (aD×Edge)}
theorem fR.U {s:World}{f:Int}(h:fR F w hb ob kb lb f)(t:ae w s):fR F s hb ob kb lb f:={ h with row:=h.row.U t }
theorem cH.hI {W E D:World}{j:aD}{k:Nat}{x:Edge}{B R:Nat}(u:bj F w ob sb kb lb M en)(s:fR F w hb ob kb lb j.fo)(h:cH F W ob sb kb lb M j k x E)(J:ae w W)(N:af (fun i=>i=B∨i=R∨i=hb) E D)(ad:w.heap.size≤B∧(B<W.heap.size∨E.heap.size≤B))(ah:w.heap.size≤R∧R<W.heap.size)(ab:aE D hb (iZ ob j.fo)) :
  jy F w hb ob sb kb lb M j k (.returned (.agg #[.int .u8 x.tag,.int .u32 x.to])) D:=by
 obtain⟨M',F',Q,T,U,V,t,I⟩:=h
 obtain⟨D,E,ad⟩:=u.lt
 have D:=s.row.lt
 have D:=J.size
 have O:¬F' hb:=fun hi=>by
  rcases t hb hi with q|q;·exact s.nF q
  ·omega
 have Z:∀i,F' i→¬(i=B∨i=R∨i=hb):=fun i hi z=>by
  have D:=I.a'.lt _ hi;rcases z with rfl|rfl|rfl
  ·rcases t i hi with q|q;·have:=u.a'.lt _ q;omega
   ·omega
  ·rcases t i hi with q|q;·have:=u.a'.lt _ q;omega
   ·omega
  ·exact O hi
 have u:=s.nO
 have u:=s.nK
 have u:=s.nL
 refine⟨x,M',F',Q,rfl,T,U,((ae.upd J _).bd (V.mono (fun _ _ hi=>.inl hi))).da N (fun i hi z=>?_),fun i hi=>?_,I.keep N Z (by omega) (by omega) (by omega),ab,O⟩
 ·rcases z with rfl|rfl|rfl;·omega
  ·omega
  ·exact .inr rfl
 ·rcases t i hi with q|q;·exact .inl q
  ·exact .inr (by omega)
theorem cH.c5 {W t:World}{j:aD}{k:Nat}{x:Edge}(h:cH F W ob sb kb lb M j k x t){B:Nat}{cs:List Value}(E:aE W B cs)(u:¬F B)(z:B≠kb)(D:B≠lb):aE t B cs:=by
 obtain⟨M',F',I,_,_,t,_,_⟩:=h;exact E.upd t (fun s=>by rcases s with s|s|s;exact u s;exact z s;exact D s)
theorem iy {P:Nat→Prop}{R:Nat}(s:P R){x y:World}(h:af P x y)(o:Nat)(v:Value):af P x (y.setCell ⟨R,o,none⟩ v):=h.setCell (Or.inl s) v
theorem cH.ht {W s u:World}{j:aD}{k:Nat}{x:Edge}(E:bj F w ob sb kb lb M en)(h:cH F W ob sb kb lb M j k x s)(J:w.heap.size≤u.heap.size) :
  (∀i o,u.heap.size≤i→i<W.heap.size→s.cell? ⟨i,o,none⟩=W.cell? ⟨i,o,none⟩)∧(∀i o,u.heap.size≤i→i<W.heap.size→s.frozen? ⟨i,o,none⟩=W.frozen? ⟨i,o,none⟩)∧(∀i,i<W.heap.size→i<s.heap.size)∧(∀i,i<W.heap.size→¬i=s.heap.size)∧(∀i,i<W.heap.size→¬s.heap.size=i)∧W.heap.size≤s.heap.size:=by
 obtain⟨M',F',s,J,N,D,O,Q⟩:=h
 obtain⟨s,J,N⟩:=E.lt
 have I:=D.size
 have no:∀i,u.heap.size≤i→¬eL F kb lb i:=fun i hi t=>by
  rcases t with t|t|t;·have:=E.a'.lt _ t;omega
  ·omega
  ·omega
 exact⟨fun i o g1 z=>by have:=D.block i z (no i g1);simp only[World.cell?,this],fun i o g1 z=>World.frozen?_of_block (a:=⟨i,o,none⟩) (D.block i z (no i g1)),fun i hi=>by omega,fun i hi=>by omega,fun i hi=>by omega,I⟩
theorem lR (k:Nat)(av:bj F w ob sb kb lb M en)(f op r:Int)(a8:op=8∧r=192∨op=14∧r=252∨op=3∧r=15)(a b:Edge)(Q:dv M ⟨f,r,0,a,b,⟨0,0⟩⟩)(a6:M.n=(k:Int))(a9:M.len+aX k≤M.a7)(J:M.a7<1048576)(aw:fR F w hb ob kb lb f) :
  Calls Tryz.prog 26 #[.pointer (some ⟨hb,0,none⟩),.int .i64 op,.agg #[.int .u8 a.tag,.int .u32 a.to],.agg #[.int .u8 b.tag,.int .u32 b.to]] w (jy F w hb ob sb kb lb M ⟨f,r,0,a,b,⟨0,0⟩⟩ k):=by
 have a4:=fun(W:World) (E:ae w W)=>wP k (av.U E) f op r a8 a b Q a6 a9 J
 obtain⟨ci,cj⟩:0≤f∧f≤255:=Q.ok.f
 obtain⟨⟨ci,cj⟩,cl,cn⟩:a.ok:=Q.ok.a
 obtain⟨⟨ci,cj⟩,cl,cn⟩:b.ok:=Q.ok.b
 have a0:=aa a4
 have O:=aa av
 have D:=aa aw
 have ci:=aw.row.lt
 clear a4 av Q a6 a9 J a8 aw
 go_enter Tryz.func26,Tryz.ntmps26
 go_wp2_with fail
 obtain⟨t,I⟩:∃t,t=((w.alloc (.cells #[.int .u8 a.tag,.int .u32 a.to] 52)).alloc (.cells #[.int .u8 b.tag,.int .u32 b.to] 52)).alloc (.cells #[.int .u8 0,.int .u32 0] 52):=⟨_,rfl⟩
 have ax:ae w t:=by rw[I];exact(((ae.refl _).alloc _).alloc _).alloc _
 have ah:aE t w.heap.size [.int .u8 a.tag,.int .u32 a.to]:=by
  rw[I];exact(aE.cf w [.int .u8 a.tag,.int .u32 a.to] 52).U (((ae.refl _).alloc _).alloc _)
 have al:aE t (w.heap.size+1) [.int .u8 b.tag,.int .u32 b.to]:=by
  rw[I];have:=(aE.cf (w.alloc (.cells #[.int .u8 a.tag,.int .u32 a.to] 52)) [.int .u8 b.tag,.int .u32 b.to] 52).U ((ae.refl _).alloc (.cells #[.int .u8 0,.int .u32 0] 52));simp only[ak]at this;exact this
 have pr:aE t (w.heap.size+1+1) [.int .u8 0,.int .u32 0]:=by
  rw[I];have:=aE.cf ((w.alloc (.cells #[.int .u8 a.tag,.int .u32 a.to] 52)).alloc (.cells #[.int .u8 b.tag,.int .u32 b.to] 52)) [.int .u8 0,.int .u32 0] 52;simp only[ak]at this;exact this
 have b0:t.heap.size=w.heap.size+3:=by rw[I];simp
 rw[←I]
 clear I
 have ph:=D.out.row.U ax
 have cd:=ah.cell 0 (.int .u8 a.tag) rfl
 have ce:=ah.cell 1 (.int .u32 a.to) rfl
 have cf:=al.cell 0 (.int .u8 b.tag) rfl
 have ch:=al.cell 1 (.int .u32 b.to) rfl
 have h0:=ph.cell 0 (.pointer (some ⟨ob,0,none⟩)) rfl
 have be:=ph.cell 1 (.int .u8 f) rfl
 have b8:t.heap.size≠hb:=by omega
 have b9:t.heap.size≠w.heap.size:=by omega
 have ca:t.heap.size≠w.heap.size+1:=by omega
 have I:w.heap.size+3≤t.heap.size:=by omega
 have bh:=ph.cell 2 (.bool false) rfl
 have I:=pr.lt
 have I:=ph.lt
 have a5:∀(W:World),ae t W→Calls Tryz.prog 72 #[.pointer (some ⟨ob,0,none⟩),.int .u8 f,.int .i64 op,.agg #[.int .u8 a.tag,.int .u32 a.to],.agg #[.int .u8 b.tag,.int .u32 b.to]] W fun e s=>∃x:Edge,e=.returned (.tuple #[.agg #[.int .u8 x.tag,.int .u32 x.to],.int .u8 0])∧x.ok∧(cH F W ob sb kb lb M ⟨f,r,0,a,b,⟨0,0⟩⟩ k x s∧ae t W)∧(aE s hb (iZ ob f)∧aE s w.heap.size [.int .u8 a.tag,.int .u32 a.to]∧aE s (w.heap.size+1) [.int .u8 b.tag,.int .u32 b.to]) ∧
   (∀i o,t.heap.size≤i→i<W.heap.size→s.cell? ⟨i,o,none⟩=W.cell? ⟨i,o,none⟩)∧(∀i o,t.heap.size≤i→i<W.heap.size→s.frozen? ⟨i,o,none⟩=W.frozen? ⟨i,o,none⟩)∧(∀i,i<W.heap.size→i<s.heap.size)∧(∀i,i<W.heap.size→¬i=s.heap.size)∧(∀i,i<W.heap.size→¬s.heap.size=i)∧W.heap.size≤s.heap.size:=fun W E=>(a0.out W (ax.trans E)).mono (fun e s u=>by
  obtain⟨x,he,N,u⟩:=u.mid
  exact⟨x,he,N,⟨u,E⟩,⟨u.c5 (ph.U E) D.out.nF D.out.nK D.out.nL,cH.row O.out u (ah.U E) (aI _),cH.row O.out u (al.U E) (Nat.le_add_right _ 1)⟩,u.ht O.out (by omega)⟩)
 have a1:=aa a5
 have bc:=aa pr
 have bb:=aa ph
 clear ah al pr ph b0 a5 a0
 go_cut [9,10] (fun Q I E=>∃(B:Nat) (x:Edge) (V s:World),Q=.pointer (some ⟨B,0,none⟩)∧I=.int .u8 0∧x.ok∧(cH F V ob sb kb lb M ⟨f,r,0,a,b,⟨0,0⟩⟩ k x s∧ae t V)∧af (fun i=>i=B) s E∧t.heap.size≤B∧(B<V.heap.size∨s.heap.size≤B)∧E.cell? ⟨B,0,none⟩=some (.int .u8 x.tag)∧E.cell? ⟨B,1,none⟩=some (.int .u32 x.to))
 case first=>
  go_region_held3 (fun z=>z.cell? ⟨hb,0,none⟩=some (.pointer (some ⟨ob,0,none⟩))∧z.cell? ⟨hb,1,none⟩=some (.int .u8 f)∧z.cell? ⟨w.heap.size,0,none⟩=some (.int .u8 a.tag)∧z.cell? ⟨w.heap.size,1,none⟩=some (.int .u32 a.to)∧z.cell? ⟨w.heap.size+1,0,none⟩=some (.int .u8 b.tag)∧z.cell? ⟨w.heap.size+1,1,none⟩=some (.int .u32 b.to)) (go_keep) ((go_at_call 72;refine(a1.out _ kp).mono ?_;rintro t s ⟨x,rfl,N,a7,⟨Z,J,ab⟩,bn,co,bt,bv,bw,b1⟩;(try simp only[ak,World.a6]at b1);have t:=Z.cell 0 (.pointer (some ⟨ob,0,none⟩)) rfl;have t:=Z.cell 1 (.int .u8 f) rfl;have t:=J.cell 0 (.int .u8 a.tag) rfl;have t:=J.cell 1 (.int .u32 a.to) rfl;have t:=ab.cell 0 (.int .u8 b.tag) rfl;have t:=ab.cell 1 (.int .u32 b.to) rfl;have t:=Z.lt;have t:=J.lt;have t:=ab.lt;have t:s.heap.size≠hb:=(by omega);have t:s.heap.size≠w.heap.size:=(by omega);have t:s.heap.size≠w.heap.size+1:=(by omega);have a2:=aa (And.intro N a7);obtain⟨⟨b2,b3⟩,b4,b5⟩:=N;clear a7 Z J ab))
  all_goals(try go_wp2_with fail)
  all_goals go_meet
  all_goals refine⟨_,_,_,_,rfl,rfl,a2.out.1,a2.out.2,?_,?_,?_,?_,?_⟩
  all_goals(try(repeat (first|with_reducible exact af.refl _ _|refine fc ?_ _ _|with_reducible refine af.alloc ?_ _|with_reducible refine af.drew ?_)))
  all_goals(try(first|omega|(simp only[ak,World.a6];omega)))
  all_goals(simp[go_sem,bn,bt,bv,bw];done)
 case rest=>
  obtain⟨B,x,V,s,rfl,rfl,N,⟨u,T⟩,ad,bi,a3,t,E⟩:=hcut;have t:=T.size;have am:=(u.c5 (bb.out.U T) D.out.nF D.out.nK D.out.nL).upd ad (by omega);have U:=(cH.row O.out u (bc.out.U T) (by omega)).upd ad (by omega);have t:=am.cell 2 (.bool false) rfl;have t:=am.frz 2;have cb:=U.cell 0 (.int .u8 0) rfl;have cc:=U.cell 1 (.int .u32 0) rfl;have t:=U.frz 0;have t:=U.frz 1;have b6:hb≠B:=by omega
  have b7:w.heap.size+1+1≠B:=by omega
  have a':w.heap.size+1+1≠hb:=by omega
  have ay:=a'.symm;have bd:=aa am;have ba:=aa (fun(z:World) (E:af (fun i=>i=w.heap.size+1+1∨i=hb) wc z) (t:aE z hb (iZ ob f))=>cH.hI O.out D.out u (ax.trans T) ((ad.mono (fun _ _ hi=>.inl hi)).bd (E.mono (fun _ _ hi=>.inr hi)):af (fun i=>i=B∨i=w.heap.size+1+1∨i=hb) s z) ⟨by omega,a3⟩ ⟨by omega,by omega⟩ t);obtain⟨⟨b2,b3⟩,b4,b5⟩:=N;clear am U u ad bi a3 T cd ce cf ch h0 be bh b8 b9 ca a1;go_wp2_with fail;refine an (v:=.agg #[.int .u8 x.tag,.int .u32 x.to]) (by simp[results,Tryz.results26,go_sem,cb,cc,b6,b7,a',ay]) rfl (ba.out _ ?_ ?_);·(repeat (first|with_reducible exact af.refl _ _|refine iy (Or.inl rfl) ?_ _ _|refine iy (Or.inr rfl) ?_ _ _))
  ·exact((bd.out.set (o:=2) (by show 2<3;decide) (.bool false)).ho ay 0 _).ho ay 1 _
theorem tY (k:Nat)(D:bj F w ob sb kb lb M en)(f:Int)(a:Edge)(E:dv M ⟨f,15,0,a,a,⟨0,0⟩⟩)(Z:M.n=(k:Int))(ab:M.len+aX k≤M.a7)(ad:M.a7<1048576)(u:fR F w hb ob kb lb f) :
  Calls Tryz.prog 27 #[.pointer (some ⟨hb,0,none⟩),.agg #[.int .u8 a.tag,.int .u32 a.to]] w (jy F w hb ob sb kb lb M ⟨f,15,0,a,a,⟨0,0⟩⟩ k):=by
 have U:=fun(W:World) (Q:ae w W)=>lR k (D.U Q) f 3 15 (by omega) a a E Z ab ad (u.U Q)
 obtain⟨⟨Q,a4⟩,a5,a6⟩:a.ok:=E.ok.a
 have av:=aa U
 have O:=aa D
 have Q:=aa u
 have Q:=u.row.lt
 clear U D E Z ab ad u
 go_enter Tryz.func27,Tryz.ntmps27
 go_wp2_with fail
 have N:ae w ((w.alloc (.cells #[.int .u8 a.tag,.int .u32 a.to] 52)).alloc (.cells #[.int .u8 0,.int .u32 0] 52)):=((ae.refl _).alloc _).alloc _
 have pr:=aE.cf (w.alloc (.cells #[.int .u8 a.tag,.int .u32 a.to] 52)) [.int .u8 0,.int .u32 0] 52
 simp only[ak]at pr
 refine(av.out _ N).mono ?_
 rintro u a3 ⟨x,M',F',ax,rfl,g,am,J,z,T,ah,a0⟩
 simp only[ak]at z
 obtain⟨u,D,E⟩:=O.out.lt
 have al:¬F (w.heap.size+1):=fun s=>by have:=O.out.a'.lt _ s;omega
 have t:=pr.upd J (fun s=>by
  rcases s with(s|s|s)|s
  ·exact al s
  ·omega
  ·omega
  ·omega)
 have ay:¬F' (w.heap.size+1):=fun s=>by
  rcases z _ s with q|q;·exact al q
  ·omega
 have a1:=t.cell 0 (.int .u8 0) rfl
 have a2:=t.cell 1 (.int .u32 0) rfl
 have u:=t.frz 0
 have u:=t.frz 1
 have V:∀u:World,af (fun i=>i=w.heap.size+1) a3 u→jy F w hb ob sb kb lb M ⟨f,15,0,a,a,⟨0,0⟩⟩ k (.returned (.agg #[.int .u8 x.tag,.int .u32 x.to])) u:=fun u I=>by
  refine⟨x,M',F',ax,rfl,g,am,((ae.upd N _).bd J).da I (fun i hi s=>by omega),fun i hi=>?_,T.keep I (fun i hi s=>by subst s;exact ay hi) (by omega) (by omega) (by omega),ah.upd I (by omega),a0⟩;rcases z i hi with q|q;·exact .inl q
  ·exact .inr (by omega)
 have aw:=aa V
 clear V t pr N J z T ah g am
 go_wp2_with fail
 refine an (v:=.agg #[.int .u8 x.tag,.int .u32 x.to]) (by simp[results,Tryz.results27,go_sem,a1,a2]) rfl (aw.out _ ?_)
 (repeat (first|with_reducible exact af.refl _ _|refine fc ?_ _ _))
end
theorem tx (n:Int)(w:World)(h0:0≤n)(U:n≤16):Calls Tryz.prog 23 #[.int .i64 n,.int .i64 1500,.int .i64 6] w fun e O=>
  ∃(ob sb kb lb:Nat) (F:Nat→Prop),e=.returned (.tuple #[.pointer (some ⟨sb,0,none⟩),.pointer (some ⟨ob,0,none⟩),.bool true])∧ae w O∧(∀i,F i→w.heap.size≤i)∧w.heap.size≤kb∧w.heap.size≤lb∧bj F O ob sb kb lb (St.new n 1500) (fun _=>none):=by
 go_enter Tryz.func23,Tryz.ntmps23;go_wp2_with fail;refine(pQ n 1500 _ h0 U (by omega) (by omega)).mono ?_;rintro e O ⟨sb,F,rfl,E,hF,hS⟩;have t:=aa hS;have Q:=aa hF;clear hS hF;go_wp2_with fail;refine(qZ t.out).mono ?_;rintro e V ⟨ob,kb,lb,rfl,D,I,O,U,Z,J,N,u,z⟩;have T:=aa (show bj F V ob sb kb lb (St.new n 1500) (fun _=>none)from⟨t.out.U I,u,z,D,fun i j v s=>(by cases s),fun s=>by have:=t.out.lt _ s;omega,fun s=>by have:=t.out.lt _ s;omega,fun s=>by have:=t.out.lt _ s;omega,J,N⟩);clear D u z J N;have s:=E.size;go_wp2_with fail;go_ret3;exact⟨ob,sb,kb,lb,F,rfl,E.trans I,Q.out,by omega,by omega,T.out⟩
structure cI (w:World)(hb ob sb kb lb:Nat)(f:Int)(M0:St)(x y:Edge)(X Y:Nat)(c:Int)(G:St→Prop)(Bs:Nat→Prop)(W:World):Prop where
 ex:∃(F:Nat→Prop) (M:St) (en:Nat→Option (aD×Edge)),bj F W ob sb kb lb M en∧fR F W hb ob kb lb f∧ck M0 M c∧G M∧¬F X∧¬F Y∧(∀i,Bs i→¬F i)∧∀i,F i→w.heap.size≤i
 rx:aE W X [.int .u8 x.tag,.int .u32 x.to]
 ry:aE W Y [.int .u8 y.tag,.int .u32 y.to]
 keep:ae w W
 bl:∀i,Bs i→i<W.heap.size∧w.heap.size≤i∧i≠X∧i≠Y∧i≠hb∧i≠ob∧i≠kb∧i≠lb
 bz:∀i,Bs i→aE W i [.int .u8 0,.int .u32 0]
 lw:w.heap.size≤kb∧w.heap.size≤lb∧w.heap.size≤hb
 ne:X≠hb∧X≠kb∧X≠lb∧Y≠hb∧Y≠kb∧Y≠lb
section
variable {w W:World}{hb ob sb kb lb:Nat}{f:Int}{M0:St}{x y:Edge}{X Y:Nat}{c:Int}{G:St→Prop}{Bs:Nat→Prop}
theorem cI.U {t:World}(h:cI w hb ob sb kb lb f M0 x y X Y c G Bs W)(s:ae W t):cI w hb ob sb kb lb f M0 x y X Y c G Bs t:=by
 obtain⟨F,M,en,t,u,z⟩:=h.ex;have D:=s.size;exact { h with ex:=⟨F,M,en,t.U s,u.U s,z⟩,rx:=h.rx.U s,ry:=h.ry.U s,keep:=h.keep.trans s,bl:=fun i hi=>(by obtain⟨a,b⟩:=h.bl i hi;exact⟨by omega,b⟩),bz:=fun i hi=>(h.bz i hi).U s }
theorem cI.drew (h:cI w hb ob sb kb lb f M0 x y X Y c G Bs W):cI w hb ob sb kb lb f M0 x y X Y c G Bs W.drew:=h.U (ae.refl _).drew
theorem cI.alloc (h:cI w hb ob sb kb lb f M0 x y X Y c G Bs W):cI w hb ob sb kb lb f M0 x y X Y c G (fun i=>Bs i∨i=W.heap.size) (W.alloc (.cells #[.int .u8 0,.int .u32 0] 52)):=by
 obtain⟨o,N⟩:∃o:Obj,o=.cells #[.int .u8 0,.int .u32 0] 52:=⟨_,rfl⟩;have hm:=aE.cf W [.int .u8 0,.int .u32 0] 52;change aE (W.alloc (.cells #[.int .u8 0,.int .u32 0] 52)) _ _ at hm;rw[←N]at hm ⊢;have s:=h.U ((ae.refl W).alloc o);obtain⟨F,M,en,g1,t,u,z,D,E,I,J⟩:=h.ex;obtain⟨N,Q,T⟩:=g1.lt;have N:=t.row.lt;have N:=h.rx.lt;have N:=h.ry.lt;have O:=h.keep.size
 exact { s with
  ex:=⟨F,M,en,g1.U ((ae.refl W).alloc o),t.U ((ae.refl W).alloc o),u,z,D,E,fun i hi hF=>by
   rcases hi with hi|rfl;·exact I i hi hF
   ·have:=g1.a'.lt _ hF;omega,J⟩
  bl:=fun i hi=>by
   rcases hi with hi|rfl;·exact s.bl i hi
   ·refine⟨by simp,O,?_,?_,?_,?_,?_,?_⟩<;>omega
  bz:=fun i hi=>by
   rcases hi with hi|rfl;·exact s.bz i hi
   ·exact hm }
structure nc (w:World)(hb ob sb kb lb:Nat)(f:Int)(M0:St)(x y:Edge)(X Y:Nat)(c:Int)(G:St→Prop)(W:World):Prop where
 ex:∃(F:Nat→Prop) (M:St) (en:Nat→Option (aD×Edge)),bj F W ob sb kb lb M en∧fR F W hb ob kb lb f∧ck M0 M c∧G M
 rx:aE W X [.int .u8 x.tag,.int .u32 x.to]
 ry:aE W Y [.int .u8 y.tag,.int .u32 y.to]
 keep:ae w W
def qK (w:World)(hb ob sb kb lb:Nat)(f:Int)(M0:St)(x y:Edge)(X Y:Nat)(c:Int)(G:St→Prop)(Bs:Nat→Prop)(W:World)(j:aD)(k:Nat)(r:Ending)(s:World):Prop:=
 ∃t:Edge,r=.returned (.agg #[.int .u8 t.tag,.int .u32 t.to])∧t.ok∧cI w hb ob sb kb lb f M0 x y X Y (c+aX k) (fun M=>G M∧bB M j t) Bs s∧(∀i,i<W.heap.size→i<s.heap.size) ∧
  (∀i,i<W.heap.size→¬i=s.heap.size)∧(∀i,i<W.heap.size→¬s.heap.size=i)∧(∀i,i<W.heap.size→¬i=s.heap.size+1)∧(∀i,i<W.heap.size→¬s.heap.size+1=i)∧(∀i,i<W.heap.size→¬i=s.heap.size+1+1)∧(∀i,i<W.heap.size→¬s.heap.size+1+1=i)∧W.heap.size≤s.heap.size
theorem cI.post (h:cI w hb ob sb kb lb f M0 x y X Y c G Bs W)(ad:∀M M',aP M M'→M.wf→G M→G M'){k:Nat}{j:aD}{fn:FuncId}{args:Array Value}(al:j.fo=f)
  (ah:∀(F:Nat→Prop) (M:St) (en:Nat→Option (aD×Edge)),bj F W ob sb kb lb M en→fR F W hb ob kb lb f→ck M0 M c→Calls Tryz.prog fn args W (jy F W hb ob sb kb lb M j k)) :
  Calls Tryz.prog fn args W (qK w hb ob sb kb lb f M0 x y X Y c G Bs W j k):=by
 obtain⟨F,M,en,g1,t,I,ab,J,N,O,Q⟩:=h.ex
 obtain⟨a6,a7,a8⟩:=g1.lt
 have a6:=t.row.lt
 obtain⟨ay,a0,a1,a2,a3,a4⟩:=h.ne
 obtain⟨w1,a6,a7⟩:=h.lw
 have a6:=h.keep.size
 refine(ah F M en g1 t I).mono (fun r ah s=>?_)
 obtain⟨a5,M',F',Z,he,g,T,u,hs,aw,av,am⟩:=s
 subst al
 have ax:=u.size
 have no:∀i,¬F i→i≠hb→i≠kb→i≠lb→¬(eL F kb lb i∨i=hb):=fun i z E U V s=>by
  rcases s with(s|s|s)|s
  ·exact z s
  ·exact U s
  ·exact V s
  ·exact E s
 have D:∀i,¬F i→i<W.heap.size→¬F' i:=fun i z E s=>by
  rcases hs i s with q|q;·exact z q
  ·omega
 have nb:∀i,Bs i→¬(eL F kb lb i∨i=hb):=fun i hi=>by
  obtain⟨V,ah,al,a6,z,a7,E,U⟩:=h.bl i hi;exact no i (O i hi) z E U
 refine⟨a5,he,g.ok,⟨⟨F',M',Z,aw,⟨av,am,t.nO,t.nK,t.nL⟩,I.trans T,⟨ad _ _ T.ext g1.a'.wf ab,g⟩,D _ J h.rx.lt,D _ N h.ry.lt,fun i hi=>D i (O i hi) (h.bl i hi).1,fun i hi=>?_⟩,h.rx.upd u (no _ J ay a0 a1),h.ry.upd u (no _ N a2 a3 a4),?_,fun i hi=>?_,fun i hi=>(h.bz i hi).upd u (nb i hi),h.lw,h.ne⟩,?_,?_,?_,?_,?_,?_,?_,ax⟩
 ·rcases hs i hi with q|q;·exact Q i q
  ·omega
 ·refine af.U (F:=fun i=>eL F kb lb i∨i=hb) ((ae.upd h.keep _).bd u) (fun i hi s=>?_);rcases s with(s|s|s)|s
  ·have:=Q i s;omega
  ·omega
  ·omega
  ·omega
 ·obtain⟨a,r⟩:=h.bl i hi;exact⟨by omega,r⟩
 all_goals(intro i hi;omega)
end
end Go.Proofs.YtafkamlhimkbmaaGreat
