/-
  build.builder.from: the diagram of a set, from below.
-/
import Derived.Test.YtafkamlhimkbmaaGreatPPartsA
import Derived.Test.YtafkamlhimkbmaaGreatPSetW
import Derived.Test.YtafkamlhimkbmaaGreatPTwoA
namespace Go.Proofs.YtafkamlhimkbmaaGreat
set_option maxRecDepth 1000000
set_option maxHeartbeats 8000000
set_option linter.unusedSimpArgs false
set_option linter.unusedVariables false
open Go.RowKit
structure eP (F Fo:Nat→Prop)(w:World)(sb ob bb:Nat)(f:Int)(n:Nat)(ps ws:List Int)(aw:Option Addr)(len cap:Nat):Prop where
 c0:w.cell? ⟨bb,0,none⟩=some (.pointer (some ⟨sb,0,none⟩))
 c1:w.cell? ⟨bb,1,none⟩=some (.pointer (some ⟨ob,0,none⟩))
 c2:w.cell? ⟨bb,2,none⟩=some (.int .u8 f)
 c3:w.cell? ⟨bb,3,none⟩=some (.int .i64 (n:Int))
 c4:w.cell? ⟨bb,4,none⟩=some (.slice aw len cap)
 eB:¬F bb
 b1:bq w aw ws
 nw:∀b off,aw=some ⟨b,off,none⟩→¬F b
 hl:dm Fo w ob ps
 hR:∀k,Fo k→¬F k
theorem eP.lt {F t:Nat→Prop}{w:World}{sb ob s:Nat}{f:Int}{n:Nat}{ps ws:List Int}{u:Option Addr}{len cap:Nat}(h:eP F t w sb ob s f n ps ws u len cap):s<w.heap.size:=aJ h.c0
theorem eP.step {F F' I:Nat→Prop}{w Q:World}{sb ob N:Nat}{f:Int}{n:Nat}{ps ws:List Int}{J:Option Addr}{len cap:Nat}(h:eP F I w sb ob N f n ps ws J len cap)(s:af F w Q)(hs:∀j,F' j→F j∨w.heap.size≤j)(U:0<ws.length):eP F' I Q sb ob N f n ps ws J len cap:=by
 have I:=h.lt;refine⟨s.cellAt h.eB h.c0,s.cellAt h.eB h.c1,s.cellAt h.eB h.c2,s.cellAt h.eB h.c3,s.cellAt h.eB h.c4,fun u=>?_,fun i x E=>?_,fun b off O u=>?_,h.hl.keep s (fun k z I=>h.hR k z I),fun k z u=>?_⟩
 ·rcases hs _ u with q|q;·exact h.eB q
  ·omega
 ·obtain⟨r,b,off,t,D⟩:=h.b1 i x E;exact⟨r,b,off,t,s.cellAt (h.nw b off t) D⟩
 ·obtain⟨x,E⟩:∃x,ws[0]?=some x:=⟨_,aQ U⟩;obtain⟨r,s,I,t,D⟩:=h.b1 0 x E;rw[O]at t;cases t;have T:=aJ D;dsimp only at T;rcases hs _ u with q|q;·exact h.nw b off O q
  ·omega
 ·rcases hs _ u with q|q;·exact h.hR k z q
  ·have:=h.hl.lt k z;omega
theorem eP.U {F s:Nat→Prop}{w z:World}{sb ob u:Nat}{f:Int}{n:Nat}{ps ws:List Int}{t:Option Addr}{len cap:Nat}(h:eP F s w sb ob u f n ps ws t len cap)(D:ae w z)(E:0<ws.length):eP F s z sb ob u f n ps ws t len cap:=h.step (D.upd F) (fun _ h=>.inl h) E
def dJ (f:Int)(M:St)(has:Nat→Bool)(vs:List Int)(x:Nat)(l:Int)(e:Edge):Prop:=aN f M vs.length (ef has vs x) l e∧gp M f e l
theorem dJ.ext {f:Int}{M M':St}{has:Nat→Bool}(s:aP M M')(u:M.wf)(t:1≤f∧f≤5){vs:List Int}{x:Nat}{l:Int}{e:Edge}(h:dJ f M has vs x l e):dJ f M' has vs x l e:=
 ⟨aN.ext s t _ _ _ _ h.1,pD s u h.2⟩
theorem dJ.ee {f:Int}{M:St}{has:Nat→Bool}{v:Int}{vs:List Int}{x:Nat}{l:Int}{lo hi e:Edge}(s:dJ f M has vs x (l+1) lo)(t:dJ f M has vs (x ||| 2 ^ v.toNat) (l+1) hi)(u:dn f M l lo hi e)(z:gp M f e l):dJ f M has (v::vs) x l e:=by
 refine⟨⟨jC has (v::vs) x,lo,hi,?_,?_,u⟩,z⟩
 ·show aN f M vs.length ((ef has vs x++ef has vs (x ||| 2 ^ v.toNat)).take (2 ^ vs.length)) (l+1) lo;rw[List.take_left' (jC has vs x)];exact s.1
 ·show aN f M vs.length ((ef has vs x++ef has vs (x ||| 2 ^ v.toNat)).drop (2 ^ vs.length)) (l+1) hi;rw[List.drop_left' (jC has vs x)];exact t.1
def jw (f:Int)(F:Nat→Prop)(s:World)(sb:Nat)(M:St)(has:Nat→Bool)(vs:List Int)(x:Nat)(l:Int)(r:Ending)(t:World):Prop:=
 ∃e M',r=.returned (.tuple #[.agg #[.int .u8 e.tag,.int .u32 e.to],.int .u8 0])∧e.ok∧dJ f M' has vs x l e∧(du M M' ((2 ^ vs.length-1:Nat):Int)∧(M.cj→M'.cj))∧bx F s t sb M'
theorem rF (f:Int)(a0:bZ f=true){F u:Nat→Prop}{w:World}{sb ob O:Nat}{M:St}{n:Nat}{ps ws:List Int}{ax:Option Addr}{len cap:Nat}(h:aq F w sb M)(t:eP F u w sb ob O f n ps ws ax len cap)(a2:ws.length=len)(a3:len≤1048576)(a4:eI (n:Int) ws=true)(x:Nat)(a9:x<2 ^ n)(I:M.n=(n:Int)) :
  Calls Tryz.prog 98 #[.pointer (some ⟨O,0,none⟩),.int .i64 (n:Int),.int .i64 (x:Int)] w (jw f F w sb M (hasB ws) [] x (n:Int)):=by
 have ab:=h.wf.b0
 rw[I]at ab
 have T:=fun(u:World) (U:ae w u)=>cX (h.U U)
 have Q:=fun(u:World) (U:ae w u)=>yv n x ax len cap ws u a2 a3 (t.b1.U U) a4 a9
 have ay:=fun(u:World)=>oY f (n:Int) u a0 (by omega) ab
 rw[I]at T
 have a8:1≤f∧f≤5:=by simpa[bZ]using a0
 have Y:dJ f M (hasB ws) [] x (n:Int) (bI f (hasB ws x) (n:Int)):=⟨⟨_,rfl,rfl⟩,by rw[←I];exact nI h.wf⟩
 have W:(bI f (hasB ws x) (n:Int)).ok:=lJ (by omega) ab
 have u:=t.c0
 have a6:=t.c2
 have u:=t.c3
 have u:=t.c4
 have a7:=t.lt
 have u:x≤65536:=by
  have:2 ^ n≤2 ^ 16:=cJ (by decide) (by omega);have u:(2:Nat) ^ 16=65536:=rfl;omega
 obtain⟨b,V⟩:∃b,b=hasB ws x:=⟨_,rfl⟩
 rw[←V]at Y Q W
 have aw:=aa T
 have av:=aa Q
 have J:=aa ay
 have N:=aa h
 have D:=aa Y
 have z:=aa W
 have X:eV f (n:Int)=bI f true (n:Int):=rfl
 have Z:(⟨0,0⟩:Edge)=bI f false (n:Int):=rfl
 have am:=aa V
 clear T Q ay h t Y a2 a3 a4 I a8 V W
 have a1:du M M ((2 ^ ([]:List Int).length-1:Nat):Int)∧(M.cj→M.cj):=⟨du.refl N.out.wf (by decide),fun h=>h⟩
 cases b with
 |true=>
  rw[←X]at D z;obtain⟨e,he⟩:∃e,e=eV f (n:Int):=⟨_,rfl⟩;rw[←he]at D z J;clear he X Z am;go_enter Tryz.func98,Tryz.ntmps98;go_wp2_with fail;refine(aw.out _ kp).mono ?_;rintro r w1 ⟨rfl,rfl⟩;go_wp2_with fail;refine(av.out _ kp).mono ?_;rintro r a' ⟨rfl,s⟩;have t:=s.cell (a:=⟨O,2,none⟩) (v:=.int .u8 f) (by simp[go_sem,a6,a7]);have ah:=s.I (a:=⟨w.heap.size,0,none⟩) (v:=.int .u8 0);have al:=s.I (a:=⟨w.heap.size,1,none⟩) (v:=.int .u32 0);have a5:=fun o:Nat=>s.c8 (a:=⟨w.heap.size,o,none⟩);have ad:=s.size;simp only[ak]at ad;go_wp2_with fail;refine(J.out _).mono ?_;rintro r t ⟨rfl,E⟩;have ba:=E.cell ah;have bb:=E.cell al;have t:=fun o:Nat=>E.frz (a:=⟨w.heap.size,o,none⟩) (by dsimp only;omega) (a5 o);have t:=E.size;go_wp2_with fail;all_goals refine an (v:=.tuple #[.agg #[.int .u8 e.tag,.int .u32 e.to],.int .u8 0]) (by simp[results,Tryz.results98,go_sem,ba,bb]) rfl ?_
  all_goals refine⟨e,M,rfl,z.out,D.out,a1,(bx.refl N.out).U kp⟩
 |false=>
  rw[←Z]at D z;clear X Z am J;go_enter Tryz.func98,Tryz.ntmps98;go_wp2_with fail;refine(aw.out _ kp).mono ?_;rintro r w1 ⟨rfl,rfl⟩;go_wp2_with fail;refine(av.out _ kp).mono ?_;rintro r a' ⟨rfl,s⟩;have ah:=s.I (a:=⟨w.heap.size,0,none⟩) (v:=.int .u8 0);have al:=s.I (a:=⟨w.heap.size,1,none⟩) (v:=.int .u32 0);have a5:=fun o:Nat=>s.c8 (a:=⟨w.heap.size,o,none⟩);have ad:=s.size;simp only[ak]at ad;go_wp2_with fail;all_goals refine an (v:=.tuple #[.agg #[.int .u8 0,.int .u32 0],.int .u8 0]) (by simp[results,Tryz.results98,go_sem,ah,al]) rfl ?_
  all_goals refine⟨⟨0,0⟩,M,rfl,z.out,D.out,a1,(bx.refl N.out).U kp⟩
theorem rE (f:Int)(ez:bZ f=true){F b5:Nat→Prop}{w:World}{sb ob U:Nat}{M:St}{n l:Nat}{ps ws:List Int}{cd:Option Addr}{len cap:Nat}(v:Int)(vs:List Int)(p:Nat)(cx:2 ^ vs.length=p)(e8:1≤p)(e9:p≤65536)(h:aq F w sb M)(ad:eP F b5 w sb ob U f n ps ws cd len cap)(c6:0<ws.length)(x:Nat)(bv:x<2 ^ n)(a4:M.n=(n:Int))
  (c5:ps[l]?=some v) (fa:0≤v) (fb:v<(n:Int)) (ci:l+(vs.length+1)=n) (cD:M.len+((2*p-1:Nat):Int)≤M.a7)
  (bw:∀(F:Nat→Prop) (s:World) (M:St) (x:Nat),aq F s sb M→eP F b5 s sb ob U f n ps ws cd len cap→x<2 ^ n→M.n=(n:Int)→M.len+((p-1:Nat):Int)≤M.a7 →
    Calls Tryz.prog 98 #[.pointer (some ⟨U,0,none⟩),.int .i64 ((l:Int)+1),.int .i64 (x:Int)] s (jw f F s sb M (hasB ws) vs x ((l:Int)+1))) :
  Calls Tryz.prog 98 #[.pointer (some ⟨U,0,none⟩),.int .i64 (l:Int),.int .i64 (x:Int)] w (jw f F w sb M (hasB ws) (v::vs) x (l:Int)):=by
 have t:1≤f∧f≤5:=by simpa[bZ]using ez
 have e0:n≤16:=by have:=h.wf.b0;omega
 obtain⟨u,rfl⟩:∃u:Nat,v=(u:Int):=⟨v.toNat,by omega⟩
 have b5:x<65536:=by
  have:2 ^ n≤2 ^ 16:=cJ (by decide) e0;have en:(2:Nat) ^ 16=65536:=rfl;omega
 have b5:2 ^ u<65536:=by
  have:2 ^ u<2 ^ 16:=Nat.pow_lt_pow_right (by decide) (by omega);have en:(2:Nat) ^ 16=65536:=rfl;omega
 have c8:x ||| 2 ^ u<2 ^ n:=Nat.or_lt_two_pow bv (Nat.pow_lt_pow_right (by decide) (by omega))
 have a8:¬F w.heap.size:=fun t=>by have:=h.lt _ t;omega
 have bd:=fun(s:World) (b5:ae w s)=>cX (h.U b5)
 rw[a4]at bd
 have eb:=aa bd
 have d1:=aa (fun(s:World) (D:ae w s)=>bw F s M x (h.U D) (ad.U D c6) bv a4 (by omega))
 have d3:=aa bw
 have b5:=aa h
 have dk:=aa ad
 have b6:=aa ci
 have bb:=aa cx
 have b8:=aa cD
 have I:=aa t
 have ed:=aa c8
 have b7:=aa a4
 have ea:=aa c5
 have ca:=aa c6
 have et:=ad.c0
 have b5:=ad.lt
 have b5:¬(l:Int)=(n:Int):=by omega
 have b5:l≤16:=by omega
 have c7:=m6 (x:=(u:Int)) (by omega)
 rw[bG]at c7
 have cv:=o4 x (2 ^ u) (by omega) (by omega)
 have cy:((2 ^ u:Nat):Int)=2 ^ u:=by push_cast;rfl
 rw[cy]at cv
 clear h ad bw ci cx cD a4 c5 bd c8 cy bv
 go_enter Tryz.func98,Tryz.ntmps98
 go_wp2_with fail
 refine(eb.out _ kp).mono ?_
 rintro r ad ⟨rfl,rfl⟩
 go_wp2_with fail
 refine(d1.out _ kp).mono ?_
 rintro r w1 ⟨lo,cb,rfl,cj,co,⟨ah,c0⟩,a5⟩
 have ay:=a5.cell a8 (o:=0) (v:=.int .u8 0) (by simp)
 have a0:=a5.cell a8 (o:=1) (v:=.int .u32 0) (by simp)
 have ba:=fun o:Nat=>a5.frz (b:=w.heap.size) (o:=o) (by simp) a8 (by simp[go_sem])
 obtain⟨⟨a1,a9,aw⟩,b1⟩:=a5
 have e1:=b1.size
 simp only[ak]at aw e1
 have b2:af F w w1:=(ae.upd ((ae.refl w).alloc _) F).bd b1
 have a6:¬a1 w.heap.size:=fun t=>by rcases aw _ t with q|q;exact a8 q;omega
 have b0:¬a1 w1.heap.size:=fun t=>by have:=a9.lt _ t;omega
 have O:=dk.out.step (F':=a1) b2 (fun j am=>by rcases aw j am with q|q;exact .inl q;right;omega) ca.out
 have ad:cb.n=(n:Int):=by rw[ah.ext.n];exact b7.out
 have Z:=ah.len
 have bc:=ah.a7
 rw[bb.out]at Z
 have d2:=aa (fun(s:World) (D:ae w1 s)=>d3.out a1 s cb (x ||| 2 ^ u) (a9.U D) (O.U D ca.out) ed.out ad (by have:=b8.out;omega))
 have ec:=aa (fun(s:World) (D:ae w1 s)=>wT (O.hl.U D) l (u:Int) ea.out)
 have el:=O.c0
 have a1:=O.c1
 have em:=O.c2
 have cf:=O.lt
 have dl:=aa O
 have a1:=aa a9
 have d5:=aa co
 have Y:=aa ah
 have d7:=aa c0
 have d8:=aa b2
 have cc:=aa aw
 have cl:w.heap.size<w1.heap.size:=by omega
 have a1:U≠w1.heap.size:=by omega
 clear a9 co ah b1 b2 ad Z bc aw O c0 et
 go_wp2_with fail
 refine(ec.out _ kp).mono ?_
 rintro r O ⟨rfl,rfl⟩
 go_wp2_with fail
 refine(d2.out _ kp).mono ?_
 rintro r E ⟨hi,J,rfl,ch,a3,⟨z,c1⟩,T⟩
 have c':=dl.out.eB
 have ay:=T.cell a6 (o:=0) (v:=.int .u8 0) (by simp[go_sem,cl,ay])
 have a0:=T.cell a6 (o:=1) (v:=.int .u32 0) (by simp[go_sem,cl,a0])
 have ba:=fun o:Nat=>T.frz (b:=w.heap.size) (o:=o) (by simp;omega) a6 (by rw[World.frozen?_alloc_old _ _ _ (by show w.heap.size≠w1.heap.size;omega)];exact ba o)
 have e6:=T.cell b0 (o:=0) (v:=.int .u8 lo.tag) (by simp)
 have e7:=T.cell b0 (o:=1) (v:=.int .u32 lo.to) (by simp)
 have O:=T.cell c' (o:=0) (v:=.pointer (some ⟨sb,0,none⟩)) (by simp[go_sem,cf,el])
 have O:=T.cell c' (o:=2) (v:=.int .u8 f) (by simp[go_sem,cf,em])
 obtain⟨⟨X,W,ax⟩,b3⟩:=T
 have e2:=b3.size
 simp only[ak]at ax e2
 have dj:af F w E:=(d8.out.bd (ae.upd ((ae.refl w1).alloc _) F)).trans (b3.mono (fun k D t=>by
  rcases cc.out k t with q|q;·exact .inl q
  ·exact .inr ⟨by omega,D⟩))
 have a7:¬X w.heap.size:=fun t=>by rcases ax _ t with q|q;exact a6 q;omega
 have O:¬X w1.heap.size:=fun t=>by rcases ax _ t with q|q;exact b0 q;omega
 have O:¬X E.heap.size:=fun t=>by have:=W.lt _ t;omega
 have a2:=dJ.ext z.ext Y.out.wf I.out d5.out
 have cp:J.n=M.n:=z.ext.n.trans Y.out.ext.n
 have eR:J.n=(n:Int):=cp.trans b7.out
 have bh:(l:Int)+1+(vs.length:Int)=J.n:=by have:=b6.out;omega
 have cB:=a2.1.leads z.wf I.out bh
 have cz:=a3.1.leads z.wf I.out bh
 have Z:=Y.out.len
 have ce:=z.len
 have bc:=Y.out.a7
 have er:=z.a7
 have eA:=b6.out
 have eS:=b8.out
 rw[bb.out]at Z ce
 have av:=oJ z.wf I.out (l:=(l:Int)) (by omega) (by omega) (by omega) cB cz a2.2 a3.2
 obtain⟨e,he⟩:∃e,e=bS f J (aT f J (l:Int) lo hi):=⟨_,rfl⟩
 obtain⟨N,ab⟩:∃N,N=bT J (aT f J (l:Int) lo hi):=⟨_,rfl⟩
 have be:=av.ee
 have bn:=av.right
 have al:=av.c'
 rw[←he,←ab]at be bn
 rw[←ab]at al
 have c2:J.cj→N.cj:=fun hs=>by rw[ab];exact pN hs _
 have d6:Hid (∀(s:World),ae E s→Calls Tryz.prog 71 #[.pointer (some ⟨sb,0,none⟩),.int .u8 f,.int .i64 (l:Int),.agg #[.int .u8 lo.tag,.int .u32 lo.to],.agg #[.int .u8 hi.tag,.int .u32 hi.to]] s fun r J=>r=.returned (.tuple #[.agg #[.int .u8 e.tag,.int .u32 e.to],.int .u8 0])∧bx X s J sb N):=
  aa (fun s D=>by
   have s:=lz (W.U D) f (l:Int) lo hi cj ch;rw[l7 I.out]at s;have ev:=av.gy;refine s.mono fun r J bi=>⟨?_,?_⟩
   ·rw[bi.1,he];congr 2
    simp only[Array.mk.injEq,List.cons.injEq,Value.int.injEq,true_and,and_true];exact⟨rfl,ev⟩
   ·rw[ab]
    exact bx.of bi.2.1 bi.2.2)
 have D:dJ f N (hasB ws) ((u:Int)::vs) x (l:Int) e:=by
  refine dJ.ee (dJ.ext al.ext z.wf I.out a2) ?_ be bn;exact dJ.ext al.ext z.wf I.out a3
 have J:du M N ((2 ^ ((u:Int)::vs).length-1:Nat):Int)∧(M.cj→N.cj):=by
  refine⟨((Y.out.trans z (Int.le_refl _)).trans al ?_),fun hs=>c2 (c1 (d7.out hs))⟩;rw[eN,dA,bb.out];omega
 have s:e.ok:=by
  rw[he];exact mq W.wf W.cp cj ch (by omega) (by have:=W.wf.b0;omega) I.out
 have dB:=aa D
 have d0:=aa J
 have ds:=aa s
 have d9:=aa dj
 have ee:=aa ax
 have cn:w.heap.size<E.heap.size:=by omega
 have u:w1.heap.size<E.heap.size:=by omega
 have u:U<E.heap.size:=by omega
 have u:E.heap.size≠w1.heap.size:=by omega
 have u:E.heap.size≠w.heap.size:=by omega
 have u:E.heap.size≠U:=by omega
 clear W a2 a3 z b3 dj cp eR bh cB cz Z ce bc er eA eS av be bn al D J s he ab ax c1 c2 c7 cv
 go_wp2_with fail
 refine Ar 11 #[true,true,true,true,true,true,true,true,true,true,true,false,false,false,false,false] (by kernel_rfl) (by kernel_rfl) ?_
 simp only[List.take_succ_cons,List.take_zero,List.drop_succ_cons,List.drop_zero]
 repeat still_step
 refine wpStill_nil ?_
 refine wpAny_ready (fuel:=4) (rs:=[11]) (by kernel_rfl) (by decide) (AllReady.cons rfl (fun K Q=>?_) AllReady.nil)
 go_simp
 refine(d6.out _ kp).mono ?_
 rintro r e5 ⟨rfl,V⟩
 have ay:=V.cell a7 (o:=0) (v:=.int .u8 0) (by simp[go_sem,cn,ay])
 have a0:=V.cell a7 (o:=1) (v:=.int .u32 0) (by simp[go_sem,cn,a0])
 have ba:=fun o:Nat=>V.frz (b:=w.heap.size) (o:=o) (by simp;omega) a7 (by simp only[World.frozen?_drew];rw[World.frozen?_alloc_old _ _ _ (by show w.heap.size≠E.heap.size;omega)];exact ba o)
 have e3:=V.upd.size
 simp only[ak,World.a6]at e3
 have eB:w.heap.size<e5.heap.size:=by omega
 have bt:∀j,X j→F j∨w.heap.size≤j:=fun j am=>by
  rcases ee.out j am with q|q
  ·rcases cc.out j q with q|q;·exact .inl q
   ·right;omega
  ·right;omega
 have c3:=bx.step bt d9.out (((ae.refl E).alloc _).drew) V
 obtain⟨⟨b4,db,a'⟩,e4⟩:=V
 simp only[ak,World.a6]at a'
 have da:¬b4 w.heap.size:=fun t=>by rcases a' _ t with q|q;exact a7 q;omega
 have c4:∀j,b4 j→F j∨w.heap.size≤j:=fun j am=>by
  rcases a' j am with q|q;·exact bt j q
  ·right;omega
 have b9:=aa (bx.gh db c4 c3.upd da (aI _))
 clear c3 db a' e4 da c4 bt e6 e7
 refine Q _ _ ?_
 clear Q K
 refine wpAny_take (i:=12) (v:=?_) rfl (by kernel_rfl) (by kernel_rfl) (by kernel_rfl) (fun _ _ _ h=>h) (Or.inl ⟨by rfl,?_⟩) ?_
 rotate_left
 ·intro w;go_simp;try with_reducible rfl
 refine wpAny_take (i:=13) (v:=?_) rfl (by kernel_rfl) (by kernel_rfl) (by kernel_rfl) (fun _ _ _ h=>h) (Or.inl ⟨by rfl,?_⟩) ?_
 rotate_left
 ·intro w;go_simp;try with_reducible rfl
 refine wpAny_ready (rs:=[14]) (by kernel_rfl) (by decide) (AllReady.cons rfl (fun K Q=>?_) AllReady.nil)
 go_simp
 refine Q _ _ ?_
 clear Q K
 refine wpAny_ready (rs:=[15]) (by kernel_rfl) (by decide) (AllReady.cons rfl (fun K Q=>?_) AllReady.nil)
 go_simp
 refine Q _ _ ?_
 clear Q K
 refine wpAny_done (by kernel_rfl) ?_ _
 go_wp2
 all_goals refine an (v:=.tuple #[.agg #[.int .u8 e.tag,.int .u32 e.to],.int .u8 0]) (by simp[results,Tryz.results98,go_sem,eB,ay,a0]) rfl ?_
 all_goals refine⟨e,N,rfl,ds.out,dB.out,d0.out,?_⟩
 all_goals first|exact(b9.out _ _)|exact(b9.out _ _).U kp
theorem rD (f:Int)(N:bZ f=true){T:Nat→Prop}{sb ob J:Nat}{n:Nat}{ps ws:List Int}{U:Option Addr}{len cap:Nat}(W:ws.length=len)(X:len≤1048576)(I:eI (n:Int) ws=true)(O:ps.length=n)(ab:∀v∈ps,0≤v∧v<(n:Int)) :
  ∀(vs pre:List Int),ps=pre++vs→∀(F:Nat→Prop) (s:World) (M:St) (x:Nat),aq F s sb M→eP F T s sb ob J f n ps ws U len cap→x<2 ^ n→M.n=(n:Int)→M.len+((2 ^ vs.length-1:Nat):Int)≤M.a7 →
   Calls Tryz.prog 98 #[.pointer (some ⟨J,0,none⟩),.int .i64 (pre.length:Int),.int .i64 (x:Int)] s (jw f F s sb M (hasB ws) vs x (pre.length:Int)):=by
 have ah:0<ws.length:=by have:=(iQ.1 I).2.1;omega
 have J:n≤16:=by have:=(iQ.1 I).1;omega
 intro vs
 induction vs with
 |nil=>
  intro pre t F s M x h u E z D;rw[List.append_nil]at t;subst t;rw[O];exact rF f N h u W X I x E z
 |cons v vs al=>
  intro pre t F s M x h u E z D;have Y:pre.length+(vs.length+1)=n:=by rw[←O,t,fW,eN]
  have I:2 ^ vs.length≤2 ^ 16:=cJ (by decide) (by omega);have I:(2:Nat) ^ 16=65536:=rfl;have Z:0<2 ^ vs.length:=iC (by decide);have V:2 ^ (vs.length+1)=2*2 ^ vs.length:=by rw[dA];omega
  have ad:ps[pre.length]?=some v:=by rw[t,j8 (aI _),Nat.sub_self];rfl
  have Q:=ab v (by rw[t];simp);rw[eN,V]at D
  exact rE f N v vs (2 ^ vs.length) rfl Z (by omega) h u ah x E z ad Q.1 Q.2 Y D (fun F s M x h u E z D=>by
   have:=al (pre++[v]) (by rw[t];simp) F s M x h u E z D;rw[fW,List.length_singleton]at this
   exact_mod_cast this)
theorem rS {F ah:Nat→Prop}{w:World}{sb ob:Nat}{M:St}{ps ws:List Int}(h:aq F w sb M)(Y:dm ah w ob ps)(a9:∀k,F k→¬ah k)(X:M.n=(ps.length:Int))(f:Int)(T:bZ f=true)
  (z:Option Addr) (len cap:Nat) (av:ws.length=len) (ba:len≤1048576) (J:bq w z ws) (be:∀b off,z=some ⟨b,off,none⟩→¬F b) (Q:eI (ps.length:Int) ws=true) (bh:M.len+((2 ^ ps.length-1:Nat):Int)≤M.a7) :
  Calls Tryz.prog 45 #[.pointer (some ⟨sb,0,none⟩),.pointer (some ⟨ob,0,none⟩),.int .u8 f,.agg #[.int .i64 (ps.length:Int),.slice z len cap]] w (jw f F w sb M (hasB ws) ps 0 0):=by
 have aw:=gQ.1 Y.perm
 have bc:=fun(s:World) (u:ae w s)=>rR (h.U u) (Y.U u) X f T
 have cx:0<ws.length:=by have:=(iQ.1 Q).2.1;omega
 have al:=fun(s:World) (I:Nat) (u:ae w s) (ca:w.heap.size≤I) (ca:s.cell? ⟨I,0,none⟩=some (.pointer (some ⟨sb,0,none⟩))) (cb:s.cell? ⟨I,1,none⟩=some (.pointer (some ⟨ob,0,none⟩))) (cc:s.cell? ⟨I,2,none⟩=some (.int .u8 f)) (cd:s.cell? ⟨I,3,none⟩=some (.int .i64 (ps.length:Int))) (ce:s.cell? ⟨I,4,none⟩=some (.slice z len cap))=>by
  have cv:¬F I:=fun co=>by have:=h.lt _ co;omega
  have cn:eP F ah s sb ob I f ps.length ps ws z len cap:=⟨ca,cb,cc,cd,ce,cv,J.U u,be,Y.U u,fun k I ah=>a9 k ah I⟩;have:=rD f T av ba Q rfl aw.2.1 ps [] rfl F s M 0 (h.U u) cn (iC (by decide)) X bh;exact this
 have ab:=fun(s:World) (u:ae w s)=>cX (h.U u)
 have Z:=fun(s:World) (u:ae w s)=>pK (ps.length:Int) z len cap ws s av ba (J.U u)
 rw[Q]at Z
 rw[X]at ab
 have bb:=h.lt
 have b3:=aa bb
 obtain⟨n,bd⟩:∃n,n=ps.length:=⟨_,rfl⟩
 rw[←bd]at al ab Z ⊢
 have b4:=aa bc
 have b1:=aa al
 have b8:=aa ab
 have b6:=aa Z
 have u:n≤16:=by have:=aw.1;omega
 clear h Y a9 X av J be Q bh aw bc cx al ab Z bb bd
 go_enter Tryz.func45,Tryz.ntmps45
 go_wp2_with fail
 refine(b4.out _ kp).mono ?_
 rintro r w1 ⟨rfl,N⟩
 have ax:=N.I (a:=⟨w.heap.size,0,none⟩) (v:=.int .i64 (n:Int))
 have ay:=N.I (a:=⟨w.heap.size,1,none⟩) (v:=.slice z len cap)
 have a3:=N.I (a:=⟨w.heap.size+1,0,none⟩) (v:=.int .u8 0)
 have a4:=N.I (a:=⟨w.heap.size+1,1,none⟩) (v:=.int .u32 0)
 have a5:=fun o:Nat=>N.c8 (a:=⟨w.heap.size+1,o,none⟩)
 have cD:=N.size
 simp only[ak]at cD
 have am:ae w w1:=(((ae.refl w).alloc _).alloc _).trans N
 go_wp2_with fail
 have b9:=aa (fun(s:World) (J:ae w1 s)=>b8.out s (am.trans J))
 have b7:=aa (fun(s:World) (J:ae w1 s)=>b6.out s (am.trans J))
 have cz:=au.cell ax
 have cB:=au.cell ay
 refine eJ (w1) (by kernel_rfl) (by kernel_rfl) kp ?_;(repeat (go_big_quiet_step ((first|(go_at_call 97;with_reducible refine Calls.b' (b7.out _ (au.keep _)))|(go_at_call 48;with_reducible refine Calls.c6 (b9.out _ (au.keep _)))))));refine wpQuiet_nil ?_;rintro E ⟨⟨_,O⟩,rfl⟩;try dsimp only
 replace ax:=O.cell ax
 replace ay:=O.cell ay
 replace a3:=O.cell a3
 replace a4:=O.cell a4
 replace a5:=fun o:Nat=>O.frz (a:=⟨w.heap.size+1,o,none⟩) (by dsimp only;omega) (a5 o)
 have s:=O.size
 have W:=am.trans O
 clear cz cB
 go_wp2_with fail
 obtain⟨t,D⟩:∃t,t=E.alloc (.cells #[.pointer (some ⟨sb,0,none⟩),.pointer (some ⟨ob,0,none⟩),.int .u8 f,.int .i64 (n:Int),.slice z len cap] 175):=⟨_,rfl⟩
 have V:ae E t:=by rw[D];exact(ae.refl _).alloc _
 have cf:t.cell? ⟨E.heap.size,0,none⟩=some (.pointer (some ⟨sb,0,none⟩)):=by rw[D];simp[go_sem]
 have ch:t.cell? ⟨E.heap.size,1,none⟩=some (.pointer (some ⟨ob,0,none⟩)):=by rw[D];simp[go_sem]
 have ci:t.cell? ⟨E.heap.size,2,none⟩=some (.int .u8 f):=by rw[D];simp[go_sem]
 have cj:t.cell? ⟨E.heap.size,3,none⟩=some (.int .i64 (n:Int)):=by rw[D];simp[go_sem]
 have cl:t.cell? ⟨E.heap.size,4,none⟩=some (.slice z len cap):=by rw[D];simp[go_sem]
 have s:t.heap.size=E.heap.size+1:=by rw[D];simp
 rw[←D]
 clear D
 have a1:=V.cell a3
 have a2:=V.cell a4
 have bw:=fun o:Nat=>V.frz (a:=⟨w.heap.size+1,o,none⟩) (by dsimp only;omega) (a5 o)
 refine(b1.out t E.heap.size (W.trans V) W.size cf ch ci cj cl).mono ?_
 rintro r c0 ⟨e,M',rfl,Q,a8,a',U⟩
 have ad:¬F (w.heap.size+1):=fun T=>by have:=b3.out _ T;omega
 replace a1:=U.cell ad a1
 replace a2:=U.cell ad a2
 replace bw:=fun o:Nat=>U.frz (b:=w.heap.size+1) (o:=o) (by omega) ad (bw o)
 have cy:w.heap.size+1<c0.heap.size:=by have:=U.upd.size;omega
 have bv:=(bx.after (W.trans V) U).upd
 obtain⟨⟨a6,bn,a0⟩,-⟩:=U
 have bi:¬a6 (w.heap.size+1):=fun T=>by
  rcases a0 _ T with q|q;·exact ad q
  ·omega
 have bt:∀j,a6 j→F j∨w.heap.size≤j:=fun j cp=>by
  rcases a0 j cp with q|q;·exact .inl q
  ·right;have:=W.size;omega
 have a7:=aa (bx.gh bn bt bv bi (Nat.le_succ _))
 have b5:=aa Q
 have b0:=aa a8
 have b2:=aa a'
 clear Q a8 a' bn a0 bt bv bi
 go_wp2_with fail
 all_goals refine an (v:=.tuple #[.agg #[.int .u8 e.tag,.int .u32 e.to],.int .u8 0]) (by simp[results,Tryz.results45,go_sem,cy,a1,a2]) rfl ?_
 all_goals refine⟨e,M',rfl,b5.out,b0.out,b2.out,?_⟩
 all_goals first|exact(a7.out _ _)|exact(a7.out _ _).U kp
def mO (f:Int)(k:Nat)(ts:List Bool)(l:Int):ByteArray:=
 if f=1 then gS k ts l else if f=2 then gV k ts l else if f=3 then gT (k+1) k ts l else if f=4 then gU (k+1) k ts l else iS (k+1) k ts l
theorem nS {f:Int}(s:1≤f∧f≤5):f=1∨f=2∨f=3∨f=4∨f=5:=by omega
theorem zV {f:Int}{M:St}(s:M.wf)(u:1≤f∧f≤5){k:Nat}{ts:List Bool}{l:Int}{e:Edge}(h:aN f M k ts l e)(t:l+(k:Nat)=M.n)(h0:0≤l)(m:Nat)(hm:k≤m):bW f M (m+1) e=mO f k ts l:=by
 rcases nS u with rfl|rfl|rfl|rfl|rfl;·exact zQ s k ts l e h m hm
 ·exact zR k ts l e h m hm
 ·exact zS s k ts l e h t m k hm (aI _)
 ·exact zT s k ts l e h t m k hm (aI _)
 ·exact zU s k ts l e h t h0 m k hm (aI _)
theorem aq.hD {F:Nat→Prop}{w:World}{sb:Nat}{M:St}(h:aq F w sb M)(f:Int)(t:M.n≤9):dX f M:=⟨h.wf,fun _ _ s=>⟨(h.b7 s).lo.2.1,(h.b7 s).hi.2.1⟩,t⟩
def kQ (f:Int)(k:Nat)(bs:List Bool):Nat:=(eW (mO f k bs 0) (mO f k bs 0).size).length
theorem vo {f:Int}{F:Nat→Prop}{w:World}{sb k:Nat}{M:St}{bs:List Bool}{x:Edge}(r:aq F w sb M)(s:1≤f∧f≤5)(z:k≤6)(u:(0:Int)+(k:Nat)=M.n)(I:bs.length=2 ^ k)(hm:dZ f M bs k 0 0 x)(E:x.ok) :
  aN f M k bs 0 x∧(bV M.cs [x.to]).length=kQ f k bs∧cq M f x 0=0:=by
 have m:=hm.1
 rw[List.drop_zero,fm (by omega)]at m
 have t:=m.leads r.wf s u
 have z:At f M x 0 (k+1):=⟨t,E.2.1,by push_cast;omega⟩
 refine⟨m,?_,?_⟩
 ·rw[←xi (r.hD f (by omega)) (k+1) x 0 z,zV r.wf s m u (Int.le_refl _) k (aI _)];rfl
 ·unfold cq;have D:bZ f=true:=by rcases nS s with rfl|rfl|rfl|rfl|rfl<;>rfl
  rw[ag (by rw[D];simp),ag (by omega),ag (by rw[t];simp)]
end Go.Proofs.YtafkamlhimkbmaaGreat
