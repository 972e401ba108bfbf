/-
  The walk of law17.Made, any form (printed by wip/mk_madek.py).
-/
import Derived.Test.YtafkamlhimkbmaaGreatPCube
import Derived.Test.YtafkamlhimkbmaaGreatPKPlain
namespace Go.Proofs.YtafkamlhimkbmaaGreat
set_option maxRecDepth 1000000
set_option maxHeartbeats 8000000
set_option linter.unusedSimpArgs false
set_option linter.unusedVariables false
open Go.RowKit
def dZ (f:Int)(M:St)(bs:List Bool)(k off:Nat)(l:Int)(e:Edge):Prop:=aN f M k ((bs.drop off).take (2 ^ k)) l e∧gp M f e l
theorem dZ.ext {f:Int}{M M':St}{bs:List Bool}(s:aP M M')(u:M.wf)(t:1≤f∧f≤5){k off:Nat}{l:Int}{e:Edge}(h:dZ f M bs k off l e):dZ f M' bs k off l e:=
 ⟨aN.ext s t _ _ _ _ h.1,pD s u h.2⟩
theorem dZ.ee {f:Int}{M:St}{bs:List Bool}{k off:Nat}{l:Int}{lo hi e:Edge}(s:dZ f M bs k off (l+1) lo)(t:dZ f M bs k (off+2 ^ k) (l+1) hi)(u:dn f M l lo hi e)(z:gp M f e l)(D:off+2 ^ (k+1)≤bs.length):dZ f M bs (k+1) off l e:=by
 have D:2 ^ (k+1)=2 ^ k+2 ^ k:=by rw[dA];omega
 have D:0<2 ^ k:=iC (by decide);refine⟨⟨by simp only[gG,List.length_drop];omega,lo,hi,?_,?_,u⟩,z⟩
 ·rw[List.take_take,show min (2 ^ k) (2 ^ (k+1))=2 ^ k by omega];exact s.1
 ·rw[List.drop_take,List.drop_drop,show 2 ^ (k+1)-2 ^ k=2 ^ k by omega];exact t.1
theorem l7 {M:St}{f l:Int}{lo hi:Edge}(t:1≤f∧f≤5):dE M f l lo hi=aT f M l lo hi:=by
 have s:f=1∨f=2∨f=3∨f=4∨f=5:=by omega
 rcases s with rfl|rfl|rfl|rfl|rfl<;>rfl
theorem mq {f:Int}{M:St}{l:Int}{lo hi:Edge}(h:M.wf)(t:M.cs.length≤1048576)(u:lo.ok)(D:hi.ok)(h0:0≤l)(z:l≤255)(E:1≤f∧f≤5):(bS f M (aT f M l lo hi)).ok:=by
 have s:f=1∨f=2∨f=3∨f=4∨f=5:=by omega
 rcases s with rfl|rfl|s|s|s
 ·rw[gN];show(dx M _).ok;unfold aC cK;repeat' split
  all_goals first|exact eF|exact u|exact iF h t 0 (by omega) _
 ·rw[gO];show(dx M _).ok;unfold aC cO;repeat' split
  all_goals first|exact eF|exact u|exact iF h t 0 (by omega) _
 ·have e:aT f M l lo hi=cN f M l lo hi:=by subst s;rfl
  rw[e];exact mo h t u D h0 z (.inl s)
 ·have e:aT f M l lo hi=cN f M l lo hi:=by subst s;rfl
  rw[e];exact mo h t u D h0 z (.inr (.inl s))
 ·have e:aT f M l lo hi=cN f M l lo hi:=by subst s;rfl
  rw[e];exact mo h t u D h0 z (.inr (.inr s))
theorem tk (b:Bool)(l:Int)(w:World):Calls Tryz.prog 120 #[.bool b,.int .i64 l] w fun e s=>e=.returned (.agg #[.int .u8 (bI 3 b l).tag,.int .u32 (bI 3 b l).to])∧ae w s:=by
 cases b
 ·go_enter Tryz.func120,Tryz.ntmps120;go_wp2;all_goals refine an (v:=.agg #[.int .u8 0,.int .u32 0]) (by simp[results,Tryz.results120,go_sem]) rfl ⟨rfl,kp⟩
 ·go_enter Tryz.func120,Tryz.ntmps120;go_wp2;all_goals refine an (v:=.agg #[.int .u8 0,.int .u32 1]) (by simp[results,Tryz.results120,go_sem]) rfl ⟨rfl,kp⟩
theorem tn (f:Int)(b:Bool)(l:Int)(T:1≤f∧f≤5)(h0:0≤l)(N:l≤16)(w:World):Calls Tryz.prog 70 #[.int .u8 f,.bool b,.int .i64 l] w fun e O=>e=.returned (.agg #[.int .u8 (bI f b l).tag,.int .u32 (bI f b l).to])∧ae w O:=by
 by_cases J:f=5
 ·subst J;have s:=fun z=>tm b l h0 N z;obtain⟨e,he⟩:∃e,e=bI 5 b l:=⟨_,rfl⟩;rw[←he]at s ⊢;have u:=aa s;clear s he;go_enter Tryz.func70,Tryz.ntmps70;go_wp2_with fail;refine(u.out _).mono ?_;rintro r w1 ⟨rfl,t⟩;have D:w1.cell? ⟨w.heap.size,0,none⟩=some (.int .u8 0):=t.cell (by simp);have E:w1.cell? ⟨w.heap.size,1,none⟩=some (.int .u32 0):=t.cell (by simp);have Q:=fun o:Nat=>t.c8 (a:=⟨w.heap.size,o,none⟩);go_wp2_with fail;all_goals refine an (v:=.agg #[.int .u8 e.tag,.int .u32 e.to]) (by simp[results,Tryz.results70,go_sem,D,E]) rfl ⟨rfl,kp⟩
 ·have I:bI f b l=bI 3 b l:=by
   unfold bI;rw[ag J,ag (show¬(3:Int)=5 by decide)]
  rw[I];have s:=fun z=>tk b l z;obtain⟨e,he⟩:∃e,e=bI 3 b l:=⟨_,rfl⟩;rw[←he]at s ⊢;have u:=aa s;clear s he I;go_enter Tryz.func70,Tryz.ntmps70;go_wp2_with fail;refine(u.out _).mono ?_;rintro r w1 ⟨rfl,t⟩;have D:w1.cell? ⟨w.heap.size,0,none⟩=some (.int .u8 0):=t.cell (by simp);have E:w1.cell? ⟨w.heap.size,1,none⟩=some (.int .u32 0):=t.cell (by simp);have Q:=fun o:Nat=>t.c8 (a:=⟨w.heap.size,o,none⟩);go_wp2_with fail;all_goals refine an (v:=.agg #[.int .u8 e.tag,.int .u32 e.to]) (by simp[results,Tryz.results70,go_sem,D,E]) rfl ⟨rfl,kp⟩
def jX (f:Int)(F:Nat→Prop)(s:World)(sb:Nat)(M:St)(bs:List Bool)(k off:Nat)(l:Int)(r:Ending)(t:World):Prop:=
 ∃e M',r=.returned (.tuple #[.agg #[.int .u8 e.tag,.int .u32 e.to],.bool true])∧e.ok∧dZ f M' bs k off l e∧du M M' ((2 ^ k-1:Nat):Int)∧bx F s t sb M'
theorem uI (f:Int)(I:1≤f∧f≤5){F:Nat→Prop}{w:World}{sb B:Nat}{M:St}{bs:List Bool}(h:aq F w sb M)(E:cR w B bs)(off cap:Nat)(l:Int)(N:off<bs.length)(J:l=M.n) :
  Calls Tryz.prog 24 #[.pointer (some ⟨sb,0,none⟩),.int .u8 f,.slice (some ⟨B,off,none⟩) 1 cap,.int .i64 l] w (jX f F w sb M bs 0 off l):=by
 have X:=h.wf.n0
 have Y:=h.wf.b0
 obtain⟨b,s⟩:∃b,bs[off]?=some b:=⟨_,aQ N⟩
 have T:=E.cell s
 have U:=aJ T
 dsimp only at U
 have z:=aa (fun(T:World)=>tn f b l I (by omega) (by omega) T)
 have V:0≤l:=by omega
 have W:l≤16:=by omega
 have O:dZ f M bs 0 off l (bI f b l):=by
  refine⟨⟨b,?_,rfl⟩,by rw[J];exact nI h.wf⟩;obtain⟨U,T⟩:=List.getElem?_eq_some_iff.1 s;rw[List.drop_eq_getElem_cons U,T];rfl
 have D:=aa h
 have Q:=aa O
 have T:=aa I
 clear h E J X Y N s O
 obtain⟨e,he⟩:∃e,e=bI f b l:=⟨_,rfl⟩
 rw[←he]at z
 have u:=aa he
 clear he
 go_enter Tryz.func24,Tryz.ntmps24
 go_wp2_with fail
 refine(z.out _).mono ?_
 rintro r w1 ⟨rfl,t⟩
 have Z:w1.cell? ⟨w.heap.size,0,none⟩=some (.int .u8 0):=t.cell (by simp)
 have ab:w1.cell? ⟨w.heap.size,1,none⟩=some (.int .u32 0):=t.cell (by simp)
 have s:=fun o:Nat=>t.c8 (a:=⟨w.heap.size,o,none⟩)
 go_wp2_with fail
 all_goals refine an (v:=.tuple #[.agg #[.int .u8 e.tag,.int .u32 e.to],.bool true]) (by simp[results,Tryz.results24,go_sem,Z,ab]) rfl ?_
 all_goals refine⟨e,M,rfl,by rw[u.out];exact lJ V W,by rw[u.out];exact Q.out,du.refl D.out.wf (by decide),(bx.refl D.out).U kp⟩
theorem uH (f:Int)(s:1≤f∧f≤5){F:Nat→Prop}{w:World}{sb B:Nat}{M:St}{bs:List Bool}(k p:Nat)(ce:2 ^ k=p)(d7:1≤p)(d8:p≤1024)(h:aq F w sb M)(av:cR w B bs)(a9:¬F B)(off cap:Nat)(l:Int)(b9:0≤l)(dk:2*p≤cap)(c8:cap≤4096)(db:off+2*p≤bs.length)(bb:l+(k+1:Nat)=M.n)(ci:M.len+((2*p-1:Nat):Int)≤M.a7)
  (bn:∀(off cap:Nat) (l:Int) (F:Nat→Prop) (t:World) (M:St),aq F t sb M→cR t B bs→¬F B→0≤l→p≤cap→cap≤4096→off+p≤bs.length→l+(k:Nat)=M.n→M.len+((p-1:Nat):Int)≤M.a7 →
    Calls Tryz.prog 24 #[.pointer (some ⟨sb,0,none⟩),.int .u8 f,.slice (some ⟨B,off,none⟩) p cap,.int .i64 l] t (jX f F t sb M bs k off l)) :
  Calls Tryz.prog 24 #[.pointer (some ⟨sb,0,none⟩),.int .u8 f,.slice (some ⟨B,off,none⟩) (2*p) cap,.int .i64 l] w (jX f F w sb M bs (k+1) off l):=by
 have dk:=h.wf.b0
 have d7:=av.lt
 have a3:¬F w.heap.size:=fun s=>by have:=h.lt _ s;omega
 have d7:l≤15:=by omega
 have cB:=aa (fun(t:World) (z:ae w t)=>bn off cap (l+1) F t M (h.U z) (av.keep (ae.upd z (fun _=>False)) (fun h=>h)) a9 (by omega) (by omega) c8 (by omega) (by push_cast at bb ⊢;omega) (by omega))
 have c0:=aa bn
 have c8:=aa h
 have cv:=aa av
 have a7:=aa bb
 have V:=aa ce
 have b2:=aa ci
 have ds:(2*(p:Int)) / 2=(p:Int):=by omega
 have D:=aa s
 have c3:=aa db
 clear h av bn bb ce ci dk
 go_enter Tryz.func24,Tryz.ntmps24
 go_wp2_with fail
 refine(cB.out _ kp).mono ?_
 rintro r w1 ⟨lo,b4,rfl,ca,cd,X,a0⟩
 have ah:=a0.cell a3 (o:=0) (v:=.int .u8 0) (by simp)
 have al:=a0.cell a3 (o:=1) (v:=.int .u32 0) (by simp)
 have a6:=fun o:Nat=>a0.frz (b:=w.heap.size) (o:=o) (by simp) a3 (by simp[go_sem])
 obtain⟨⟨am,a4,ab⟩,bv⟩:=a0
 have dB:=bv.size
 simp only[ak]at ab dB
 have bw:af F w w1:=(ae.upd ((ae.refl w).alloc _) F).bd bv
 have dl:¬am B:=fun s=>by rcases ab B s with q|q;exact a9 q;omega
 have a1:¬am w.heap.size:=fun s=>by rcases ab _ s with q|q;exact a3 q;omega
 have bt:¬am w1.heap.size:=fun s=>by have:=a4.lt _ s;omega
 have a0:cR w1 B bs:=cv.out.keep bw a9
 have av:l+1+(k:Nat)=b4.n:=by have:=a7.out;rw[X.ext.n];push_cast at this ⊢;omega
 have W:=X.len
 have a8:=X.a7
 rw[V.out]at W
 have cD:=aa (fun(t:World) (z:ae w1 t)=>c0.out (off+p) (cap-p) (l+1) am t b4 (a4.U z) (a0.keep (ae.upd z (fun _=>False)) (fun h=>h)) dl (by omega) (by omega) (by omega) (by omega) av (by have:=b2.out;omega))
 have am:=aa a4
 have c1:=aa cd
 have U:=aa X
 have c4:=aa bw
 have b5:=aa ab
 have cb:w.heap.size<w1.heap.size:=by omega
 clear a4 cd X bv bw av W a8 ab
 go_wp2_with fail
 rw[show 2*p-p=p by omega]
 refine(cD.out _ kp).mono ?_
 rintro r E ⟨hi,I,rfl,b7,ay,u,N⟩
 have ah:=N.cell a1 (o:=0) (v:=.int .u8 0) (by simp[go_sem,cb,ah])
 have al:=N.cell a1 (o:=1) (v:=.int .u32 0) (by simp[go_sem,cb,al])
 have a6:=fun o:Nat=>N.frz (b:=w.heap.size) (o:=o) (by simp;omega) a1 (by rw[World.frozen?_alloc_old _ _ _ (by show w.heap.size≠w1.heap.size;omega)];exact a6 o)
 have d5:=N.cell bt (o:=0) (v:=.int .u8 lo.tag) (by simp)
 have d6:=N.cell bt (o:=1) (v:=.int .u32 lo.to) (by simp)
 obtain⟨⟨T,Q,ad⟩,b0⟩:=N
 have d0:=b0.size
 simp only[ak]at ad d0
 have cp:af F w E:=(c4.out.bd (ae.upd ((ae.refl w1).alloc _) F)).trans (b0.mono (fun k z s=>by
  rcases b5.out k s with q|q;·exact .inl q
  ·exact .inr ⟨by omega,z⟩))
 have a2:¬T w.heap.size:=fun s=>by rcases ad _ s with q|q;exact a1 q;omega
 have N:¬T w1.heap.size:=fun s=>by rcases ad _ s with q|q;exact bt q;omega
 have N:¬T E.heap.size:=fun s=>by have:=Q.lt _ s;omega
 have ax:=dZ.ext u.ext U.out.wf D.out c1.out
 have bd:I.n=M.n:=u.ext.n.trans U.out.ext.n
 have bc:l+1+(k:Nat)=I.n:=by have:=a7.out;rw[bd];push_cast at this ⊢;omega
 have ch:=ax.1.leads u.wf D.out bc
 have cf:=ay.1.leads u.wf D.out bc
 have W:=U.out.len
 have b6:=u.len
 have a8:=U.out.a7
 have c7:=u.a7
 have b8:=a7.out
 have dj:=b2.out
 rw[V.out]at W b6
 have Z:=oJ u.wf D.out b9 (by rw[bd];push_cast at b8;omega) (by omega) ch cf ax.2 ay.2
 obtain⟨e,he⟩:∃e,e=bS f I (aT f I l lo hi):=⟨_,rfl⟩
 obtain⟨J,aw⟩:∃J,J=bT I (aT f I l lo hi):=⟨_,rfl⟩
 have a':=Z.ee
 have bh:=Z.right
 have Y:=Z.c'
 rw[←he,←aw]at a' bh
 rw[←aw]at Y
 have c2:Hid (∀(t:World),ae E t→Calls Tryz.prog 71 #[.pointer (some ⟨sb,0,none⟩),.int .u8 f,.int .i64 l,.agg #[.int .u8 lo.tag,.int .u32 lo.to],.agg #[.int .u8 hi.tag,.int .u32 hi.to]] t fun r I=>r=.returned (.tuple #[.agg #[.int .u8 e.tag,.int .u32 e.to],.int .u8 0])∧bx T t I sb J):=
  aa (fun t z=>by
   have t:=lz (Q.U z) f l lo hi ca b7;rw[l7 D.out]at t;have c':=Z.gy;refine t.mono fun r I be=>⟨?_,?_⟩
   ·rw[be.1,he];congr 2
    simp only[Array.mk.injEq,List.cons.injEq,Value.int.injEq,true_and,and_true];exact⟨rfl,c'⟩
   ·rw[aw]
    exact bx.of be.2.1 be.2.2)
 have z:dZ f J bs (k+1) off l e:=by
  refine dZ.ee (dZ.ext Y.ext u.wf D.out ax) ?_ a' bh (by rw[dA,V.out];have:=c3.out;omega);rw[V.out];exact dZ.ext Y.ext u.wf D.out ay
 have I:du M J ((2 ^ (k+1)-1:Nat):Int):=by
  refine(U.out.trans u (Int.le_refl _)).trans Y ?_;rw[dA,V.out];omega
 have t:e.ok:=by
  rw[he];exact mq Q.wf Q.cp ca b7 b9 (by have:=Q.wf.b0;omega) D.out
 have cy:=aa z
 have cz:=aa I
 have cx:=aa t
 have c5:=aa cp
 have c6:=aa ad
 have cc:w.heap.size<E.heap.size:=by omega
 have D:w1.heap.size<E.heap.size:=by omega
 clear Q ax ay u b0 cp bd bc ch cf W b6 a8 c7 b8 dj Z a' bh Y z I t he aw ad ds
 go_wp2_with fail
 refine(c2.out _ kp).mono ?_
 rintro r d3 ⟨rfl,O⟩
 have ah:=O.cell a2 (o:=0) (v:=.int .u8 0) (by simp[go_sem,cc,ah])
 have al:=O.cell a2 (o:=1) (v:=.int .u32 0) (by simp[go_sem,cc,al])
 have a6:=fun o:Nat=>O.frz (b:=w.heap.size) (o:=o) (by simp;omega) a2 (by rw[World.frozen?_alloc_old _ _ _ (by show w.heap.size≠E.heap.size;omega)];exact a6 o)
 have d1:=O.upd.size
 simp only[ak]at d1
 have da:w.heap.size<d3.heap.size:=by omega
 have bi:∀j,T j→F j∨w.heap.size≤j:=fun j ba=>by
  rcases c6.out j ba with q|q
  ·rcases b5.out j q with q|q;·exact .inl q
   ·right;omega
  ·right;omega
 have cj:=bx.step bi c5.out ((ae.refl E).alloc _) O
 obtain⟨⟨b1,co,a5⟩,d2⟩:=O
 simp only[ak]at a5
 have cn:¬b1 w.heap.size:=fun s=>by rcases a5 _ s with q|q;exact a2 q;omega
 have cl:∀j,b1 j→F j∨w.heap.size≤j:=fun j ba=>by
  rcases a5 j ba with q|q;·exact bi j q
  ·right;omega
 have b3:=aa (bx.gh co cl cj.upd cn (aI _))
 clear cj co a5 d2 cn cl bi d5 d6
 go_wp2_with fail
 all_goals refine an (v:=.tuple #[.agg #[.int .u8 e.tag,.int .u32 e.to],.bool true]) (by simp[results,Tryz.results24,go_sem,da,ah,al]) rfl ?_
 all_goals refine⟨e,J,rfl,cx.out,cy.out,cz.out,?_⟩
 all_goals first|exact(b3.out _ _)|exact(b3.out _ _).U kp
theorem oz (f:Int)(E:1≤f∧f≤5){sb B:Nat}{bs:List Bool}:∀(k:Nat),k≤10→∀(off cap:Nat) (l:Int) (F:Nat→Prop) (s:World) (M:St),aq F s sb M→cR s B bs→¬F B→0≤l→2 ^ k≤cap→cap≤4096→off+2 ^ k≤bs.length→l+(k:Nat)=M.n→M.len+((2 ^ k-1:Nat):Int)≤M.a7 →
  Calls Tryz.prog 24 #[.pointer (some ⟨sb,0,none⟩),.int .u8 f,.slice (some ⟨B,off,none⟩) (2 ^ k) cap,.int .i64 l] s (jX f F s sb M bs k off l):=by
 intro k
 induction k with
 |zero=>
  intro _ off cap l F s M h u _ _ _ _ t z _;exact uI f E h u off cap l (by simp at t;omega) (by simpa using z)
 |succ k Q=>
  intro T off cap l F s M h u hF N D J t z I;have s:2 ^ k≤2 ^ 10:=cJ (by decide) (by omega);have s:(2:Nat) ^ 10=1024:=rfl;have O:0<2 ^ k:=iC (by decide);have s:2 ^ (k+1)=2*2 ^ k:=by rw[dA];omega
  rw[s]at D t I ⊢;exact uH f E k (2 ^ k) rfl O (by omega) h u hF off cap l N D J t z I (Q (by omega))
end Go.Proofs.YtafkamlhimkbmaaGreat
