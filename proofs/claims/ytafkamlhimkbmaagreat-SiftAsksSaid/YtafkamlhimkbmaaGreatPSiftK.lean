/-
  sift.bed's step.
-/
import Derived.Test.YtafkamlhimkbmaaGreatPSiftNi
namespace Go.Proofs.YtafkamlhimkbmaaGreat
set_option maxRecDepth 1000000
set_option maxHeartbeats 8000000
set_option linter.unusedSimpArgs false
set_option linter.unusedVariables false
open Go.RowKit
theorem xa {n:Int}(s:n≤6):∀j:Nat,(j:Int)+1<n→ej (j:Int) 0≤126:=fun j s=>by
 have q:j=0∨j=1∨j=2∨j=3∨j=4:=by omega
 rcases q with rfl|rfl|rfl|rfl|rfl<;>decide
theorem vE {F Fo:Nat→Prop}{w:World}{B lb cap sb U:Nat}{T:Option Addr}{M:St}{ps:List Int}{t:List (Int×List Bool)}{rs:List (Int×Edge)}(h:gK F Fo w B lb T cap sb U M ps t rs)(lv:Nat)(cd:lv+1<ps.length) :
  Calls Tryz.prog 106 #[.pointer (some ⟨B,0,none⟩),.int .i64 (lv:Int)] w fun e w'=>e=.returned (.bool true)∧aO F Fo (fun _=>False) w w' B lb T cap sb U (aK ps lv) t:=by
 have L:rs.length=t.length:=h.cg.1
 obtain⟨bx,bD,a5⟩:=h.nb
 obtain⟨a6,am⟩:=h.nl
 obtain⟨br,cj⟩:=h.e2
 have aw:=h.n6
 have bf:=h.bx
 have al:=h.bq.n
 have ch:=(h.cg.size h.bq.a8 h.perm al aw (by have:=h.bq.a8.wf.cS;have:=h.b2;omega)).2
 have cc:=h.len
 have bs:=h.room
 have bt:∀A,af (fun I=>F I∨Fo I) w A→cA A T rs:=fun A s=>(h.row.a4 s (fun j=>by rcases j with q|q;exact a6 q;exact am q)).roots (fun r br=>⟨by have:=(h.cg.leads r br).1;omega,h.cg.fE r br⟩)
 have bd:lK M ps.length (lv:Int) rs=0:=by unfold lK;rw[ah al,ag (by omega)];exact zF h.bq.a8.wf h.cg.leads
 have bw:=fun(A:World) (s:ae w A)=>by
  have:=Dj (c:=126) (h.bq.a8.ad s) (h.bq.b7.ad s) h.bq.db (lv:Int) T cap (fun W' br=>bt W' ((s.av _).bg br)) (by omega) (fun _ br=>xa (n:=M.n) (by omega) lv br) (by decide) (by rw[L];omega) h.bq.room;rw[bd,cN,L]at this
  exact this.mono (fun r w1 j=>(by
   rcases j with⟨a1,_⟩|⟨b4,j⟩
   ·exact absurd rfl a1
   ·exact .inr ⟨b4,j.g4 s⟩:iz F Fo w sb U M ps [lv] rs 126 0 r w1))
 -- what swap makes, and what take makes of it
 have bp:∀r w1,iz F Fo w sb U M ps [lv] rs 126 0 r w1→∃g,r=.returned (.tuple #[.slice (some ⟨g,0,none⟩) t.length t.length,.int .u8 0])∧fI w1 B T t.length cap sb U ∧
   ∀A,ae w1 A→Calls Tryz.prog 170 #[.pointer (some ⟨B,0,none⟩),.slice (some ⟨g,0,none⟩) t.length t.length] A fun e w'=>e=.returned (.tuple #[])∧aO F Fo (fun _=>False) w w' B lb T cap sb U (aK ps lv) t:=by
  intro r w1 j
  rcases j with⟨a1,_⟩|⟨_,g,es,M',F',rfl,b7,T,Z,a0,J,ca,b6,ab,N⟩
  ·exact absurd rfl a1
  ·have ci:∀e∈es,e.ok:=fun e b9=>by
    obtain⟨k,X⟩:=List.mem_iff_getElem?.1 b9;have T:=(List.getElem?_eq_some_iff.1 X).1;exact(Z.2 k _ e (ar (by rw[←Z.1];exact T)) X).ok
   have T:=ab.size;have a4:¬F' B:=fun j=>(by rcases J B j with q|q;exact bx q;omega);have b0:¬F' lb:=fun j=>(by rcases J lb j with q|q;exact a6 q;omega);have O:=h.cells.a4 ab (fun j=>by rcases j with q|q;exact bx q;exact bD q);have ce:=h.row.a4 ab (fun j=>by rcases j with q|q;exact a6 q;exact am q);refine⟨g,by rw[L],O,fun A s=>?_⟩;have A:=s.size;have A:es.length=t.length:=Z.1.trans L;refine(vF (O.ad s) (ce.ad s) (b7.ad s) L A (by omega) ci (a0.ad s) (by omega) a5 ca b0 a4 (by omega)).mono ?_;rintro e w' ⟨a8,a7,rfl,a3,cf,bi,Y,W⟩;refine⟨rfl,a8,dG M' (es.map Edge.to),a7,?_,?_,?_⟩
   ·have A:af (fun I=>F' I∨I=lb) w1 w':=(s.av _).bg W;have T:cL M' (aK ps lv) t a7:=h.cg.step (ss:=[lv]) Z a3.1 a3.2;have A:=a3.snd (by omega)
    have cg:cL (dG M' (es.map Edge.to)) (aK ps lv) t a7:=by
     have:=T.e8 (by rw[A];exact bi.wf);rwa[A]at this
    have bn:M'.n=(ps.length:Int):=(by rw[N.ext.n,al]);have bq:=jK cd h.perm;have ad:=eK ps lv;have bv:=T.size a0 bq (by rw[ad];exact bn) (by rw[ad];exact aw) (by have:=N.wf.cS;have:=N.room;have:=h.b2;omega);rw[A]at bv
    have b8:∀k,a8 k→¬Fo k:=fun k b5 be=>by
     have X:=h.bq.b7.lt k be;rcases Y k b5 with q|q
     ·rcases J k q with z|z;·exact h.bq.db k z be
      ·omega
     ·omega
    refine⟨⟨bi,(b6.ad s).a4 W (fun k av b3=>?_),b8,?_,?_⟩,bq,by rw[ad];exact aw,bf,?_,?_,by show M'.room≤_;rw[N.room];exact h.b2,cg,cf,(O.ad s).a4 W (fun j=>?_),⟨fun j=>?_,bD,a5⟩,⟨fun j=>?_,am⟩,?_⟩
    ·rcases b3 with q|q
     ·rcases J k q with z|z;·exact h.bq.db k z av
      ·have:=h.bq.b7.lt k av;omega
     ·subst q;exact am av
    ·show M'.n=_;rw[bn,ad]
    ·show M'.room<_;rw[N.room];exact h.bq.room
    ·rw[tS a0];exact_mod_cast bv.1
    ·show _<M'.room;rw[N.room];exact bs
    ·rcases j with q|q;·exact a4 q
     ·exact a5 q
    ·rcases Y B j with q|q;·exact a4 q
     ·omega
    ·rcases Y lb j with q|q;·exact b0 q
     ·omega
    ·have:=W.size;omega
   ·intro I cb;rcases Y I cb with q|q
    ·rcases J I q with z|z;·exact .inl z
     ·exact .inr z
    ·exact .inr (by omega)
   ·refine(ab.mono (fun k _ X=>?_)).b9 ((s.av _).bg W) (fun i hi j=>?_)
    ·rcases X with q|q;·exact .inl q
     ·exact .inr (.inl q)
    ·rcases j with q|q
     ·rcases J i q with z|z;·exact .inl z
      ·omega
     ·exact .inr (.inr (.inl q))
 have S:=h.cells
 have bb:=aa bw
 have a':=aa bp
 obtain⟨s,bg⟩:∃s,s=t.length:=⟨_,rfl⟩
 rw[←bg]at bb a' S bf
 have s:=S.c0
 have s:=S.c1
 have s:=S.c2
 have s:=S.c3
 clear bw bp bd bt cc bs ch al h L bg S
 go_enter Tryz.func106,Tryz.ntmps106
 go_wp2_with fail
 refine kN 13 #[true,true,true,true,true,true,true,true,true,true,true,true,true,false,false,false,false,false,false] (by kernel_rfl) (by kernel_rfl) ?_
 simp only[List.take_succ_cons,List.take_zero,List.drop_succ_cons,List.drop_zero]
 repeat still_step
 refine wpStill_nil ?_
 refine wpAny_ready (fuel:=5) (rs:=[13]) (by kernel_rfl) (by decide) (AllReady.cons rfl (fun K E=>?_) AllReady.nil)
 go_simp
 refine(bb.out _ kp).mono ?_
 rintro r w1 j
 obtain⟨g,rfl,O,s⟩:=a'.out _ _ j
 have b2:=aa s
 have t:=O.c3
 clear j s O
 refine E _ _ ?_
 clear E K
 refine wpAny_take (i:=14) (v:=?_) rfl (by kernel_rfl) (by kernel_rfl) (by kernel_rfl) (fun _ _ _ h=>h) (Or.inl ⟨by rfl,?_⟩) ?_
 rotate_left
 ·intro w;go_simp;try with_reducible rfl
 refine wpAny_take (i:=15) (v:=?_) rfl (by kernel_rfl) (by kernel_rfl) (by kernel_rfl) (fun _ _ _ h=>h) (Or.inl ⟨by rfl,?_⟩) ?_
 rotate_left
 ·intro w;go_simp;try with_reducible rfl
 refine wpAny_take (i:=16) (v:=?_) rfl (by kernel_rfl) (by kernel_rfl) (by kernel_rfl) (fun _ _ _ h=>h) (Or.inl ⟨by rfl,?_⟩) ?_
 rotate_left
 ·intro w;go_simp;try with_reducible rfl
 refine wpAny_ready (rs:=[17]) (by kernel_rfl) (by decide) (AllReady.cons rfl (fun K E=>?_) AllReady.nil)
 go_simp
 refine E _ _ ?_
 clear E K
 refine wpAny_ready (rs:=[18]) (by kernel_rfl) (by decide) (AllReady.cons rfl (fun K E=>?_) AllReady.nil)
 go_simp
 refine E _ _ ?_
 clear E K
 refine wpAny_done (by kernel_rfl) ?_ _
 go_wp2_with fail
 refine(b2.out _ kp).mono ?_
 rintro e j ⟨rfl,j⟩
 have b1:=aa j
 clear j
 go_wp2_with fail
 go_ret
 exact⟨rfl,b1.out⟩
theorem kU {F0 Fo t:Nat→Prop}{w0 w:World}{s lb cap sb I:Nat}{E:Option Addr}{ps:List Int}{z:List (Int×List Bool)}(h:aO F0 Fo t w0 w s lb E cap sb I ps z)(lv:Nat)(N:lv+1<ps.length) :
  Calls Tryz.prog 106 #[.pointer (some ⟨s,0,none⟩),.int .i64 (lv:Int)] w fun e w'=>e=.returned (.bool true)∧aO F0 Fo t w0 w' s lb E cap sb I (aK ps lv) z∧af (fun j=>F0 j∨Fo j∨j=lb∨w0.heap.size≤j) w w':=by
 obtain⟨F,M,rs,j,A,J⟩:=h
 refine(vE j lv N).mono ?_
 rintro e w' ⟨rfl,B⟩
 refine⟨rfl,aO.next A J (fun _ j=>j.elim) B,?_⟩
 obtain⟨_,_,_,_,_,j⟩:=B
 refine j.mono (fun k _ L=>?_)
 rcases L with q|q|q|q
 ·rcases A k q with j|j;·exact .inl j
  ·exact .inr (.inr (.inr j))
 ·exact .inr (.inl q)
 ·exact .inr (.inr (.inl q))
 ·exact q.elim
theorem rE {w:World}{t j cap:Nat}{a:Option Addr}{xs:List Int}(h:w.ownsRow t 3 1 (.slice a j cap) j (xs.map (Value.int .i64)))(A:j=xs.length):bH w a xs:=fun i x s=>by
 have hi:=(List.getElem?_eq_some_iff.1 s).1;rcases h.2 with⟨q,A⟩|⟨z,cap2,j,q,t,_⟩
 ·omega
 ·cases q;refine⟨z,0,rfl,?_⟩;rw[dK,h.cellAt i (by omega),dh,s];rfl
theorem qo {F Fo:Nat→Prop}{w:World}{E lb cap sb T cap2:Nat}{S a2:Option Addr}{M:St}{ps qs:List Int}{L:List (Int×List Bool)}{rs:List (Int×Edge)}(h:gK F Fo w E lb S cap sb T M ps L rs)(bd:bH w a2 qs)(bt:aF qs=true)(am:ps.length=qs.length) :
  Calls Tryz.prog 52 #[.pointer (some ⟨E,0,none⟩),.slice a2 qs.length cap2] w fun e w'=>e=.returned (.bool true)∧aO F Fo (fun _=>False) w w' E lb S cap sb T qs L:=by
 have br:=h.perm
 have Z:=h.n6
 have bs:=fun(A:World) (J:ae w A)=>o8 (h.bq.b7.ad J)
 have bw:=fun(A:World) (a:Option Addr) (c:Nat) (J:ae w A) (cc:bH A a ps)=>Da a a2 c cap2 ps qs A cc (bd.ad J) br bt am
 have cc:=h.cells.c1
 have a7:=fun(A:World) (J:ae w A)=>aO.start (h.ad J) (fun _=>False)
 have bb:∀k,(F k∨Fo k∨k=lb∨False)→k<w.heap.size:=fun k j=>by
  rcases j with q|q|q|q;·exact h.bq.a8.lt k q
  ·exact h.bq.b7.lt k q
  ·subst q;exact h.e2.2
  ·exact q.elim
 have X:=aa bs
 have B:=aa bw
 have bx:=aa a7
 have W:=aa bb
 obtain⟨n,N⟩:∃n,n=ps.length:=⟨_,rfl⟩
 rw[←am,←N]at B ⊢
 rw[←N]at X Z
 have b3:=aa N
 clear bs bw a7 bb bd h am N br bt
 go_enter Tryz.func52,Tryz.ntmps52
 go_wp2_with fail
 refine(X.out _ kp).mono ?_
 rintro e w1 ⟨b7,b8,rfl,J,A⟩
 have a4:=aa (B.out w1 b7 b8 A J.e0)
 have aw:=aa A
 clear J A
 go_wp2_with fail
 refine a4.out.mono ?_
 rintro e U ⟨ss,Y,a5,rfl,t,bv,bi,bg,bn⟩
 have al:=aw.out.trans bn
 have a8:=bx.out U al
 have bp:∀k,(Value.slice Y ss.length a5).ownBlock=some k→k<U.heap.size:=fun k j=>by
  rcases t.2 with⟨s,_⟩|⟨ca,b9,a6,s,bf,cd,_⟩
  ·rw[s]at j;simp[Value.ownBlock]at j
  ·rw[s]at j;simp[Value.ownBlock]at j;subst j;exact aM cd
 have a0:=aa bp
 have a3:=aa t
 have bD:=aa a8
 have b6:=aa bv
 have b1:=aa bi
 have A:=aw.out.size
 have b2:=aa al
 obtain⟨K,ab⟩:∃K,K=ss.length:=⟨_,rfl⟩
 rw[←ab]at bg a3 a0 ⊢
 have av:=aa ab
 have A:K≤36:=by
  have:n*n≤6*6:=iX Z Z;omega
 clear t a8 bv bi bn al ab bg a4 B X bp
 go_wp2_with fail
 go_loopg [21] K (fun gk A wr=>∃d:Nat,A=.int .i64 (d:Int)∧d+gk=K∧aO F Fo (fun _=>False) U wr E lb S cap sb T (bu ps (ss.take d)) L∧wr.ownsRow w1.heap.size 3 1 (.slice Y K a5) K (ss.map (fun z:Nat=>Value.int .i64 (z:Int))))
 case atStart=>exact⟨0,rfl,by omega,bD.out,a3.out⟩
 case round=>
  obtain⟨d,rfl,A,I,t⟩:=hrel;by_cases ce:d<K
  ·obtain⟨z,O⟩:∃z,ss[d]?=some z:=⟨_,ar (by rw[←av.out];exact ce)⟩
   obtain⟨g,rfl,A⟩:∃g,Y=some ⟨g,0,none⟩∧wr.cell? ⟨g,d,none⟩=some (.int .i64 (z:Int)):=by
    rcases t.2 with⟨s,A⟩|⟨cb,cap2,a6,s,bf,_⟩
    ·omega
    ·cases s;refine⟨cb,rfl,?_⟩;rw[t.cellAt d (by omega),dh,O];rfl
   have N:z+1<(bu ps (ss.take d)).length:=(by rw[gg,←b3.out];exact b1.out z (bB O));have A:=kU I z N;have J:aK (bu ps (ss.take d)) z=bu ps (ss.take (d+1)):=(by rw[gT O,kF]);rw[J]at A;have B:=aa A;have a1:=aa t;clear A J N O t I;go_wp2_with fail;refine B.out.mono ?_;rintro e z ⟨rfl,a',be⟩
   have bq:=be.bp (fun k j ad=>by
    have z:w1.heap.size≤k:=by
     rcases a1.out.2 with⟨s,_⟩|⟨ca,b9,a6,s,bf,_⟩
     ·rw[s]at j;simp[Value.ownBlock]at j
     ·rw[s]at j;simp[Value.ownBlock]at j;omega
    have s:k<U.heap.size:=a0.out k j;rcases ad with q|q|q|q;·have:=W.out k (.inl q);omega
    ·have:=W.out k (.inr (.inl q));omega
    ·have:=W.out k (.inr (.inr (.inl q)));omega
    ·omega) a1.out
   have b0:=aa a';have b5:=aa bq;clear a' be bq;go_wp2_with fail;go_roundg (gk-1)
   case rel=>exact⟨d+1,by simp,by omega,b0.out,b5.out⟩
   case measure=>omega
  ·have j:aO F Fo (fun _=>False) w wr E lb S cap sb T qs L:=by
    have:ss.take d=ss:=ic (by rw[←av.out];omega);rw[this,b6.out]at I;exact aO.next (fun s s=>.inl s) (b2.out.av _) (fun _ ad=>ad.elim) I
   have b4:=aa j;clear j I t;go_wp2_with fail;go_ret;exact⟨rfl,b4.out⟩
theorem oT {M:St}{ps:List Int}{j:List (Int×List Bool)}{rs:List (Int×Edge)}(h:cL M ps j rs):bh M rs=0:=by
 have key:∀r∈rs,aR r.1=true∧dX M r.1 r.2 0=true:=fun r z=>by
  obtain⟨i,hi⟩:=List.mem_iff_getElem?.1 z;have z:=(List.getElem?_eq_some_iff.1 hi).1;obtain⟨z,s,q⟩:=h.2 i (j[i]'(by have:=h.1;omega)) r (ar (by have:=h.1;omega)) hi;exact⟨by simp[aR];omega,rH s q.lead q.right⟩
 clear h;induction rs with
 |nil=>rfl
 |cons r rs A=>
  obtain⟨B,E⟩:=key r (by simp);rw[kh,ag (by rw[B];simp),ag (by rw[E];simp)];exact A (fun j t=>key j (by simp[t]))
def gm (w:World)(F Fo:Nat→Prop)(lb:Nat)(a:Option Addr)(xs:List Int):Prop:=bH w a xs∧∀b off,a=some ⟨b,off,none⟩→b<w.heap.size∧¬F b∧¬Fo b∧b≠lb
theorem gm.ad {w w':World}{F Fo:Nat→Prop}{lb:Nat}{a:Option Addr}{xs:List Int}(h:gm w F Fo lb a xs)(j:ae w w'):gm w' F Fo lb a xs:=
 ⟨h.1.ad j,fun b off e=>by
  obtain⟨z,q,s,t⟩:=h.2 b off e;have:=j.size
  exact⟨by omega,q,s,t⟩⟩
theorem gm.step {w w':World}{F F' Fo:Nat→Prop}{lb:Nat}{a:Option Addr}{xs:List Int}(h:gm w F Fo lb a xs)(I:∀j,F' j→F j∨w.heap.size≤j)(B:af (fun j=>F j∨Fo j∨j=lb∨False) w w'):gm w' F' Fo lb a xs:=by
 refine⟨fun i x J=>?_,fun b off e=>?_⟩
 ·obtain⟨b,off,e,c⟩:=h.1 i x J;obtain⟨E,s,t,z⟩:=h.2 b off e;exact⟨b,off,e,B.cellAt (fun A=>by rcases A with q|q|q|q;exact s q;exact t q;exact z q;exact q) c⟩
 ·obtain⟨E,s,t,z⟩:=h.2 b off e;have:=B.size;refine⟨by omega,fun A=>?_,t,z⟩;rcases I b A with q|q;·exact s q
  ·omega
theorem vw {w:World}{F Fo:Nat→Prop}{q n cap lb:Nat}{a:Option Addr}{xs:List Int}(h:w.ownsRow q 3 1 (.slice a n cap) n (xs.map (Value.int .i64)))(t:n=xs.length)(hF:∀k,F k∨Fo k∨k=lb→k<q):gm w F Fo lb a xs:=by
 refine⟨rE h t,fun b off e=>?_⟩;rcases h.2 with⟨j,A⟩|⟨t,cap2,q,j,z,s,_⟩
 ·cases j;cases e
 ·cases j;cases e;exact⟨aM s,fun j=>by have:=hF b (.inl j);omega,fun j=>by have:=hF b (.inr (.inl j));omega,fun j=>by have:=hF b (.inr (.inr j));omega⟩
theorem pt {F s t Fo:Nat→Prop}{w wr w1 E:World}{lb:Nat}(A:∀j,s j→F j∨w.heap.size≤j)(B:af (fun j=>F j∨Fo j) w wr)(O:w.heap.size≤lb)(z:ae wr w1)(L:∀j,t j→s j∨w1.heap.size≤j)(N:af (fun j=>s j∨Fo j∨j=lb∨False) w1 E) :
  (∀j,t j→F j∨w.heap.size≤j)∧af (fun j=>F j∨Fo j) w E:=by
 have s:=B.size
 have s:=z.size
 refine⟨fun j J=>?_,(B.bg (z.av _)).b9 N (fun i hi I=>?_)⟩
 ·rcases L j J with q|q;·exact A j q
  ·exact .inr (by omega)
 ·rcases I with q|q|q|q
  ·rcases A i q with j|j;·exact .inl j
   ·omega
  ·exact .inr q
  ·omega
  ·exact q.elim
theorem tm {F s Fo:Nat→Prop}{w w1:World}{lb:Nat}(B:w.heap.size≤lb)(z:∀j,s j→F j∨w.heap.size≤j)(A:af (fun j=>F j∨Fo j∨j=lb∨False) w w1):(∀j,s j→F j∨w.heap.size≤j)∧af (fun j=>F j∨Fo j) w w1:=
 ⟨z,A.mono (fun k j t=>by
  rcases t with q|q|q|q;·exact .inl q
  ·exact .inr q
  ·omega
  ·exact q.elim)⟩
def nI (F Fo:Nat→Prop)(w:World)(sb s:Nat)(j:List (Int×List Bool))(qs:List Int)(r:Ending)(w':World):Prop:=
 ∃(g:Nat) (F':Nat→Prop) (M':St) (q:List (Int×Edge)),r=.returned (.tuple #[.slice (some ⟨g,0,none⟩) j.length j.length,.int .u8 0])∧fV F' Fo w' sb s M' qs∧aF qs=true∧cL M' qs j q∧M'.len=(aG j qs:Int)∧((j.length:Int)*300<M'.room∧M'.room≤1000000) ∧
  cB w' g (q.map Prod.snd)∧(¬F' g∧¬Fo g∧w.heap.size≤g)∧(∀j,F' j→F j∨w.heap.size≤j)∧af (fun j=>F j∨Fo j) w w'
theorem qp {F t Fo:Nat→Prop}{w wr:World}{E lb cap sb J:Nat}{O:Option Addr}{M:St}{qs:List Int}{q:List (Int×List Bool)}{rs:List (Int×Edge)}(h:gK t Fo wr E lb O cap sb J M qs q rs)(N:∀s,t s→F s∨w.heap.size≤s)(I:af (fun s=>F s∨Fo s) w wr)(z:World)(j:ae wr z) :
  Calls Tryz.prog 53 #[.pointer (some ⟨E,0,none⟩)] z fun e w'=>(∃g,e=.returned (.slice (some ⟨g,0,none⟩) q.length q.length)∧∀W',ae w' W'→nI F Fo w sb J q qs (.returned (.tuple #[.slice (some ⟨g,0,none⟩) q.length q.length,.int .u8 0])) W')∧ae z w':=by
 have s:∀r∈rs,(0≤r.1∧r.1≤255)∧r.2.ok:=fun r q=>⟨by have:=(h.cg.leads r q).1;omega,h.cg.fE r q⟩
 have q:=h.bx
 refine(nS (h.cells.ad j).c2 ((h.row.ad j).roots s) h.cg.1 (by omega)).mono ?_
 rintro e w' ⟨g,rfl,q,L,B⟩
 refine⟨⟨g,rfl,fun W' A=>⟨g,t,M,rs,rfl,((h.bq.ad j).ad B).ad A,h.perm,h.cg,h.len,⟨h.room,h.b2⟩,L.ad A,⟨fun q=>?_,fun q=>?_,?_⟩,N,((I.bg (j.av _)).bg (B.av _)).bg (A.av _)⟩⟩,B⟩
 ·have:=h.bq.a8.lt g q;have:=j.size;omega
 ·have:=h.bq.b7.lt g q;have:=j.size;omega
 ·have:=I.size;have:=j.size;omega
theorem zO {d b:Nat}(h:d<b):eu d b=d::eu (d+1) b:=by
 have s:eu d b=(List.range (b-d)).map (fun i=>d+i):=ah h;rw[s,show b-d=(b-(d+1))+1 by omega,List.range_succ_eq_map];by_cases q:d+1<b
 ·have j:eu (d+1) b=(List.range (b-(d+1))).map (fun i=>d+1+i):=ah q;rw[j];simp only[List.map_cons,List.map_map,gA];congr 1
  apply List.map_congr_left;intro i _;simp only[Function.comp];omega
 ·have j:eu (d+1) b=(List.range (d+1-b)).map (fun i=>d+1-1-i):=ag q;rw[j,show d+1-b=0 by omega,show b-(d+1)=0 by omega];rfl
theorem zR {d b:Nat}(h:b<d):eu d b=(d-1)::eu (d-1) b:=by
 have j:eu d b=(List.range (d-b)).map (fun i=>d-1-i):=ag (by omega);have q:eu (d-1) b=(List.range (d-1-b)).map (fun i=>d-1-1-i):=ag (by omega);rw[j,q,show d-b=(d-1-b)+1 by omega,List.range_succ_eq_map];simp only[List.map_cons,List.map_map,Nat.sub_zero];congr 1
 apply List.map_congr_left;intro i _;simp only[Function.comp];omega
theorem zQ (b:Nat):eu b b=[]:=by
 have j:eu b b=(List.range (b-b)).map (fun i=>b-1-i):=ag (by omega);rw[j,Nat.sub_self];rfl
theorem vG {F0 Fo I:Nat→Prop}{w0 w:World}{B lb cap sb T n:Nat}{S:Option Addr}{ps:List Int}{L:List (Int×List Bool)}(h:aO F0 Fo I w0 w B lb S cap sb T ps L)(Z:ps.length=n)(a b:Nat)(aw:a<n)(a5:b<n) :
  Calls Tryz.prog 110 #[.pointer (some ⟨B,0,none⟩),.int .i64 (a:Int),.int .i64 (b:Int)] w fun e w'=>e=.returned (.bool true)∧aO F0 Fo I w0 w' B lb S cap sb T (bu ps (eu a b)) L:=by
 have av:=h.ek.1.1
 obtain⟨E,X⟩:∃E,E=bu ps (eu a b):=⟨_,rfl⟩
 rw[←X]
 have ab:=aa h
 have am:=aa X
 have ad:=aa Z
 have a5:n≤6:=by omega
 clear h X Z av
 go_enter Tryz.func110,Tryz.ntmps110
 go_wp2_with fail
 go_loopg [1] (b-a) (fun gk Y wr=>∃(d:Nat) (p:List Int),Y=.int .i64 (d:Int)∧d<n∧(b-d=gk∧p.length=n∧bu p (eu d b)=E)∧aO F0 Fo I w0 wr B lb S cap sb T p L)
 case atStart=>exact⟨a,ps,rfl,aw,⟨rfl,ad.out,am.out.symm⟩,ab.out⟩
 case round=>
  obtain⟨d,p,rfl,a0,⟨a3,s,j⟩,q⟩:=hrel;by_cases X:d<b
  ·rw[zO X]at j;have O:=kU q d (by omega);have U:=aa O;have A:=aa j;have z:=aa s;clear j s O q;go_wp2_with fail;refine U.out.mono ?_;rintro e w1 ⟨rfl,N,-⟩;have t:=aa N;clear N;go_wp2_with fail;go_roundg (gk-1)
   case rel=>exact⟨d+1,aK p d,by simp,by omega,⟨by omega,by rw[eK];exact z.out,A.out⟩,t.out⟩
   case measure=>omega
  ·have t:=aa q;have A:=aa j;have z:=aa s;clear q j s;obtain⟨X,a4⟩:∃W,W=wr:=⟨wr,rfl⟩;subst a4;obtain⟨X,a1⟩:∃W,W=gk:=⟨gk,rfl⟩;subst a1;go_wp2_with fail;go_loopg [1] (d-b) (fun gk Y wr=>∃(c:Nat) (p:List Int),Y=.int .i64 (c:Int)∧c<n∧b≤c∧(c-b=gk∧p.length=n∧bu p (eu c b)=E)∧aO F0 Fo I w0 wr B lb S cap sb T p L)
   case atStart=>exact⟨d,p,rfl,a0,by omega,⟨rfl,z.out,A.out⟩,t.out⟩
   case round=>
    clear t A z;obtain⟨c,p,rfl,X,W,⟨a3,s,j⟩,q⟩:=hrel;by_cases W:b<c
    ·rw[zR W]at j;obtain⟨J,rfl⟩:∃J,c=J+1:=⟨c-1,by omega⟩;rw[Nat.add_sub_cancel]at j;have O:=kU q J (by omega);have U:=aa O;have A:=aa j;have z:=aa s;clear j s O q;go_wp2_with fail;refine U.out.mono ?_;rintro e w1 ⟨rfl,N,-⟩;have t:=aa N;clear N;go_wp2_with fail;go_roundg (gk-1)
     case rel=>exact⟨J,aK p J,by simp,by omega,by omega,⟨by omega,by rw[eK];exact z.out,A.out⟩,t.out⟩
     case measure=>omega
    ·have t:c=b:=(by omega);rw[t,zQ]at j;have z:aO F0 Fo I w0 wr B lb S cap sb T E L:=(by rw[←j];exact q);have al:=aa z;clear j s q z t;go_wp2_with fail;go_ret;exact⟨rfl,al.out⟩
def cC (w:World)(j a b m:Nat):Prop:=w.heap[j]?=some (.cells #[.int .i64 (a:Int),.int .i64 (b:Int),.int .i64 (m:Int)] 185 (0,0))
theorem cC.cells {w:World}{j a b m:Nat}(h:cC w j a b m):w.cell? ⟨j,0,none⟩=some (.int .i64 (a:Int))∧w.cell? ⟨j,1,none⟩=some (.int .i64 (b:Int))∧w.cell? ⟨j,2,none⟩=some (.int .i64 (m:Int))∧∀i,w.frozen? ⟨j,i,none⟩=false:=
 ⟨by rw[cell_of_row w j 0 _ _ _ h];rfl,by rw[cell_of_row w j 1 _ _ _ h];rfl,by rw[cell_of_row w j 2 _ _ _ h];rfl,fun i=>frozen_of_row w j i _ _ h⟩
theorem cC.a4 {G:Nat→Prop}{w w':World}{j a b m:Nat}(h:cC w j a b m)(s:af G w w')(q:¬G j):cC w' j a b m:=(s.block j (aM h) q).trans h
theorem cC.ad {w w':World}{j a b m:Nat}(h:cC w j a b m)(q:ae w w'):cC w' j a b m:=h.a4 (q.av (fun _=>False)) (fun h=>h)
theorem cC.hj {w:World}{j a b m:Nat}(h:cC w j a b m)(q:Nat)(v:Int)(s:v=(q:Int)):cC (w.setCell ⟨j,0,none⟩ (.int .i64 v)) j q b m:=by subst s;exact Go.heap_setCell_same w j 0 _ _ (.int .i64 (q:Int)) h
theorem cC.hk {w:World}{j a b m:Nat}(h:cC w j a b m)(b':Nat)(v:Int)(q:v=(b':Int)):cC (w.setCell ⟨j,1,none⟩ (.int .i64 v)) j a b' m:=by subst q;exact Go.heap_setCell_same w j 1 _ _ (.int .i64 (b':Int)) h
theorem cC.hl {w:World}{j a b m:Nat}(h:cC w j a b m)(q:Nat)(v:Int)(s:v=(q:Int)):cC (w.setCell ⟨j,2,none⟩ (.int .i64 v)) j a b q:=by subst s;exact Go.heap_setCell_same w j 2 _ _ (.int .i64 (q:Int)) h
theorem aO.size {F0 Fo q:Nat→Prop}{w0 w:World}{s lb cap sb z:Nat}{t:Option Addr}{ps:List Int}{j:List (Int×List Bool)}(h:aO F0 Fo q w0 w s lb t cap sb z ps j):aG j ps≤508:=by
 obtain⟨F,M,rs,j,-⟩:=h;have q:=j.bq.a8.wf.cS;have q:=j.bq.room;have q:=j.bx;have q:=(j.cg.size j.bq.a8 j.perm j.bq.n j.n6 (by have:=j.b2;omega)).2;omega
theorem lW {F0 Fo s:Nat→Prop}{w0 w:World}{t lb cap sb B:Nat}{A:Option Addr}{ps:List Int}{q:List (Int×List Bool)}(h:aO F0 Fo s w0 w t lb A cap sb B ps q)(j:World)(z:ae w j) :
  Calls Tryz.prog 21 #[.pointer (some ⟨sb,0,none⟩)] j fun e w'=>e=.returned (.int .i64 (aG q ps:Int))∧j=w':=by
 obtain⟨F,M,rs,j,-⟩:=h
 have:=pH (j.bq.a8.ad z)
 rw[j.len]at this
 exact this
theorem vC {F0 Fo:Nat→Prop}{w0 w:World}{I lb cap sb ab n j a b m g:Nat}{Z:Option Addr}{ps:List Int}{z:List (Int×List Bool)}(h:aO F0 Fo (fun s=>s=j) w0 w I lb Z cap sb ab ps z)(bs:ps.length=n)(bx:cC w j a b m)
  (Y:j<w0.heap.size∧¬F0 j∧¬Fo j∧j≠I∧j≠lb) (ce:a<n) (am:b<n) (W:m≤508) (cf:g≤1000) :
  Calls Tryz.prog 109 #[.pointer (some ⟨I,0,none⟩),.pointer (some ⟨j,0,none⟩),.int .i64 1,.int .i64 ((n-1:Nat):Int),.int .i64 (g:Int)] w fun e w'=>e=.returned (.bool true) ∧
   aO F0 Fo (fun s=>s=j) w0 w' I lb Z cap sb ab (dg (aG z) g (n-1-a) ps a b m).1 z∧cC w' j (dg (aG z) g (n-1-a) ps a b m).2.1 (dg (aG z) g (n-1-a) ps a b m).2.2.1 (dg (aG z) g (n-1-a) ps a b m).2.2.2:=by
 obtain⟨B,L⟩:∃B,B=dg (aG z) g (n-1-a) ps a b m:=⟨_,rfl⟩
 rw[←L]
 have ce:n≤6:=by have:=h.ek.1.1;omega
 have a':=aa h
 have be:=aa L
 have b0:=aa bs
 have S:=aa bx
 have bf:=aa Y
 have bt:¬(F0 j∨Fo j∨j=lb∨w0.heap.size≤j):=fun ca=>by
  rcases ca with q|q|q|q;·exact Y.2.1 q
  ·exact Y.2.2.1 q
  ·exact Y.2.2.2.2 q
  ·omega
 have b1:=aa bt
 obtain⟨E,bi⟩:∃E:Nat,E=n-1:=⟨_,rfl⟩
 rw[←bi]
 have cd:n=E+1:=by omega
 subst cd
 clear h L bs bx Y bt bi
 go_enter Tryz.func109,Tryz.ntmps109
 go_wp2_with fail
 go_loopg [11] (E-a) (fun gk Y wr=>∃(k:Nat) (p:List Int) (a b m:Nat),a+k=E∧b<E+1∧m≤508∧(k=gk∧p.length=E+1∧dg (aG z) g k p a b m=B)∧aO F0 Fo (fun s=>s=j) w0 wr I lb Z cap sb ab p z∧cC wr j a b m)
 case atStart=>exact⟨E-a,ps,a,b,m,by omega,am,W,⟨rfl,b0.out,by rw[be.out,Nat.add_sub_cancel]⟩,a'.out,S.out⟩
 case round=>
  clear a' S be am W;obtain⟨k,p,a,b,m,Y,am,W,⟨cc,a8,t⟩,T,L⟩:=hrel;obtain⟨b3,b4,b5,bg⟩:=L.cells;cases k with
  |zero=>
   have b9:a=E:=(by omega);subst b9;have X:aO F0 Fo (fun s=>s=j) w0 wr I lb Z cap sb ab B.1 z∧cC wr j B.2.1 B.2.2.1 B.2.2.2:=(by rw[←t];exact⟨T,L⟩);have O:=aa X;clear t X T L a8 cc bg;go_wp2_with fail;go_ret;exact⟨rfl,O.out.1,O.out.2⟩
  |succ k=>
   have Y:=fun(ad:World) (a5:ae wr ad)=>kU (T.ad a5) a (by omega);have a':(a:Int)≠(E:Int):=(by omega);have E:=T.ek;have b6:=E.2.1.c0;have a':IntKind.i64.wrap ((a:Int)+1)=(a:Int)+1:=IntWalk.i64_in _ ⟨by omega,by omega⟩;have bd:=aa Y;have S:=aa L;have N:=aa t;have bb:=aa a8;clear Y L t a8 T E;go_wp2_with fail;refine kN 12 #[true,true,true,true,true,true,true,true,true,true,true,true,false,false] (by kernel_rfl) (by kernel_rfl) ?_;simp only[List.take_succ_cons,List.take_zero,List.drop_succ_cons,List.drop_zero];repeat still_step
   refine wpStill_nil ?_;refine wpAny_ready (fuel:=1) (rs:=[12]) (by kernel_rfl) (by decide) (AllReady.cons rfl (fun K U=>?_) AllReady.nil);go_simp;rw[ag (show¬(a:Int)+1<(a:Int) by omega)];refine(bd.out _ kp).mono ?_;rintro e w1 ⟨rfl,a1,bq⟩;refine U _ _ ?_;clear U K;refine wpAny_ready (rs:=[13]) (by kernel_rfl) (by decide) (AllReady.cons rfl (fun K U=>?_) AllReady.nil);go_simp;refine U _ _ ?_;clear U K;refine wpAny_done (by kernel_rfl) ?_ _;have a4:=(S.out.ad (((ae.refl wr).drew))).a4 bq b1.out;have a6:∀s,s=j→s<w0.heap.size∧¬F0 s∧¬Fo s∧s≠I∧s≠lb:=fun s cb=>(by subst cb;exact bf.out);have al:=a1.gb (w':=w1.setCell ⟨j,0,none⟩ (.int .i64 ((a:Int)+1))) ((af.refl (fun s=>s=j) w1).setCell (.inl rfl) _) a6;have bp:=a4.hj (a+1) ((a:Int)+1) (by omega);have a7:=fun(ad:World) (a5:ae (w1.setCell ⟨j,0,none⟩ (.int .i64 ((a:Int)+1))) ad)=>lW al ad a5;have a3:=al.size;obtain⟨L,E,T,U⟩:=a4.cells;have E:=a1.ek.2.1.c0;have E:j≠I:=bf.out.2.2.2.1;have T:I≠j:=fun e=>E e.symm;have E:j<w1.heap.size:=aB L;obtain⟨A,bn⟩:∃A,A=aG z (aK p a):=⟨_,rfl⟩;have t:=N.out;unfold dg at t;rw[←bn]at a7 a3 t;have aw:=aa a7;have av:=aa al;have a0:=aa bp;have b2:=aa a6;clear a7 al bp a1 bq a4 a6 bn N bd S b3 b4 b5 b6 bg;by_cases br:A<m
   ·have bv:¬(100+g)*min m A<100*A:=by
     rw[Nat.min_eq_right (by omega),Nat.add_mul];omega
    rw[ag bv,ah br,Nat.min_eq_right (by omega)]at t;have N:=aa t;obtain⟨Q,J⟩:∃Q:Nat,Q=(100+g)*A:=⟨_,rfl⟩;have b8:(100+(g:Int))*(A:Int)=(Q:Int):=(by rw[J];push_cast;rfl);have b7:Q≤1100*508:=(by rw[J];exact iX (by omega) a3);have E:100*A≤Q:=(by rw[J,Nat.add_mul];omega);clear t bv J;go_wp2_with (first|(go_at_call 21;refine(aw.out _ kp).mono ?_;rintro e bD ⟨rfl,rfl⟩)|fail)
    go_roundg (gk-1)
    case rel=>exact⟨k,aK p a,a+1,a+1,A,by omega,by omega,a3,⟨by omega,by rw[eK];exact bb.out,N.out⟩,av.out.gb ((((af.refl (fun s=>s=j) _).setCell (.inl rfl) _)).setCell (.inl rfl) _) b2.out,(a0.out.hl A _ rfl).hk (a+1) _ (by omega)⟩
    case measure=>omega
   ·rw[ag br,Nat.min_eq_left (by omega)]at t;obtain⟨Q,J⟩:∃Q:Nat,Q=(100+g)*m:=⟨_,rfl⟩;have b8:(100+(g:Int))*(m:Int)=(Q:Int):=(by rw[J];push_cast;rfl);have b7:Q≤1100*508:=(by rw[J];exact iX (by omega) W);rw[←J]at t;clear J;by_cases bw:Q<100*A
    ·rw[ah bw]at t;have X:aO F0 Fo (fun s=>s=j) w0 (w1.setCell ⟨j,0,none⟩ (.int .i64 ((a:Int)+1))) I lb Z cap sb ab B.1 z∧cC (w1.setCell ⟨j,0,none⟩ (.int .i64 ((a:Int)+1))) j B.2.1 B.2.2.1 B.2.2.2:=(by rw[←t];exact⟨av.out,a0.out⟩);have O:=aa X;clear t X;go_wp2_with (first|(go_at_call 21;refine(aw.out _ kp).mono ?_;rintro e bD ⟨rfl,rfl⟩)|fail)
     go_ret;exact⟨rfl,O.out.1,O.out.2⟩
    ·rw[ag bw]at t;have N:=aa t;clear t;go_wp2_with (first|(go_at_call 21;refine(aw.out _ kp).mono ?_;rintro e bD ⟨rfl,rfl⟩)|fail)
     go_roundg (gk-1)
     case rel=>exact⟨k,aK p a,a+1,b,m,by omega,am,W,⟨by omega,by rw[eK];exact bb.out,N.out⟩,av.out,a0.out⟩
     case measure=>omega
theorem Ak (a b:Nat)(q:a<2 ^ 16)(s:b<2 ^ 16):bits BinOp.or IntKind.u16 (a:Int) (b:Int)=((a ||| b:Nat):Int):=by
 have j:∀c:Nat,c<2 ^ 16→(BitVec.ofInt 16 (c:Int)).toNat=c:=fun c t=>by
  rw[BitVec.ofInt_natCast,BitVec.toNat_ofNat];exact dT (by omega)
 have t:a ||| b<2 ^ 16:=Nat.or_lt_two_pow q s;show IntKind.u16.wrap ((BitVec.ofInt 16 (a:Int) ||| BitVec.ofInt 16 (b:Int)).toNat:Int)=_;rw[BitVec.toNat_or,j a q,j b s,IntKind.wrap_u16];omega
theorem Ea (j:Nat):∀(ps:List Int) (v:Int),bG j (ps++[v])=bG j ps+vb j v*2 ^ ps.length:=by
 intro ps;induction ps with
 |nil=>intro v;show vb j v+2*0=0+vb j v*2 ^ 0;omega
 |cons a ps s=>
  intro v;show vb j a+2*bG j (ps++[v])=vb j a+2*bG j ps+vb j v*2 ^ (ps.length+1);have q:2*(vb j v*2 ^ ps.length)=vb j v*(2 ^ ps.length*2):=by rw[iW (2 ^ ps.length) 2,←Nat.mul_assoc,←Nat.mul_assoc,iW 2 (vb j v)]
  rw[s,dd,Nat.mul_add,q];omega
theorem pR (j:Nat):∀ps:List Int,bG j ps<2 ^ ps.length:=by
 intro ps;induction ps with
 |nil=>exact Nat.one_pos
 |cons v ps q=>
  have:=kM j v;show vb j v+2*bG j ps<2 ^ (ps.length+1);rw[dd];omega
theorem zq {F:Nat→Prop}{w:World}{a0:Nat}{ps:List Int}(h:ba F w a0 ps)(j:Nat)(bd:j≤65535) :
  Calls Tryz.prog 147 #[.pointer (some ⟨a0,0,none⟩),.int .i64 (j:Int)] w fun e w'=>e=.returned (.int .u16 (bG j ps:Int))∧ae w w':=by
 have a':=h.le
 obtain⟨-,av,-⟩:=dD.1 h.perm
 have a7:=aa (fun(A:World) (E:ae w A) (i:Nat) (x:Int) (a0:ps[i]?=some x)=>sD (h.ad E) i x a0)
 have Y:=aa (fun(A:World) (E:ae w A)=>lC (h.ad E))
 have S:∀i,i<ps.length→∃u:Nat,ps[i]?=some (u:Int)∧u<16:=fun i hi=>by
  have e:ps[i]?=some ps[i]:=ar hi;have a0:=av _ (bB e);exact⟨_,by rw[e,Int.toNat_of_nonneg a0.1],by omega⟩
 have aw:∀i u,ps[i]?=some ((u:Nat):Int)→bG j (ps.take (i+1))=bG j (ps.take i) ||| (j / 2 ^ u%2)*2 ^ i:=fun i u B=>by
  have a0:=(List.getElem?_eq_some_iff.1 B).1;have am:(ps.take i).length=i:=by rw[iV];omega
  have t:=pR j (ps.take i);rw[am]at t
  have bi:vb j (u:Int)=j / 2 ^ u%2:=by
   unfold vb;rw[nT];rcases Nat.mod_two_eq_zero_or_one (j / 2 ^ u)with h|h<;>rw[h]<;>rfl
  rw[gT B,Ea,am,bi,Nat.or_comm,iW _ (2 ^ i),←Nat.two_pow_add_eq_or_of_lt t,kT]
 have t:∀i,bG j (ps.take i)<65536:=fun i=>by
  have ab:=pR j (ps.take i);have bb:2 ^ (ps.take i).length≤2 ^ 16:=aW (by decide) (by rw[iV];omega);have am:(2:Nat) ^ 16=65536:=rfl;omega
 obtain⟨s,O⟩:∃s,s=ps.length:=⟨_,rfl⟩
 have ad:bG j ps=bG j (ps.take s):=by rw[O,List.take_length]
 rw[ad]
 rw[←O]at Y a' S
 have a4:=aa S
 have a5:=aa aw
 have X:=aa t
 have Z:bG j (ps.take 0)=0:=rfl
 have a1:=aa Z
 clear h av S aw t O ad Z
 go_enter Tryz.func147,Tryz.ntmps147
 go_wp2_with (first|(go_at_call 99;refine(Y.out _ kp).mono ?_;rintro e w1 ⟨rfl,rfl⟩)|fail)
 go_loopg [5,6,9] s (fun gk O S S wr=>∃i:Nat,O=.int .u16 (bG j (ps.take i):Int)∧S=.int .i64 (i:Int)∧i+gk=s∧ae w wr)
 case atStart=>exact⟨0,by rw[a1.out];rfl,rfl,by omega,kp⟩
 case round=>
  obtain⟨i,rfl,rfl,hi,al⟩:=hrel;have t:=X.out i;have T:=X.out (i+1);obtain⟨y,U⟩:∃y,y=bG j (ps.take i):=⟨_,rfl⟩;rw[←U]at t ⊢;have N:=aa U;clear U;by_cases be:i<s
  ·obtain⟨u,B,t⟩:=a4.out i be;have q:=a5.out i u B;rw[←N.out]at q;have a8:=aa (fun(A:World) (E:ae w A)=>a7.out A E i u B);obtain⟨z,I⟩:∃z,z=j / 2 ^ u:=⟨_,rfl⟩;have t:z≤65535:=(by rw[I];exact eF (Nat.div_le_self _ _) bd);have t:(j:Int) / 2 ^ u=(z:Int):=(by rw[I];push_cast;rfl);have hand:bits BinOp.and IntKind.i64 (z:Int) 1=((z%2:Nat):Int):=(by rw[nM _ (by omega) (by omega)];push_cast;rfl);rw[←I]at q;obtain⟨b,J⟩:∃b,b=z%2:=⟨_,rfl⟩;rw[←J]at hand q;have j:b<2:=by rw[J];exact bU _ (by decide)
   have bg:b*2 ^ i<65536:=by
    have ab:2 ^ i≤2 ^ 15:=aW (by decide) (by omega);have bb:b*2 ^ i≤1*2 ^ 15:=iX (by omega) ab;have j:(2:Nat) ^ 15=32768:=rfl;omega
   obtain⟨r,L⟩:∃r,r=b*2 ^ i:=⟨_,rfl⟩;rw[←L]at q bg
   have j:IntKind.u16.wrap ((b:Int)*2 ^ i)=(r:Int):=by
    rw[show(b:Int)*2 ^ i=(r:Int) by rw[L];push_cast;rfl,IntKind.wrap_u16];omega
   have bf:bits BinOp.or IntKind.u16 (y:Int) (r:Int)=((y ||| r:Nat):Int):=Ak _ _ (by omega) (by omega);rw[q]at T;obtain⟨j,W⟩:∃j,j=y ||| r:=⟨_,rfl⟩;rw[←W]at bf q T;have a6:=aa q;have j:=aa (⟨I,J,L,W⟩:_∧_∧_∧_);clear I J L W q B;go_wp2_with (first|(go_at_call 164;refine(a8.out _ kp).mono ?_;rintro e w1 ⟨rfl,rfl⟩)|fail)
   go_roundg (gk-1)
   case rel=>exact⟨i+1,by rw[a6.out],by push_cast;rfl,by omega,al⟩
   case measure=>omega
  ·have j:i=s:=(by omega);rw[j]at N;have a3:=aa N.out;clear j T;go_wp2_with fail;go_ret;exact⟨by rw[←a3.out];rfl,al⟩
theorem zE {M:St}{f:Int}{e:Edge}(j:aR f=true)(s:0≤M.n)(q:M.leads f e 0=true):cJ M f e 0=0:=by
 unfold cJ;rw[ag (by rw[j];simp),ag (by omega),ag (by rw[q];simp)]
def ew (g:Nat→Bool)(d:Nat):List Nat:=(List.range d).filter g
theorem Co (g:Nat→Bool)(d:Nat):ew g (d+1)=if g d then ew g d++[d]else ew g d:=by
 unfold ew;rw[List.range_succ,List.filter_append];cases h:g d<;>simp[h]
theorem lI {g:Nat→Bool}{d x:Nat}:x∈ew g d↔x<d∧g x=true:=by
 unfold ew;rw[List.mem_filter,List.mem_range]
theorem wz {F Fo:Nat→Prop}{w:World}{sb b7:Nat}{M:St}{ps:List Int}(h:ak F w sb M)(al:ba Fo w b7 ps)(a7:M.n=(ps.length:Int))(f:Int)(a3:aR f=true)(e:Edge)(bD:e.ok)(ad:M.leads f e 0=true) :
  Calls Tryz.prog 91 #[.pointer (some ⟨sb,0,none⟩),.pointer (some ⟨b7,0,none⟩),.int .u8 f,.agg #[.int .u8 e.tag,.int .u32 e.to]] w fun r w'=>∃g ws,w.heap.size≤g∧r=.returned (.tuple #[.agg #[.int .i64 (ps.length:Int),.slice (some ⟨g,0,none⟩) ws.length ws.length],.int .u8 0])∧bJ w' g ws∧(∀x∈ws,0≤x∧x<2 ^ 64)∧dP (ps.length:Int) ws=true∧gH ps.length ws=tabP M ps f e∧ae w w':=by
 have S:=al.le
 have b3:=fun(j:World) (s:ae w j)=>qx (h.ad s) (al.ad s) a7 f a3
 have X:=fun(j:World) (s:ae w j)=>dw (h.ad s)
 rw[a7]at X
 have b2:=fun(q:Nat) (T:q≤65535) (j:World) (s:ae w j)=>zq (al.ad s) q T
 have b5:2 ^ ps.length≤2 ^ 16:=aW (by decide) S
 have cy:(2:Nat) ^ 16=65536:=rfl
 have b6:∀q,(bG q ps:Int)≤65535:=fun q=>by have:=pR q ps;omega
 have a5:∀(q:Nat) (j:World),ae w j→Calls Tryz.prog 146 #[.pointer (some ⟨sb,0,none⟩),.int .u8 f,.agg #[.int .u8 e.tag,.int .u32 e.to],.int .i64 0,.int .u16 (bG q ps:Int)] j fun r w'=>r=.returned (.tuple #[.bool (tv M f (bG q ps:Int) 0 e),.int .u8 0])∧ae j w':=fun q j s=>by
  have:=yl (h.ad s) f e 0 (bG q ps:Int) bD (by omega) (b6 q);rw[zE a3 (by omega) ad]at this;exact this
 have z:=fun(l:List Nat) (ad:∀x∈l,x<2 ^ ps.length) (b7:l.length≤65536) (a:Option Addr) (cap:Nat) (j:World) (ab:bH j a (l.map (fun x:Nat=>(x:Int))))=>Cl ps.length S a cap l j ab ad b7
 obtain⟨g,b0⟩:∃g:Nat→Bool,g=fun q=>tv M f (bG q ps:Int) 0 e:=⟨_,rfl⟩
 have a4:∀q,tv M f (bG q ps:Int) 0 e=g q:=fun q=>by rw[b0]
 simp only[a4]at a5
 have U:∀(t:Nat) (w':World),bJ w' t (eI (max 1 (2 ^ ps.length / 64)) (ew g (2 ^ ps.length)))→ae w w'→w.heap.size≤t→∃g ws,w.heap.size≤g∧(Ending.returned (.tuple #[.agg #[.int .i64 (ps.length:Int),.slice (some ⟨t,0,none⟩) (max 1 (2 ^ ps.length / 64)) (max 1 (2 ^ ps.length / 64))],.int .u8 0]):Ending)=.returned (.tuple #[.agg #[.int .i64 (ps.length:Int),.slice (some ⟨g,0,none⟩) ws.length ws.length],.int .u8 0])∧bJ w' g ws∧(∀x∈ws,0≤x∧x<2 ^ 64)∧dP (ps.length:Int) ws=true∧gH ps.length ws=tabP M ps f e∧ae w w':=fun t w' c0 L c3=>by
  have b7:=m9 ps.length S;obtain⟨b7,cE,cS⟩:=o3 (n:=ps.length) (K:=max 1 (2 ^ ps.length / 64)) (fun x N=>by omega) (ew g (2 ^ ps.length)) (fun x N=>(lI.1 N).1);refine⟨t,_,c3,?_,c0,cE.1,Ad S (fun x N=>(lI.1 N).1),?_,L⟩;·rw[b7]
  ·apply List.ext_getElem?;intro q;by_cases T:q<2 ^ ps.length
   ·rw[tu T,mY T,cS,a4];congr 1
    cases J:g q with
    |true=>exact bc (lI.2 ⟨T,J⟩)
    |false=>exact aY (fun c4=>by rw[(lI.1 c4).2]at J;cases J)
   ·rw[cO (by rw[tw];omega),cO (by rw[pN];omega)]
 obtain⟨c',hi,c7,c8,c9⟩:=info_parts jB
 obtain⟨n,a8⟩:∃n,n=ps.length:=⟨_,rfl⟩
 rw[←a8]at X b5 S U ⊢
 simp only[←a8]at z
 obtain⟨p,am⟩:∃p,p=2 ^ n:=⟨_,rfl⟩
 have q:IntKind.i64.wrap (2 ^ n)=(p:Int):=by
  rw[show(2:Int) ^ n=((2 ^ n:Nat):Int) by push_cast;rfl,←am];exact lO _ (by omega)
 rw[←am]at b5 U
 simp only[←am]at z
 obtain⟨K,a0⟩:∃K,K=max 1 (p / 64):=⟨_,rfl⟩
 simp only[←a0]at z
 rw[←a0]at U
 obtain⟨Q,a1⟩:∃Q,Q=fun(r:Ending) (w':World)=>∃g ws,w.heap.size≤g∧r=.returned (.tuple #[.agg #[.int .i64 (n:Int),.slice (some ⟨g,0,none⟩) ws.length ws.length],.int .u8 0])∧bJ w' g ws∧(∀x∈ws,0≤x∧x<2 ^ 64)∧dP (n:Int) ws=true∧gH n ws=tabP M ps f e∧ae w w':=⟨_,rfl⟩
 have q:∀(t:Nat) (w':World),bJ w' t (eI K (ew g p))→ae w w'→w.heap.size≤t→Q (.returned (.tuple #[.agg #[.int .i64 (n:Int),.slice (some ⟨t,0,none⟩) K K],.int .u8 0])) w':=by rw[a1];exact U
 rw[←a1]
 have bn:=aa b3
 have br:=aa X
 have bs:=aa X
 have ce:=aa b2
 have cb:=aa a5
 have cg:=aa z
 have ca:=aa q
 clear h al a7 a3 bD ad b3 X b2 a5 z U q a4 b0 a8 am a0 a1 b6
 go_enter Tryz.func91,Tryz.ntmps91
 go_wp2_with (first
  |(go_at_call 96;refine(bn.out _ kp).mono ?_;rintro d0 w1 ⟨rfl,A⟩;have bd:=A.U (a:=⟨w.heap.size,0,none⟩) (v:=.int .u8 e.tag);have be:=A.U (a:=⟨w.heap.size,1,none⟩) (v:=.int .u32 e.to);have bt:=A.U (a:=⟨w.heap.size+1,0,none⟩) (v:=.int .i64 0);have bv:=A.U (a:=⟨w.heap.size+1,1,none⟩) (v:=.slice none 0 0);have bw:=fun o:Nat=>A.d' (a:=⟨w.heap.size+1,o,none⟩);have dl:=A.size;simp only[ai]at dl;have q:ae w w1:=(show ae w _ from kp).trans A;have bg:=aa q;clear A q)
  |(go_at_call 48;refine(br.out _ bg.out).mono ?_;rintro cD dB ⟨rfl,rfl⟩)
  |fail)
 obtain⟨Z,c1⟩:∃j,j=w1:=⟨w1,rfl⟩
 subst c1
 clear bn br cy
 have q:Hid (∀j,ae w j→Calls Tryz.prog 48 #[.pointer (some ⟨sb,0,none⟩)] j fun e w'=>e=.returned (.int .i64 (n:Int))∧j=w'):=bs
 go_loopg [11,12,13,14,26] p (fun gk q t t t t wr=>∃(d m:Nat) (E:Option Addr) (I:Nat),q=.slice E m I∧t=.int .i64 (d:Int)∧d+gk=p∧m≤d∧(m=(ew g d).length∧wr.ownsRow Z.heap.size 3 1 (.slice E m I) m ((ew g d).map (fun x:Nat=>Value.int .i64 (x:Int))))∧ae Z wr)
 case atStart=>exact⟨0,0,none,0,rfl,rfl,by omega,by omega,⟨rfl,World.ownsRow_nil _ _ _ _⟩,kp⟩
 case round=>
  obtain⟨d,m,E,I,rfl,rfl,A,S,⟨q,t⟩,B⟩:=hrel;have O:=aa q;have aw:=aa t;have A:=B.size;replace bd:=B.cell bd;replace be:=B.cell be;have Y:=aa (bg.out.trans B);clear q t;by_cases q:d<p
  ·have cd:=aa (fun(j:World) (s:ae wr j)=>ce.out d (by omega) j (Y.out.trans s));have bf:=aa (fun(j:World) (s:ae wr j)=>cb.out d j (Y.out.trans s));have da:=an.cell bd;have db:=an.cell be;have a':=Co g d;obtain⟨b,J⟩:∃b,b=g d:=⟨_,rfl⟩;rw[←J]at bf a';have bq:=aa a';clear a' J;go_wp2_with fail;refine cU (wr) (by kernel_rfl) (by kernel_rfl) kp ?_;(repeat (go_big_quiet_step ((first|(go_at_call 147;with_reducible refine Calls.b1 (cd.out _ (an.a4 _)))|(go_at_call 146;with_reducible refine Calls.b1 (bf.out _ (an.a4 _)))))));refine wpQuiet_nil ?_;rintro b9 ⟨⟨_,a6⟩,rfl⟩;try dsimp only
   clear da db;have bp:=aa (ae.bp a6 aw.out);have bi:=aa (B.trans a6);have q:=a6.size;cases b with
   |false=>
    have W:ew g (d+1)=ew g d:=(by have:=bq.out;simpa using this);have av:=aa W;clear W;go_wp2_with fail;go_roundg (gk-1)
    case rel=>exact⟨d+1,m,E,I,rfl,by push_cast;rfl,by omega,by omega,by rw[av.out];exact⟨O.out,bp.out⟩,bi.out⟩
    case measure=>omega
   |true=>
    have W:ew g (d+1)=ew g d++[d]:=(by have:=bq.out;simpa using this);have av:=aa W;have dj:m+1≤maxLen:=(by unfold maxLen;omega);have dk:(m+1)*8≤140737488355328:=(by omega);clear W
    go_wp2_with (first
     |(at_builtin;refine wpList_append_own _ rfl _ _ 22 rfl Z.heap.size 3 c' (.int .i64 0) 1 8 Tryz.underlying22 hi c7 c8 c9 rfl (by decide) (.slice E m I) m ((ew g d).map (fun x:Nat=>Value.int .i64 (x:Int))) rfl (bp.out.alloc _) ⟨b9.heap.size,0,none⟩ 1 1 [.int .i64 (d:Int)] rfl rfl (eU _ _ _ _ rfl) (by simp[Value.oneCell']) (by exact dj) (by exact dk) (by simp;omega) ?_;intro q b8 b4 b1 _)
     |fail)
    obtain⟨dr,ds,rfl,-⟩:=dv b4;have q:af (fun k=>(Value.slice E m I).ownBlock=some k) b9 b8:=af.b8 (by(exact up)) b1 (fun k L=>.inl L);have c5:ae Z b8:=bi.out.new q (fun k L=>gd aw.out L);go_roundg (gk-1)
    case rel=>
     refine⟨d+1,m+1,dr,ds,rfl,by push_cast;rfl,by omega,by omega,?_,c5⟩;rw[av.out];refine⟨by rw[di,←O.out];rfl,?_⟩;rw[fL];exact b4
    case measure=>omega
  ·have c2:d=p:=(by omega);subst c2
   have ab:∀j,ae wr j→bH j E ((ew g d).map (fun x:Nat=>(x:Int))):=fun j s=>by
    have h:=ae.bp s aw.out;have e:(ew g d).map (fun x:Nat=>Value.int .i64 (x:Int))=((ew g d).map (fun x:Nat=>(x:Int))).map (Value.int .i64):=(by rw[List.map_map];rfl);rw[e]at h;exact rE h (by rw[fy];exact O.out)
   have z:=fun(j:World) (s:ae wr j)=>cg.out (ew g d) (fun x N=>(lI.1 N).1) (by rw[←O.out];omega) E I j (ab j s);rw[←O.out]at z;have ch:=aa z;have ci:=aa (fun(j:World) (s:ae wr j)=>bs.out j (Y.out.trans s));have cj:=B.cell bt;have cl:=B.cell bv;have cn:=fun o:Nat=>B.a3 (a:=⟨w.heap.size+1,o,none⟩) (by show w.heap.size+1<_;omega) (bw o);clear ab z bt bv bw
   go_wp2_with (first
    |(go_at_call 48;refine(ci.out _ kp).mono ?_;rintro cD dB ⟨rfl,rfl⟩)
    |(go_at_call 148;refine(ch.out _ kp).mono ?_;rintro d1 bb ⟨bx,b1,rfl,s,j⟩;have co:=j.cell cj;have cp:=j.cell cl;have q:=fun o:Nat=>j.a3 (a:=⟨w.heap.size+1,o,none⟩) (by show w.heap.size+1<_;omega) (cn o);have cv:=q 0;have cx:=q 1;have t:=j.size;have c6:w.heap.size+1<bb.heap.size:=(by omega);have cf:=aa s;have cc:=aa (Y.out.trans j);clear s)
    |fail)
   refine aq (v:=.tuple #[.agg #[.int .i64 (n:Int),.slice (some ⟨bx,0,none⟩) K K],.int .u8 0]) (by simp[results,Tryz.results91,go_sem,co,cp,cv,cx,c6]) rfl ?_;refine ca.out bx _ ?_ ?_ (by omega);·exact cf.out.a4 ((af.refl (fun k=>k=w.heap.size+1) bb).setCell (p:=⟨w.heap.size+1,0,none⟩) (.inl rfl) _ |>.setCell (p:=⟨w.heap.size+1,1,none⟩) (.inl rfl) _) (by omega)
   ·exact cc.out.new ((af.refl (fun k=>k=w.heap.size+1) bb).setCell (p:=⟨w.heap.size+1,0,none⟩) (.inl rfl) _ |>.setCell (p:=⟨w.heap.size+1,1,none⟩) (.inl rfl) _) (fun k L=>by omega)
theorem vH {F0 Fo:Nat→Prop}{w0 w:World}{E lb cap sb Z n j a b m g:Nat}{Y:Option Addr}{ps:List Int}{z:List (Int×List Bool)}(h:aO F0 Fo (fun s=>s=j) w0 w E lb Y cap sb Z ps z)(br:ps.length=n)(bw:cC w j a b m)
  (X:j<w0.heap.size∧¬F0 j∧¬Fo j∧j≠E∧j≠lb) (a6:a<n) (al:b<n) (U:m≤508) (cb:g≤1000) :
  Calls Tryz.prog 109 #[.pointer (some ⟨E,0,none⟩),.pointer (some ⟨j,0,none⟩),.int .i64 (-1),.int .i64 0,.int .i64 (g:Int)] w fun e w'=>e=.returned (.bool true) ∧
   aO F0 Fo (fun s=>s=j) w0 w' E lb Y cap sb Z (fG (aG z) g a ps b m).1 z∧cC w' j (fG (aG z) g a ps b m).2.1 (fG (aG z) g a ps b m).2.2.1 (fG (aG z) g a ps b m).2.2.2:=by
 obtain⟨B,J⟩:∃B,B=fG (aG z) g a ps b m:=⟨_,rfl⟩
 rw[←J]
 have cb:n≤6:=by have:=h.ek.1.1;omega
 have a':=aa h
 have be:=aa J
 have bD:=aa br
 have O:=aa bw
 have bf:=aa X
 have bs:¬(F0 j∨Fo j∨j=lb∨w0.heap.size≤j):=fun b9=>by
  rcases b9 with q|q|q|q;·exact X.2.1 q
  ·exact X.2.2.1 q
  ·exact X.2.2.2.2 q
  ·omega
 have b0:=aa bs
 clear h J br bw X bs
 go_enter Tryz.func109,Tryz.ntmps109
 go_wp2_with fail
 go_loopg [11] a (fun gk X wr=>∃(p:List Int) (b m:Nat),gk<n∧b<n∧m≤508∧(p.length=n∧fG (aG z) g gk p b m=B)∧aO F0 Fo (fun s=>s=j) w0 wr E lb Y cap sb Z p z∧cC wr j gk b m)
 case atStart=>exact⟨ps,b,m,a6,al,U,⟨bD.out,be.out.symm⟩,a'.out,O.out⟩
 case round=>
  clear a' O be al U a6;obtain⟨p,b,m,a6,al,U,⟨a8,t⟩,S,J⟩:=hrel;obtain⟨b2,b3,b4,bg⟩:=J.cells;by_cases b8:gk=0
  ·subst b8;have W:aO F0 Fo (fun s=>s=j) w0 wr E lb Y cap sb Z B.1 z∧cC wr j B.2.1 B.2.2.1 B.2.2.2:=(by rw[←t];exact⟨S,J⟩);have N:=aa W;clear t W S J a8 bg;go_wp2_with fail;go_ret;exact⟨rfl,N.out.1,N.out.2⟩
  ·obtain⟨a,rfl⟩:∃a,gk=a+1:=⟨gk-1,by omega⟩;have a6:=fun(ab:World) (a4:ae wr ab)=>kU (S.ad a4) a (by omega);have X:=S.ek;have b5:=X.2.1.c0;have a':IntKind.i64.wrap ((a:Int)+1 + -1)=(a:Int):=(IntWalk.i64_in _ ⟨by omega,by omega⟩).trans (by omega);have bd:=aa a6;have O:=aa J;have L:=aa t;have bb:=aa a8;clear a6 J t a8 S X;go_wp2_with fail;refine kN 12 #[true,true,true,true,true,true,true,true,true,true,true,true,false,false] (by kernel_rfl) (by kernel_rfl) ?_;simp only[List.take_succ_cons,List.take_zero,List.drop_succ_cons,List.drop_zero];repeat still_step
   refine wpStill_nil ?_;refine wpAny_ready (fuel:=1) (rs:=[12]) (by kernel_rfl) (by decide) (AllReady.cons rfl (fun K T=>?_) AllReady.nil);go_simp;rw[ah (show(a:Int)<(a:Int)+1 by omega)];refine(bd.out _ kp).mono ?_;rintro e w1 ⟨rfl,a0,bp⟩;refine T _ _ ?_;clear T K;refine wpAny_ready (rs:=[13]) (by kernel_rfl) (by decide) (AllReady.cons rfl (fun K T=>?_) AllReady.nil);go_simp;refine T _ _ ?_;clear T K;refine wpAny_done (by kernel_rfl) ?_ _;have a3:=(O.out.ad (((ae.refl wr).drew))).a4 bp b0.out;have a5:∀s,s=j→s<w0.heap.size∧¬F0 s∧¬Fo s∧s≠E∧s≠lb:=fun s ca=>(by subst ca;exact bf.out);have ad:=a0.gb (w':=w1.setCell ⟨j,0,none⟩ (.int .i64 (a:Int))) ((af.refl (fun s=>s=j) w1).setCell (.inl rfl) _) a5;have bn:=a3.hj a (a:Int) rfl;have a7:=fun(ab:World) (a4:ae (w1.setCell ⟨j,0,none⟩ (.int .i64 (a:Int))) ab)=>lW ad ab a4;have a1:=ad.size;obtain⟨S,J,T,X⟩:=a3.cells;have J:=a0.ek.2.1.c0;have J:j≠E:=bf.out.2.2.2.1;have T:E≠j:=fun e=>J e.symm;have J:j<w1.heap.size:=aB S;obtain⟨A,bi⟩:∃A,A=aG z (aK p a):=⟨_,rfl⟩;have t:=L.out;unfold fG at t;rw[←bi]at a7 a1 t;have av:=aa a7;have am:=aa ad;have aw:=aa bn;have b1:=aa a5;clear a7 ad bn a0 bp a3 a5 bi L bd O b2 b3 b4 b5 bg;by_cases bq:A<m
   ·have bt:¬(100+g)*min m A<100*A:=by
     rw[Nat.min_eq_right (by omega),Nat.add_mul];omega
    rw[ag bt,ah bq,Nat.min_eq_right (by omega)]at t;have L:=aa t;obtain⟨Q,I⟩:∃Q:Nat,Q=(100+g)*A:=⟨_,rfl⟩;have b7:(100+(g:Int))*(A:Int)=(Q:Int):=(by rw[I];push_cast;rfl);have b6:Q≤1100*508:=(by rw[I];exact iX (by omega) a1);have J:100*A≤Q:=(by rw[I,Nat.add_mul];omega);clear t bt I;go_wp2_with (first|(go_at_call 21;refine(av.out _ kp).mono ?_;rintro e bx ⟨rfl,rfl⟩)|fail)
    go_roundg a
    case rel=>exact⟨aK p a,a,A,by omega,by omega,a1,⟨by rw[eK];exact bb.out,L.out⟩,am.out.gb ((((af.refl (fun s=>s=j) _).setCell (.inl rfl) _)).setCell (.inl rfl) _) b1.out,(aw.out.hl A _ rfl).hk a _ rfl⟩
    case measure=>omega
   ·rw[ag bq,Nat.min_eq_left (by omega)]at t;obtain⟨Q,I⟩:∃Q:Nat,Q=(100+g)*m:=⟨_,rfl⟩;have b7:(100+(g:Int))*(m:Int)=(Q:Int):=(by rw[I];push_cast;rfl);have b6:Q≤1100*508:=(by rw[I];exact iX (by omega) U);rw[←I]at t;clear I;by_cases bv:Q<100*A
    ·rw[ah bv]at t;have W:aO F0 Fo (fun s=>s=j) w0 (w1.setCell ⟨j,0,none⟩ (.int .i64 (a:Int))) E lb Y cap sb Z B.1 z∧cC (w1.setCell ⟨j,0,none⟩ (.int .i64 (a:Int))) j B.2.1 B.2.2.1 B.2.2.2:=(by rw[←t];exact⟨am.out,aw.out⟩);have N:=aa W;clear t W;go_wp2_with (first|(go_at_call 21;refine(av.out _ kp).mono ?_;rintro e bx ⟨rfl,rfl⟩)|fail)
     go_ret;exact⟨rfl,N.out.1,N.out.2⟩
    ·rw[ag bv]at t;have L:=aa t;clear t;go_wp2_with (first|(go_at_call 21;refine(av.out _ kp).mono ?_;rintro e bx ⟨rfl,rfl⟩)|fail)
     go_roundg a
     case rel=>exact⟨aK p a,b,m,by omega,al,U,⟨by rw[eK];exact bb.out,L.out⟩,am.out,aw.out⟩
     case measure=>omega
theorem vD {F Fo:Nat→Prop}{w:World}{S lb cap sb ab n v g:Nat}{Z:Option Addr}{M:St}{ps:List Int}{s:List (Int×List Bool)}{rs:List (Int×Edge)}(h:gK F Fo w S lb Z cap sb ab M ps s rs)(U:ps.length=n)(E:v<n)(b1:g≤1000) :
  Calls Tryz.prog 58 #[.pointer (some ⟨S,0,none⟩),.int .i64 (v:Int),.int .i64 (g:Int)] w fun e w'=>e=.returned (.bool true)∧aO F Fo (fun _=>False) w w' S lb Z cap sb ab (lA (aG s) g ps (ps.idxOf (v:Int))) s:=by
 have b3:=sK h.perm (v:=(v:Int)) (by omega) (by omega)
 have Y:ps.idxOf (v:Int)<n:=by rw[←U];exact List.idxOf_lt_length_of_mem b3
 have b2:ps[ps.idxOf (v:Int)]?=some (v:Int):=by rw[ar (by rw[U];exact Y),List.getElem_idxOf]
 have bd:=fun(B:World) (T:ae w B)=>Al (h.bq.b7.ad T) (ps.idxOf (v:Int)) v b2
 have bg:=fun(B:World) (T:ae w B)=>lC (h.bq.b7.ad T)
 have bb:=lW (aO.start h (fun _=>False))
 have a5:=aO.size (aO.start h (fun _=>False))
 have a':=h.cells
 have A:=h.n6
 obtain⟨a,bD⟩:∃a,a=ps.idxOf (v:Int):=⟨_,rfl⟩
 obtain⟨t,a6⟩:∃t,t=aG s ps:=⟨_,rfl⟩
 rw[←bD]at Y bd ⊢
 rw[←a6]at bb a5
 rw[U]at bg A
 have cd:=a'.c0
 have bt:=a'.c1
 obtain⟨A,E⟩:=h.e2
 have a0:lA (aG s) g ps a=bu (fG (aG s) g (dg (aG s) g (n-1-a) ps a a t).2.1 (dg (aG s) g (n-1-a) ps a a t).1 (dg (aG s) g (n-1-a) ps a a t).2.2.1 (dg (aG s) g (n-1-a) ps a a t).2.2.2).1 (eu (fG (aG s) g (dg (aG s) g (n-1-a) ps a a t).2.1 (dg (aG s) g (n-1-a) ps a a t).1 (dg (aG s) g (n-1-a) ps a a t).2.2.1 (dg (aG s) g (n-1-a) ps a a t).2.2.2).2.1 (fG (aG s) g (dg (aG s) g (n-1-a) ps a a t).2.1 (dg (aG s) g (n-1-a) ps a a t).1 (dg (aG s) g (n-1-a) ps a a t).2.2.1 (dg (aG s) g (n-1-a) ps a a t).2.2.2).2.2.1):=by
  rw[a6,←U];rfl
 have I:=t' (aG s) g n (n-1-a) ps a a t U (by omega) Y
 obtain⟨z,a7⟩:∃z,z=dg (aG s) g (n-1-a) ps a a t:=⟨_,rfl⟩
 rw[←a7]at a0 I
 have ad:=ub (aG s) g n z.2.1 z.1 z.2.2.1 z.2.2.2 I.len I.ch I.eR
 obtain⟨J,a8⟩:∃J,J=fG (aG s) g z.2.1 z.1 z.2.2.1 z.2.2.2:=⟨_,rfl⟩
 rw[←a8]at a0 ad
 rw[a0]
 -- the three trips, from the world in which the trip lies
 have am:=fun(A B:World) (q:Nat) (al:ae w A) (N:w.heap.size≤q∧q<A.heap.size) (be:cC A q a a t) (T:ae A B)=>by
  have bi:¬F q:=fun O=>by have:=h.bq.a8.lt q O;omega
  have bn:¬Fo q:=fun O=>by have:=h.bq.b7.lt q O;omega
  exact vC (F0:=F) (w0:=A) ((aO.start (h.ad al) (fun E=>E=q)).ad T) U (be.ad T) ⟨N.2,bi,bn,by omega,by omega⟩ Y Y a5 b1
 have bf:=fun(A B:World) (q:Nat) (al:ae w A) (N:w.heap.size≤q∧q<A.heap.size) (T:aO F Fo (fun E=>E=q) A B S lb Z cap sb ab z.1 s) (be:cC B q z.2.1 z.2.2.1 z.2.2.2)=>by
  have bi:¬F q:=fun O=>by have:=h.bq.a8.lt q O;omega
  have bn:¬Fo q:=fun O=>by have:=h.bq.b7.lt q O;omega
  exact vH (n:=n) (g:=g) T I.len be ⟨N.2,bi,bn,by omega,by omega⟩ I.ch I.eR (eF I.e1 a5) b1
 have b4:=fun(A B:World) (q:Nat) (T:aO F Fo (fun E=>E=q) A B S lb Z cap sb ab J.1 s)=>vG (n:=n) T ad.len J.2.1 J.2.2.1 ad.ch ad.eR
 have b0:=fun(A B:World) (q:Nat) (al:ae w A) (N:w.heap.size≤q) (T:aO F Fo (fun E=>E=q) A B S lb Z cap sb ab (bu J.1 (eu J.2.1 J.2.2.1)) s)=>aO.next (F0:=F) (X0:=fun _=>False) (w0:=w) (fun E s=>.inl s) (al.av _) (fun E s=>.inr (by rw[s];exact N)) T
 rw[←a7]at am
 rw[show((n-1:Nat):Int)=(n:Int)-1 by omega]at am
 simp only[←a8]at bf
 have b8:=aa bd
 have cc:=aa bg
 have b7:=aa bb
 have b6:=aa am
 have cb:=aa bf
 have bs:=aa b4
 have br:=aa b0
 clear bd bg bb am bf b4 b0 h a' b3 b2 a0 I ad a7 a8 bD a6
 go_enter Tryz.func58,Tryz.ntmps58
 go_wp2_with (first
  |(go_at_call 108;refine(b8.out _ kp).mono ?_;rintro e w1 ⟨rfl,rfl⟩)
  |(go_at_call 21;refine(b7.out _ kp).mono ?_;rintro e w1 ⟨rfl,rfl⟩)
  |fail)
 have av:ae w (w.alloc (.cells #[.int .i64 (a:Int),.int .i64 (a:Int),.int .i64 (t:Int)] 185)):=(ae.refl _).alloc _
 have a3:cC (w.alloc (.cells #[.int .i64 (a:Int),.int .i64 (a:Int),.int .i64 (t:Int)] 185)) w.heap.size a a t:=by
  show(w.heap.push _)[w.heap.size]?=_;simp
 have a1:w.heap.size<(w.alloc (.cells #[.int .i64 (a:Int),.int .i64 (a:Int),.int .i64 (t:Int)] 185)).heap.size:=by simp
 obtain⟨L,bx⟩:∃L,L=w.alloc (.cells #[.int .i64 (a:Int),.int .i64 (a:Int),.int .i64 (t:Int)] 185):=⟨_,rfl⟩
 rw[←bx]at av a3 a1 ⊢
 clear bx
 obtain⟨q,N⟩:∃q,q=w.heap.size:=⟨_,rfl⟩
 rw[←N]at a3 a1 ⊢
 have aw:w.heap.size≤q:=by omega
 have s:IntKind.i64.wrap ((n:Int)-1)=(n:Int)-1:=IntWalk.i64_in _ ⟨by omega,by omega⟩
 have s:=av.cell bt
 have b9:=aa a3
 have W:=aa av
 clear N a3 av cd bt
 refine kN 9 #[true,true,true,true,true,true,true,true,true,false,false,false,false,false,false,false,false,false,false,false,false,false,false,false,false,false,false,false,false] (by kernel_rfl) (by kernel_rfl) ?_
 simp only[List.take_succ_cons,List.take_zero,List.drop_succ_cons,List.drop_zero]
 repeat still_step
 refine wpStill_step (fun K j=>?_)
 go_simp
 refine⟨_,(cc.out _ (W.out.trans kp)).mono (fun _ _ ⟨s,t⟩=>⟨s,t.symm⟩),j _ ?_⟩
 clear j K
 repeat still_step
 refine wpStill_nil ?_
 refine wpAny_ready (fuel:=19) (rs:=[9]) (by kernel_rfl) (by decide) (AllReady.cons rfl (fun K j=>?_) AllReady.nil)
 go_simp
 refine(b6.out L _ q W.out ⟨aw,a1⟩ b9.out kp).mono ?_
 rintro s s ⟨rfl,s,t⟩
 have b5:=aa s
 have ca:=aa t
 clear s t
 refine j _ _ ?_
 clear j K
 refine wpAny_ready (rs:=[10]) (by kernel_rfl) (by decide) (AllReady.cons rfl (fun K j=>?_) AllReady.nil)
 go_simp
 refine j _ _ ?_
 clear j K
 refine wpAny_take (i:=11) (v:=?_) rfl (by kernel_rfl) (by kernel_rfl) (by kernel_rfl) (fun _ _ _ h=>h) (Or.inl ⟨by rfl,?_⟩) ?_
 rotate_left
 ·intro w;go_simp;try with_reducible rfl
 refine wpAny_take (i:=12) (v:=?_) rfl (by kernel_rfl) (by kernel_rfl) (by kernel_rfl) (fun _ _ _ h=>h) (Or.inl ⟨by rfl,?_⟩) ?_
 rotate_left
 ·intro w;go_simp;try with_reducible rfl
 refine wpAny_take (i:=13) (v:=?_) rfl (by kernel_rfl) (by kernel_rfl) (by kernel_rfl) (fun _ _ _ h=>h) (Or.inl ⟨by rfl,?_⟩) ?_
 rotate_left
 ·intro w;go_simp;try with_reducible rfl
 refine wpAny_ready (rs:=[14]) (by kernel_rfl) (by decide) (AllReady.cons rfl (fun K j=>?_) AllReady.nil)
 go_simp
 refine(cb.out L _ q W.out ⟨aw,a1⟩ (b5.out.ad kp) (ca.out.ad kp)).mono ?_
 rintro s s ⟨rfl,bv,bw⟩
 obtain⟨z,A,s,t⟩:=bw.cells
 have bq:=aa bv
 clear bv bw t s
 refine j _ _ ?_
 clear j K
 refine wpAny_ready (rs:=[15]) (by kernel_rfl) (by decide) (AllReady.cons rfl (fun K j=>?_) AllReady.nil)
 go_simp
 refine j _ _ ?_
 clear j K
 refine wpAny_ready (rs:=[16]) (by kernel_rfl) (by decide) (AllReady.cons rfl (fun K j=>?_) AllReady.nil)
 go_simp
 refine j _ _ ?_
 clear j K
 refine wpAny_take (i:=17) (v:=?_) rfl (by kernel_rfl) (by kernel_rfl) (by kernel_rfl) (fun _ _ _ h=>h) (Or.inl ⟨by rfl,?_⟩) ?_
 rotate_left
 ·intro w;go_simp;try with_reducible rfl
 refine wpAny_take (i:=18) (v:=?_) rfl (by kernel_rfl) (by kernel_rfl) (by kernel_rfl) (fun _ _ _ h=>h) (Or.inl ⟨by rfl,?_⟩) ?_
 rotate_left
 ·intro w;go_simp;try with_reducible rfl
 refine wpAny_take (i:=19) (v:=?_) rfl (by kernel_rfl) (by kernel_rfl) (by kernel_rfl) (fun _ _ _ h=>h) (Or.inl ⟨by rfl,?_⟩) ?_
 rotate_left
 ·intro w;go_simp;try with_reducible rfl
 refine wpAny_take (i:=20) (v:=?_) rfl (by kernel_rfl) (by kernel_rfl) (by kernel_rfl) (fun _ _ _ h=>h) (Or.inl ⟨by rfl,?_⟩) ?_
 rotate_left
 ·intro w;go_simp;try with_reducible rfl
 refine wpAny_take (i:=22) (v:=?_) rfl (by kernel_rfl) (by kernel_rfl) (by kernel_rfl) (fun _ _ _ h=>h) (Or.inl ⟨by rfl,?_⟩) ?_
 rotate_left
 ·intro w;go_simp;try with_reducible rfl
 refine wpAny_take (i:=23) (v:=?_) rfl (by kernel_rfl) (by kernel_rfl) (by kernel_rfl) (fun _ _ _ h=>h) (Or.inl ⟨by rfl,?_⟩) ?_
 rotate_left
 ·intro w;go_simp;try with_reducible rfl
 refine wpAny_take (i:=24) (v:=?_) rfl (by kernel_rfl) (by kernel_rfl) (by kernel_rfl) (fun _ _ _ h=>h) (Or.inl ⟨by rfl,?_⟩) ?_
 rotate_left
 ·intro w;go_simp;try with_reducible rfl
 refine wpAny_ready (rs:=[21,25]) (by kernel_rfl) (by decide) (AllReady.cons rfl (fun K j=>?_) (AllReady.cons rfl (fun K j=>?_) AllReady.nil))
 ·go_simp;refine j _ _ ?_;clear j K;refine wpAny_ready (rs:=[25]) (by kernel_rfl) (by decide) (AllReady.cons rfl (fun K j=>?_) AllReady.nil);go_simp;refine j _ _ ?_;clear j K;refine wpAny_ready (rs:=[26]) (by kernel_rfl) (by decide) (AllReady.cons rfl (fun K j=>?_) AllReady.nil);go_simp;refine(bs.out L _ q (bq.out.ad kp)).mono ?_;rintro ce bp ⟨rfl,X⟩;have a4:=aa X;clear X;refine j _ _ ?_;clear j K;refine wpAny_ready (rs:=[27]) (by kernel_rfl) (by decide) (AllReady.cons rfl (fun K j=>?_) AllReady.nil);go_simp;refine j _ _ ?_;clear j K;refine wpAny_ready (rs:=[28]) (by kernel_rfl) (by decide) (AllReady.cons rfl (fun K j=>?_) AllReady.nil);go_simp;refine j _ _ ?_;clear j K;refine wpAny_done (by kernel_rfl) ?_ _;go_wp2_with fail;go_ret;exact⟨rfl,br.out L bp q W.out aw a4.out⟩
 ·go_simp;refine j _ _ ?_;clear j K;refine wpAny_ready (rs:=[21]) (by kernel_rfl) (by decide) (AllReady.cons rfl (fun K j=>?_) AllReady.nil);go_simp;refine j _ _ ?_;clear j K;refine wpAny_ready (rs:=[26]) (by kernel_rfl) (by decide) (AllReady.cons rfl (fun K j=>?_) AllReady.nil);go_simp;refine(bs.out L _ q (bq.out.ad kp)).mono ?_;rintro ce bp ⟨rfl,X⟩;have a4:=aa X;clear X;refine j _ _ ?_;clear j K;refine wpAny_ready (rs:=[27]) (by kernel_rfl) (by decide) (AllReady.cons rfl (fun K j=>?_) AllReady.nil);go_simp;refine j _ _ ?_;clear j K;refine wpAny_ready (rs:=[28]) (by kernel_rfl) (by decide) (AllReady.cons rfl (fun K j=>?_) AllReady.nil);go_simp;refine j _ _ ?_;clear j K;refine wpAny_done (by kernel_rfl) ?_ _;go_wp2_with fail;go_ret;exact⟨rfl,br.out L bp q W.out aw a4.out⟩
end Go.Proofs.YtafkamlhimkbmaaGreat
