/-
  sift.Least.
-/
import Derived.Test.YtafkamlhimkbmaaGreatPSiftF
import Derived.Test.YtafkamlhimkbmaaGreatPSiftGS
namespace Go.Proofs.YtafkamlhimkbmaaGreat
set_option maxRecDepth 1000000
set_option maxHeartbeats 8000000
set_option linter.unusedSimpArgs false
set_option linter.unusedVariables false
open Go.RowKit

theorem pK {M:St}{ps:List Int}{j:List (Int×List Bool)}{rs:List (Int×Edge)}(h:ct M ps j rs):eF M rs=0:=by
 have key:∀r∈rs,bD r.1=true∧gN M r.1 r.2 0=true:=fun r z=>by
  obtain⟨i,hi⟩:=List.mem_iff_getElem?.1 z;have z:=(List.getElem?_eq_some_iff.1 hi).1;obtain⟨z,s,q⟩:=h.2 i (j[i]'(by have:=h.1;omega)) r (List.getElem?_eq_getElem (by have:=h.1;omega)) hi;exact⟨by simp[bD];omega,ph s q.lead q.right⟩
 clear h;induction rs with
 |nil=>rfl
 |cons r rs A=>
  obtain⟨E,I⟩:=key r (by simp);rw[pJ,if_neg (by rw[E];simp),if_neg (by rw[I];simp)];exact A (fun j t=>key j (by simp[t]))

def eK (w:World)(F Fo:Nat→Prop)(lb:Nat)(a:Option Addr)(xs:List Int):Prop:=aL w a xs∧∀b off,a=some ⟨b,off,none⟩→b<w.heap.size∧¬F b∧¬Fo b∧b≠lb

theorem eK.U {w q:World}{F Fo:Nat→Prop}{lb:Nat}{a:Option Addr}{xs:List Int}(h:eK w F Fo lb a xs)(j:aa w q):eK q F Fo lb a xs:=
 ⟨h.1.U j,fun b off e=>by
  obtain⟨z,q,s,t⟩:=h.2 b off e;have:=j.size
  exact⟨by omega,q,s,t⟩⟩

theorem eK.step {w I:World}{F F' Fo:Nat→Prop}{lb:Nat}{a:Option Addr}{xs:List Int}(h:eK w F Fo lb a xs)(K:∀j,F' j→F j∨w.heap.size≤j)(E:ae (fun j=>F j∨Fo j∨j=lb∨False) w I):eK I F' Fo lb a xs:=by
 refine⟨fun i x L=>?_,fun b off e=>?_⟩
 ·obtain⟨b,off,e,c⟩:=h.1 i x L;obtain⟨J,s,t,z⟩:=h.2 b off e;exact⟨b,off,e,E.cellAt (fun A=>by rcases A with q|q|q|q;exact s q;exact t q;exact z q;exact q) c⟩
 ·obtain⟨J,s,t,z⟩:=h.2 b off e;have:=E.size;refine⟨by omega,fun A=>?_,t,z⟩;rcases K b A with q|q;·exact s q
  ·omega

theorem su {w:World}{F Fo:Nat→Prop}{q n cap lb:Nat}{a:Option Addr}{xs:List Int}(h:w.ownsRow q 3 1 (.slice a n cap) n (xs.map (Value.int .i64)))(t:n=xs.length)(hF:∀k,F k∨Fo k∨k=lb→k<q):eK w F Fo lb a xs:=by
 refine⟨ks h t,fun b off e=>?_⟩;rcases h.2 with⟨j,A⟩|⟨t,cap2,q,j,z,s,_⟩
 ·cases j;cases e
 ·cases j;cases e;exact⟨aK s,fun j=>by have:=hF b (.inl j);omega,fun j=>by have:=hF b (.inr (.inl j));omega,fun j=>by have:=hF b (.inr (.inr j));omega⟩

theorem qt {F s t Fo:Nat→Prop}{w wr w1 I:World}{lb:Nat}(A:∀j,s j→F j∨w.heap.size≤j)(E:ae (fun j=>F j∨Fo j) w wr)(O:w.heap.size≤lb)(z:aa wr w1)(L:∀j,t j→s j∨w1.heap.size≤j)(N:ae (fun j=>s j∨Fo j∨j=lb∨False) w1 I) :
  (∀j,t j→F j∨w.heap.size≤j)∧ae (fun j=>F j∨Fo j) w I:=by
 have s:=E.size
 have s:=z.size
 refine⟨fun j K=>?_,(E.a' (z.av _)).b8 N (fun i hi J=>?_)⟩
 ·rcases L j K with q|q;·exact A j q
  ·exact .inr (by omega)
 ·rcases J with q|q|q|q
  ·rcases A i q with j|j;·exact .inl j
   ·omega
  ·exact .inr q
  ·omega
  ·exact q.elim

theorem zp {F s Fo:Nat→Prop}{w w1:World}{lb:Nat}(E:w.heap.size≤lb)(z:∀j,s j→F j∨w.heap.size≤j)(A:ae (fun j=>F j∨Fo j∨j=lb∨False) w w1):(∀j,s j→F j∨w.heap.size≤j)∧ae (fun j=>F j∨Fo j) w w1:=
 ⟨z,A.mono (fun k j t=>by
  rcases t with q|q|q|q;·exact .inl q
  ·exact .inr q
  ·omega
  ·exact q.elim)⟩

def nV (F Fo:Nat→Prop)(w:World)(z t:Nat)(j:List (Int×List Bool))(qs:List Int)(r:Ending)(q:World):Prop:=
 ∃(g:Nat) (F':Nat→Prop) (M':St) (s:List (Int×Edge)),r=.returned (.tuple #[.slice (some ⟨g,0,none⟩) j.length j.length,.int .u8 0])∧eO F' Fo q z t M' qs∧aA qs=true∧ct M' qs j s∧M'.len=(aI j qs:Int)∧((j.length:Int)*300<M'.room∧M'.room≤1000000) ∧
  bL q g (s.map Prod.snd)∧(¬F' g∧¬Fo g∧w.heap.size≤g)∧(∀j,F' j→F j∨w.heap.size≤j)∧ae (fun j=>F j∨Fo j) w q

theorem sF {F t Fo:Nat→Prop}{w wr:World}{J lb cap N L:Nat}{T:Option Addr}{M:St}{qs:List Int}{q:List (Int×List Bool)}{rs:List (Int×Edge)}(h:fQ t Fo wr J lb T cap N L M qs q rs)(S:∀s,t s→F s∨w.heap.size≤s)(K:ae (fun s=>F s∨Fo s) w wr)(z:World)(j:aa wr z) :
  Calls Tryz.prog 53 #[.pointer (some ⟨J,0,none⟩)] z fun e I=>(∃g,e=.returned (.slice (some ⟨g,0,none⟩) q.length q.length)∧∀W',aa I W'→nV F Fo w N L q qs (.returned (.tuple #[.slice (some ⟨g,0,none⟩) q.length q.length,.int .u8 0])) W')∧aa z I:=by
 have s:∀r∈rs,(0≤r.1∧r.1≤255)∧r.2.ok:=fun r q=>⟨by have:=(h.cp.leads r q).1;omega,h.cp.fa r q⟩
 have q:=h.b0
 refine(lE (h.cells.U j).c2 ((h.row.U j).roots s) h.cp.1 (by omega)).mono ?_
 rintro e I ⟨g,rfl,q,O,E⟩
 refine⟨⟨g,rfl,fun W' A=>⟨g,t,M,rs,rfl,((h.bw.U j).U E).U A,h.perm,h.cp,h.len,⟨h.room,h.bx⟩,O.U A,⟨fun q=>?_,fun q=>?_,?_⟩,S,((K.a' (j.av _)).a' (E.av _)).a' (A.av _)⟩⟩,E⟩
 ·have:=h.bw.a5.lt g q;have:=j.size;omega
 ·have:=h.bw.cd.lt g q;have:=j.size;omega
 ·have:=K.size;have:=j.size;omega

theorem wV (j:List Int→Nat)(n r:Nat):(bY j n r).length=n:=by
 obtain⟨k,-,h⟩:=ky j n r;rw[h,gm]

theorem wW (j:List Int→Nat){n r:Nat}(q:n≤5)(s:r<aZ n):aA (bY j n r)=true:=by
 obtain⟨k,s,h⟩:=ky j n r;rw[h];exact kL q (by omega)

def ln (F Fo:Nat→Prop)(w wr:World)(t lb:Nat)(z:Option Addr)(cap I A n:Nat)(q:List (Int×List Bool))(r:Nat)(m:Int)(a:Option Addr):Prop:=
 ∃(s:Nat→Prop) (j:St) (E:List (Int×Edge)) (p:List Int),fQ s Fo wr t lb z cap I A j p q E∧p.length=n∧(∀j,s j→F j∨w.heap.size≤j)∧ae (fun j=>F j∨Fo j) w wr ∧
  (r=0∧m=-1∨∃j,r=j+1∧m=(aI q (bY (aI q) n j):Int)∧eK wr s Fo lb a (bY (aI q) n j))

theorem qA {F Fo:Nat→Prop}{w:World}{a1 aw cap3:Nat}{a':Option Addr}{M:St}{ps:List Int}{j:List (Int×List Bool)}{rs:List (Int×Edge)}(hS:eO F Fo w a1 aw M ps)(dk:aA ps=true)(a4:ps.length≤5)(c2:j.length≤4)(dl:(j.length:Int)*300<M.room)(ds:M.room≤1000000)(S:ct M ps j rs)(b3:dJ w a' rs)(da:a'=none→cap3=0) :
  Calls Tryz.prog 12 #[.pointer (some ⟨a1,0,none⟩),.pointer (some ⟨aw,0,none⟩),.slice a' j.length cap3] w (nV F Fo w a1 aw j (eE (aI j) ps.length)):=by
 have b6:=zU hS.a5 hS.cd
 rw[if_pos hS.n]at b6
 have bs:=fun(U:World) (J:aa w U)=>dz (hS.a5.U J)
 have bp:=fun(U:World) (J:aa w U)=>qB (hS.a5.U J) a' cap3 rs (b3.U J) (by have:=S.1;omega)
 have b9:=fun(U:World) (J:aa w U)=>zY (hS.U J) dk (by omega) c2 dl ds S (b3.U J) da
 have c':=hS.n
 rw[pK S,S.1]at bp
 rw[c']at bs
 obtain⟨n,ca⟩:∃n,n=ps.length:=⟨_,rfl⟩
 rw[←ca]at bs a4 ⊢
 obtain⟨a',b2⟩:∃a',a'=j.length:=⟨_,rfl⟩
 rw[←b2]at bp b9 c2 ⊢
 have ch:=Lib.hid b6
 have cx:=Lib.hid bs
 have cn:=Lib.hid bp
 have cj:=Lib.hid b9
 have co:=Lib.hid ca
 have d5:=Lib.hid b2
 have a':¬5<(n:Int):=by omega
 clear b6 bs bp b9 hS dk dl ds S b3 da c' ca b2
 go_enter Tryz.func12,Tryz.ntmps12
 go_wp2_with (first
  |(go_at_call 47;refine ch.out.mono ?_;rintro e w1 ⟨rfl,c5⟩)
  |(go_at_call 48;refine(cx.out _ (by(exact kp))).mono ?_;rintro e eR ⟨rfl,rfl⟩)
  |(go_at_call 49;refine(cn.out _ (by(exact kp))).mono ?_;rintro e er ⟨rfl,bp⟩)
  |fail)
 have a':=c5.trans bp
 have ci:=Lib.hid a'
 have cl:=Lib.hid (cj.out er a')
 clear cj cn cx ch c5 bp a'
 refine cl.out.mono ?_
 rintro e et ⟨bb,lb,cap,cd,rfl,ec,a',en⟩
 clear cl
 obtain⟨ad,cy,dB,s,t,z⟩:=ec
 obtain⟨t,z⟩:=zp en t z
 have I:=kN s.bw.cd
 rw[←co.out]at I
 have c6:ae (fun T=>F T∨Fo T) w et:=(ci.out.av _).a' z
 have a':=ci.out.size
 have L:=Lib.hid I
 have K:=Lib.hid (⟨s,(fun T el=>by rcases t T el with q|q;exact .inl q;exact .inr (by omega):∀T,ad T→F T∨w.heap.size≤T),c6⟩:_∧_∧_)
 clear s t z I c6
 go_wp2_with fail
 refine L.out.mono ?_
 rintro e eu ⟨cS,eb,rfl,eg,b7⟩
 obtain⟨s,t,z⟩:=K.out
 have c9:w.heap.size≤lb:=by omega
 have S:ln F Fo w eu bb lb cd cap a1 aw n j 0 (-1) cS:=⟨ad,cy,dB,ps,s.U b7,co.out.symm,t,z.a' (b7.av _),.inl ⟨rfl,rfl⟩⟩
 have cq:=Lib.hid S
 clear s t z S eg b7 K L
 have ek:=jr n
 obtain⟨N,be⟩:∃N,N=aZ n:=⟨_,rfl⟩
 have S:N≤120:=by
  rw[be];have:n=0∨n=1∨n=2∨n=3∨n=4∨n=5:=by omega
  rcases this with rfl|rfl|rfl|rfl|rfl|rfl<;>decide
 rw[←be]at ek
 have a8:=Lib.hid be
 clear be
 go_wp2_with fail
 go_loopg [12,13,14] N (fun gk S T a' wr=>∃(r:Nat) (m:Int) (a:Option Addr) (c:Nat),S=.slice a n c∧T=.int .i64 m∧a'=.int .i64 (r:Int)∧r+gk=N∧ln F Fo w wr bb lb cd cap a1 aw n j r m a)
 case atStart=>exact⟨0,-1,cS,eb,rfl,rfl,rfl,by omega,cq.out⟩
 case round=>
  obtain⟨r,m,a,c,rfl,rfl,rfl,S,ed⟩:=hrel;clear cq;obtain⟨ad,cy,dB,p,s,br,t,z,bq⟩:=ed;by_cases c8:r<N
  ·have a2:=Lib.hid (yo n r a4 (by rw[←a8.out];exact c8) wr);have K:=Lib.hid (⟨s,t,z⟩:_∧_∧_);have d9:=Lib.hid br;have d8:=Lib.hid bq;clear s t z br bq;go_wp2_with fail
   refine a2.out.mono ?_;rintro e d1 ⟨c0,b1,rfl,dj,X⟩;obtain⟨s,t,z⟩:=K.out
   have b5:=su (F:=ad) (Fo:=Fo) (lb:=lb) dj (gm n r).symm (fun k em=>by
    rcases em with q|q|q;·exact s.bw.a5.lt k q
    ·exact s.bw.cd.lt k q
    ·subst q;exact s.fx.2)
   have I:=oq (cap2:=b1) (s.U X) b5.1 (kL a4 (by rw[←a8.out];exact c8)) (d9.out.trans (gm n r).symm);rw[gm]at I;have L:=Lib.hid I;have cf:=Lib.hid b5;have am:=Lib.hid X;clear s t z I b5 dj X a2;go_wp2_with fail
   refine L.out.mono ?_;rintro e bt ⟨rfl,a7,cD,d0,O,Z,ab⟩;obtain⟨s,t,z⟩:=K.out;obtain⟨a5,a6⟩:=qt t z c9 am.out Z ab;have c4:=cf.out.step Z ab;have db:∀a xs,eK wr ad Fo lb a xs→eK bt a7 Fo lb a xs:=fun a xs h=>(h.U am.out).step Z ab;have ee:=cF.size (cF.start O (fun _=>False));have b8:=sB (cF.start O (fun _=>False));obtain⟨av,b4⟩:∃av,av=aI j (bo n r):=⟨_,rfl⟩;rw[←b4]at b8 ee;have bv:=Lib.hid b8;have a':∀(T:Int) (S:Option Addr) (A:Nat),r=A→T=(aI j (bY (aI j) n A):Int)→eK bt a7 Fo lb S (bY (aI j) n A)→ln F Fo w bt bb lb cd cap a1 aw n j (r+1) T S:=fun T S A S T aw=>⟨a7,cD,d0,bo n r,O,gm n r,a5,a6,.inr ⟨A,by rw[S],T,aw⟩⟩;have bw:=Lib.hid a';have cg:=Lib.hid c4;have d7:=Lib.hid db;have b0:=Lib.hid b4;clear s t z a5 a6 c4 db b8 a' O Z ab L cf am K b4;rcases d8.out with⟨E,bn⟩|⟨A,E,bn,W⟩
   ·subst bn;have bx:=Lib.hid E;clear E;go_wp2_with (first|(go_at_call 21;refine(bv.out _ (by(exact kp))).mono ?_;rintro e ce ⟨rfl,rfl⟩)|fail)
    go_roundg (gk-1)
    case rel=>exact⟨r+1,av,c0,b1,rfl,rfl,by simp,by omega,bw.out _ _ r rfl (by rw[bx.out,b0.out,bx.out];rfl) (by have h:=cg.out;rw[bx.out]at h ⊢;exact h)⟩
    case measure=>omega
   ·obtain⟨a3,bg⟩:∃a3,a3=aI j (bY (aI j) n A):=⟨_,rfl⟩;rw[←bg]at bn;have dr:bY (aI j) n r=if av<a3 then bo n r else bY (aI j) n A:=(by rw[E,bg,b0.out,E];rfl);have cv:=Lib.hid dr;have ea:=Lib.hid bg;have d2:=Lib.hid (d7.out _ _ W);subst bn;clear W bg dr E;by_cases c3:av<a3
    ·go_wp2_with (first|(go_at_call 21;refine(bv.out _ (by(exact kp))).mono ?_;rintro e ce ⟨rfl,rfl⟩)|fail)
     go_roundg (gk-1)
     case rel=>
      have Y:=cv.out;rw[if_pos c3]at Y;exact⟨r+1,av,c0,b1,rfl,rfl,by simp,by omega,bw.out _ _ r rfl (by rw[Y,b0.out]) (by rw[Y];exact cg.out)⟩
     case measure=>omega
    ·go_wp2_with (first|(go_at_call 21;refine(bv.out _ (by(exact kp))).mono ?_;rintro e ce ⟨rfl,rfl⟩)|fail)
     go_roundg (gk-1)
     case rel=>
      have Y:=cv.out;rw[if_neg c3]at Y;exact⟨r+1,a3,a,c,rfl,rfl,by simp,by omega,bw.out _ _ r rfl (by rw[Y,ea.out]) (by rw[Y];exact d2.out)⟩
     case measure=>omega
  ·have ep:r=N:=by omega
   obtain⟨A,E,W⟩:∃A,N=A+1∧eK wr ad Fo lb a (bY (aI j) n A):=by
    rcases bq with⟨E,-⟩|⟨A,E,-,W⟩
    ·omega
    ·exact⟨A,by omega,W⟩
   have cb:=yp n a4 wr;rw[←a8.out]at cb;have c7:eE (aI j) n=bY (aI j) n A:=(by unfold eE;rw[←a8.out,E];rfl);have bi:=pn (aI j) a4;have I:=fun(U:World) (J:aa wr U)=>oq (cap2:=c) (qs:=eE (aI j) n) (s.U J) (by rw[c7];exact W.1.U J) bi.1 (br.trans bi.2.symm);rw[bi.2]at I;have a2:=Lib.hid cb;have L:=Lib.hid I;have K:=Lib.hid (⟨s,t,z⟩:_∧_∧_);subst ep;clear s t z br bq cb c7 bi I W E;go_wp2_with fail
   refine a2.out.mono ?_;rintro e d1 ⟨rfl,X⟩;have cp:=Lib.hid (L.out d1 X);have am:=Lib.hid X;clear X;go_wp2_with fail
   refine cp.out.mono ?_;rintro e bt ⟨rfl,a7,cD,d0,O,Z,ab⟩;obtain⟨s,t,z⟩:=K.out;obtain⟨a5,a6⟩:=qt t z c9 am.out Z ab;have j:=sF O a5 a6;have c1:=O.cells.c3;rw[←d5.out]at j;have d3:=Lib.hid j;clear s t z a5 a6 O Z ab j cp L a2 K am;go_wp2_with fail
   go_region_held3 (fun j=>j.cell? ⟨bb,3,none⟩=some (.int .u8 0)) (go_keep) ((first
    |(go_at_call 53;refine(d3.out _ (by(exact kp))).mono ?_;rintro ev ce ⟨⟨ew,rfl,j⟩,s⟩;have d6:=Lib.hid j;have c1:=s.cell c1;clear j)))
   all_goals(try go_wp2_with fail)
   all_goals go_ret2
   all_goals exact d6.out _ (by(exact kp))

end Go.Proofs.YtafkamlhimkbmaaGreat
