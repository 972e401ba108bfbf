/-
  Proved: the statement SiftSmall, for every input.
-/
import Derived.Test.YtafkamlhimkbmaaGreatPSiftR
import Derived.Test.YtafkamlhimkbmaaGreatPSiftSxB
import Derived.Test.YtafkamlhimkbmaaGreatRows
namespace Go.Proofs.YtafkamlhimkbmaaGreat
set_option maxRecDepth 1000000
set_option maxHeartbeats 8000000
set_option linter.unusedSimpArgs false
set_option linter.unusedVariables false
open Go.ChangeShapes Go.WideShapes Go.ChangeAt Go.RowKit

theorem Av (a0:Option Addr)(E cap0:Nat)(ps:List Int)(cx:Option Addr)(d3 cap1:Nat)(ws:List (Int×Int))(a6:Int)(w:World)(hc:lL w a0 E ps)(bb:gW w cx d3 ws)(g9:(Lit.int .i64 a6).wf=true) :
  Calls Tryz.prog 5 #[.slice a0 E cap0,.slice cx d3 cap1,.int .i64 a6] w fun e w'=>e=.returned (.bool true)∧aa w w':=by
 obtain⟨am,ad,-⟩:=hc
 by_cases hc:5<E
 ·clear am ad bb;go_enter Tryz.func5,Tryz.ntmps5
  go_wp2_with (first|(go_at_call 8;refine(fS _).mono ?_;rintro e w1 ⟨rfl,bt⟩)|fail)
  go_ret
  exact⟨rfl,by(exact kp)⟩
 ·have I:=fun(t:World) (j:aa w t)=>nn a0 cap0 ps t (ad.U j) (by omega);rw[am]at I;by_cases av:ar ps=true
  ·rw[av]at I;by_cases g7:a6<0
   ·have X:=Lib.hid I;clear I av ad am bb;go_enter Tryz.func5,Tryz.ntmps5
    go_wp2_with (first|(go_at_call 8;refine(fS _).mono ?_;rintro e w1 ⟨rfl,bt⟩)|(go_at_call 9;refine(X.out _ (by(exact kp))).mono ?_;rintro e d6 ⟨rfl,rfl⟩)|fail)
    go_ret
    exact⟨rfl,by(exact kp)⟩
   by_cases hc:1000<a6
   ·have X:=Lib.hid I;clear I av ad am bb;go_enter Tryz.func5,Tryz.ntmps5
    go_wp2_with (first|(go_at_call 8;refine(fS _).mono ?_;rintro e w1 ⟨rfl,bt⟩)|(go_at_call 9;refine(X.out _ (by(exact kp))).mono ?_;rintro e d6 ⟨rfl,rfl⟩)|fail)
    go_ret
    exact⟨rfl,by(exact kp)⟩
   obtain⟨Y,rfl⟩:∃Y:Nat,a6=(Y:Int):=⟨a6.toNat,by omega⟩;have g8:Y≤1000:=(by omega);clear g9 g7;have X:=Lib.hid I;have eb:=Lib.hid ad;have A:=Lib.hid am;have W:=Lib.hid av;have gh:=Lib.hid (fun(t:World) (j:aa w t)=>qN E (by omega) cx d3 cap1 ws t (bb.U j));clear I ad am av bb;go_enter Tryz.func5,Tryz.ntmps5
   go_wp2_with (first|(go_at_call 8;refine(fS _).mono ?_;rintro e w1 ⟨rfl,bt⟩)|(go_at_call 9;refine(X.out _ (by(exact kp))).mono ?_;rintro e d6 ⟨rfl,rfl⟩)|fail)
   refine(gh.out _ (by(exact kp))).mono ?_;rintro e N ⟨g',rfl|⟨a,c,fs,rfl,e3,c3⟩⟩
   ·go_wp2_with fail
    go_ret
    exact⟨rfl,by(exact kp)⟩
   ·have c6:aa w N:=(by(exact kp));have b9:=lX 3000 a0 a cap0 c ps fs N (eb.out.U c6) W.out (by have:=A.out;omega) (by rw[A.out];exact c3) e3 (by omega) (by omega);rw[A.out]at b9;obtain⟨J,c0⟩:∃J,J=fs.length:=⟨_,rfl⟩;rw[←c0]at b9 e3 ⊢;have d8:=Lib.hid b9;have b5:=Lib.hid c3;have s:=Lib.hid c0;have ec:=Lib.hid c6;clear b9 c3 c0 g' c6 bt;go_wp2_with fail
    refine d8.out.mono ?_;rintro e b3 ⟨hm,hj,F,Fo,M,a5,cy,rs,rfl,S⟩;rw[s.out]at S;obtain⟨hS,a8,hd,c1,dl,ds⟩:=S.go W.out (by have:=A.out;omega) (by have:=s.out;omega) (by have:=s.out;omega) (by omega)
    have fb:∀lb,a5=some ⟨lb,0,none⟩→¬F lb∧¬Fo lb∧N.heap.size≤lb:=fun lb e=>by
     obtain⟨aw,a1⟩:=S.apart lb (by rw[e];rfl);have:=iW (k:=lb) S.row (by rw[e];rfl);exact⟨aw,a1,this⟩
    have he:∃lb,bW b3 a5 lb rs∧(rs≠[]→¬F lb∧¬Fo lb∧N.heap.size≤lb∧lb<b3.heap.size):=by
     by_cases z:rs=[];·exact⟨0,fun h=>absurd z h,fun h=>absurd z h⟩
     ·have cg:fs.length≠0:=fun h=>z (List.eq_nil_of_length_eq_zero (by omega))
      obtain⟨lb,rfl⟩:∃lb,a5=some ⟨lb,0,none⟩:=by
       rcases S.row.2 with⟨et,d1⟩|⟨g3,a6,g1,et,_⟩
       ·omega
       ·cases et;exact⟨g3,rfl⟩
      have ft:=nO S.row a8.1.symm;obtain⟨-,g1,g5,-⟩:=ft z;obtain⟨aw,a1,cj⟩:=fb lb rfl;exact⟨lb,ft,fun _=>⟨aw,a1,cj,aN g5⟩⟩
    obtain⟨lb,fj,e9⟩:=he;have fa:dX M rs=0:=kN a8;have d1:=(a8.size hS.a4 W.out hS.n (by have:=A.out;omega) (by have:=hS.a4.wf.cx;omega)).1;have b1:=Aq hS.a4 a5 cy rs (c1 b3 (ae.refl _ _)) (by rw[ds];have:=s.out;omega) fa;rw[d1,ds]at b1;have ab:=fun(t:World) (j:aa b3 t)=>ri (cap3:=cy) (g:=Y) (hS.U j) W.out (by have:=A.out;omega) (by have:=s.out;omega) (by have:=s.out;omega) (by omega) a8 ((c1 b3 (ae.refl _ _)).U j) dl g8;have ci:=fun(t:World) (j:aa N t)=>ns a0 a cap0 c ps fs t (eb.out.U (ec.out.trans j)) W.out (by have:=A.out;omega) (by rw[A.out];exact b5.out.U j) (by have:=s.out;omega);have ca:=Aw (ai fs) Y W.out ps.length (Nat.le_refl _);have hf:=lu (fs:=fs) (ps:=ps) (by have:=A.out;omega) (by have:=s.out;omega);rw[←s.out,A.out]at ab ci;rw[A.out]at ca;rw[←s.out]at b1;obtain⟨a6,eR⟩:∃a6,a6=ai fs ps:=⟨_,rfl⟩;rw[←eR]at b1 ci ca hf;have er:=Lib.hid b1;have bn:=Lib.hid ab;have em:=Lib.hid ci;have a4:=Lib.hid S;have el:=Lib.hid fj;have cq:=Lib.hid e9;have ep:=Lib.hid a8;have f':=Lib.hid dl;clear ab S hS a8 hd c1 dl ds d8 b1 d1 fa ci eR fj e9 fb;go_wp2_with fail
    refine er.out.mono ?_;rintro e hp ⟨rfl,S⟩;have a6:=bn.out hp S;have eg:=Lib.hid a6;have b4:=Lib.hid S;clear a6 S bn er;go_wp2_with fail
    refine eg.out.mono ?_;rintro e bg ⟨g,cl,g0,U,e2,a7,ch,a',cd,⟨fi,fx⟩,b8,⟨fD,f0,e5⟩,d0,b2⟩;rw[←s.out]at e2;subst e2;have c8:aa N bg:=(a4.out.U.trans b4.out).new b2 (fun k Z=>a4.out.ec k Z);obtain⟨bp,c5⟩:∃bp,bp=cH (ai fs) Y ps E:=⟨_,rfl⟩;have d2:bp.length=E:=(by rw[c5,(jO (ai fs) Y W.out E (by have:=A.out;omega)).1,A.out]);rw[←c5]at a7 ch a' cd ca;have cf:=fun(t:World) (j:aa bg t)=>jR (a7.a4.U j);rw[cd]at cf;have da:=fun(t:World) (j:aa bg t)=>mB (cap0:=c) (a0:=a) (n:=E) (p:=2 ^ E) (a7.U j) ch d2 rfl (by omega) a' cd (by have:=a7.a4.wf.cx;omega) (b5.out.U (c8.trans j)) (by have:=s.out;omega) (b8.U j);rw[←s.out]at da;obtain⟨A,c2⟩:∃A,A=ai fs bp:=⟨_,rfl⟩;rw[←c2]at cf ca;have hk:=b4.out.size;have hl:=b2.size
    have fl:bW bg a5 lb rs:=by
     by_cases z:rs=[];·exact fun h=>absurd z h
     ·obtain⟨aw,a1,cj,hh⟩:=cq.out z;exact(el.out.U b4.out).a5 b2 (fun bs=>by rcases bs with q|q;exact aw q;exact a1 q)
    have e8:rs≠[]→(¬cl lb∧¬Fo lb∧N.heap.size≤lb)∧lb<bg.heap.size∧lb≠g:=fun z=>by
     obtain⟨aw,a1,cj,hh⟩:=cq.out z;refine⟨⟨fun bs=>?_,a1,cj⟩,by omega,by omega⟩;rcases d0 lb bs with q|q;·exact aw q
     ·omega
    have e7:=a'.1
    have e4:∀(i:Nat) (r q:Int×Edge),rs[i]?=some r→U[i]?=some q→r.1=q.1:=fun i r q K L=>by
     have hi:=(List.getElem?_eq_some_iff.1 L).1;have eu:fs[i]?=some (fs[i]'(by omega)):=List.getElem?_eq_getElem (by omega);obtain⟨g2,-,-⟩:=ep.out.2 i _ _ eu K;obtain⟨A,-,-⟩:=a'.2 i _ _ eu L;rw[g2,A]
    have f7:=Lib.hid cf;have ed:=Lib.hid da;have cn:=Lib.hid c8;have en:=Lib.hid a7;have ek:=Lib.hid ch;have cv:=Lib.hid a';have gc:=Lib.hid fi;have gB:=Lib.hid fx;have d9:=Lib.hid b8;have A:=Lib.hid (⟨fD,f0,e5⟩:_∧_∧_);have gx:=Lib.hid (⟨d0,b2⟩:_∧_);have b6:=Lib.hid d2;have gr:=Lib.hid c2;have gj:=Lib.hid fl;have bi:=Lib.hid e8;have ea:=Lib.hid e4;have cp:Hid (U.length=J):=Lib.hid (by rw[e7,s.out]);have co:Hid (rs.length=J):=Lib.hid (by rw[ep.out.1,s.out]);have A:=b8.lt;clear cf da c8 a7 ch a' cd fi fx b8 fD f0 e5 d0 b2 c5 d2 c2 fl e8 e4 e7 eg el cq hk hl
    go_wp2_with (first
     |(go_at_call 20;refine(em.out _ (cn.out.trans (by(exact kp)))).mono ?_;rintro e hr ⟨rfl,ha⟩)
     |(go_at_call 21;refine(f7.out _ (by(exact kp))).mono ?_;rintro e hq ⟨rfl,rfl⟩)
     |(go_at_call 16;refine(ed.out _ (by(exact kp))).mono ?_;rintro e d7 ⟨rfl,e6⟩)
     |fail)
    have A:aa bg d7:=(by(exact kp));have a3:=Lib.hid A;clear ha e6 A ed em;go_loopg [17] J (fun gk A wr=>∃(d:Nat) (a2:List (Int×Edge)),A=.int .i64 (d:Int)∧d+gk=J∧a2.length=J∧bW wr a5 lb a2∧(∀(i:Nat) (r q:Int×Edge),rs[i]?=some r→U[i]?=some q→a2[i]?=some (if i<d then q else r))∧ae (fun A=>A=lb∧rs≠[]) d7 wr)
    case atStart=>exact⟨0,rs,rfl,by omega,co.out,gj.out.U a3.out,fun i r q K L=>by rw[if_neg (by omega)];exact K,ae.refl _ _⟩
    case round=>
     obtain⟨d,a2,rfl,A,db,O,br,T⟩:=hrel;have A:=T.size;have A:=a3.out.size;by_cases dk:d<J
     ·obtain⟨r,be⟩:∃b,a2[d]?=some b:=⟨_,List.getElem?_eq_getElem (by omega)⟩;obtain⟨q,bv⟩:∃b,U[d]?=some b:=⟨_,List.getElem?_eq_getElem (by rw[cp.out];exact dk)⟩;obtain⟨f1,bw⟩:∃b,rs[d]?=some b:=⟨_,List.getElem?_eq_getElem (by rw[co.out];exact dk)⟩;have cg:rs≠[]:=fun e=>(by rw[e]at bw;cases bw);obtain⟨hb,A,hg⟩:=bi.out cg
      have bx:r.1=q.1:=by
       have K:=br d f1 q bw bv;rw[be,if_neg (by omega)]at K;rw[Option.some.inj K];exact ea.out d f1 q bw bv
      obtain⟨g4,A,S,W⟩:=O.cell be;have A:=O.frozen be (d*3+1);have A:=O.frozen be (d*3+2);have ew:=(d9.out.U a3.out).a5 T (fun bs=>hg bs.1.symm);obtain⟨hn,ho⟩:=ew.cell (i:=d) (e:=q.2) (by rw[List.getElem?_map,bv];rfl);have A:lb<wr.heap.size:=(by omega);have A:wr.heap.size≠g:=(by omega);have A:wr.heap.size≠lb:=(by omega);have gC:=Lib.hid be;have ga:=Lib.hid bv;have gp:=Lib.hid O;have f2:=Lib.hid br;have gu:=Lib.hid T;have ee:=Lib.hid db;have gb:=Lib.hid bx;have f9:=Lib.hid cg;obtain⟨f,x⟩:=q;dsimp only at hn ho;subst g4;clear be bv bw cg hb bx O br T db ew;go_wp2_with fail
      go_roundg (gk-1)
      case rel=>
       refine⟨d+1,a2.set d (r.1,x),by simp,by omega,by rw[List.length_set,ee.out],?_,fun i p y K L=>?_,?_⟩;·exact(gp.out.set gC.out x).U (by repeat (first|exact aa.refl _|refine aa.alloc ?_ _|refine aa.drew ?_))
       ·by_cases hid:i=d
        ·subst hid;rw[ga.out]at L;cases L;have bx:=gb.out;try dsimp only at bx
         rw[List.getElem?_set_self (by rw[ee.out];exact dk),if_pos (by omega),bx]
        ·rw[List.getElem?_set_ne (fun e=>hid e.symm),f2.out i p y K L];by_cases A:i<d;·rw[if_pos A,if_pos (by omega)]
         ·rw[if_neg A,if_neg (by omega)]
       ·exact(by repeat (first|exact gu.out|refine ae.setCell ?_ (Or.inl ⟨rfl,f9.out⟩) _|refine ae.alloc ?_ _|refine ae.drew ?_))
      case measure=>omega
     ·have g6:d=J:=by omega
      have fp:a2=U:=by
       apply List.ext_getElem?;intro i;by_cases hi:i<J
       ·have K:rs[i]?=some (rs[i]'(by rw[co.out];exact hi)):=List.getElem?_eq_getElem _;have L:U[i]?=some (U[i]'(by rw[cp.out];exact hi)):=List.getElem?_eq_getElem _;rw[br i _ _ K L,if_pos (by omega),L]
       ·rw[List.getElem?_eq_none (by omega),List.getElem?_eq_none (by rw[cp.out];omega)]
      rw[fp]at O
      have e0:eo cl Fo wr hm hj g0 bp:=by
       have b0:=en.out.U a3.out;exact⟨b0.a4.a5 T (fun k cD cS=>by obtain⟨rfl,z⟩:=cS;exact(bi.out z).1.1 cD),b0.b7.a5 T (fun k cD cS=>by obtain⟨rfl,z⟩:=cS;exact(bi.out z).1.2.1 cD),b0.c',b0.n,b0.room⟩
      have fg:∀r∈U,(0≤r.1∧r.1≤255)∧r.2.ok:=fun r A=>⟨by have:=(cv.out.leads r A).1;omega,cv.out.e' r A⟩
      have e':∀k,(cl k∨Fo k)→N.heap.size≤k:=fun k Z=>by
       rcases Z with q|q
       ·rcases gx.out.1 k q with A|A;·exact a4.out.ec k (.inl A)
        ·have:=a4.out.U.size;have:=b4.out.size;omega
       ·exact a4.out.ec k (.inr q)
      have c9:aa N wr:=(cn.out.trans a3.out).new T (fun k Z=>by obtain⟨rfl,z⟩:=Z;exact(bi.out z).1.2.2);have ab:=re (cap3:=cy) e0 ek.out (by rw[b6.out];omega) (by have:=s.out;omega) gc.out gB.out cv.out (O.roots fg) f'.out;have dj:=xv (ai fs) ek.out (by rw[b6.out];omega);rw[←s.out,b6.out]at ab;rw[b6.out,←gr.out]at dj;have z:=b5.out.U c9;have bn:=Lib.hid ab;have A:=Lib.hid z;have f8:=Lib.hid e';have f3:=Lib.hid c9;clear ab e0 O br T db fg e' c9 fp z g6 d9 a3 cn en;go_wp2_with fail
      refine bn.out.mono ?_;rintro e d5 ⟨J,z,A,L,e1,bq,dr,dB,cb,⟨-,K⟩,ev,-,-,fv⟩;rw[←s.out]at e1;subst e1;have c7:aa N d5:=f3.out.new fv (fun k Z=>f8.out k Z);obtain⟨b7,c4⟩:∃b7,b7=fE (ai fs) E:=⟨_,rfl⟩;have fz:b7.length=E:=(by rw[c4];exact(pS _ (by omega)).2);rw[←c4]at bq dr dB cb dj;have ce:=fun(t:World) (j:aa d5 t)=>jR (bq.a4.U j);rw[cb]at ce;have c':=fun(t:World) (j:aa d5 t)=>mB (cap0:=c) (a0:=a) (n:=E) (p:=2 ^ E) (bq.U j) dr fz rfl (by omega) dB cb (by have:=bq.a4.wf.cx;omega) (b5.out.U (c7.trans j)) (by have:=s.out;omega) (ev.U j);rw[←s.out]at c';obtain⟨j,eS⟩:∃j,j=ai fs b7:=⟨_,rfl⟩;rw[←eS]at ce dj;have f6:=Lib.hid ce;have f5:=Lib.hid c';have f4:=Lib.hid (ec.out.trans c7);clear ce c' c7 bq dr dB cb ev fv c4 fz eS bn a4 bi ea
      go_wp2_with (first
       |(go_at_call 21;refine(f6.out _ (by(exact kp))).mono ?_;rintro e hq ⟨rfl,rfl⟩)
       |(go_at_call 16;refine(f5.out _ (by(exact kp))).mono ?_;rintro e d7 ⟨rfl,e6⟩)
       |fail)
      go_ret
      exact⟨rfl,f4.out.trans (by(exact kp))⟩
  ·have j:ar ps=false:=(by simpa using av);rw[j]at I;have X:=Lib.hid I;clear I j av ad am bb;go_enter Tryz.func5,Tryz.ntmps5
   go_wp2_with (first|(go_at_call 8;refine(fS _).mono ?_;rintro e w1 ⟨rfl,bt⟩)|(go_at_call 9;refine(X.out _ (by(exact kp))).mono ?_;rintro e d6 ⟨rfl,rfl⟩)|fail)
   go_ret
   exact⟨rfl,by(exact kp)⟩

theorem As (os:Os)(I:os.Started)(H:Type)(enc:TypeId×Value→H) :
  ReturnsInHanded {} Tryz.checked os 5 .any (Rows.siftSmallSpec.pre6 enc Tryz.prog Tryz.f5 Rows.siftSmallRow.domain false) (Rows.siftSmallSpec.post enc Tryz.prog Tryz.f5 false true false false):=by
 refine returnsInHanded_of_change (C:=Tryz.checked) own I (by kernel_rfl) Tryz.func5
  (ChangeSpec.witness6 (enc:=enc) (C:=Tryz.checked) false ⟨#[],#[.slice none 0 0,.slice none 0 0,.int .i64 0],[]⟩ 12 (by kernel_rfl) (by kernel_rfl) (by kernel_rfl) (by kernel_rfl)) ?_
 intro q T args U gs before E A I _
 have j:∀(I:Nat) J v,Tryz.f5.params[I]?=some J→args[I]?=some v→Value.okWide Tryz.prog q .any T J v:=E
 have ad:=A
 obtain⟨p,br,z,ab,rfl,I,J⟩:=A
 have s:DataW.TrodAll enc Tryz.prog q 0 (fun _=>true) true Tryz.f5.params.toList args.toList U p:=z
 rw[Tryz.params5]at s j
 have Z:=s
 obtain⟨K,bw,a7,bb,bn,bs,bi,rfl,rfl,W,a1⟩:=trodAll_cons s
 obtain⟨L,bx,a8,be,bp,bt,rfl,rfl,rfl,X,a2⟩:=trodAll_cons a1
 obtain⟨N,b0,a',bg,bq,bv,rfl,rfl,rfl,Y,a3⟩:=trodAll_cons a2
 obtain⟨rfl,rfl,rfl⟩:=trodAll_nil a3
 obtain rfl:args=#[K,L,N]:=by cases args;simp_all
 obtain⟨rfl,rfl⟩:=trodVars_none ab
 obtain⟨a0,av,cap0,rfl⟩:=okWide_slice Tryz.underlying22 (j 0 22 K rfl rfl)
 obtain⟨a4,w0⟩:=qv W
 obtain⟨O,aw,cap1,rfl⟩:=okWide_slice Tryz.underlying23 (j 1 23 L rfl rfl)
 obtain⟨a5,w1⟩:=qx X
 obtain⟨S,rfl,rfl,rfl,a6⟩:=open_int Tryz.underlying3 (j 2 3 N rfl rfl) Y
 clear z E
 refine(Av a0 av cap0 a4 O aw cap1 a5 S q w0 w1 a6).mono fun e W' ⟨am,t⟩=>?_
 subst am
 exact⟨_,rfl,_,_,_,[],_,[],ad,trodAll_mk1 (shut_bool Tryz.underlying4 _),ot pP t _ _ _ _ (by kernel_rfl) Z,rfl,Below.frame t _,fun h=>by cases h⟩

theorem Au:Rows.siftSmallRow.holds Tryz.pinned (OpenSpec.ofChange Rows.siftSmallSpec):=
 OpenClaim.holds_of_wide 5 Tryz.f5 rfl rfl rfl rfl rfl rfl rfl ⟨rfl,rfl,rfl,rfl,rfl⟩ rfl rfl rfl rfl rfl (by as_aux_lemma=>kernel_rfl) Tryz.func5 (by unfold joinedFacts;(repeat' with_reducible refine Bool.and_eq_true_iff.2 ⟨?_,?_⟩);all_goals as_aux_lemma=>kernel_rfl)
  (of_decide_eq_true (by as_aux_lemma=>kernel_rfl)) (by unfold Func.isWrapper;first|(rw[if_pos (by decide +kernel)];kernel_rfl)|(rw[if_neg (by decide +kernel)];exact⟨rfl,rfl⟩))
  (fun os j H enc _=>As os j H enc)

theorem siftSmall_proved:Rows.SiftSmallSaid:=Au

end Go.Proofs.YtafkamlhimkbmaaGreat
