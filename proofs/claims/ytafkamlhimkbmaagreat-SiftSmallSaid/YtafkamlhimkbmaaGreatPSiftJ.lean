/-
  sift.Least.
-/
import Derived.Test.YtafkamlhimkbmaaGreatPRSfSize
import Derived.Test.YtafkamlhimkbmaaGreatPSiftC
import Derived.Test.YtafkamlhimkbmaaGreatPSiftI
namespace Go.Proofs.YtafkamlhimkbmaaGreat
set_option maxRecDepth 1000000
set_option maxHeartbeats 8000000
set_option linter.unusedSimpArgs false
set_option linter.unusedVariables false
open Go.RowKit

def lM (F Fo:Nat→Prop)(w wr:World)(s lb:Nat)(t:Option Addr)(cap E z n:Nat)(fs:List (Int×List Bool))(r:Nat)(m:Int)(a:Option Addr):Prop:=
 ∃(q:Nat→Prop) (j:St) (A:List (Int×Edge)) (p:List Int),fm q Fo wr s lb t cap E z j p fs A∧p.length=n∧(∀j,q j→F j∨w.heap.size≤j)∧ae (fun j=>F j∨Fo j) w wr ∧
  (r=0∧m=-1∨∃j,r=j+1∧m=(ai fs (dM (ai fs) n j):Int)∧eT wr q Fo lb a (dM (ai fs) n j))

theorem re {F Fo:Nat→Prop}{w:World}{aw av cap3:Nat}{a8:Option Addr}{M:St}{ps:List Int}{fs:List (Int×List Bool)}{rs:List (Int×Edge)}(hS:eo F Fo w aw av M ps)(dj:ar ps=true)(a3:ps.length≤5)(c1:fs.length≤4)(dk:(fs.length:Int)*300<M.room)(dr:M.room≤1000000)(O:ct M ps fs rs)(b2:dz w a8 rs)(c':a8=none→cap3=0) :
  Calls Tryz.prog 12 #[.pointer (some ⟨aw,0,none⟩),.pointer (some ⟨av,0,none⟩),.slice a8 fs.length cap3] w (lQ F Fo w aw av fs (fE (ai fs) ps.length)):=by
 have b5:=qZ hS.a4 hS.b7
 rw[if_pos hS.n]at b5
 have br:=fun(T:World) (I:aa w T)=>dw (hS.a4.U I)
 have bn:=fun(T:World) (I:aa w T)=>lq (hS.a4.U I) a8 cap3 rs (b2.U I) (by have:=O.1;omega)
 have b8:=fun(T:World) (I:aa w T)=>rh (hS.U I) dj (by omega) c1 dk dr O (b2.U I) c'
 have c9:=hS.n
 rw[kN O,O.1]at bn
 rw[c9]at br
 obtain⟨n,b9⟩:∃n,n=ps.length:=⟨_,rfl⟩
 rw[←b9]at br a3 ⊢
 obtain⟨a8,b1⟩:∃a8,a8=fs.length:=⟨_,rfl⟩
 rw[←b1]at bn b8 c1 ⊢
 have cg:=Lib.hid b5
 have cv:=Lib.hid br
 have cl:=Lib.hid bn
 have ci:=Lib.hid b8
 have cn:=Lib.hid b9
 have d3:=Lib.hid b1
 have a8:¬5<(n:Int):=by omega
 clear b5 br bn b8 hS dj dk dr O b2 c' c9 b9 b1
 go_enter Tryz.func12,Tryz.ntmps12
 go_wp2_with (first
  |(go_at_call 47;refine cg.out.mono ?_;rintro e w1 ⟨rfl,c4⟩)
  |(go_at_call 48;refine(cv.out _ (by(exact kp))).mono ?_;rintro e ew ⟨rfl,rfl⟩)
  |(go_at_call 49;refine(cl.out _ (by(exact kp))).mono ?_;rintro e ep ⟨rfl,bn⟩)
  |fail)
 have a8:=c4.trans bn
 have ch:=Lib.hid a8
 have cj:=Lib.hid (ci.out ep a8)
 clear ci cl cv cg c4 bn a8
 refine cj.out.mono ?_
 rintro e er ⟨a',lb,cap,cb,rfl,eb,a8,em⟩
 clear cj
 obtain⟨ab,cx,ds,j,s,t⟩:=eb
 obtain⟨s,t⟩:=qS em s t
 have E:=kV j.bp.b7
 rw[←cn.out]at E
 have c5:ae (fun S=>F S∨Fo S) w er:=(ch.out.av _).a' t
 have a8:=ch.out.size
 have K:=Lib.hid E
 have J:=Lib.hid (⟨j,(fun S ek=>by rcases s S ek with q|q;exact .inl q;exact .inr (by omega):∀S,ab S→F S∨w.heap.size≤S),c5⟩:_∧_∧_)
 clear j s t E c5
 go_wp2_with fail
 refine K.out.mono ?_
 rintro e et ⟨cD,ea,rfl,ee,b6⟩
 obtain⟨j,s,t⟩:=J.out
 have c8:w.heap.size≤lb:=by omega
 have O:lM F Fo w et a' lb cb cap aw av n fs 0 (-1) cD:=⟨ab,cx,ds,ps,j.U b6,cn.out.symm,s,t.a' (b6.av _),.inl ⟨rfl,rfl⟩⟩
 have cp:=Lib.hid O
 clear j s t O ee b6 J K
 have eg:=ku n
 obtain⟨L,bb⟩:∃L,L=bz n:=⟨_,rfl⟩
 have O:L≤120:=by
  rw[bb];have:n=0∨n=1∨n=2∨n=3∨n=4∨n=5:=by omega
  rcases this with rfl|rfl|rfl|rfl|rfl|rfl<;>decide
 rw[←bb]at eg
 have a7:=Lib.hid bb
 clear bb
 go_wp2_with fail
 go_loopg [12,13,14] L (fun gk O S a8 wr=>∃(r:Nat) (m:Int) (a:Option Addr) (c:Nat),O=.slice a n c∧S=.int .i64 m∧a8=.int .i64 (r:Int)∧r+gk=L∧lM F Fo w wr a' lb cb cap aw av n fs r m a)
 case atStart=>exact⟨0,-1,cD,ea,rfl,rfl,rfl,by omega,cp.out⟩
 case round=>
  obtain⟨r,m,a,c,rfl,rfl,rfl,O,ec⟩:=hrel;clear cp;obtain⟨ab,cx,ds,p,j,bq,s,t,bp⟩:=ec;by_cases c7:r<L
  ·have a1:=Lib.hid (yI n r a3 (by rw[←a7.out];exact c7) wr);have J:=Lib.hid (⟨j,s,t⟩:_∧_∧_);have d8:=Lib.hid bq;have d7:=Lib.hid bp;clear j s t bq bp;go_wp2_with fail
   refine a1.out.mono ?_;rintro e d0 ⟨cS,b0,rfl,db,W⟩;obtain⟨j,s,t⟩:=J.out
   have b4:=sX (F:=ab) (Fo:=Fo) (lb:=lb) db (jI n r).symm (fun k el=>by
    rcases el with q|q|q;·exact j.bp.a4.lt k q
    ·exact j.bp.b7.lt k q
    ·subst q;exact j.ew.2)
   have E:=oP (cap2:=b0) (j.U W) b4.1 (qt a3 (by rw[←a7.out];exact c7)) (d8.out.trans (jI n r).symm);rw[jI]at E;have K:=Lib.hid E;have ce:=Lib.hid b4;have ad:=Lib.hid W;clear j s t E b4 db W a1;go_wp2_with fail
   refine K.out.mono ?_;rintro e bs ⟨rfl,a6,cy,dB,N,Y,Z⟩;obtain⟨j,s,t⟩:=J.out;obtain⟨a4,a5⟩:=nQ s t c8 ad.out Y Z;have c3:=ce.out.step Y Z;have da:∀a xs,eT wr ab Fo lb a xs→eT bs a6 Fo lb a xs:=fun a xs h=>(h.U ad.out).step Y Z;have ed:=aL.size (aL.start N (fun _=>False));have b7:=kf (aL.start N (fun _=>False));obtain⟨am,b3⟩:∃am,am=ai fs (dF n r):=⟨_,rfl⟩;rw[←b3]at b7 ed;have bt:=Lib.hid b7;have a8:∀(S:Int) (O:Option Addr) (z:Nat),r=z→S=(ai fs (dM (ai fs) n z):Int)→eT bs a6 Fo lb O (dM (ai fs) n z)→lM F Fo w bs a' lb cb cap aw av n fs (r+1) S O:=fun S O z O S av=>⟨a6,cy,dB,dF n r,N,jI n r,a4,a5,.inr ⟨z,by rw[O],S,av⟩⟩;have bv:=Lib.hid a8;have cf:=Lib.hid c3;have d6:=Lib.hid da;have bx:=Lib.hid b3;clear j s t a4 a5 c3 da b7 a8 N Y Z K ce ad J b3;rcases d7.out with⟨A,bi⟩|⟨z,A,bi,U⟩
   ·subst bi;have bw:=Lib.hid A;clear A;go_wp2_with (first|(go_at_call 21;refine(bt.out _ (by(exact kp))).mono ?_;rintro e cd ⟨rfl,rfl⟩)|fail)
    go_roundg (gk-1)
    case rel=>exact⟨r+1,am,cS,b0,rfl,rfl,by simp,by omega,bv.out _ _ r rfl (by rw[bw.out,bx.out,bw.out];rfl) (by have h:=cf.out;rw[bw.out]at h ⊢;exact h)⟩
    case measure=>omega
   ·obtain⟨a2,be⟩:∃a2,a2=ai fs (dM (ai fs) n z):=⟨_,rfl⟩;rw[←be]at bi;have dl:dM (ai fs) n r=if am<a2 then dF n r else dM (ai fs) n z:=(by rw[A,be,bx.out,A];rfl);have cq:=Lib.hid dl;have d9:=Lib.hid be;have d1:=Lib.hid (d6.out _ _ U);subst bi;clear U be dl A;by_cases c2:am<a2
    ·go_wp2_with (first|(go_at_call 21;refine(bt.out _ (by(exact kp))).mono ?_;rintro e cd ⟨rfl,rfl⟩)|fail)
     go_roundg (gk-1)
     case rel=>
      have X:=cq.out;rw[if_pos c2]at X;exact⟨r+1,am,cS,b0,rfl,rfl,by simp,by omega,bv.out _ _ r rfl (by rw[X,bx.out]) (by rw[X];exact cf.out)⟩
     case measure=>omega
    ·go_wp2_with (first|(go_at_call 21;refine(bt.out _ (by(exact kp))).mono ?_;rintro e cd ⟨rfl,rfl⟩)|fail)
     go_roundg (gk-1)
     case rel=>
      have X:=cq.out;rw[if_neg c2]at X;exact⟨r+1,a2,a,c,rfl,rfl,by simp,by omega,bv.out _ _ r rfl (by rw[X,d9.out]) (by rw[X];exact d1.out)⟩
     case measure=>omega
  ·have en:r=L:=by omega
   obtain⟨z,A,U⟩:∃z,L=z+1∧eT wr ab Fo lb a (dM (ai fs) n z):=by
    rcases bp with⟨A,-⟩|⟨z,A,-,U⟩
    ·omega
    ·exact⟨z,by omega,U⟩
   have ca:=yJ n a3 wr;rw[←a7.out]at ca;have c6:fE (ai fs) n=dM (ai fs) n z:=(by unfold fE;rw[←a7.out,A];rfl);have bg:=pS (ai fs) a3;have E:=fun(T:World) (I:aa wr T)=>oP (cap2:=c) (qs:=fE (ai fs) n) (j.U I) (by rw[c6];exact U.1.U I) bg.1 (bq.trans bg.2.symm);rw[bg.2]at E;have a1:=Lib.hid ca;have K:=Lib.hid E;have J:=Lib.hid (⟨j,s,t⟩:_∧_∧_);subst en;clear j s t bq bp ca c6 bg E U A;go_wp2_with fail
   refine a1.out.mono ?_;rintro e d0 ⟨rfl,W⟩;have co:=Lib.hid (K.out d0 W);have ad:=Lib.hid W;clear W;go_wp2_with fail
   refine co.out.mono ?_;rintro e bs ⟨rfl,a6,cy,dB,N,Y,Z⟩;obtain⟨j,s,t⟩:=J.out;obtain⟨a4,a5⟩:=nQ s t c8 ad.out Y Z;have z:=oQ N a4 a5;have c0:=N.cells.c3;rw[←d3.out]at z;have d2:=Lib.hid z;clear j s t a4 a5 N Y Z z co K a1 J ad;go_wp2_with fail
   go_region_held3 (fun w'=>w'.cell? ⟨a',3,none⟩=some (.int .u8 0)) (go_keep) ((first
    |(go_at_call 53;refine(d2.out _ (by(exact kp))).mono ?_;rintro eu cd ⟨⟨ev,rfl,j⟩,s⟩;have d5:=Lib.hid j;have c0:=s.cell c0;clear j)))
   all_goals(try go_wp2_with fail)
   all_goals go_ret2
   all_goals exact d5.out _ (by(exact kp))

theorem wD:(Tryz.prog.info? 96).map (fun i=>(i.zero,i.size,i.bytes))=some (some (.agg #[.int .u8 0,.slice none 0 0]),2,32):=by kernel_rfl

def gz (p:Nat)(r:Int×Nat):List Value:=[.int .u8 r.1,.slice (some ⟨r.2,0,none⟩) p p]

structure gg (w wr:World)(p d:Nat)(v:Value)(fs:List (Int×List Bool))(bs:List (Int×Nat)):Prop where
 row:wr.ownsRow w.heap.size 96 2 v d (bs.flatMap (gz p))
 lb:bs.length=d
 lf:fs.length=d
 d':∀(i:Nat) (q:Int×List Bool),fs[i]?=some q→(1≤q.1∧q.1≤5)∧q.2.length=p∧∃B,bs[i]?=some (q.1,B)∧bu wr B q.2
 U:aa w wr

theorem gg.apart {w wr:World}{p d:Nat}{v:Value}{fs:List (Int×List Bool)}{j:List (Int×Nat)}(h:gg w wr p d v fs j){B:Nat}{ts:List Bool}(q:bu wr B ts):v.ownBlock≠some B:=fun e=>by
 obtain⟨s,j⟩:=bM h.row e;exact dq j q (by decide) rfl

theorem gg.step {w wr s:World}{p d:Nat}{v:Value}{g cap B:Nat}{f:Int}{ts:List Bool}{fs:List (Int×List Bool)}{q:List (Int×Nat)}(h:gg w wr p d v fs q)(E:s.ownsRow w.heap.size 96 2 (.slice (some ⟨g,0,none⟩) (d+1) cap) (d+1) (q.flatMap (gz p)++gz p (f,B)))(t:ae (fun k=>v.ownBlock=some k) wr s)(J:bu s B ts)(K:1≤f∧f≤5)(N:ts.length=p) :
  gg w s p (d+1) (.slice (some ⟨g,0,none⟩) (d+1) cap) (fs++[(f,ts)]) (q++[(f,B)]):=by
 have z:=h.lb
 have A:=h.lf
 refine⟨by rw[List.flatMap_append];simpa using E,by rw[List.length_append];simp[z],by rw[List.length_append];simp[A],fun i O j=>?_,h.U.new t (fun k s=>iW h.row s)⟩
 by_cases hi:i<d
 ·rw[List.getElem?_append_left (by omega)]at j;obtain⟨A,E,z,I,s⟩:=h.d' i O j;exact⟨A,E,z,by rw[List.getElem?_append_left (by omega)];exact I,s.a5 t (h.apart s)⟩
 ·rw[List.getElem?_append_right (by omega)]at j;have L:=(List.getElem?_eq_some_iff.1 j).1;simp at L;have s:i-fs.length=0:=by omega
  rw[s]at j;cases j;exact⟨K,N,B,by rw[List.getElem?_append_right (by omega),show i-q.length=0 by omega];rfl,J⟩

theorem vC {p:Nat}{j:List (Int×Nat)}{i:Nat}{r:Int×Nat}(h:j[i]?=some r):(j.flatMap (gz p))[i*2]?=some (.int .u8 r.1)∧(j.flatMap (gz p))[i*2+1]?=some (.slice (some ⟨r.2,0,none⟩) p p):=by
 induction j generalizing i with
 |nil=>simp at h
 |cons b j q=>
  cases i with
  |zero=>cases h;exact⟨rfl,rfl⟩
  |succ i=>
   have:=q (i:=i) (by simpa using h);rw[show(i+1)*2=i*2+1+1 by omega];exact this

theorem gg.hD {w wr:World}{p d c:Nat}{a:Option Addr}{fs:List (Int×List Bool)}{s:List (Int×Nat)}(h:gg w wr p d (.slice a d c) fs s):eI wr a p fs:=fun i T A=>by
 obtain⟨J,K,B,t,L⟩:=h.d' i T A;obtain⟨O,S⟩:=vC (p:=p) t;rcases h.row.2 with⟨q,U⟩|⟨I,cap2,E,q,T,z,_,_,_,N⟩
 ·have:=(List.getElem?_eq_some_iff.1 A).1;have:=h.lf;omega
 ·cases q;have q:=h.lb;have hi:=(List.getElem?_eq_some_iff.1 t).1
  have key:∀(q:Nat) (u:Value),(s.flatMap (gz p))[q]?=some u→E[q]?=some u:=fun q u j=>by
   rw[←N,List.getElem?_take]at j;split at j
   ·rw[Array.getElem?_toList]at j;exact j
   ·cases j
  refine⟨J,K,I,0,B,rfl,?_,?_,L⟩
  ·rw[Nat.zero_add,cell_of_row _ _ _ _ _ _ z];simp only[key _ _ O]
  ·rw[Nat.zero_add,cell_of_row _ _ _ _ _ _ z];simp only[key _ _ S]

theorem tG (n:Nat)(s:n≤20)(a:Int)(j:0≤a)(q:a≤18446744073709551615)(p:Nat)(t:p=2 ^ n)(w:World) :
  Calls Tryz.prog 25 #[.int .i64 (n:Int),.int .u64 a] w fun e w'=>∃g ts,w.heap.size≤g∧ts.length=p∧e=.returned (.slice (some ⟨g,0,none⟩) p p)∧bu w' g ts∧aa w w':=by
 subst t
 refine(tH n s a j q w).mono ?_
 rintro e w' ⟨ts,j,q,s,t⟩
 exact⟨_,ts,Nat.le_refl _,j,q,s,t⟩

theorem qN (n:Nat)(a8:n≤6)(a0:Option Addr)(s cap0:Nat)(ws:List (Int×Int))(w:World)(J:gW w a0 s ws) :
  Calls Tryz.prog 10 #[.int .i64 (n:Int),.slice a0 s cap0] w fun e w'=>aa w w'∧(e=.returned (.tuple #[.slice none 0 0,.bool false])∨∃a c fs,e=.returned (.tuple #[.slice a fs.length c,.bool true])∧fs.length≤4∧eI w' a (2 ^ n) fs):=by
 obtain⟨p,L⟩:∃p,p=2 ^ n:=⟨_,rfl⟩
 have U:=fun(a:Int) (bq:0≤a) (br:a≤18446744073709551615) (a8:World)=>tG n (by omega) a bq br p L a8
 obtain⟨b4,hi,b1,b2,b3⟩:=info_parts wD
 rw[←L]
 have a3:=Lib.hid U
 have I:=Lib.hid J
 have q:gg w w p 0 (.slice none 0 0) [] []:=⟨World.ownsRow_nil _ _ _ _,rfl,rfl,(fun i a8 h=>by cases h),aa.refl _⟩
 have j:=Lib.hid q
 have N:=Lib.hid J.1
 clear U J L q
 go_enter Tryz.func10,Tryz.ntmps10
 go_wp2_with fail
 go_loopg [6,7] s (fun gk J L wr=>∃(d:Nat) (a:Option Addr) (c:Nat) (fs:List (Int×List Bool)) (z:List (Int×Nat)),J=.slice a d c∧L=.int .i64 (d:Int)∧d+gk=s∧d≤4∧gg w wr p d (.slice a d c) fs z)
 case atStart=>exact⟨0,none,0,[],[],rfl,rfl,by omega,by omega,j.out⟩
 case round=>
  clear j;obtain⟨d,a,c,fs,z,rfl,rfl,J,bs,q⟩:=hrel;have W:=q.U;by_cases J:d<s
  ·obtain⟨x,ab⟩:∃x,ws[d]?=some x:=⟨_,List.getElem?_eq_getElem (by have:=N.out;omega)⟩;obtain⟨⟨bi,bn⟩,⟨aw,a1⟩,b,off,rfl,O,bb⟩:=(I.out.U W).2 d x ab;obtain⟨f,y⟩:=x;dsimp only at bi bn aw a1 O bb;have j:=Lib.hid q;clear q ab;by_cases J:f<1
   ·go_wp2_with fail
    go_ret2
    exact⟨by(exact kp),.inl rfl⟩
   ·by_cases J:5<f
    ·go_wp2_with fail
     go_ret2
     exact⟨by(exact kp),.inl rfl⟩
    ·by_cases J:3<d
     ·go_wp2_with fail
      go_ret2
      exact⟨by(exact kp),.inl rfl⟩
     ·have b5:=aD O;dsimp only at b5
      have ad:(Value.slice a d c).ownBlock≠some b:=fun e=>by
       have h:=I.out.2 d (f,y);have J:=iW j.out.row e;obtain⟨b8,b0⟩:∃x,ws[d]?=some x:=⟨_,List.getElem?_eq_getElem (by have:=N.out;omega)⟩;obtain⟨-,-,b',J,bg,a',-⟩:=I.out.2 d b8 b0;cases bg;have:=aD a';simp at this;omega
      have Y:∀k,Value.ownBlock (.slice a d c)=some k→k<wr.heap.size:=fun k t=>by
       obtain⟨J,I⟩:=bM j.out.row t;exact aN I
      have a6:=Lib.hid j.out.row;have b6:d+1≤maxLen:=(by unfold maxLen;omega);have I:=W.size;have I:wr.heap.size≠b:=(by omega);have a5:=Lib.hid Y;have a4:=Lib.hid (a3.out y aw a1);clear Y;go_wp2_with fail
      go_region_held3 (fun w'=>w'.cell? ⟨b,off+d*2,none⟩=some (.int .u8 f)∧w'.cell? ⟨b,off+d*2+1,none⟩=some (.int .u64 y)) (go_keep) ((first
       |(go_at_call 25;refine(a4.out _).mono ?_;rintro b9 am ⟨S,ts,bv,Z,rfl,T,K⟩;have a2:=Lib.hid T;have a7:=Lib.hid Z;have cf:=K.cell (a:=⟨b,off+d*2,none⟩) (v:=.int .u8 f) (by go_keep);have cg:=K.cell (a:=⟨b,off+d*2+1,none⟩) (v:=.int .u64 y) (by go_keep);have b7:=K.size;(try simp only[World.size_alloc,World.a3,World.c5]at b7 bv);have I:am.heap.size≠b:=(by omega);clear T Z)
       |(refine step_append_lies _ rfl (.tmp 32) (.tmp 46) 26 rfl w.heap.size 96 b4 _ 2 32 Tryz.underlying26 hi b1 b2 b3 rfl (by decide) (.slice a d c) d (z.flatMap (gz p)) rfl ?_ _ 1 1 (gz p (f,S)) rfl rfl ?_ ?_ (by decide) ?_ ?_ ?_ _ rfl ?_;exact aa.br (show aa wr _ by(exact kp)) a6.out;(first|exact ez _ _ _ _ (by simp)|exact l7 _ _ _ _ (by simp));(intro u E;simp[gz]at E;rcases E with rfl|rfl<;>rfl);exact b6;omega;(simp;omega);intro bp be av bw A ca cb;have cd:=gO (b:=b) (o:=off+d*2) (v:=.int .u8 f) A ad (by go_keep);have ce:=gO (b:=b) (o:=off+d*2+1) (v:=.int .u64 y) A ad (by go_keep))))
      all_goals(try go_wp2_with fail)
      all_goals go_roundg (gk-1)
      case rel=>
       have E:ae (fun k=>(Value.slice a d c).ownBlock=some k) wr av:=ae.cy (by(exact up)) A (fun k t=>.inl t);have bx:ae (fun k=>(Value.slice a d c).ownBlock=some k) am av:=ae.cy (by(exact up)) A (fun k t=>.inl t);refine⟨d+1,some ⟨bp,0,none⟩,be,fs++[(f,ts)],z++[(f,S)],rfl,by simp,by omega,by omega,j.out.step bw E (a2.out.a5 bx (fun e=>by have:=a5.out _ e;omega)) (by omega) a7.out⟩
      case measure=>omega
  ·have bt:d=s:=(by omega);subst bt;have X:=q.lf;have j:=Lib.hid q;clear q;go_wp2_with fail
   go_ret2
   refine⟨j.out.U,.inr ⟨a,c,fs,by rw[X];rfl,by rw[X];exact bs,j.out.hD⟩⟩

end Go.Proofs.YtafkamlhimkbmaaGreat
