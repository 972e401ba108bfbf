/-
  law27.bed.
-/
import Derived.Test.YtafkamlhimkbmaaGreatPSiftK
namespace Go.Proofs.YtafkamlhimkbmaaGreat
set_option maxRecDepth 1000000
set_option maxHeartbeats 8000000
set_option linter.unusedSimpArgs false
set_option linter.unusedVariables false
open Go.RowKit
def kQ (w:World)(a:Option Addr)(p:Nat)(j:List (Int×List Bool)):Prop:=
 ∀i r,j[i]?=some r→(1≤r.1∧r.1≤5)∧r.2.length=p∧∃b off j,a=some ⟨b,off,none⟩∧w.cell? ⟨b,off+i*2,none⟩=some (.int .u8 r.1)∧w.cell? ⟨b,off+i*2+1,none⟩=some (.slice (some ⟨j,0,none⟩) p p)∧bW w j r.2
theorem nV {w w':World}{j:Nat}{q:List Bool}(h:bW w j q)(s:ae w w'):bW w' j q:=h.a4 (ae.av s (fun _=>False)) (fun h=>h)
theorem kQ.ad {w w':World}{a:Option Addr}{p:Nat}{q:List (Int×List Bool)}(h:kQ w a p q)(j:ae w w'):kQ w' a p q:=fun i r I=>by
 obtain⟨z,A,b,off,q,E,s,t,B⟩:=h i r I;exact⟨z,A,b,off,q,E,j.cell s,j.cell t,nV B j⟩
structure pZ (F:Nat→Prop)(w0 wy:World)(sb:Nat)(M:St)(f:Int)(ps ws:List Int)(B:Nat)(x:Edge)(M':St)(F1:Nat→Prop):Prop where
 a0:wy.cell? ⟨B,0,none⟩=some (.int .u8 x.tag)
 a1:wy.cell? ⟨B,1,none⟩=some (.int .u32 x.to)
 ok:x.ok
 bt:eM f M' (hasB ws) ps 0 0 x
 b8:ei M M' ((2 ^ ps.length-1:Nat):Int)
 av:af F w0 wy
 a8:ak F1 wy sb M'
 sub:∀j,F1 j→F j∨w0.heap.size≤j
 nB:¬F1 B
 gB:w0.heap.size≤B
theorem wm {F:Nat→Prop}{w0 B E A:World}{sb:Nat}{M M':St}{f:Int}{ps ws:List Int}{j:Nat}{x:Edge}(X:∀k,F k→k<w0.heap.size)(J:ae w0 B)(ab:x.ok)(S:eM f M' (hasB ws) ps 0 0 x)(T:ei M M' ((2 ^ ps.length-1:Nat):Int))(Y:bY F B E sb M')
  (I:af (fun k=>k=j∨k=j) E A) (z:w0.heap.size≤j∧(j<B.heap.size∨E.heap.size≤j)) (N:A.cell? ⟨j,0,none⟩=some (.int .u8 x.tag)) (O:A.cell? ⟨j,1,none⟩=some (.int .u32 x.to)):∃t,pZ F w0 A sb M f ps ws j x M' t:=by
 obtain⟨⟨t,hS,L⟩,Z⟩:=Y
 have A:=J.size
 have no:¬t j:=fun s=>by
  have A:=hS.lt j s;rcases L j s with q|q;·have:=X j q;have:=z.1;omega
  ·rcases z.2 with j|j<;>omega
 refine⟨t,N,O,ab,S,T,((ae.av J F).bg Z).b9 I (fun i hi s=>?_),hS.a4 I (fun k W s=>?_),fun ad U=>?_,no,z.1⟩
 ·have:=z.1;rcases s with rfl|rfl<;>omega
 ·rcases s with rfl|rfl<;>exact no W
 ·rcases L ad U with q|q;·exact .inl q
  ·exact .inr (by omega)
structure jQ (Fo:Nat→Prop)(w wr:World)(sb ob:Nat)(room:Int)(ps:List Int)(fs:List (Int×List Bool))(d:Nat)(v:Value)(F:Nat→Prop)(M:St)(rs:List (Int×Edge)):Prop where
 bq:fV F Fo wr sb ob M ps
 cg:cL M ps (fs.take d) rs
 len:M.len≤(d:Int)*31
 room:M.room=room
 row:wr.ownsRow w.heap.size 55 3 v d (rs.flatMap cR)
 apart:∀k,v.ownBlock=some k→¬F k∧¬Fo k
 ad:ae w wr
 fr:∀k,F k∨Fo k→w.heap.size≤k
theorem vB (room:Int)(bb a2:Option Addr)(ch cap2:Nat)(ps:List Int)(J:List (Int×List Bool))(w:World)(cx:bH w bb ps)(b2:aF ps=true)(cn:ps.length≤5)(bd:kQ w a2 (2 ^ ps.length) J)(a':J.length≤4)(a1:(J.length:Int)*31≤room)(T:room≤1000000) :
  Calls Tryz.prog 11 #[.int .i64 room,.slice bb ps.length ch,.slice a2 J.length cap2] w fun e w'=>∃(sb N:Nat) (F Fo:Nat→Prop) (M:St) (a:Option Addr) (c:Nat) (rs:List (Int×Edge)),e=.returned (.tuple #[.pointer (some ⟨sb,0,none⟩),.pointer (some ⟨N,0,none⟩),.slice a J.length c,.bool true])∧jQ Fo w w' sb N room ps J J.length (.slice a J.length c) F M rs:=by
 have a5:=C6 room bb ch ps w cx b2 (by omega) (by omega)
 have b3:2 ^ ps.length≤2 ^ 5:=aW (by decide) cn
 have cj:(2:Nat) ^ 5=32:=rfl
 rw[cj]at b3
 have c2:1≤2 ^ ps.length:=eG (by decide)
 have br:=fun(I:Nat) (O:List Bool) (be:O.length=2 ^ ps.length) (A:World) (bb:bW A I O)=>by
  have:=Cp (ps.length:Int) I (2 ^ ps.length) O A bb (by omega) (by omega);rw[be]at this;exact this
 have bf:=fun(f:Int) (a4:1≤f∧f≤5) (F Fo:Nat→Prop) (aw A:World) (sb N:Nat) (M:St) (G:Nat) (O:List Bool) (be:O.length=2 ^ ps.length) (hS:fV F Fo aw sb N M ps) (a3:ae aw A) (b0:bJ A G (cZ O)) (cv:aw.heap.size≤G) (b4:M.len+31≤M.room)=>by
  have bb:=hS.ad a3;have eg:(cZ O).length≤1048576:=by rw[m8,be];omega
  have:=wv bb.a8 bb.b7 bb.db bb.n f (by simp[aR];omega) (some ⟨G,0,none⟩) (cZ O).length (cZ O).length rfl eg (b0.fl (fun x ad=>Ej ad)) (fun b off e z=>by cases e;have:=hS.a8.lt _ z;omega) (Cq (by omega) be) (by omega);exact iu (w0:=aw) (wc:=aw) (Q:=fun r w'=>jR f F A sb M (hasB (cZ O)) ps 0 0 r w') (R:=fun _=>True) hS.a8.lt (aE _) (this.mono (fun r w' z=>⟨z,by obtain⟨e,M',_,_,_,_,a5⟩:=z;exact a5.av,trivial⟩))
 obtain⟨er,hi,el,em,ep⟩:=info_parts oI
 obtain⟨n,bp⟩:∃n,n=ps.length:=⟨_,rfl⟩
 obtain⟨p,bs⟩:∃p,p=2 ^ n:=⟨_,rfl⟩
 obtain⟨ab,bD⟩:∃ab,ab=J.length:=⟨_,rfl⟩
 rw[←bp]at a5 bd b3 c2 ⊢
 simp only[←bp]at br bf
 rw[←bs]at bd b3 c2
 simp only[←bs]at br bf
 rw[←bD]at a' a1 ⊢
 have ce:=aa a5
 have dj:=aa br
 have c8:=aa bf
 have cf:=aa bd
 have cc:=aa bp
 have db:=aa bD
 have dl:=aa b2
 have O:=aa bs
 have cd:=aa (⟨a1,T⟩:_∧_)
 have d0:n≤5:=by omega
 clear a5 br bf bd bp bD b2 bs cn a1 T cx
 go_enter Tryz.func11,Tryz.ntmps11
 go_wp2_with fail
 refine ce.out.mono ?_
 rintro e w1 ⟨sb,N,F,Fo,rfl,cS,hS,cy,bi,co,cp⟩
 have E:jQ Fo w w1 sb N room ps J 0 (.slice none 0 0) F (St.new (n:Int) room) []:=⟨⟨hS,cy,bi,by show(n:Int)=_;rw[cc.out],by show room<1048576;have:=cd.out.2;omega⟩,⟨rfl,fun i q r T U=>by cases U⟩,by show(0:Int)≤0*31;decide,rfl,World.ownsRow_nil _ _ _ _,(fun k j=>by simp[Value.ownBlock]at j),cS,fun k j=>by rcases j with q|q;exact co k q;exact cp k q⟩
 have S:=aa E
 clear cS hS cy bi co cp E ce
 go_wp2_with fail
 go_loopg [13,14] ab (fun gk O aw wr=>∃(d:Nat) (a:Option Addr) (c:Nat) (F:Nat→Prop) (M:St) (rs:List (Int×Edge)),O=.slice a d c∧aw=.int .i64 (d:Int)∧d+gk=ab∧jQ Fo w wr sb N room ps J d (.slice a d c) F M rs)
 case atStart=>exact⟨0,none,0,F,_,[],rfl,rfl,by omega,S.out⟩
 case round=>
  clear S;obtain⟨d,a,c,am,av,Y,rfl,rfl,O,E⟩:=hrel;by_cases d9:d<ab
  ·obtain⟨r,ad⟩:∃r,J[d]?=some r:=⟨_,ar (by rw[←db.out];exact d9)⟩;obtain⟨a4,a6,b,off,a8,rfl,bv,dB,bx⟩:=(cf.out.ad E.ad) d r ad;obtain⟨b',aw,O,a0,cg,-,-⟩:=(cf.out d r ad).2.2;cases a0;have O:b<w.heap.size:=(by have:=aB cg;simpa using this);have aw:=E.ad.size;have aw:∀k,k<w.heap.size→¬am k:=fun k j z=>(by have:=E.fr k (.inl z);omega);have b7:¬am b:=aw b O
   have b4:av.len+31≤av.room:=by
    have T:=E.len;have U:=cd.out.1;rw[E.room];omega
   obtain⟨f,ts⟩:=r;dsimp only at a4 a6 bv dB bx
   have O:=fun(A:World) (a3:ae wr A)=>iu (F:=fun _=>False) (w0:=wr) (wc:=wr) (Q:=fun e w'=>∃g,A.heap.size≤g∧e=.returned (.agg #[.int .i64 (n:Int),.slice (some ⟨g,0,none⟩) (cZ ts).length (cZ ts).length])∧bJ w' g (cZ ts)) (R:=fun w'=>ae A w') (fun _ h=>h.elim) (aE _)
    ((dj.out a8 ts a6 A (nV bx a3)).mono (fun e w' ⟨g,T,U,bw,a'⟩=>⟨⟨g,T,U,bw⟩,a'.av _,a'⟩))
   have dk:=aa O;clear O;have c9:=aa (fun(A:World) (G:Nat) (a3:ae wr A) (b0:bJ A G (cZ ts)) (cv:wr.heap.size≤G)=>c8.out f a4 am Fo wr A sb N av G ts a6 E.bq a3 b0 cv b4);have S:=aa E;have ds:=aa ad;have cb:=aa a4;have da:=aa E.bq.a8.lt;have O:wr.heap.size≠b:=(by omega);have O:=aa a6;clear E ad a4 cg bx a6 b4;go_wp2_with fail;go_cut [15,16] (fun O ad al=>∃I x W Z,O=.pointer (some ⟨I,0,none⟩)∧ad=.int .u8 0∧pZ am wr al sb av f ps (cZ ts) I x W Z)
   case first=>
    go_region_held3 (fun w'=>w'.cell? ⟨b,off+d*2,none⟩=some (.int .u8 f)∧w'.cell? ⟨b,off+d*2+1,none⟩=some (.slice (some ⟨a8,0,none⟩) p p)) (go_keep) ((first
     |(go_at_call 46;refine(dk.out _ kp).mono ?_;rintro e2 b8 ⟨⟨⟨B,d6,rfl,c5⟩,-,b1⟩,cD,e5,e7,e9,fa⟩;have dr:=aa c5;have ed:=b1.size;(try simp only[ai,World.a5,World.cx]at ed d6);have e0:=b1.cell (a:=⟨b,off+d*2,none⟩) (v:=.int .u8 f) (by go_keep);have e1:=b1.cell (a:=⟨b,off+d*2+1,none⟩) (v:=.slice (some ⟨a8,0,none⟩) p p) (by go_keep);have O:b8.heap.size≠b:=(by omega);clear c5)
     |(go_at_call 45;refine(c9.out _ B kp (dr.out.ad kp) (by omega)).mono ?_;rintro e3 a7 ⟨⟨⟨x,W,rfl,ek,d2,⟨d8,-⟩,ec⟩,b6,-⟩,bg,e4,e6,e8,e'⟩;have ee:=b6.size;(try simp only[ai,World.a5,World.cx]at ee);have e0:=b6.cellAt (b:=b) (o:=off+d*2) (v:=.int .u8 f) b7 (by go_keep);have e1:=b6.cellAt (b:=b) (o:=off+d*2+1) (v:=.slice (some ⟨a8,0,none⟩) p p) b7 (by go_keep);have O:a7.heap.size≠b:=(by omega))))
    all_goals(try go_wp2_with fail)
    all_goals go_meet
    all_goals refine(fun O=>Exists.elim O (fun c7 d1=>⟨_,x,W,c7,rfl,rfl,d1⟩)) (wm da.out kp ek d2 d8 ec ?_ ?_ ?_ ?_)
    all_goals(try(simp[go_sem];done))
    all_goals(try(first|omega|(simp only[ai,World.a5,au];omega)))
    all_goals(try(repeat (first|with_reducible exact af.refl _ _|with_reducible refine af.alloc ?_ _|with_reducible refine af.drew ?_|refine af.setCell ?_ (Or.inl (Or.inl rfl)) _|refine af.setCell ?_ (Or.inl (Or.inr rfl)) _)))
    all_goals(first
     |(have b9:a7.cell? ⟨b8.heap.size,0,none⟩=some (.int .u8 0):=(bg _ _ (by omega) (by simp)).trans (by simp[go_sem]);have ca:a7.cell? ⟨b8.heap.size,1,none⟩=some (.int .u32 0):=(bg _ _ (by omega) (by simp)).trans (by simp[go_sem]);simp[go_sem,b9,ca];done)
     |(have b9:a7.cell? ⟨wr.heap.size,0,none⟩=some (.int .u8 0):=(bg _ _ (aE _) (by omega)).trans ((cD _ _ (aE _) (by simp)).trans (by simp[go_sem]));have ca:a7.cell? ⟨wr.heap.size,1,none⟩=some (.int .u32 0):=(bg _ _ (aE _) (by omega)).trans ((cD _ _ (aE _) (by simp)).trans (by simp[go_sem]));simp[go_sem,b9,ca];done))
   case rest=>
    obtain⟨X,rfl⟩:∃A,A=wc:=⟨_,rfl⟩;obtain⟨I,x,W,Z,rfl,rfl,s⟩:=hcut;replace bv:=s.av.cellAt b7 bv;have eS:=s.a0;have A:=s.a1;have A:=s.av.size;have c3:=s.av.bp (fun k j z=>(S.out.apart k j).1 z) S.out.row;have bt:=aa c3
    have bq:∀k,Value.ownBlock (.slice a d c)=some k→k<wr.heap.size:=fun k j=>by
     rcases S.out.row.2 with⟨a0,_⟩|⟨ad,A,O,a0,aw,d3,_⟩
     ·rw[a0]at j;simp[Value.ownBlock]at j
     ·rw[a0]at j;simp[Value.ownBlock]at j;subst j;exact aM d3
    have ev:(Value.slice a d c).ownBlock≠some b:=fun z=>(by have:=gd bt.out z;omega);have A:=s.gB;have c6:(Value.slice a d c).ownBlock≠some I:=fun z=>(by have:=bq I z;omega);have et:=aB eS;dsimp only at et;have A:X.heap.size≠b:=(by omega);have A:X.heap.size≠I:=(by omega);have eR:d+1≤maxLen:=(by unfold maxLen;omega);have A:w.heap.size≤X.heap.size:=(by omega);have A:=aa s;have A:=aa bq
    have cE:∀(g cap:Nat) (al:World),al.ownsRow w.heap.size 55 3 (.slice (some ⟨g,0,none⟩) (d+1) cap) (d+1) (Y.flatMap cR++cR (f,x))→af (fun k=>(Value.slice a d c).ownBlock=some k) X al→((Value.slice a d c).ownBlock=some g∨X.heap.size≤g)→jQ Fo w al sb N room ps J (d+1) (.slice (some ⟨g,0,none⟩) (d+1) cap) Z W (Y++[(f,x)]):=fun g cap al T U bw=>by
     have t:=S.out;have eb:=dl.out
     have c1:∀k,(Value.slice a d c).ownBlock=some k→¬Z k:=fun k j z=>by
      rcases s.sub k z with q|q;·exact(t.apart k j).1 q
      ·have:=bq k j;omega
     have hex:=s.b8.ext;have c0:W.n=(ps.length:Int):=by rw[hex.n];exact t.bq.n
     have bi:∀k,Z k→¬Fo k:=fun k L B=>by
      rcases s.sub k L with q|q;·exact t.bq.db k q B
      ·have:=t.bq.b7.lt k B;omega
     have A:ba Fo X N ps:=t.bq.b7.a4 s.av (fun k L B=>t.bq.db k B L);refine⟨⟨s.a8.a4 U (fun k L B=>c1 k B L),A.a4 U (fun k L B=>(t.apart k B).2 L),bi,c0,by rw[s.b8.room];exact t.bq.room⟩,?_,?_,by rw[s.b8.room];exact t.room,by rw[jV];simpa using T,fun k j=>?_,?_,fun k j=>?_⟩
     ·have b5:=gT ds.out;refine⟨by rw[b5,di,di,t.cg.1];rfl,fun i q r L B=>?_⟩;by_cases hid:i<Y.length
      ·rw[iU hid]at B;rw[b5,iU (by rw[←t.cg.1];exact hid)]at L;obtain⟨A,J,O⟩:=t.cg.2 i q r L B;exact⟨A,J,O.ext t.bq.a8.wf hex⟩
      ·rw[jt (by omega)]at B;rw[b5,jt (by rw[←t.cg.1];omega),←t.cg.1]at L
       have a1:i-Y.length=0:=by
        have:=(List.getElem?_eq_some_iff.1 B).1;simp at this;omega
       rw[a1]at L B;cases L;cases B;exact⟨rfl,cb.out,wB s.a8.wf cb.out eb c0 s.ok s.bt⟩
     ·have A:=s.b8.len;have A:2 ^ ps.length≤2 ^ 5:=aW (by decide) (by rw[←cc.out];exact d0);have cj:(2:Nat) ^ 5=32:=rfl;have:=t.len;omega
     ·simp[Value.ownBlock]at j;subst j;rcases bw with q|q;·exact⟨c1 _ q,(t.apart _ q).2⟩
      ·exact⟨fun z=>by have:=s.a8.lt _ z;omega,fun z=>by have:=t.bq.b7.lt _ z;omega⟩
     ·exact(t.ad.new s.av (fun k j=>t.fr k (.inl j))).new U (fun k j=>gd bt.out j)
     ·rcases j with j|j
      ·rcases s.sub k j with q|q;·exact t.fr k (.inl q)
       ·omega
      ·exact t.fr k (.inr j)
    have c':=aa cE;clear s c3 bq cE;go_wp2_with fail;go_region_held3 (fun w'=>w'.cell? ⟨b,off+d*2,none⟩=some (.int .u8 f)∧w'.cell? ⟨I,0,none⟩=some (.int .u8 x.tag)∧w'.cell? ⟨I,1,none⟩=some (.int .u32 x.to)) (go_keep) ((refine step_append_lies _ rfl (.tmp 54) (.tmp 62) 31 rfl w.heap.size 55 er _ 3 12 Tryz.underlying31 hi el em ep rfl (by decide) (.slice a d c) d (Y.flatMap cR) rfl ?_ _ 1 1 (cR (f,x)) rfl rfl ?_ ?_ (by decide) ?_ ?_ ?_ _ rfl ?_;exact ae.bp (show ae X _ from kp) bt.out;(first|exact eU _ _ _ _ (by simp)|exact lZ _ _ _ _ (by simp));(intro u c4;simp[cR]at c4;rcases c4 with rfl|rfl|rfl<;>rfl);exact eR;omega;(simp;omega);intro cl ci s ea bn d7 s;have s:=jd (b:=b) (o:=off+d*2) (v:=.int .u8 f) bn ev (by go_keep);have s:=jd (b:=I) (o:=0) (v:=.int .u8 x.tag) bn c6 (by go_keep);have s:=jd (b:=I) (o:=1) (v:=.int .u32 x.to) bn c6 (by go_keep)))
    all_goals(try go_wp2_with fail)
    all_goals go_roundg (gk-1)
    case rel=>
     refine⟨d+1,some ⟨cl,0,none⟩,ci,Z,W,Y++[(f,x)],rfl,by simp,by omega,c'.out cl ci _ ea (af.b8 (by repeat (first|exact af.refl _ _|refine af.alloc ?_ _|refine af.drew ?_)) bn (fun k j=>.inl j)) ?_⟩;rcases d7 with q|q;·exact .inl q
     ·right;rw[q];simp
    case measure=>omega
  ·have d5:d=ab:=(by omega);subst d5;have S:=aa E;clear E;go_wp2_with fail;refine aq (v:=.tuple #[.pointer (some ⟨sb,0,none⟩),.pointer (some ⟨N,0,none⟩),.slice a d c,.bool true]) (by simp[results,Tryz.results11,go_sem]) rfl ?_;exact⟨sb,N,am,Fo,av,a,c,Y,rfl,S.out⟩
def ns (F Fo:Nat→Prop)(w wr:World)(t lb:Nat)(z:Option Addr)(cap sb A n:Nat)(q:List (Int×List Bool))(r:Nat)(m:Int)(a:Option Addr):Prop:=
 ∃(s:Nat→Prop) (j:St) (B:List (Int×Edge)) (p:List Int),gK s Fo wr t lb z cap sb A j p q B∧p.length=n∧(∀j,s j→F j∨w.heap.size≤j)∧af (fun j=>F j∨Fo j) w wr ∧
  (r=0∧m=-1∨∃j,r=j+1∧m=(aG q (eZ (aG q) n j):Int)∧gm wr s Fo lb a (eZ (aG q) n j))
theorem CO {F Fo:Nat→Prop}{w:World}{sb am cap3:Nat}{a6:Option Addr}{M:St}{ps:List Int}{j:List (Int×List Bool)}{rs:List (Int×Edge)}(hS:fV F Fo w sb am M ps)(c7:aF ps=true)(a0:ps.length≤5)(cx:j.length≤4)(c8:(j.length:Int)*300<M.room)(c':M.room≤1000000)(O:cL M ps j rs)(bw:cA w a6 rs)(c4:a6=none→cap3=0) :
  Calls Tryz.prog 12 #[.pointer (some ⟨sb,0,none⟩),.pointer (some ⟨am,0,none⟩),.slice a6 j.length cap3] w (nI F Fo w sb am j (iH (aG j) ps.length)):=by
 have b0:=mT hS.a8 hS.b7
 rw[ah hS.n]at b0
 have bi:=fun(T:World) (I:ae w T)=>dw (hS.a8.ad I)
 have be:=fun(T:World) (I:ae w T)=>kI (hS.a8.ad I) a6 cap3 rs (bw.ad I) (by have:=O.1;omega)
 have b3:=fun(T:World) (I:ae w T)=>tC (hS.ad I) c7 (by omega) cx c8 c' O (bw.ad I) c4
 have c3:=hS.n
 rw[oT O,O.1]at be
 rw[c3]at bi
 obtain⟨n,b4⟩:∃n,n=ps.length:=⟨_,rfl⟩
 rw[←b4]at bi a0 ⊢
 obtain⟨a6,bv⟩:∃a6,a6=j.length:=⟨_,rfl⟩
 rw[←bv]at be b3 cx ⊢
 have ca:=aa b0
 have cj:=aa bi
 have ce:=aa be
 have cc:=aa b3
 have cf:=aa b4
 have dr:=aa bv
 have a6:¬5<(n:Int):=by omega
 clear b0 bi be b3 hS c7 c8 c' O bw c4 c3 b4 bv
 go_enter Tryz.func12,Tryz.ntmps12
 go_wp2_with (first
  |(go_at_call 47;refine ca.out.mono ?_;rintro e w1 ⟨rfl,cE⟩)
  |(go_at_call 48;refine(cj.out _ kp).mono ?_;rintro e ep ⟨rfl,rfl⟩)
  |(go_at_call 49;refine(ce.out _ kp).mono ?_;rintro e ee ⟨rfl,be⟩)
  |fail)
 have a6:=cE.trans be
 have cb:=aa a6
 have cd:=aa (cc.out ee a6)
 clear cc ce cj ca cE be a6
 refine cd.out.mono ?_
 rintro e eg ⟨a7,lb,cap,b6,rfl,d5,a6,ec⟩
 clear cd
 obtain⟨ab,cl,da,s,t,z⟩:=d5
 obtain⟨t,z⟩:=tm ec t z
 have E:=o8 s.bq.b7
 rw[←cf.out]at E
 have cS:af (fun S=>F S∨Fo S) w eg:=(cb.out.av _).bg z
 have a6:=cb.out.size
 have L:=aa E
 have J:=aa (⟨s,(fun S ea=>by rcases t S ea with q|q;exact .inl q;exact .inr (by omega):∀S,ab S→F S∨w.heap.size≤S),cS⟩:_∧_∧_)
 clear s t z E cS
 go_wp2_with fail
 refine L.out.mono ?_
 rintro e ek ⟨co,d3,rfl,d8,b1⟩
 obtain⟨s,t,z⟩:=J.out
 have c2:w.heap.size≤lb:=by omega
 have O:ns F Fo w ek a7 lb b6 cap sb am n j 0 (-1) co:=⟨ab,cl,da,ps,s.ad b1,cf.out.symm,t,z.bg (b1.av _),.inl ⟨rfl,rfl⟩⟩
 have ch:=aa O
 clear s t z O d8 b1 J L
 have d9:=mf n
 obtain⟨K,a8⟩:∃K,K=ct n:=⟨_,rfl⟩
 have O:K≤120:=by
  rw[a8];have:n=0∨n=1∨n=2∨n=3∨n=4∨n=5:=by omega
  rcases this with rfl|rfl|rfl|rfl|rfl|rfl<;>decide
 rw[←a8]at d9
 have a5:=aa a8
 clear a8
 go_wp2_with fail
 go_loopg [12,13,14] K (fun gk O S a6 wr=>∃(r:Nat) (m:Int) (a:Option Addr) (c:Nat),O=.slice a n c∧S=.int .i64 m∧a6=.int .i64 (r:Int)∧r+gk=K∧ns F Fo w wr a7 lb b6 cap sb am n j r m a)
 case atStart=>exact⟨0,-1,co,d3,rfl,rfl,rfl,by omega,ch.out⟩
 case round=>
  obtain⟨r,m,a,c,rfl,rfl,rfl,O,d6⟩:=hrel;clear ch;obtain⟨ab,cl,da,p,s,bg,t,z,bf⟩:=d6;by_cases c1:r<K
  ·have av:=aa (AF n r a0 (by rw[←a5.out];exact c1) wr);have J:=aa (⟨s,t,z⟩:_∧_∧_);have d1:=aa bg;have d0:=aa bf;clear s t z bg bf;go_wp2_with fail;refine av.out.mono ?_;rintro e dj ⟨cp,bt,rfl,c6,W⟩;obtain⟨s,t,z⟩:=J.out
   have bD:=vw (F:=ab) (Fo:=Fo) (lb:=lb) c6 (lu n r).symm (fun k eb=>by
    rcases eb with q|q|q;·exact s.bq.a8.lt k q
    ·exact s.bq.b7.lt k q
    ·subst q;exact s.e2.2)
   have E:=qo (cap2:=bt) (s.ad W) bD.1 (sA a0 (by rw[←a5.out];exact c1)) (d1.out.trans (lu n r).symm);rw[lu]at E;have L:=aa E;have b8:=aa bD;have ad:=aa W;clear s t z E bD c6 W av;go_wp2_with fail;refine L.out.mono ?_;rintro e bn ⟨rfl,a4,cn,db,N,Y,Z⟩;obtain⟨s,t,z⟩:=J.out;obtain⟨a1,a3⟩:=pt t z c2 ad.out Y Z;have cD:=b8.out.step Y Z;have c5:∀a xs,gm wr ab Fo lb a xs→gm bn a4 Fo lb a xs:=fun a xs h=>(h.ad ad.out).step Y Z;have d7:=aO.size (aO.start N (fun _=>False));have b2:=lW (aO.start N (fun _=>False));obtain⟨al,bx⟩:∃al,al=aG j (fq n r):=⟨_,rfl⟩;rw[←bx]at b2 d7;have bp:=aa b2;have a6:∀(S:Int) (O:Option Addr) (A:Nat),r=A→S=(aG j (eZ (aG j) n A):Int)→gm bn a4 Fo lb O (eZ (aG j) n A)→ns F Fo w bn a7 lb b6 cap sb am n j (r+1) S O:=fun S O A O S am=>⟨a4,cn,db,fq n r,N,lu n r,a1,a3,.inr ⟨A,by rw[O],S,am⟩⟩;have bq:=aa a6;have b9:=aa cD;have dB:=aa c5;have bs:=aa bx;clear s t z a1 a3 cD c5 b2 a6 N Y Z L b8 ad J bx;rcases d0.out with⟨B,bd⟩|⟨A,B,bd,U⟩
   ·subst bd;have br:=aa B;clear B;go_wp2_with (first|(go_at_call 21;refine(bp.out _ kp).mono ?_;rintro e b7 ⟨rfl,rfl⟩)|fail)
    go_roundg (gk-1)
    case rel=>exact⟨r+1,al,cp,bt,rfl,rfl,by simp,by omega,bq.out _ _ r rfl (by rw[br.out,bs.out,br.out];rfl) (by have h:=b9.out;rw[br.out]at h ⊢;exact h)⟩
    case measure=>omega
   ·obtain⟨aw,a'⟩:∃aw,aw=aG j (eZ (aG j) n A):=⟨_,rfl⟩;rw[←a']at bd;have c9:eZ (aG j) n r=if al<aw then fq n r else eZ (aG j) n A:=(by rw[B,a',bs.out,B];rfl);have ci:=aa c9;have d2:=aa a';have dk:=aa (dB.out _ _ U);subst bd;clear U a' c9 B;by_cases cy:al<aw
    ·go_wp2_with (first|(go_at_call 21;refine(bp.out _ kp).mono ?_;rintro e b7 ⟨rfl,rfl⟩)|fail)
     go_roundg (gk-1)
     case rel=>
      have X:=ci.out;rw[ah cy]at X;exact⟨r+1,al,cp,bt,rfl,rfl,by simp,by omega,bq.out _ _ r rfl (by rw[X,bs.out]) (by rw[X];exact b9.out)⟩
     case measure=>omega
    ·go_wp2_with (first|(go_at_call 21;refine(bp.out _ kp).mono ?_;rintro e b7 ⟨rfl,rfl⟩)|fail)
     go_roundg (gk-1)
     case rel=>
      have X:=ci.out;rw[ag cy]at X;exact⟨r+1,aw,a,c,rfl,rfl,by simp,by omega,bq.out _ _ r rfl (by rw[X,d2.out]) (by rw[X];exact dk.out)⟩
     case measure=>omega
  ·have ed:r=K:=by omega
   obtain⟨A,B,U⟩:∃A,K=A+1∧gm wr ab Fo lb a (eZ (aG j) n A):=by
    rcases bf with⟨B,-⟩|⟨A,B,-,U⟩
    ·omega
    ·exact⟨A,by omega,U⟩
   have b5:=AG n a0 wr;rw[←a5.out]at b5;have c0:iH (aG j) n=eZ (aG j) n A:=(by unfold iH;rw[←a5.out,B];rfl);have bb:=zj (aG j) a0;have E:=fun(T:World) (I:ae wr T)=>qo (cap2:=c) (qs:=iH (aG j) n) (s.ad I) (by rw[c0];exact U.1.ad I) bb.1 (bg.trans bb.2.symm);rw[bb.2]at E;have av:=aa b5;have L:=aa E;have J:=aa (⟨s,t,z⟩:_∧_∧_);subst ed;clear s t z bg bf b5 c0 bb E U B;go_wp2_with fail;refine av.out.mono ?_;rintro e dj ⟨rfl,W⟩;have cg:=aa (L.out dj W);have ad:=aa W;clear W;go_wp2_with fail;refine cg.out.mono ?_;rintro e bn ⟨rfl,a4,cn,db,N,Y,Z⟩;obtain⟨s,t,z⟩:=J.out;obtain⟨a1,a3⟩:=pt t z c2 ad.out Y Z;have j:=qp N a1 a3;have cv:=N.cells.c3;rw[←dr.out]at j;have dl:=aa j;clear s t z a1 a3 N Y Z j cg L av J ad;go_wp2_with fail
   go_region_held3 (fun w'=>w'.cell? ⟨a7,3,none⟩=some (.int .u8 0)) (go_keep) ((first
    |(go_at_call 53;refine(dl.out _ kp).mono ?_;rintro el b7 ⟨⟨em,rfl,j⟩,s⟩;have ds:=aa j;have cv:=s.cell cv;clear j)))
   all_goals(try go_wp2_with fail)
   all_goals go_ret2
   all_goals exact ds.out _ kp
def kV (i:Nat):Bool:=(ax (i:Int) 0&&ax (i:Int) 2)||(ax (i:Int) 1&&ax (i:Int) 3)
def im (d:Nat):List Bool:=(List.range 16).map (fun i=>if i<d then kV i else false)
def fX:List (Int×List Bool):=[(1,im 16)]
theorem lE (d:Nat):(im d).length=16:=by unfold im;simp
theorem As {d:Nat}(q:d<16):(im d).set d (kV d)=im (d+1):=by
 apply List.ext_getElem?;intro i;by_cases hi:i<16
 ·by_cases j:d=i
  ·subst j;rw[gy (by rw[lE];exact q)];unfold im;rw[dh,jW hi];simp
  ·rw[fK j];unfold im;rw[dh,dh,jW hi];simp only[Option.map_some];by_cases j:i<d;·rw[ah j,ah (by omega)]
   ·rw[ag j,ag (by omega)]
 ·rw[cO (by rw[bZ,lE];omega),cO (by rw[lE];omega)]
theorem CU:aG fX [0,1,2,3]=6:=by kernel_rfl
theorem CV:((List.range 24).all fun k=>decide (4≤aG fX (fq 4 k)))=true:=by kernel_rfl
theorem CX:((List.range 24).any fun k=>decide (aG fX (fq 4 k)=4))=true:=by kernel_rfl
theorem CW:aG fX (iH (aG fX) 4)=4:=by
 obtain⟨k,s,j⟩:=rM (aG fX) 4 23;have q:=List.all_eq_true.1 CV k (List.mem_range.2 (by omega));obtain⟨A,s,t⟩:=List.any_eq_true.1 CX;have z:=zk (aG fX) 4 23 A (by have:=List.mem_range.1 s;omega);have e:iH (aG fX) 4=eZ (aG fX) 4 23:=rfl;rw[e];rw[j]at z ⊢;have j:=of_decide_eq_true q;have j:=of_decide_eq_true t;omega
theorem qu {w:World}{s q c:Nat}{a:Option Addr}{rs:List (Int×Edge)}(h:w.ownsRow s 55 3 (.slice a q c) q (rs.flatMap cR))(t:a=none):c=0:=by
 rcases h.2 with⟨j,_⟩|⟨z,q,s,j,_⟩
 ·cases j;rfl
 ·cases j;cases t
theorem jQ.go {Fo:Nat→Prop}{w wr:World}{sb E c:Nat}{a:Option Addr}{room:Int}{ps:List Int}{j:List (Int×List Bool)}{F:Nat→Prop}{M:St}{rs:List (Int×Edge)}(h:jQ Fo w wr sb E room ps j j.length (.slice a j.length c) F M rs)(W:aF ps=true)(U:ps.length≤5)(T:j.length≤4)(X:(j.length:Int)*300<room)(Y:room≤1000000) :
  fV F Fo wr sb E M ps∧cL M ps j rs∧M.room=room∧(∀z,af (fun B=>F B∨Fo B) wr z→cA z a rs)∧(a=none→c=0)∧rs.length=j.length:=by
 have s:=h.cg
 rw[List.take_length]at s
 have N:∀r∈rs,(0≤r.1∧r.1≤255)∧r.2.ok:=fun r t=>⟨by have:=(s.leads r t).1;omega,s.fE r t⟩
 refine⟨h.bq,s,h.room,fun z J i r t=>?_,qu h.row,s.1⟩
 have z:j.length≠0:=by have:=(List.getElem?_eq_some_iff.1 t).1;have:=s.1;omega
 obtain⟨g,rfl⟩:∃g,a=some ⟨g,0,none⟩:=by
  rcases h.row.2 with⟨A,B⟩|⟨I,j,z,A,_⟩
  ·omega
  ·cases A;exact⟨I,rfl⟩
 obtain⟨O,S⟩:=h.apart g rfl
 exact((te h.row s.1.symm).a4 J (fun L=>by rcases L with q|q;exact O q;exact S q)).roots N i r t
theorem rI (w:World):Calls Tryz.prog 8 #[] w fun e w'=>e=.returned (.bool true)∧ae w w':=by
 obtain⟨ce,cc,cf,cg,ch⟩:=info_parts ru;go_enter Tryz.func8,Tryz.ntmps8
 go_wp2_with (first
  |(at_make;refine wpList_make_full _ rfl _ _ 62 rfl w.heap.size 4 ce (.bool false) 1 Tryz.underlying62 cc cf cg .i64 .i64 16 16 16 rfl rfl rfl rfl (by rw[ch];omega) (by unfold maxLen;omega) (aE _) ?_;intro w1 bt t)
  |fail)
 have X:=nX bt;have bq:ae w w1:=⟨t.os,t.tape,t.output,t.size,fun i hi=>t.block i hi (by simp)⟩;have U:=aa X;have a4:=aa bq;have ci:=X.lt;clear bt t X bq;obtain⟨q,bi⟩:∃q,q=w.heap.size:=⟨_,rfl⟩;have ca:w.heap.size≤q:=by omega
 rw[←bi]at U ci ⊢;clear bi;go_loopg [2] 16 (fun gk t wr=>∃d:Nat,t=.int .i64 (d:Int)∧d+gk=16∧bW wr q (im d)∧af (fun aw=>aw=q) w1 wr)
 case atStart=>exact⟨0,rfl,rfl,U.out,af.refl _ _⟩
 case round=>
  obtain⟨d,rfl,X,B,t⟩:=hrel;have a1:=aa B;have W:=aa t;have X:=t.size;clear t U;by_cases bs:d<16
  ·obtain⟨x,A⟩:∃x,(im d)[d]?=some x:=⟨_,ar (by rw[lE];exact bs)⟩;have t:=B.cell A;have t:=B.frozen d;have ad:=fun(j:World)=>jN (d:Int) 0 j (by omega) (by omega) (by omega) (by omega);have al:=fun(j:World)=>jN (d:Int) 1 j (by omega) (by omega) (by omega) (by omega);have am:=fun(j:World)=>jN (d:Int) 2 j (by omega) (by omega) (by omega) (by omega);have av:=fun(j:World)=>jN (d:Int) 3 j (by omega) (by omega) (by omega) (by omega);have s:kV d=((ax (d:Int) 0&&ax (d:Int) 2)||(ax (d:Int) 1&&ax (d:Int) 3)):=rfl;have T:=B.set d (kV d);rw[As bs]at T;obtain⟨V,bn⟩:∃V,V=kV d:=⟨_,rfl⟩;rw[←bn]at s T;have b3:=aa T;obtain⟨b4,bd⟩:∃b,b=ax (d:Int) 0:=⟨_,rfl⟩;obtain⟨b5,be⟩:∃b,b=ax (d:Int) 1:=⟨_,rfl⟩;obtain⟨b6,bf⟩:∃b,b=ax (d:Int) 2:=⟨_,rfl⟩;obtain⟨b7,bg⟩:∃b,b=ax (d:Int) 3:=⟨_,rfl⟩;rw[←bd]at ad s;rw[←be]at al s;rw[←bf]at am s;rw[←bg]at av s;clear bd be bf bg T B A bn;have J:=aa ad;have L:=aa al;have N:=aa am;have bb:=aa av;clear ad al am av;cases b4<;>cases b5<;>cases b6<;>cases b7<;>(simp only[Bool.and_true,Bool.and_false,Bool.or_true,Bool.or_false]at s;subst s;simp only[eQ]at J L N bb)
   all_goals
    go_wp2_with (first
     |(go_at_call 43;have E:=J;clear E;refine(J.out _).mono ?_;rintro e w' ⟨rfl,rfl⟩;clear J)
     |(go_at_call 43;have E:=N;clear E;refine(N.out _).mono ?_;rintro e w' ⟨rfl,rfl⟩;clear N)
     |(go_at_call 43;have E:=L;clear E;refine(L.out _).mono ?_;rintro e w' ⟨rfl,rfl⟩;clear L)
     |(go_at_call 43;refine(bb.out _).mono ?_;rintro e w' ⟨rfl,rfl⟩)
     |fail)
    go_roundg (gk-1)
    case rel=>exact⟨d+1,by simp,by omega,b3.out,dx (P:=fun aw=>aw=q) rfl W.out _ _⟩
    case measure=>omega
  ·have cb:d=16:=(by omega);subst cb;have br:ae w wr:=a4.out.new W.out (fun k Y=>by subst Y;exact ca);have a6:=aa br;clear br a4 W;obtain⟨I,z⟩:∃j,j=(wr.alloc (.cells #[.int .i64 0,.int .i64 1,.int .i64 2,.int .i64 3] 3)).alloc (.cells #[.int .u8 1,.slice (some ⟨q,0,none⟩) 16 16] 96):=⟨_,rfl⟩;have Z:ae wr I:=by rw[z];exact((ae.refl _).alloc _).alloc _
   have bp:bH I (some ⟨wr.heap.size,0,none⟩) [0,1,2,3]:=fun i x A=>by
    rw[z];refine⟨wr.heap.size,0,rfl,?_⟩;have hi:=(List.getElem?_eq_some_iff.1 A).1;have b9:i=0∨i=1∨i=2∨i=3:=(by simp at hi;omega);rcases b9 with rfl|rfl|rfl|rfl<;>(simp at A;subst A;simp[go_sem])
   have bv:kQ I (some ⟨wr.heap.size+1,0,none⟩) (2 ^ [(0:Int),1,2,3].length) fX:=fun i r ab=>by
    have hi:=(List.getElem?_eq_some_iff.1 ab).1;have b8:i=0:=(by simp[fX]at hi;exact hi);subst b8;have cd:r=(1,im 16):=(by simp[fX]at ab;exact ab.symm);subst cd;refine⟨⟨by decide,by decide⟩,lE 16,wr.heap.size+1,0,q,rfl,?_,?_,nV a1.out Z⟩;·rw[z];simp[go_sem]
    ·rw[z];simp[go_sem]
   have q:=vB 500 (some ⟨wr.heap.size,0,none⟩) (some ⟨wr.heap.size+1,0,none⟩) 4 1 [0,1,2,3] fX I bp (by decide) (by decide) bv (by decide) (by decide) (by decide);have a3:=aa q;have a5:=aa (a6.out.trans Z);clear bp bv q Z a1 a6;go_wp2_with fail;rw[←z];clear z;refine a3.out.mono ?_;rintro e a0 ⟨sb,cl,F,Fo,M,a,c,rs,rfl,S⟩;obtain⟨hS,s,q,z,J,t⟩:=S.go (by decide) (by decide) (by decide) (by decide) (by decide);have E:=a5.out.trans S.ad;have B:∀k,F k∨Fo k→I.heap.size≤k:=S.fr;have I:=(s.size hS.a8 (by decide) hS.n (by decide) (by have:=hS.a8.wf.cS;rw[q]at this;omega)).1;rw[CU]at I;have A:=tE hS.a8 a c rs (z a0 (af.refl _ _)) (by rw[t];decide) (oT s);rw[I,t]at A;have I:=fun(j:World) (O:ae a0 j)=>CO (cap3:=c) (hS.ad O) (by decide) (by decide) (by decide) (by rw[q];decide) (by rw[q];decide) s ((z a0 (af.refl _ _)).ad O) J;have a':=aa A;have a7:=aa I;have bD:=aa E;have bx:=aa B;have L:=a5.out.size;clear hS s q z J t S E B A I a3;go_wp2_with fail;refine a'.out.mono ?_;rintro e cj ⟨rfl,q⟩;have a8:=aa (a7.out cj q);have b0:=aa q;clear a7 a' q;go_wp2_with fail;refine a8.out.mono ?_;rintro e bw ⟨g,F',M',cn,rfl,s,-,-,A,-,-,-,-,t⟩;have q:=fun(j:World) (O:ae bw j)=>pH (s.a8.ad O);have j:M'.len=4:=(by rw[A];exact_mod_cast CW);rw[j]at q;have b2:=aa q;have z:ae w bw:=(bD.out.trans b0.out).new t (fun k Y=>by have:=bx.out k Y;omega);have b1:=aa z;clear s A t q j z a8;go_wp2_with (first|(go_at_call 21;refine(b2.out _ kp).mono ?_;rintro e j ⟨rfl,rfl⟩)|fail)
   go_ret;exact⟨rfl,b1.out⟩
def nD (F Fo:Nat→Prop)(w wr:World)(t lb:Nat)(z:Option Addr)(cap sb A g:Nat)(ps:List Int)(j:List (Int×List Bool))(v:Nat):Prop:=
 ∃(q:Nat→Prop) (s:St) (B:List (Int×Edge)),gK q Fo wr t lb z cap sb A s (jk (aG j) g ps v) j B∧(∀j,q j→F j∨w.heap.size≤j)∧af (fun j=>F j∨Fo j) w wr
theorem CQ {F Fo:Nat→Prop}{w:World}{sb B cap3 g:Nat}{I:Option Addr}{M:St}{ps:List Int}{z:List (Int×List Bool)}{rs:List (Int×Edge)}(hS:fV F Fo w sb B M ps)(Y:aF ps=true)(b2:ps.length≤6)(a':z.length≤4)(bg:(z.length:Int)*300<M.room)(bp:M.room≤1000000)(A:cL M ps z rs)(T:cA w I rs)(bf:I=none→cap3=0)(b5:g≤1000) :
  Calls Tryz.prog 17 #[.pointer (some ⟨sb,0,none⟩),.pointer (some ⟨B,0,none⟩),.slice I z.length cap3,.int .i64 (g:Int)] w (nI F Fo w sb B z (jk (aG z) g ps ps.length)):=by
 have U:=mT hS.a8 hS.b7
 rw[ah hS.n]at U
 have L:=fun(O:World) (E:ae w O)=>kI (hS.a8.ad E) I cap3 rs (T.ad E) (by have:=A.1;omega)
 have W:=fun(O:World) (E:ae w O)=>tC (hS.ad E) Y (by omega) a' bg bp A (T.ad E) bf
 rw[oT A,A.1]at L
 obtain⟨n,X⟩:∃n,n=ps.length:=⟨_,rfl⟩
 have Z:=fun v (E:v≤n)=>tF (aG z) g Y v (by omega)
 rw[←X]at b2 Z ⊢
 obtain⟨E,S⟩:∃E,E=z.length:=⟨_,rfl⟩
 rw[←S]at L W a' ⊢
 have av:=aa U
 have a3:=aa L
 have a0:=aa W
 have bw:=aa X
 have bv:=aa S
 have b0:=aa Z
 have E:¬(g:Int)<0:=by omega
 have E:¬1000<(g:Int):=by omega
 clear U L W hS Y bg bp A T bf X S Z
 go_enter Tryz.func17,Tryz.ntmps17
 go_wp2_with (first
  |(go_at_call 47;refine av.out.mono ?_;rintro e w1 ⟨rfl,bd⟩)
  |(go_at_call 49;refine(a3.out _ kp).mono ?_;rintro e cc ⟨rfl,I⟩)
  |fail)
 have E:=bd.trans I
 have aw:=aa E
 have a1:=aa (a0.out cc E)
 clear a0 a3 av bd I E
 refine a1.out.mono ?_
 rintro e br ⟨J,lb,cap,ad,rfl,b3,E,b7⟩
 clear a1
 obtain⟨al,a7,bq,j,s,t⟩:=b3
 obtain⟨s,t⟩:=tm b7 s t
 have ab:=dw j.bq.a8
 rw[j.bq.n,←bw.out]at ab
 have be:af (fun N=>F N∨Fo N) w br:=(aw.out.av _).bg t
 have E:=aw.out.size
 have b9:w.heap.size≤lb:=by omega
 have A:nD F Fo w br J lb ad cap sb B g ps z 0:=⟨al,a7,bq,j,(fun N b6=>by rcases s N b6 with q|q;exact .inl q;exact .inr (by omega)),be⟩
 have a6:=aa ab
 have a5:=aa A
 clear j s t ab be A
 go_wp2_with (first
  |(go_at_call 48;refine a6.out.mono ?_;rintro e cg ⟨rfl,rfl⟩)
  |fail)
 go_loopg [13,38] n (fun gk A A wr=>∃(v:Nat),A=.int .i64 (v:Int)∧v+gk=n∧nD F Fo w wr J lb ad cap sb B g ps z v)
 case atStart=>exact⟨0,rfl,by omega,a5.out⟩
 case round=>
  obtain⟨v,rfl,A,b4⟩:=hrel;clear a5 a6;obtain⟨al,a7,bq,j,s,t⟩:=b4;by_cases b8:v<n
  ·obtain⟨A,-⟩:=b0.out v (by omega);have E:=vD j (n:=n) A b8 b5;have a4:=aa E;have am:=aa (⟨j,s,t⟩:_∧_∧_);clear j s t E A;go_wp2_with fail;refine a4.out.mono ?_;rintro e cd ⟨rfl,bs,b1,cb,bb,bi,bn⟩;obtain⟨j,s,t⟩:=am.out;obtain⟨E,I⟩:=pt s t b9 (ae.refl wr) bi bn;have A:nD F Fo w cd J lb ad cap sb B g ps z (v+1):=⟨bs,b1,cb,bb,E,I⟩;have bx:=aa A;clear j s t E I bb bi bn am a4 A;go_wp2_with fail;go_roundg (gk-1)
   case rel=>exact⟨v+1,by simp,by omega,bx.out⟩
   case measure=>omega
  ·have ca:v=n:=(by omega);subst ca;have z:=qp j s t;have a8:=j.cells.c3;rw[←bv.out]at z;have bt:=aa z;clear j s t z;go_wp2_with fail
   go_region_held3 (fun w'=>w'.cell? ⟨J,3,none⟩=some (.int .u8 0)) (go_keep) ((first
    |(go_at_call 53;refine(bt.out _ kp).mono ?_;rintro ce ch ⟨⟨cf,rfl,j⟩,s⟩;have bD:=aa j;have a8:=s.cell a8;clear j)))
   all_goals(try go_wp2_with fail)
   all_goals go_ret2
   all_goals exact bD.out _ kp
theorem rG {M:St}{f:Int}{e:Edge}{l:Int}(h:dX M f e l=true):M.leads f e l=true:=by
 unfold dX at h;split at h;·rename_i j;rw[j];exact h
 ·split at h;·rename_i j;rw[j];exact h
  ·split at h;·rename_i j;rw[j];exact pn h
   ·split at h;·rename_i j;rw[j];exact pn h
    ·split at h;·rename_i j;rw[j];exact pn h
     ·cases h
theorem yN {M:St}{f:Int}{e:Edge}{l:Int}(h:dX M f e l=true):cu M f e l:=by
 intro j;unfold dX at h;rcases j with rfl|rfl|rfl;·simpa using h
 ·simpa using h
 ·simpa using h
noncomputable def gN (M:St)(ps:List Int)(rs:List (Int×Edge)):List (Int×List Bool):=rs.map (fun r=>(r.1,tabP M ps r.1 r.2))
theorem si {M:St}:∀{rs:List (Int×Edge)},bh M rs=0→∀r∈rs,(1≤r.1∧r.1≤5)∧dX M r.1 r.2 0=true:=by
 intro rs;induction rs with
 |nil=>intro _ r j;cases j
 |cons A rs z=>
  intro h r j;rw[kh]at h;split at h;·omega
  ·rename_i s;split at h;·omega
   ·rename_i t;rcases List.mem_cons.1 j with rfl|j
    ·have q:aR r.1=true:=(by simpa using s);refine⟨?_,by simpa using t⟩;unfold aR at q;simpa using q
    ·exact z h r j
theorem tX (M:St)(ps:List Int)(f:Int)(e:Edge):tabP M ps f e=je ps.length (hasB (cZ (tabP M ps f e))):=by
 apply List.ext_getElem?;intro j;have q:=pN M ps f e;by_cases q:j<2 ^ ps.length
 ·rw[oB q,yi (by omega),dC,ar (by omega)];rfl
 ·rw[cO (by omega),cO (by unfold je;simp;omega)]
theorem C7 {M:St}{ps:List Int}{rs:List (Int×Edge)}(h:bh M rs=0)(z:∀r∈rs,r.2.ok):cL M ps (gN M ps rs) rs:=by
 refine⟨by unfold gN;rw[fy],fun i B r j q=>?_⟩;unfold gN at j;rw[dh,q]at j;cases j;have s:=bB q;obtain⟨A,t⟩:=si h r s;exact⟨rfl,A,z r s,rG t,yN t,tX M ps r.1 r.2⟩
theorem tL {M M':St}{ps qs:List Int}{rs q:List (Int×Edge)}(h:cL M' qs (gN M ps rs) q)(E:qs.length=ps.length){d:Nat}{r:Int×Edge}(I:rs[d]?=some r) :
  ∃x,q[d]?=some (r.1,x)∧(1≤r.1∧r.1≤5)∧x.ok∧M'.leads r.1 x 0=true∧dX M' r.1 x 0=true∧tabP M' qs r.1 x=tabP M ps r.1 r.2:=by
 have B:(gN M ps rs)[d]?=some (r.1,tabP M ps r.1 r.2):=by unfold gN;rw[dh,I];rfl
 have A:=(List.getElem?_eq_some_iff.1 B).1
 have z:q[d]?=some (q[d]'(by rw[h.1];exact A)):=ar _
 obtain⟨t,s,j⟩:=h.2 d _ _ B z
 obtain⟨⟨f,x⟩,J⟩:∃y,y=q[d]'(by rw[h.1];exact A):=⟨_,rfl⟩
 rw[←J]at z t s j
 dsimp only at t s j
 subst t
 refine⟨x,z,s,j.ok,j.lead,rH s j.lead j.right,?_⟩
 rw[j.ev,E]
 exact(tX M ps r.1 r.2).symm
theorem rJ (a:Option Addr)(cap:Nat)(ps:List Int)(w:World)(h:bH w a ps)(t:ps.length≤16) :
  Calls Tryz.prog 41 #[.slice a ps.length cap] w fun e w'=>e=.returned (if aF ps=true then .slice a ps.length cap else .slice none 0 0)∧w=w':=by
 have j:=sV a cap ps w h t
 obtain⟨n,z⟩:∃n,n=ps.length:=⟨_,rfl⟩
 rw[←z]at j ⊢
 cases q:aF ps with
 |true=>
  rw[q]at j;have s:=aa j;clear j q z h t;go_enter Tryz.func41,Tryz.ntmps41;go_wp2_with (first|(go_at_call 9;refine s.out.mono ?_;rintro e w1 ⟨rfl,rfl⟩)|fail)
  go_ret;exact⟨rfl,rfl⟩
 |false=>
  rw[q]at j;have s:=aa j;clear j q z h t;go_enter Tryz.func41,Tryz.ntmps41;go_wp2_with (first|(go_at_call 9;refine s.out.mono ?_;rintro e w1 ⟨rfl,rfl⟩)|fail)
  go_ret;exact⟨rfl,rfl⟩
theorem Ct {F Fo G:Nat→Prop}{w:World}{sb cd mb g t cap3 e3:Nat}{M M':St}{e1:List (Int×Rec)}{ps qs:List Int}{rs a1:List (Int×Edge)}{b5 b6:Option Addr}(hS:ak F w sb M')(c1:ba Fo w cd qs)(c2:aV G w mb M e1)(db:M'.n=(qs.length:Int))(cb:M.n=(ps.length:Int))(bd:qs.length=ps.length)
  (cS:bH w b5 ps) (bn:aF ps=true) (c3:cA w b6 rs) (cE:cB w g (a1.map Prod.snd)) (c0:rs.length=t) (g2:t≤16) (bp:cL M' qs (gN M ps rs) a1) (da:bh M rs=0) :
  Calls Tryz.prog 42 #[.pointer (some ⟨sb,0,none⟩),.pointer (some ⟨cd,0,none⟩),.pointer (some ⟨mb,0,none⟩),.slice b5 ps.length cap3,.slice b6 t e3,.slice (some ⟨g,0,none⟩) t t] w fun e w'=>e=.returned (.bool true)∧ae w w':=by
 have cy:=(dD.1 bn).1
 have bf:=pc b5 cap3 ps w cS (by omega)
 simp only[bn,if_true]at bf
 have dk:2 ^ ps.length≤2 ^ 16:=aW (by decide) cy
 have e5:(2:Nat) ^ 16=65536:=rfl
 have c8:∀d,d<t→∃(f:Int) (e x:Edge),rs[d]?=some (f,e)∧a1[d]?=some (f,x):=fun d fs=>by
  have L:rs[d]?=some (rs[d]'(by omega)):=ar _;obtain⟨x,b5,-⟩:=tL bp bd L;exact⟨_,_,x,L,b5⟩
 -- what is known of one root
 have bg:∀(d:Nat) (f:Int) (e x:Edge),rs[d]?=some (f,e)→a1[d]?=some (f,x) →
   (0≤f∧f≤255) ∧
   (∃b off,b6=some ⟨b,off,none⟩∧w.cell? ⟨b,off+d*3,none⟩=some (.int .u8 f)∧w.cell? ⟨b,off+d*3+1,none⟩=some (.int .u8 e.tag)∧w.cell? ⟨b,off+d*3+2,none⟩=some (.int .u32 e.to)) ∧
   (w.cell? ⟨g,d*2,none⟩=some (.int .u8 x.tag)∧w.cell? ⟨g,d*2+1,none⟩=some (.int .u32 x.to)) ∧
   (∀j,ae w j→Calls Tryz.prog 91 #[.pointer (some ⟨sb,0,none⟩),.pointer (some ⟨cd,0,none⟩),.int .u8 f,.agg #[.int .u8 x.tag,.int .u32 x.to]] j fun r w'=>∃g ws,j.heap.size≤g∧r=.returned (.tuple #[.agg #[.int .i64 (ps.length:Int),.slice (some ⟨g,0,none⟩) ws.length ws.length],.int .u8 0])∧bJ w' g ws∧(∀x∈ws,0≤x∧x<2 ^ 64)∧dP (ps.length:Int) ws=true∧gH ps.length ws=tabP M ps f e∧ae j w') ∧
   (∀j,ae w j→Calls Tryz.prog 92 #[.pointer (some ⟨sb,0,none⟩),.int .u8 f,.agg #[.int .u8 x.tag,.int .u32 x.to],.int .i64 0] j fun r w'=>r=.returned (.bool true)∧ae j w') ∧
   (∀j,ae w j→Calls Tryz.prog 93 #[.pointer (some ⟨mb,0,none⟩),.int .u8 f,.agg #[.int .u8 e.tag,.int .u32 e.to],.int .i64 0] j fun r w'=>∃s,r=.returned (.slice (some ⟨s,0,none⟩) (2 ^ ps.length) (2 ^ ps.length))∧j.heap.size≤s∧bW w' s (cm M f e 0)∧ae j w'):=fun d f e x L cD=>by
  obtain⟨b5,d5,d7,d8,f0,f1,f2⟩:=tL bp bd L
  rw[cD]at d5
  cases d5
  obtain⟨e7,e8,b,off,e9,e',cx,fa⟩:=c3 d _ L
  obtain⟨O,T⟩:=cE.cell (i:=d) (e:=x) (by rw[dh,cD];rfl)
  have fv:aR f=true:=by unfold aR;simpa using d7
  have fD:=rG (si da _ (bB L)).2
  refine⟨e7,⟨b,off,e9,e',cx,fa⟩,⟨O,T⟩,fun j q=>?_,fun j q=>?_,fun j q=>?_⟩
  ·have:=wz (hS.ad q) (c1.ad q) db f fv x d8 f0;rw[bd,f2]at this;exact this
  ·have:=qz (hS.ad q) f x 0 d8;rw[f1]at this;exact this
  ·have:=Dt (c2.ad q) f d7 e e8 ps.length 0 (by rw[cb];simp) fD;exact this
 have bq:∀(f:Int) (e:Edge) (y:Nat),y<2 ^ ps.length→∃b,(cm M f e 0)[y]?=some b∧(tabP M ps f e)[cP ps.reverse y ps.length]?=some b∧cP ps.reverse y ps.length<2 ^ ps.length:=fun f e y am=>by
  obtain⟨cc,br⟩:=xv bn am;have L:=pL (M:=M) (f:=f) (e:=e) cb (cP ps.reverse y ps.length);rw[cc]at L;exact⟨_,L,mY br,br⟩
 have al:=fun(bs:Nat) (a4:Nat→Prop) (j:World) (bi:ba a4 j bs ps) (y:Nat) (am:y<2 ^ ps.length)=>Ao bi y am
 have ft:(a1.map Prod.snd).length=t:=by rw[fy,bp.1];unfold gN;rw[fy,c0]
 obtain⟨n,be⟩:∃n,n=ps.length:=⟨_,rfl⟩
 obtain⟨P,a8⟩:∃P,P=2 ^ n:=⟨_,rfl⟩
 rw[←be]at bf dk cy ⊢
 simp only[←be]at bg bq al
 rw[←a8]at dk
 simp only[←a8]at bg bq al
 have eR:=aa bf
 have ce:=aa c8
 have ch:=aa bg
 have cl:=aa bq
 have b0:=aa al
 have ev:=aa (⟨be,a8⟩:_∧_)
 clear bf c8 bg bq al hS c1 c2 db cb bd cS bn c3 cE c0 bp da ft be a8 e5
 go_enter Tryz.func42,Tryz.ntmps42
 go_wp2_with (first|(go_at_call 35;refine eR.out.mono ?_;rintro b7 w1 ⟨fz,bs,a4,rfl,bi,-⟩;have eS:=aa bi;clear bi)|fail)
 obtain⟨e2,fg⟩:∃j,j=w1:=⟨w1,rfl⟩
 subst fg
 go_loopg [15,16,17,18,19] t (fun gk L d9 ea eb ec wr=>∃d:Nat,L=.int .i64 (d:Int)∧d+gk=t∧ae e2 wr)
 case atStart=>exact⟨0,rfl,by omega,ae.refl _⟩
 case round=>
  obtain⟨d,rfl,fs,c'⟩:=hrel;have I:=fz.trans c';have et:=aa I;by_cases fE:d<t
  ·obtain⟨f,e,x,dl,dr⟩:=ce.out d fE;obtain⟨⟨g0,g1⟩,⟨b,off,rfl,A,U,W⟩,⟨O,T⟩,c6,dB,d1⟩:=ch.out d f e x dl dr;replace A:=I.cell A;replace U:=I.cell U;replace W:=I.cell W;replace O:=I.cell O;replace T:=I.cell T
   have bv:=aa (fun(j:World) (q:ae wr j)=>iu (F:=fun _=>False) (w0:=wr) (wc:=wr) (Q:=fun r w'=>∃g ws,j.heap.size≤g∧r=.returned (.tuple #[.agg #[.int .i64 (n:Int),.slice (some ⟨g,0,none⟩) ws.length ws.length],.int .u8 0])∧bJ w' g ws∧(∀x∈ws,0≤x∧x<2 ^ 64)∧dP (n:Int) ws=true∧gH n ws=tabP M ps f e) (R:=fun w'=>ae j w') (fun _ h=>h.elim) (aE _)
    ((c6 j (I.trans q)).mono (fun r w' ⟨g,ws,L,cc,br,a1,a8,bd,t⟩=>⟨⟨g,ws,L,cc,br,a1,a8,bd⟩,t.av _,t⟩)))
   have cj:=aa (fun(j:World) (q:ae wr j)=>dB j (I.trans q));have bw:=aa (fun(j:World) (q:ae wr j)=>d1 j (I.trans q));have bx:=aa (fun(y:Nat) (am:y<P)=>cl.out f e y am);obtain⟨b3,b9⟩:∃b3,b3=tabP M ps f e:=⟨_,rfl⟩;obtain⟨b4,ca⟩:∃b4,b4=cm M f e 0:=⟨_,rfl⟩;rw[←b9,←ca]at bx;rw[←b9]at bv;rw[←ca]at bw;have ee:=aB A;have ek:=aB O;dsimp only at ee ek;have f3:wr.heap.size≠b:=(by omega);have f4:wr.heap.size≠g:=(by omega);obtain⟨b8,t⟩:∃b8,b8=gk:=⟨gk,rfl⟩;obtain⟨z,fi⟩:∃j,j=wr:=⟨wr,rfl⟩;subst fi;clear dl dr c6 dB d1 I b9 ca;go_wp2_with fail;go_cut [16,17] (fun d9 ea Y=>∃s B ws,d9=.pointer (some ⟨s,0,none⟩)∧ea=.int .u8 0∧Y.cell? ⟨s,0,none⟩=some (.int .i64 (n:Int))∧Y.cell? ⟨s,1,none⟩=some (.slice (some ⟨B,0,none⟩) ws.length ws.length)∧(bJ Y B ws∧(∀x∈ws,0≤x∧x<2 ^ 64)∧dP (n:Int) ws=true∧gH n ws=b3)∧ae z Y)
   case first=>
    go_region_held3 (fun w'=>w'.cell? ⟨b,off+d*3,none⟩=some (.int .u8 f)∧w'.cell? ⟨g,d*2,none⟩=some (.int .u8 x.tag)∧w'.cell? ⟨g,d*2+1,none⟩=some (.int .u32 x.to)) (go_keep) ((first
     |(go_at_call 91;refine(bv.out _ kp).mono ?_;rintro a7 a3 ⟨⟨⟨B,ws,fx,rfl,d2,ds,dj,d0⟩,-,a'⟩,c7,g3,g4,g5,g6⟩;have bD:=aa (⟨d2,ds,dj,d0⟩:_∧_∧_∧_);have f':=a'.size;(try simp only[ai,World.a5,World.cx]at f' fx);have J:=a'.cell (a:=⟨b,off+d*3,none⟩) (v:=.int .u8 f) (by go_keep);have Z:=a'.cell (a:=⟨g,d*2,none⟩) (v:=.int .u8 x.tag) (by go_keep);have hh:=a'.cell (a:=⟨g,d*2+1,none⟩) (v:=.int .u32 x.to) (by go_keep);clear d2 ds dj d0)))
    all_goals(try go_wp2_with fail)
    all_goals go_meet
    all_goals refine⟨_,B,ws,rfl,rfl,?_,?_,⟨?_,bD.out.2⟩,?_⟩
    all_goals(try(simp[go_sem];done))
    all_goals(first
     |(have gu:a3.cell? ⟨z.heap.size,0,none⟩=some (.int .i64 0):=(c7 _ _ (aE _) (by simp)).trans (by simp[go_sem]);have gv:a3.cell? ⟨z.heap.size,1,none⟩=some (.slice none 0 0):=(c7 _ _ (aE _) (by simp)).trans (by simp[go_sem]);simp[go_sem,gu,gv];done)
     |exact bD.out.1.ad ((ae.refl _).alloc _)
     |exact bD.out.1.a4 (((af.refl (fun k=>k=z.heap.size) a3).setCell (p:=⟨z.heap.size,0,none⟩) (.inl rfl) _).setCell (p:=⟨z.heap.size,1,none⟩) (.inl rfl) _) (by omega)
     |exact(show ae z a3 from kp).new (((af.refl (fun k=>k=z.heap.size) a3).setCell (p:=⟨z.heap.size,0,none⟩) (.inl rfl) _).setCell (p:=⟨z.heap.size,1,none⟩) (.inl rfl) _) (fun k c9=>by omega)
     |(exact kp))
   case rest=>
    obtain⟨s,B,ws,rfl,rfl,J,Z,d3,E⟩:=hcut;obtain⟨cp,fj⟩:∃j,j=wc:=⟨wc,rfl⟩;subst fj;replace A:=E.cell A;replace U:=E.cell U;replace W:=E.cell W;replace O:=E.cell O;replace T:=E.cell T;have b1:=aa d3;have er:=aa E;have ci:=aa (fun(j:World) (q:ae cp j)=>cj.out j (E.trans q));have f7:=an.cell A;have f8:=an.cell O;have f9:=an.cell T;clear d3;go_wp2_with fail;refine cU (cp) (by kernel_rfl) (by kernel_rfl) kp ?_;(repeat (go_big_quiet_step ((first|(go_at_call 92;with_reducible refine Calls.b1 (ci.out _ (an.a4 _)))))));refine wpQuiet_nil ?_;rintro el ⟨⟨_,N⟩,rfl⟩;try dsimp only
    clear f7 f8 f9;obtain⟨av,fl⟩:∃j,j=el:=⟨el,rfl⟩;subst fl;replace A:=N.cell A;replace U:=N.cell U;replace W:=N.cell W;replace J:=N.cell J;replace Z:=N.cell Z;have eg:=aB A;have ed:=aB J;dsimp only at eg ed;have f5:av.heap.size≠b:=(by omega);have f6:av.heap.size≠s:=(by omega);have cf:=aa (c'.trans (E.trans N));have cn:=aa (fun(j:World) (q:ae av j)=>bw.out j (E.trans (N.trans q)));have b2:=aa (⟨b1.out.1.ad N,b1.out.2⟩:bJ av B ws∧_);clear ci cj bw b1 bv E er N f3 f4 O T;go_wp2_with fail;go_cut [18] (fun eb Y=>∃S,eb=.slice (some ⟨S,0,none⟩) P P∧bW Y S b4∧ae av Y)
    case first=>
     go_region_held3 (fun w'=>w'.cell? ⟨b,off+d*3,none⟩=some (.int .u8 f)∧w'.cell? ⟨b,off+d*3+1,none⟩=some (.int .u8 e.tag)∧w'.cell? ⟨b,off+d*3+2,none⟩=some (.int .u32 e.to)) (go_keep) ((first
      |(go_at_call 93;refine(cn.out _ kp).mono ?_;rintro e6 gj ⟨S,rfl,-,ab,X⟩;have bt:=aa ab;have ha:=X.cell (a:=⟨b,off+d*3,none⟩) (v:=.int .u8 f) (by go_keep);have hb:=X.cell (a:=⟨b,off+d*3+1,none⟩) (v:=.int .u8 e.tag) (by go_keep);have hc:=X.cell (a:=⟨b,off+d*3+2,none⟩) (v:=.int .u32 e.to) (by go_keep);clear ab)))
     all_goals(try go_wp2_with fail)
     all_goals go_meet
     all_goals exact⟨S,rfl,bt.out.a4 (ae.av kp (fun _=>False)) (fun h=>h),kp⟩
    case rest=>
     obtain⟨S,rfl,ab,a0⟩:=hcut;obtain⟨cv,fp⟩:∃j,j=wc:=⟨wc,rfl⟩;subst fp;replace J:=a0.cell J;replace Z:=a0.cell Z;have bt:=aa ab;have ep:=aa (cf.out.trans a0);have a5:=aa (⟨b2.out.1.ad a0,b2.out.2⟩:bJ cv B ws∧_);have ga:=aB J;have t:=ab.lt;dsimp only at ga;clear ab a0 b2 cn cf A U W f5 f6 eg ed ee ek;go_wp2_with fail;go_loopg [19] P (fun gk ec wr=>∃y:Nat,ec=.int .i64 (y:Int)∧y+gk=P∧ae cv wr)
     case atStart=>exact⟨0,rfl,by omega,ae.refl _⟩
     case round=>
      obtain⟨y,rfl,am,ad⟩:=hrel;have cg:=aa (ep.out.trans ad);by_cases d6:y<P
      ·obtain⟨aw,b7,a7,fr⟩:=bx.out y d6;have gh:=(bt.out.a4 (ae.av ad (fun _=>False)) (fun h=>h)).cell b7;replace J:=ad.cell J;replace Z:=ad.cell Z;obtain⟨a6,c4⟩:∃a6,a6=cP ps.reverse y n:=⟨_,rfl⟩;have al:=b0.out bs a4;have co:=aa (fun(j:World) (q:ae wr j)=>b0.out bs a4 j (eS.out.ad (cg.out.trans q)) y d6);rw[←c4]at a7 fr co
       have e0:=aa (fun(j:World) (q:ae wr j)=>by
        have c9:=ad.trans q;have:=Cr n (some ⟨B,0,none⟩) ws.length ws.length ws j rfl ((a5.out.1.ad c9).fl a5.out.2.1) a5.out.2.2.1;rw[a5.out.2.2.2,←ev.out.2]at this
        exact this)
       have em:=aa a7;have j:(aw != aw)=false:=(by simp);have gb:=aB J;have gc:=aB gh;dsimp only at gb gc;have j:wr.heap.size≠s:=(by omega);have j:wr.heap.size≠S:=(by omega);have j:(a6:Int)<(P:Int):=(by omega);obtain⟨fb,j⟩:∃g,g=gk:=⟨gk,rfl⟩;clear b7 a7 c4 al;go_wp2_with fail
       go_region_with ((first
        |(go_at_call 94;refine(e0.out _ kp).mono ?_;rintro e6 gj ⟨gx,gB,rfl,c5,X⟩;obtain⟨cx,g7,rfl,e4⟩:=c5 a6 aw em.out;have hd:=X.cell (a:=⟨s,0,none⟩) (v:=.int .i64 (n:Int)) (by go_keep);have hf:=X.cell (a:=⟨s,1,none⟩) (v:=.slice (some ⟨B,0,none⟩) ws.length ws.length) (by go_keep);have g8:=X.cell (a:=⟨S,y,none⟩) (v:=.bool aw) (by go_keep);clear c5)
        |(go_at_call 95;refine(co.out _ kp).mono ?_;rintro gC g' ⟨rfl,bb⟩;have he:=bb.cell (a:=⟨s,0,none⟩) (v:=.int .i64 (n:Int)) (by go_keep);have hg:=bb.cell (a:=⟨s,1,none⟩) (v:=.slice (some ⟨B,0,none⟩) ws.length ws.length) (by go_keep);have g9:=bb.cell (a:=⟨S,y,none⟩) (v:=.bool aw) (by go_keep);(try have j:=bb.cell e4))))
       all_goals(try go_wp2_with fail)
       all_goals go_roundg (fb-1)
       all_goals first
        |exact⟨y+1,by push_cast;rfl,by omega,ad.trans kp⟩
        |omega
      ·clear bx b0;go_wp2_with fail;go_roundg (b8-1)
       case rel=>exact⟨d+1,by push_cast;rfl,by omega,cg.out⟩
       case measure=>omega
  ·clear ce ch cl;go_wp2_with fail;go_ret;exact⟨rfl,et.out⟩
theorem vk {F Fo G:Nat→Prop}{w w0:World}{sb L mb g cap2:Nat}{M:St}{al:List (Int×Rec)}{ps:List Int}{rs:List (Int×Edge)}{a2:Option Addr}(hS:ak F w0 sb M)(av:ba Fo w0 L ps)(a8:aV G w0 mb M al)(a4:∀k,F k→¬G k)(am:∀k,Fo k→¬F k∧¬G k)(a3:∀k,F k∨Fo k→w.heap.size≤k)
  (ab:M.room=2000) (a0:M.n=(ps.length:Int)) (Z:aF ps=true) (a5:ps.length≤6) (br:rs.length≤3) (aw:bh M rs=0) (bf:g≤1000) (a7:bH w a2 ps) (a1:ae w w0) :
  ∀(a:Option Addr) (c:Nat) (z:World),ae w0 z→cA z a rs→(∀b off,a=some ⟨b,off,none⟩→w0.heap.size≤b)→(a=none→c=0) →
   Calls Tryz.prog 17 #[.pointer (some ⟨sb,0,none⟩),.pointer (some ⟨L,0,none⟩),.slice a rs.length c,.int .i64 (g:Int)] z fun e w'=>∃j,e=.returned (.tuple #[.slice (some ⟨j,0,none⟩) rs.length rs.length,.int .u8 0])∧ae w w' ∧
    ∀W',ae w' W'→Calls Tryz.prog 42 #[.pointer (some ⟨sb,0,none⟩),.pointer (some ⟨L,0,none⟩),.pointer (some ⟨mb,0,none⟩),.slice a2 ps.length cap2,.slice a rs.length c,.slice (some ⟨j,0,none⟩) rs.length rs.length] W' fun e bq=>e=.returned (.bool true)∧ae W' bq:=by
 intro a c z A W be bi
 have bd:∀r∈rs,r.2.ok:=fun r B=>by
  obtain⟨i,hi⟩:=List.mem_iff_getElem?.1 B;exact(W i r hi).2.1
 have bn:=C7 (ps:=ps) aw bd
 have J:(gN M ps rs).length=rs.length:=by unfold gN;rw[fy]
 have bd:fV F Fo z sb L M ps:=⟨hS.ad A,av.ad A,fun k E U=>(am k U).1 E,a0,by rw[ab];decide⟩
 have z:=CQ (cap3:=c) (g:=g) bd Z a5 (by rw[J];omega) (by rw[J,ab];omega) (by rw[ab];decide) bn W bi bf
 rw[J]at z
 refine z.mono ?_
 rintro e w' ⟨j,F',M',bs,rfl,X,z,bp,-,-,a6,-,-,t⟩
 rw[J]
 refine⟨j,rfl,(a1.trans A).new t (fun k Y=>a3 k Y),fun W' s=>?_⟩
 have bb:cA w' a rs:=fun i r B=>by
  obtain⟨T,j,b,off,I,N,O,S⟩:=W i r B;have z:=be b off I
  have ad:¬(F b∨Fo b):=fun bg=>by
   rcases bg with q|q;·have:=hS.lt b q;omega
   ·have:=av.lt b q;omega
  exact⟨T,j,b,off,I,t.cellAt ad N,t.cellAt ad O,t.cellAt ad S⟩
 have a':aV G w' mb M al:=(a8.ad A).a4 t (fun k E U=>by
  rcases U with q|q;·exact a4 k q E
  ·exact(am k q).2 E)
 have E:=(tF (aG (gN M ps rs)) g Z ps.length (aE _)).1
 have z:bH w' a2 ps:=a7.ad ((a1.trans A).new t (fun k Y=>a3 k Y))
 exact Ct (X.a8.ad s) (X.b7.ad s) (a'.ad s) X.n a0 E (z.ad s) Z (fun i r B=>by
  obtain⟨T,j,b,off,I,N,O,S⟩:=bb i r B
  exact⟨T,j,b,off,I,s.cell N,s.cell O,s.cell S⟩) (a6.ad s) rfl (by omega) bp aw
theorem Am (w:World):Calls Tryz.prog 14 #[.pointer none] w fun e w'=>e=.returned (.slice none 0 0)∧w=w':=by
 go_enter Tryz.func14,Tryz.ntmps14;go_wp2;go_ret;exact⟨rfl,rfl⟩
structure na (w w0:World)(sb mb:Nat)(op a2:Option Addr)(n2 cap2:Nat)(gr:Int)(rs:List (Int×Edge))(pp:List Int)(code all:Int):Prop where
 e1:all≠0→∀(a:Option Addr) (c:Nat) (W:World),ae w0 W→cA W a rs→Calls Tryz.prog 12 #[.pointer (some ⟨sb,0,none⟩),.pointer op,.slice a rs.length c] W fun e w'=>e=.returned (.tuple #[.slice none 0 0,.int .u8 all])∧ae W w'
 h3:code≠0→∀(a:Option Addr) (c:Nat) (W:World),ae w0 W→cA W a rs→Calls Tryz.prog 17 #[.pointer (some ⟨sb,0,none⟩),.pointer op,.slice a rs.length c,.int .i64 gr] W fun e w'=>e=.returned (.tuple #[.slice none 0 0,.int .u8 code])∧ae W w'
 perm:∀W,ae w0 W→Calls Tryz.prog 14 #[.pointer op] W fun e w'=>∃a6 c6,e=.returned (.slice a6 pp.length c6)∧bH w' a6 pp∧ae W w'
 hT:∀W,ae w0 W→Calls Tryz.prog 41 #[.slice a2 n2 cap2] W fun e w'=>∃a6 c6,e=.returned (.slice a6 pp.length c6)∧bH w' a6 pp∧W=w'
 ok:code=0→∀(a:Option Addr) (c:Nat) (W:World),ae w0 W→cA W a rs→(∀b off,a=some ⟨b,off,none⟩→w0.heap.size≤b)→(a=none→c=0) →
  Calls Tryz.prog 17 #[.pointer (some ⟨sb,0,none⟩),.pointer op,.slice a rs.length c,.int .i64 gr] W fun e w'=>∃g2,e=.returned (.tuple #[.slice (some ⟨g2,0,none⟩) rs.length rs.length,.int .u8 0])∧ae w w' ∧
   ∀W',ae w' W'→Calls Tryz.prog 42 #[.pointer (some ⟨sb,0,none⟩),.pointer op,.pointer (some ⟨mb,0,none⟩),.slice a2 n2 cap2,.slice a rs.length c,.slice (some ⟨g2,0,none⟩) rs.length rs.length] W' fun e w''=>e=.returned (.bool true)∧ae W' w''
 hg:pp.length≤16
theorem vl {w w0:World}{sb mb cap2:Nat}{a2:Option Addr}{gr:Int}{rs:List (Int×Edge)}{ps:List Int}(t:bH w a2 ps)(z:ps.length≤16)(B:ae w w0)(A:aF ps=false):na w w0 sb mb none a2 ps.length cap2 gr rs [] 2 2:=by
 refine⟨fun _ a c j q _=>zl (sp:=some ⟨sb,0,none⟩) (op:=none) (.inr ⟨rfl,sb,rfl⟩) _ j,fun _ a c j q _=>CT (sp:=some ⟨sb,0,none⟩) (op:=none) (.inr ⟨rfl,sb,rfl⟩) _ gr j,fun j q=>(Am j).mono ?_,fun j q=>(rJ a2 cap2 ps j (t.ad (B.trans q)) z).mono ?_,fun h=>absurd h (by decide),by decide⟩
 ·rintro e w' ⟨rfl,rfl⟩;exact⟨none,0,rfl,fun i x s=>by simp at s,ae.refl _⟩
 ·rintro e w' ⟨rfl,rfl⟩;rw[ag (by rw[A];simp)];exact⟨none,0,rfl,fun i x s=>by simp at s,rfl⟩
theorem vh {F Fo G:Nat→Prop}{w w0:World}{sb t mb cap2:Nat}{M:St}{A:List (Int×Rec)}{ps:List Int}{rs:List (Int×Edge)}{a2:Option Addr}{gr:Int}(hS:ak F w0 sb M)(s:ba Fo w0 t ps)(T:aV G w0 mb M A)(L:∀k,F k→¬G k)(N:∀k,Fo k→¬F k∧¬G k)(Y:∀k,F k∨Fo k→w.heap.size≤k)
  (X:M.room=2000) (Z:M.n≤6) (E:aF ps=true) (S:rs.length≤3) (z:bH w a2 ps) (B:ae w w0):na w w0 sb mb (some ⟨t,0,none⟩) a2 ps.length cap2 gr rs ps (jI M ps.length gr rs) (kc M ps.length rs):=by
 refine⟨fun q a c t j A=>CN (hS.ad j) (s.ad j) a c rs A (by omega) q,fun q a c t j A=>CP (hS.ad j) (s.ad j) a c rs A (by omega) gr q,fun t j=>(o8 (s.ad j)).mono ?_,fun t j=>(rJ a2 cap2 ps t (z.ad (B.trans j)) s.le).mono ?_,fun q=>?_,s.le⟩
 ·rintro e w' ⟨I,J,rfl,U,W⟩;exact⟨I,J,rfl,U.e0,W⟩
 ·rintro e w' ⟨rfl,rfl⟩;rw[ah E];exact⟨a2,cap2,rfl,z.ad (B.trans j),rfl⟩
 ·unfold jI at q;split at q;·omega
  ·rename_i O;split at q;·omega
   ·rename_i j;obtain⟨g,rfl⟩:∃g:Nat,gr=(g:Int):=⟨gr.toNat,by omega⟩;have j:M.n=(ps.length:Int):=(by simpa using O);exact vk hS s T L N Y X j E (by omega) S q (by omega) z B
end Go.Proofs.YtafkamlhimkbmaaGreat
