/-
  law27.bed.
-/
import Derived.Test.YtafkamlhimkbmaaGreatPSiftA
import Derived.Test.YtafkamlhimkbmaaGreatPSiftO
import Derived.Deep.AppendLies
namespace Go.Proofs.YtafkamlhimkbmaaGreat
set_option maxRecDepth 1000000
set_option maxHeartbeats 8000000
set_option linter.unusedSimpArgs false
set_option linter.unusedVariables false
open Go.RowKit

def eI (w:World)(a:Option Addr)(p:Nat)(fs:List (Int×List Bool)):Prop:=
 ∀i r,fs[i]?=some r→(1≤r.1∧r.1≤5)∧r.2.length=p∧∃b off B,a=some ⟨b,off,none⟩∧w.cell? ⟨b,off+i*2,none⟩=some (.int .u8 r.1)∧w.cell? ⟨b,off+i*2+1,none⟩=some (.slice (some ⟨B,0,none⟩) p p)∧bu w B r.2

theorem jo {w w':World}{B:Nat}{j:List Bool}(h:bu w B j)(q:aa w w'):bu w' B j:=h.a5 (aa.av q (fun _=>False)) (fun h=>h)

theorem eI.U {w w':World}{a:Option Addr}{p:Nat}{fs:List (Int×List Bool)}(h:eI w a p fs)(j:aa w w'):eI w' a p fs:=fun i r I=>by
 obtain⟨t,z,b,off,B,E,q,s,A⟩:=h i r I;exact⟨t,z,b,off,B,E,j.cell q,j.cell s,jo A j⟩

structure oC (F:Nat→Prop)(w0 wy:World)(sb:Nat)(M:St)(f:Int)(ps ws:List Int)(B:Nat)(x:Edge)(M':St)(F1:Nat→Prop):Prop where
 a0:wy.cell? ⟨B,0,none⟩=some (.int .u8 x.tag)
 a1:wy.cell? ⟨B,1,none⟩=some (.int .u32 x.to)
 ok:x.ok
 bt:dH f M' (hasB ws) ps 0 0 x
 cy:dg M M' ((2 ^ ps.length-1:Nat):Int)
 av:ae F w0 wy
 a4:ag F1 wy sb M'
 sub:∀j,F1 j→F j∨w0.heap.size≤j
 nB:¬F1 B
 gB:w0.heap.size≤B

theorem tR {F:Nat→Prop}{w0 A E z:World}{L:Nat}{M M':St}{f:Int}{ps ws:List Int}{B:Nat}{x:Edge}(W:∀k,F k→k<w0.heap.size)(J:aa w0 A)(Z:x.ok)(O:dH f M' (hasB ws) ps 0 0 x)(S:dg M M' ((2 ^ ps.length-1:Nat):Int))(X:bF F A E L M')
  (I:ae (fun k=>k=B∨k=B) E z) (t:w0.heap.size≤B∧(B<A.heap.size∨E.heap.size≤B)) (a0:z.cell? ⟨B,0,none⟩=some (.int .u8 x.tag)) (N:z.cell? ⟨B,1,none⟩=some (.int .u32 x.to)):∃s,oC F w0 z L M f ps ws B x M' s:=by
 obtain⟨⟨s,hS,K⟩,Y⟩:=X
 have z:=J.size
 have no:¬s B:=fun j=>by
  have z:=hS.lt B j;rcases K B j with q|q;·have:=W B q;have:=t.1;omega
  ·rcases t.2 with z|z<;>omega
 refine⟨s,a0,N,Z,O,S,((aa.av J F).a' Y).b9 I (fun i hi j=>?_),hS.a5 I (fun k U j=>?_),fun ab T=>?_,no,t.1⟩
 ·have:=t.1;rcases j with rfl|rfl<;>omega
 ·rcases j with rfl|rfl<;>exact no U
 ·rcases K ab T with q|q;·exact .inl q
  ·exact .inr (by omega)

structure iC (Fo:Nat→Prop)(w wr:World)(sb ob:Nat)(room:Int)(ps:List Int)(fs:List (Int×List Bool))(d:Nat)(v:Value)(F:Nat→Prop)(M:St)(rs:List (Int×Edge)):Prop where
 bp:eo F Fo wr sb ob M ps
 ch:ct M ps (fs.take d) rs
 len:M.len≤(d:Int)*31
 room:M.room=room
 row:wr.ownsRow w.heap.size 55 3 v d (rs.flatMap dO)
 apart:∀k,v.ownBlock=some k→¬F k∧¬Fo k
 U:aa w wr
 ec:∀k,F k∨Fo k→w.heap.size≤k

theorem lX (room:Int)(a' cj:Option Addr)(cap1 cap2:Nat)(ps:List Int)(fs:List (Int×List Bool))(w:World)(cD:aG w a' ps)(b4:ar ps=true)(cq:ps.length≤5)(bb:eI w cj (2 ^ ps.length) fs)(a8:fs.length≤4)(a1:(fs.length:Int)*31≤room)(S:room≤1000000) :
  Calls Tryz.prog 11 #[.int .i64 room,.slice a' ps.length cap1,.slice cj fs.length cap2] w fun e w'=>∃(K L:Nat) (F Fo:Nat→Prop) (M:St) (a:Option Addr) (c:Nat) (rs:List (Int×Edge)),e=.returned (.tuple #[.pointer (some ⟨K,0,none⟩),.pointer (some ⟨L,0,none⟩),.slice a fs.length c,.bool true])∧iC Fo w w' K L room ps fs fs.length (.slice a fs.length c) F M rs:=by
 have a4:=AI room a' cap1 ps w cD b4 (by omega) (by omega)
 have b5:2 ^ ps.length≤2 ^ 5:=Nat.pow_le_pow_right (by decide) cq
 have co:(2:Nat) ^ 5=32:=rfl
 rw[co]at b5
 have c5:1≤2 ^ ps.length:=Nat.pow_pos (by decide)
 have bs:=fun(B:Nat) (N:List Bool) (be:N.length=2 ^ ps.length) (A:World) (a':bu A B N)=>by
  have:=zX (ps.length:Int) B (2 ^ ps.length) N A a' (by omega) (by omega);rw[be]at this;exact this
 have bg:=fun(f:Int) (a3:1≤f∧f≤5) (F Fo:Nat→Prop) (W0 A:World) (K L:Nat) (M:St) (G:Nat) (N:List Bool) (be:N.length=2 ^ ps.length) (hS:eo F Fo W0 K L M ps) (a2:aa W0 A) (b2:cK A G (bB N)) (cy:W0.heap.size≤G) (b6:M.len+31≤M.room)=>by
  have a':=hS.U a2;have em:(bB N).length≤1048576:=by rw[lH,be];omega
  have:=tU a'.a4 a'.b7 a'.c' a'.n f (by simp[bG];omega) (some ⟨G,0,none⟩) (bB N).length (bB N).length rfl em (b2.fx (fun x ab=>CJ ab)) (fun b off e z=>by cases e;have:=hS.a4.lt _ z;omega) (zY (by omega) be) (by omega);exact gF (w0:=W0) (wc:=W0) (Q:=fun r w'=>iD f F A K M (hasB (bB N)) ps 0 0 r w') (R:=fun _=>True) hS.a4.lt (Nat.le_refl _) (this.mono (fun r w' z=>⟨z,by obtain⟨e,M',_,_,_,_,a4⟩:=z;exact a4.av,trivial⟩))
 obtain⟨eu,hi,ep,er,et⟩:=info_parts pH
 obtain⟨n,bq⟩:∃n,n=ps.length:=⟨_,rfl⟩
 obtain⟨p,bt⟩:∃p,p=2 ^ n:=⟨_,rfl⟩
 obtain⟨Z,b1⟩:∃Z,Z=fs.length:=⟨_,rfl⟩
 rw[←bq]at a4 bb b5 c5 ⊢
 simp only[←bq]at bs bg
 rw[←bt]at bb b5 c5
 simp only[←bt]at bs bg
 rw[←b1]at a8 a1 ⊢
 have ch:=Lib.hid a4
 have dr:=Lib.hid bs
 have da:=Lib.hid bg
 have ci:=Lib.hid bb
 have cf:=Lib.hid bq
 have dl:=Lib.hid b1
 have dB:=Lib.hid b4
 have N:=Lib.hid bt
 have cg:=Lib.hid (⟨a1,S⟩:_∧_)
 have d3:n≤5:=by omega
 clear a4 bs bg bb bq b1 b4 bt cq a1 S cD
 go_enter Tryz.func11,Tryz.ntmps11
 go_wp2_with fail
 refine ch.out.mono ?_
 rintro e w1 ⟨K,L,F,Fo,rfl,c2,hS,cS,bn,cv,cx⟩
 have I:iC Fo w w1 K L room ps fs 0 (.slice none 0 0) F (St.new (n:Int) room) []:=⟨⟨hS,cS,bn,by show(n:Int)=_;rw[cf.out],by show room<1048576;have:=cg.out.2;omega⟩,⟨rfl,fun i q r S T=>by cases T⟩,by show(0:Int)≤0*31;decide,rfl,World.ownsRow_nil _ _ _ _,(fun k j=>by simp[Value.ownBlock]at j),c2,fun k j=>by rcases j with q|q;exact cv k q;exact cx k q⟩
 have O:=Lib.hid I
 clear c2 hS cS bn cv cx I ch
 go_wp2_with fail
 go_loopg [13,14] Z (fun gk N a4 wr=>∃(d:Nat) (a:Option Addr) (c:Nat) (F:Nat→Prop) (M:St) (rs:List (Int×Edge)),N=.slice a d c∧a4=.int .i64 (d:Int)∧d+gk=Z∧iC Fo w wr K L room ps fs d (.slice a d c) F M rs)
 case atStart=>exact⟨0,none,0,F,_,[],rfl,rfl,by omega,O.out⟩
 case round=>
  clear O;obtain⟨d,a,c,am,av,X,rfl,rfl,N,I⟩:=hrel;by_cases ec:d<Z
  ·obtain⟨r,ab⟩:∃r,fs[d]?=some r:=⟨_,List.getElem?_eq_getElem (by rw[←dl.out];exact ec)⟩;obtain⟨a3,a5,b,off,a7,rfl,bw,d2,b0⟩:=(ci.out.U I.U) d r ab;obtain⟨b',a4,N,aw,cl,-,-⟩:=(ci.out d r ab).2.2;cases aw;have N:b<w.heap.size:=(by have:=aD cl;simpa using this);have a4:=I.U.size;have a4:∀k,k<w.heap.size→¬am k:=fun k j z=>(by have:=I.ec k (.inl z);omega);have b9:¬am b:=a4 b N
   have b6:av.len+31≤av.room:=by
    have S:=I.len;have T:=cg.out.1;rw[I.room];omega
   obtain⟨f,ts⟩:=r;dsimp only at a3 a5 bw d2 b0
   have N:=fun(A:World) (a2:aa wr A)=>gF (F:=fun _=>False) (w0:=wr) (wc:=wr) (Q:=fun e w'=>∃g,A.heap.size≤g∧e=.returned (.agg #[.int .i64 (n:Int),.slice (some ⟨g,0,none⟩) (bB ts).length (bB ts).length])∧cK w' g (bB ts)) (R:=fun w'=>aa A w') (fun _ h=>h.elim) (Nat.le_refl _)
    ((dr.out a7 ts a5 A (jo b0 a2)).mono (fun e w' ⟨g,S,T,bx,a8⟩=>⟨⟨g,S,T,bx⟩,a8.av _,a8⟩))
   have ds:=Lib.hid N;clear N;have db:=Lib.hid (fun(A:World) (G:Nat) (a2:aa wr A) (b2:cK A G (bB ts)) (cy:wr.heap.size≤G)=>da.out f a3 am Fo wr A K L av G ts a5 I.bp a2 b2 cy b6);have O:=Lib.hid I;have d1:=Lib.hid ab;have ce:=Lib.hid a3;have dk:=Lib.hid I.bp.a4.lt;have N:wr.heap.size≠b:=(by omega);have N:=Lib.hid a5;clear I ab a3 cl b0 a5 b6;go_wp2_with fail
   go_cut [15,16] (fun N ab ad=>∃B x U Y,N=.pointer (some ⟨B,0,none⟩)∧ab=.int .u8 0∧oC am wr ad K av f ps (bB ts) B x U Y)
   case first=>
    go_region_held3 (fun w'=>w'.cell? ⟨b,off+d*2,none⟩=some (.int .u8 f)∧w'.cell? ⟨b,off+d*2+1,none⟩=some (.slice (some ⟨a7,0,none⟩) p p)) (go_keep) ((first
     |(go_at_call 46;refine(ds.out _ (by(exact kp))).mono ?_;rintro e2 ca ⟨⟨⟨E,d9,rfl,c8⟩,-,b3⟩,c0,e5,e7,e9,fa⟩;have d0:=Lib.hid c8;have ek:=b3.size;(try simp only[World.size_alloc,World.a3,World.c5]at ek d9);have e0:=b3.cell (a:=⟨b,off+d*2,none⟩) (v:=.int .u8 f) (by go_keep);have e1:=b3.cell (a:=⟨b,off+d*2+1,none⟩) (v:=.slice (some ⟨a7,0,none⟩) p p) (by go_keep);have N:ca.heap.size≠b:=(by omega);clear c8)
     |(go_at_call 45;refine(db.out _ E (by(exact kp)) (d0.out.U (by(exact kp))) (by omega)).mono ?_;rintro e3 a6 ⟨⟨⟨x,U,rfl,en,d6,⟨eb,-⟩,eg⟩,b8,-⟩,bi,e4,e6,e8,e'⟩;have el:=b8.size;(try simp only[World.size_alloc,World.a3,World.c5]at el);have e0:=b8.cellAt (b:=b) (o:=off+d*2) (v:=.int .u8 f) b9 (by go_keep);have e1:=b8.cellAt (b:=b) (o:=off+d*2+1) (v:=.slice (some ⟨a7,0,none⟩) p p) b9 (by go_keep);have N:a6.heap.size≠b:=(by omega))))
    all_goals(try go_wp2_with fail)
    all_goals go_meet
    all_goals refine(fun N=>Exists.elim N (fun c' d5=>⟨_,x,U,c',rfl,rfl,d5⟩)) (tR dk.out (by(exact kp)) en d6 eb eg ?_ ?_ ?_ ?_)
    all_goals(try(simp[go_sem];done))
    all_goals(try(first|omega|(simp only[World.size_alloc,World.a3,World.size_setCell];omega)))
    all_goals(try(repeat (first|with_reducible exact ae.refl _ _|with_reducible refine ae.alloc ?_ _|with_reducible refine ae.drew ?_|refine ae.setCell ?_ (Or.inl (Or.inl rfl)) _|refine ae.setCell ?_ (Or.inl (Or.inr rfl)) _)))
    all_goals(first
     |(have cb:a6.cell? ⟨ca.heap.size,0,none⟩=some (.int .u8 0):=(bi _ _ (by omega) (by simp)).trans (by simp[go_sem]);have cd:a6.cell? ⟨ca.heap.size,1,none⟩=some (.int .u32 0):=(bi _ _ (by omega) (by simp)).trans (by simp[go_sem]);simp[go_sem,cb,cd];done)
     |(have cb:a6.cell? ⟨wr.heap.size,0,none⟩=some (.int .u8 0):=(bi _ _ (Nat.le_refl _) (by omega)).trans ((c0 _ _ (Nat.le_refl _) (by simp)).trans (by simp[go_sem]));have cd:a6.cell? ⟨wr.heap.size,1,none⟩=some (.int .u32 0):=(bi _ _ (Nat.le_refl _) (by omega)).trans ((c0 _ _ (Nat.le_refl _) (by simp)).trans (by simp[go_sem]));simp[go_sem,cb,cd];done))
   case rest=>
    obtain⟨W,rfl⟩:∃A,A=wc:=⟨_,rfl⟩;obtain⟨B,x,U,Y,rfl,rfl,s⟩:=hcut;replace bw:=s.av.cellAt b9 bw;have eS:=s.a0;have A:=s.a1;have A:=s.av.size;have c6:=s.av.br (fun k j z=>(O.out.apart k j).1 z) O.out.row;have bv:=Lib.hid c6
    have br:∀k,Value.ownBlock (.slice a d c)=some k→k<wr.heap.size:=fun k j=>by
     rcases O.out.row.2 with⟨aw,_⟩|⟨ab,A,N,aw,a2,d7,_⟩
     ·rw[aw]at j;simp[Value.ownBlock]at j
     ·rw[aw]at j;simp[Value.ownBlock]at j;subst j;exact aN d7
    have ew:(Value.slice a d c).ownBlock≠some b:=fun z=>(by have:=iW bv.out z;omega);have A:=s.gB;have c9:(Value.slice a d c).ownBlock≠some B:=fun z=>(by have:=br B z;omega);have ev:=aD eS;dsimp only at ev;have A:W.heap.size≠b:=(by omega);have A:W.heap.size≠B:=(by omega);have eR:d+1≤maxLen:=(by unfold maxLen;omega);have A:w.heap.size≤W.heap.size:=(by omega);have A:=Lib.hid s;have A:=Lib.hid br
    have c1:∀(g cap:Nat) (ad:World),ad.ownsRow w.heap.size 55 3 (.slice (some ⟨g,0,none⟩) (d+1) cap) (d+1) (X.flatMap dO++dO (f,x))→ae (fun k=>(Value.slice a d c).ownBlock=some k) W ad→((Value.slice a d c).ownBlock=some g∨W.heap.size≤g)→iC Fo w ad K L room ps fs (d+1) (.slice (some ⟨g,0,none⟩) (d+1) cap) Y U (X++[(f,x)]):=fun g cap ad S T bx=>by
     have t:=O.out;have ee:=dB.out
     have c4:∀k,(Value.slice a d c).ownBlock=some k→¬Y k:=fun k j z=>by
      rcases s.sub k z with q|q;·exact(t.apart k j).1 q
      ·have:=br k j;omega
     have hex:=s.cy.ext;have c3:U.n=(ps.length:Int):=by rw[hex.n];exact t.bp.n
     have bn:∀k,Y k→¬Fo k:=fun k J E=>by
      rcases s.sub k J with q|q;·exact t.bp.c' k q E
      ·have:=t.bp.b7.lt k E;omega
     have A:bC Fo W L ps:=t.bp.b7.a5 s.av (fun k J E=>t.bp.c' k E J);refine⟨⟨s.a4.a5 T (fun k J E=>c4 k E J),A.a5 T (fun k J E=>(t.apart k E).2 J),bn,c3,by rw[s.cy.room];exact t.bp.room⟩,?_,?_,by rw[s.cy.room];exact t.room,by rw[List.flatMap_append];simpa using S,fun k j=>?_,?_,fun k j=>?_⟩
     ·have b7:=fJ d1.out;refine⟨by rw[b7,List.length_append,List.length_append,t.ch.1];rfl,fun i q r J E=>?_⟩;by_cases hid:i<X.length
      ·rw[List.getElem?_append_left hid]at E;rw[b7,List.getElem?_append_left (by rw[←t.ch.1];exact hid)]at J;obtain⟨A,N,S⟩:=t.ch.2 i q r J E;exact⟨A,N,S.ext t.bp.a4.wf hex⟩
      ·rw[List.getElem?_append_right (by omega)]at E;rw[b7,List.getElem?_append_right (by rw[←t.ch.1];omega),←t.ch.1]at J
       have a1:i-X.length=0:=by
        have:=(List.getElem?_eq_some_iff.1 E).1;simp at this;omega
       rw[a1]at J E;cases J;cases E;exact⟨rfl,ce.out,tV s.a4.wf ce.out ee c3 s.ok s.bt⟩
     ·have A:=s.cy.len;have A:2 ^ ps.length≤2 ^ 5:=Nat.pow_le_pow_right (by decide) (by rw[←cf.out];exact d3);have co:(2:Nat) ^ 5=32:=rfl;have:=t.len;omega
     ·simp[Value.ownBlock]at j;subst j;rcases bx with q|q;·exact⟨c4 _ q,(t.apart _ q).2⟩
      ·exact⟨fun z=>by have:=s.a4.lt _ z;omega,fun z=>by have:=t.bp.b7.lt _ z;omega⟩
     ·exact(t.U.new s.av (fun k j=>t.ec k (.inl j))).new T (fun k j=>iW bv.out j)
     ·rcases j with j|j
      ·rcases s.sub k j with q|q;·exact t.ec k (.inl q)
       ·omega
      ·exact t.ec k (.inr j)
    have dj:=Lib.hid c1;clear s c6 br c1;go_wp2_with fail
    go_region_held3 (fun w'=>w'.cell? ⟨b,off+d*2,none⟩=some (.int .u8 f)∧w'.cell? ⟨B,0,none⟩=some (.int .u8 x.tag)∧w'.cell? ⟨B,1,none⟩=some (.int .u32 x.to)) (go_keep) ((refine step_append_lies _ rfl (.tmp 54) (.tmp 62) 31 rfl w.heap.size 55 eu _ 3 12 Tryz.underlying31 hi ep er et rfl (by decide) (.slice a d c) d (X.flatMap dO) rfl ?_ _ 1 1 (dO (f,x)) rfl rfl ?_ ?_ (by decide) ?_ ?_ ?_ _ rfl ?_;exact aa.br (show aa W _ by(exact kp)) bv.out;(first|exact ez _ _ _ _ (by simp)|exact l7 _ _ _ _ (by simp));(intro u c7;simp[dO]at c7;rcases c7 with rfl|rfl|rfl<;>rfl);exact eR;omega;(simp;omega);intro cp cn s ed bp ea s;have s:=gO (b:=b) (o:=off+d*2) (v:=.int .u8 f) bp ew (by go_keep);have s:=gO (b:=B) (o:=0) (v:=.int .u8 x.tag) bp c9 (by go_keep);have s:=gO (b:=B) (o:=1) (v:=.int .u32 x.to) bp c9 (by go_keep)))
    all_goals(try go_wp2_with fail)
    all_goals go_roundg (gk-1)
    case rel=>
     refine⟨d+1,some ⟨cp,0,none⟩,cn,Y,U,X++[(f,x)],rfl,by simp,by omega,dj.out cp cn _ ed (ae.cy (by repeat (first|exact ae.refl _ _|refine ae.alloc ?_ _|refine ae.drew ?_)) bp (fun k j=>.inl j)) ?_⟩;rcases ea with q|q;·exact .inl q
     ·right;rw[q];simp
    case measure=>omega
  ·have d8:d=Z:=(by omega);subst d8;have O:=Lib.hid I;clear I;go_wp2_with fail
   refine bodyPost_ret (v:=.tuple #[.pointer (some ⟨K,0,none⟩),.pointer (some ⟨L,0,none⟩),.slice a d c,.bool true]) (by simp[results,Tryz.results11,go_sem]) rfl ?_;exact⟨K,L,am,Fo,av,a,c,X,rfl,O.out⟩

theorem xR (k:Nat)(f:Int):∀(xs j:List (Int×List Bool)) (met:List ByteArray),cu k f (xs++j) met=cu k f j (cu k f xs met):=by
 intro xs;induction xs with
 |nil=>intro j met;rfl
 |cons x xs q=>intro j met;show cu k f (xs++j) _=_;rw[q];rfl

theorem sw (out:List ByteArray)(x:ByteArray):(dp out x).length≤out.length+1:=by
 unfold dp;split;·omega
 ·simp

theorem oH (xs:List ByteArray):∀out:List ByteArray,(xs.foldl dp out).length≤out.length+xs.length:=by
 induction xs with
 |nil=>intro out;simp
 |cons x xs j=>
  intro out;have q:=j (dp out x);have j:=sw out x;rw[List.foldl_cons,List.length_cons];omega

theorem mO {k:Nat}(L:k≤6){f:Int}(t:1≤f∧f≤5):∀(rs:List (Int×List Bool)) (met:List ByteArray),(cu k f rs met).length≤met.length+rs.length*1048576:=by
 intro rs;induction rs with
 |nil=>intro met;simp[cu]
 |cons r rs K=>
  intro met;have j:=K (if r.1=f then(bd (bj f k r.2 0) (bj f k r.2 0).size).foldl dp met else met);have q:=oH (bd (bj f k r.2 0) (bj f k r.2 0).size) met;have s:=m7 (bj f k r.2 0) (bj f k r.2 0).size;have z:=rN t L r.2 0;show(cu k f rs _).length≤_;rw[List.length_cons,Nat.add_mul];by_cases h:r.1=f
  ·rw[if_pos h]at j ⊢;obtain⟨t,A⟩:∃t,t=(cu k f rs ((bd (bj f k r.2 0) (bj f k r.2 0).size).foldl dp met)).length:=⟨_,rfl⟩;obtain⟨B,E⟩:∃B,B=((bd (bj f k r.2 0) (bj f k r.2 0).size).foldl dp met).length:=⟨_,rfl⟩;obtain⟨C,I⟩:∃C,C=(bd (bj f k r.2 0) (bj f k r.2 0).size).length:=⟨_,rfl⟩;obtain⟨D,J⟩:∃D,D=(bj f k r.2 0).size:=⟨_,rfl⟩;rw[←A]at j ⊢;rw[←E]at j q;rw[←I]at q s;rw[←J]at s z;clear A E I J K;omega
  ·rw[if_neg h]at j ⊢;exact Nat.le_trans j (by clear j q s z;omega)

theorem xZ (j:ByteArray)(w:World)(I:j.size≤1048576) :
  Calls Tryz.prog 63 #[.string j] w fun e w'=>∃a cap,e=.returned (.slice a (bd j j.size).length cap)∧w'.ownsRow w.heap.size 9 1 (.slice a (bd j j.size).length cap) (bd j j.size).length ((bd j j.size).map Value.string)∧aa w w':=by
 have q:=yA j w I
 obtain⟨ps,t⟩:∃ps,ps=bd j j.size:=⟨_,rfl⟩
 rw[←t]at q ⊢
 obtain⟨c,s⟩:∃c,c=ps.length:=⟨_,rfl⟩
 rw[←s]at q ⊢
 have z:=Lib.hid q
 clear q s t
 go_enter Tryz.func63,Tryz.ntmps63
 go_wp2_with (first|(go_at_call 113;refine z.out.mono ?_;rintro e j ⟨J,K,rfl,E,A⟩)|fail)
 go_ret
 exact⟨J,K,rfl,E,A⟩

def lR (w:World)(a:Option Addr)(xs:List ByteArray):Prop:=∀i x,xs[i]?=some x→∃g,a=some ⟨g,0,none⟩∧w.cell? ⟨g,i,none⟩=some (.string x)

theorem AS {w:World}{s n cap:Nat}{a:Option Addr}{xs:List ByteArray}(h:w.ownsRow s 9 1 (.slice a n cap) n (xs.map Value.string))(z:n=xs.length):lR w a xs:=fun i x q=>by
 have hi:=(List.getElem?_eq_some_iff.1 q).1;rcases h.2 with⟨j,A⟩|⟨t,cap2,s,j,z,_⟩
 ·omega
 ·cases j;refine⟨t,rfl,?_⟩;rw[h.cellAt i (by omega),List.getElem?_map,q];rfl

theorem ns (a0 c6:Option Addr)(cap0 cap1:Nat)(ps:List Int)(fs:List (Int×List Bool))(w:World)(db:aG w a0 ps)(dB:ar ps=true)(c9:ps.length≤6)(bb:eI w c6 (2 ^ ps.length) fs)(b6:fs.length≤4) :
  Calls Tryz.prog 20 #[.slice a0 ps.length cap0,.slice c6 fs.length cap1] w fun e w'=>e=.returned (.int .i64 (ai fs ps:Int))∧aa w w':=by
 have N:=fun(f:Int) (b9:1≤f∧f≤5) (ts:List Bool) (e':ts.length=2 ^ ps.length) (B:Nat) (q:World) (be:aa w q) (c6:bu q B ts)=>rM a0 cap0 ps (bB ts) (some ⟨B,0,none⟩) (2 ^ ps.length) f b9 q (db.U be) dB c9 (oS c6 e')
 obtain⟨fv,hi,fl,fp,ft⟩:=info_parts pJ
 obtain⟨k,t⟩:∃k,k=ps.length:=⟨_,rfl⟩
 obtain⟨I,aw⟩:∃I,I=fs.length:=⟨_,rfl⟩
 obtain⟨p,bi⟩:∃p,p=2 ^ k:=⟨_,rfl⟩
 obtain⟨rs,a6⟩:∃rs,rs=eC ps fs:=⟨_,rfl⟩
 have cg:ai fs ps=fk k rs 5:=by rw[t,a6];rfl
 have d2:∀f:Nat,f<6→fk k rs f≤f*(I*1048576):=by
  intro f;induction f with
  |zero=>intro _;exact Nat.zero_le _
  |succ f c6=>
   intro b9;have av:=c6 (by omega);have W:=mO (k:=k) (by omega) (f:=((f+1:Nat):Int)) (by omega) rs [];have eR:rs.length=I:=(by rw[a6,aw];simp[eC]);rw[eR]at W;show fk k rs f+_≤_;rw[Nat.add_mul];simp at W ⊢;omega
 rw[cg]
 rw[←t]at bb c9 ⊢
 simp only[←t]at N
 rw[←bi]at bb
 simp only[←bi]at N
 rw[←aw]at b6 ⊢
 have c4:=Lib.hid N
 have em:=Lib.hid bb
 have ee:=Lib.hid aw
 have eg:=Lib.hid a6
 have c6:=Lib.hid t
 have c6:=Lib.hid bi
 have el:=Lib.hid d2
 have d0:rs.length=I:=by rw[a6,aw];simp[eC]
 have c2:=Lib.hid d0
 clear N bb aw a6 bi cg db dB d2 d0 t
 go_enter Tryz.func20,Tryz.ntmps20
 go_wp2_with fail
 go_loopg [5,6] 5 (fun gk aw a6 wr=>∃f:Nat,a6=.int .u8 ((f+1:Nat):Int)∧aw=.int .i64 (fk k rs f:Int)∧f+gk=5∧aa w wr)
 case atStart=>exact⟨0,rfl,rfl,rfl,by(exact kp)⟩
 case round=>
  obtain⟨f,rfl,rfl,b9,K⟩:=hrel;by_cases aw:f<5
  ·obtain⟨b3,aw⟩:∃b3,b3=gk:=⟨gk,rfl⟩;obtain⟨W0,eS⟩:∃q,q=wr:=⟨wr,rfl⟩;subst eS;have ed:=Lib.hid K;clear K;obtain⟨a',hS⟩:∃a',a'=fk k rs f:=⟨_,rfl⟩
   have aw:a'≤20971520:=by
    have:=el.out f (by omega);rw[hS];have W:f*(I*1048576)≤5*(4*1048576):=Nat.mul_le_mul (by omega) (Nat.mul_le_mul_right _ b6);omega
   rw[←hS];have ek:=Lib.hid hS;clear hS;have aw:(f:Int)+1≤5:=(by omega);go_wp2_with fail
   go_loopg [7,8] I (fun gk cv aw wr=>∃(i:Nat) (a:Option Addr) (c:Nat) (met:List ByteArray),cv=.slice a met.length c∧aw=.int .i64 (i:Int)∧i+gk=I∧met=cu k ((f+1:Nat):Int) (rs.take i) []∧wr.ownsRow w.heap.size 9 1 (.slice a met.length c) met.length (met.map Value.string)∧aa w wr)
   case atStart=>exact⟨0,none,0,[],rfl,rfl,by omega,rfl,World.ownsRow_nil _ _ _ _,ed.out⟩
   case round=>
    obtain⟨i,a,c,met,rfl,rfl,aw,a4,cf,K⟩:=hrel;have bg:1≤((f+1:Nat):Int)∧((f+1:Nat):Int)≤5:=by omega
    have aw:met.length≤4*1048576:=by
     have av:=mO (k:=k) (by omega) bg (rs.take i) [];rw[←a4,List.length_nil,Nat.zero_add]at av;have W:(rs.take i).length≤4:=(by rw[List.length_take,c2.out];exact Nat.le_trans (Nat.min_le_right _ _) b6);exact Nat.le_trans av (Nat.mul_le_mul_right _ W)
    by_cases e7:i<I
    ·obtain⟨r,S⟩:∃r,fs[i]?=some r:=⟨_,List.getElem?_eq_getElem (by rw[←ee.out];exact e7)⟩;obtain⟨fj,d6,b,off,ea,rfl,er,et,c'⟩:=(em.out.U K) i r S;have d1:rs[i]?=some (r.1,bR (hasB (bB r.2)) ps 0):=(by rw[eg.out];unfold eC;rw[List.getElem?_map,S];rfl);have ch:=fJ d1;obtain⟨F,ts⟩:=r;dsimp only at fj d6 er et c' ch
     have d3:cu k ((f+1:Nat):Int) (rs.take (i+1)) []=if F=((f+1:Nat):Int)then(bd (bj ((f+1:Nat):Int) k (bR (hasB (bB ts)) ps 0) 0) (bj ((f+1:Nat):Int) k (bR (hasB (bB ts)) ps 0) 0).size).foldl dp met else met:=by
      rw[ch,xR,←a4];rfl
     have ad:=Lib.hid d3;have a8:=Lib.hid cf;have Y:=Lib.hid K;clear S d1 ch d3 cf K a4;by_cases da:F=((f+1:Nat):Int)
     ·subst da;have A:=ad.out;rw[if_pos rfl]at A;have b8:((f+1:Nat):Int)=(f:Int)+1:=(by push_cast;rfl);rw[b8]at A bg ad;have N:=c4.out ((f:Int)+1) bg ts d6 ea;have ci:=rN bg (k:=k) (by omega) (bR (hasB (bB ts)) ps 0) 0;obtain⟨T,d5⟩:∃T,T=bj ((f:Int)+1) k (bR (hasB (bB ts)) ps 0) 0:=⟨_,rfl⟩;rw[←d5]at A N ci;have cb:=fun(q:World)=>xZ T q ci;have d8:=m7 T T.size;obtain⟨xs,d9⟩:∃xs,xs=bd T T.size:=⟨_,rfl⟩;rw[←d9]at A cb d8;have T:xs.length≤1048576:=(by omega);have c5:=Lib.hid (fun(q:World) (be:aa wr q)=>N q (Y.out.trans be) (jo c' be));have c0:=Lib.hid cb;rw[←b8]at A;have bv:=Lib.hid A;clear A N d5 cb d9 d8 ad c4 ci b8;go_wp2_with fail
      refine(c5.out _ (by(exact kp))).mono ?_;rintro e w1 ⟨rfl,e9⟩;go_wp2_with fail
      refine(c0.out _).mono ?_;rintro e br ⟨cq,f1,rfl,ce,dl⟩;have ca:aa wr br:=(show aa wr w1 by(exact kp)).trans dl;have dk:=AS ce rfl
      have dj:∀b bq,cq=some ⟨b,bq,none⟩→b<br.heap.size∧(Value.slice a met.length c).ownBlock≠some b:=fun b bq e=>by
       subst e;have N:=(show aa wr w1 by(exact kp)).size;rcases ce.2 with⟨U,_⟩|⟨b2,N,eu,U,e2,e3,_⟩
       ·cases U
       ·cases U;refine⟨aN e3,fun O=>?_⟩;rcases a8.out.2 with⟨b1,_⟩|⟨am,cap2,N,b1,T,e4,_⟩
        ·rw[b1]at O;simp[Value.ownBlock]at O
        ·rw[b1]at O;simp[Value.ownBlock]at O;have:=aN e4;omega
      have c3:=Lib.hid (ca.br a8.out);have Z:=Lib.hid dk;have c1:=Lib.hid dj;have cS:=Lib.hid (Y.out.trans ca);clear e9 dl ca dk dj ce c5 c0 a8;obtain⟨b4,N⟩:∃b4,b4=gk:=⟨gk,rfl⟩;obtain⟨N,e0⟩:∃q,q=br:=⟨br,rfl⟩;subst e0;go_wp2_with fail
      go_loopg [7,10] xs.length (fun gk cv N wr=>∃(z:Nat) (J:Option Addr) (L:Nat) (j:List ByteArray),cv=.slice J j.length L∧N=.int .i64 (z:Int)∧z+gk=xs.length∧j=(xs.take z).foldl dp met∧wr.ownsRow w.heap.size 9 1 (.slice J j.length L) j.length (j.map Value.string)∧lR wr cq xs∧(∀b bq,cq=some ⟨b,bq,none⟩→b<wr.heap.size∧(Value.slice J j.length L).ownBlock≠some b)∧aa w wr)
      case atStart=>exact⟨0,a,c,met,rfl,rfl,by omega,rfl,c3.out,Z.out,c1.out,cS.out⟩
      case round=>
       clear c3 Z c1 cS;obtain⟨z,J,L,j,rfl,rfl,N,a3,bp,bn,cd,t⟩:=hrel
       have N:j.length≤5*1048576:=by
        have av:=oH (xs.take z) met;have W:(xs.take z).length≤xs.length:=(by rw[List.length_take];exact Nat.min_le_right _ _);rw[←a3]at av;omega
       by_cases fi:z<xs.length
       ·obtain⟨x,S⟩:∃x,xs[z]?=some x:=⟨_,List.getElem?_eq_getElem fi⟩;obtain⟨b5,rfl,ev⟩:=bn z x S;obtain⟨N,cp⟩:=cd b5 0 rfl;have a5:(xs.take (z+1)).foldl dp met=dp j x:=(by rw[fJ S,List.foldl_append,←a3];rfl);have a7:=Lib.hid a5;have bt:=Lib.hid bp;have Z:=Lib.hid bn;have ec:=Lib.hid t;clear a5 bp bn cd t a3 S;obtain⟨am,N⟩:∃am,am=gk:=⟨gk,rfl⟩;obtain⟨en,e1⟩:∃q,q=wr:=⟨wr,rfl⟩;subst e1;go_wp2_with fail
        go_loopg [11,12] j.length (fun q N S ws=>∃s:Nat,s+q=j.length∧N=.bool ((j.take s).any (fun E=>E.toList==x.toList))∧S=.int .i64 (s:Int)∧aa en ws)
        case atStart=>exact⟨0,by omega,rfl,rfl,aa.refl _⟩
        case round=>
         obtain⟨s,f0,rfl,rfl,X⟩:=hrel;have ab:=Lib.hid (X.br bt.out);have bs:=Lib.hid (ec.out.trans X);have q:=X.cell ev;have q:=X.size;by_cases e8:s<j.length
         ·obtain⟨y,cn⟩:∃y,j[s]?=some y:=⟨_,List.getElem?_eq_getElem e8⟩
          obtain⟨g,rfl,q⟩:∃g,J=some ⟨g,0,none⟩∧wr.cell? ⟨g,s,none⟩=some (.string y):=by
           rcases ab.out.2 with⟨U,q⟩|⟨ew,cap3,eu,U,e2,_⟩
           ·omega
           ·cases U;refine⟨ew,rfl,?_⟩;rw[ab.out.cellAt s (by omega)];simp[cn]
          have d7:(j.take (s+1)).any (fun E=>E.toList==x.toList)=((j.take s).any (fun E=>E.toList==x.toList)||(y.toList==x.toList)):=by
           rw[List.take_add_one,cn,List.any_append];simp
          have bw:=Lib.hid d7;clear d7 cn;obtain⟨b',a2⟩:∃b,b=(j.take s).any (fun E=>E.toList==x.toList):=⟨_,rfl⟩;rw[←a2]at bw ⊢;clear a2;cases b'
          ·go_wp2_with fail
           go_quiet (fail)
           go_wp2
           go_roundg (gk-1)
           case rel=>exact⟨s+1,by omega,by rw[bw.out];rfl,by go_num,by(exact kp)⟩
           case measure=>omega
          ·go_wp2_with fail
           go_quiet (fail)
           go_wp2
           go_roundg (gk-1)
           case rel=>exact⟨s+1,by omega,by rw[bw.out];rfl,by go_num,by(exact kp)⟩
           case measure=>omega
         ·have a1:j.take s=j:=List.take_of_length_le (by omega);rw[a1];have b7:dp j x=if j.any (fun E=>E.toList==x.toList)=true then j else j++[x]:=rfl;obtain⟨b',a2⟩:∃b,b=j.any (fun E=>E.toList==x.toList):=⟨_,rfl⟩;rw[←a2]at b7 ⊢;have cD:=Lib.hid b7;clear a2 a1 b7;have fz:j.length+1≤maxLen:=(by unfold maxLen;omega);have fD:(j.length+1)*16≤140737488355328:=(by omega);have cg:=bs.out.size;cases b'
          ·go_wp2_with (first
            |(at_builtin;refine wpList_append_lies _ rfl _ _ 126 rfl w.heap.size 9 fv (.string ByteArray.empty) 1 16 Tryz.underlying126 hi fl fp ft rfl (by decide) (.slice J j.length L) j.length (j.map Value.string) rfl (ab.out.alloc _) ⟨wr.heap.size,0,none⟩ 1 1 [.string x] rfl rfl (ez _ _ _ _ rfl) (by simp[Value.oneCell']) (by decide) (by exact fz) (by exact fD) (by simp;omega) (wr.heap.size+1) (by simp) ?_;intro c8 c7 cx fa q e6 s)
            |fail)
           have cj:ae (fun k=>(Value.slice J j.length L).ownBlock=some k) wr cx:=ae.cy (by repeat (first|exact ae.refl _ _|refine ae.alloc ?_ _|refine ae.drew ?_)) q (fun k t=>.inl t);have ds:(j++[x]).length=j.length+1:=(by simp);have fb:cx.ownsRow w.heap.size 9 1 (.slice (some ⟨c8,0,none⟩) (j++[x]).length c7) (j++[x]).length ((j++[x]).map Value.string):=(by rw[ds,List.map_append];exact fa);have q:=cj.size
           have fg:lR cx (some ⟨b5,0,none⟩) xs:=fun co cy cl=>by
            obtain⟨b2,b0,bx⟩:=Z.out co cy cl;cases b0;exact⟨b5,rfl,cj.cellAt cp (X.cell bx)⟩
           go_roundg (am-1)
           case rel=>
            refine⟨z+1,some ⟨c8,0,none⟩,c7,j++[x],by rw[ds],by simp,by omega,by rw[a7.out,cD.out,if_neg (by decide)],fb,fg,fun ep fx e=>?_,bs.out.new cj (fun k t=>iW ab.out t)⟩;cases e;refine⟨by omega,fun O=>?_⟩;simp[Value.ownBlock]at O;subst O;rcases e6 with q|q;·exact cp q
            ·omega
           case measure=>omega
          ·go_wp2_with fail
           go_roundg (am-1)
           case rel=>exact⟨z+1,J,L,j,rfl,by simp,by omega,by rw[a7.out,cD.out];simp,ab.out,fun co cy cl=>by obtain⟨b2,b0,bx⟩:=Z.out co cy cl;exact⟨b2,b0,X.cell bx⟩,fun ep fx e=>by cases e;exact⟨by omega,cp⟩,bs.out⟩
           case measure=>omega
       ·have a1:j=cu k ((f+1:Nat):Int) (rs.take (i+1)) []:=(by rw[a3,List.take_of_length_le (by omega),bv.out]);have eb:=Lib.hid a1;have bt:=Lib.hid bp;clear a1 a3 bp bn cd;go_wp2_with fail
        go_roundg (b4-1)
        case rel=>exact⟨i+1,J,L,j,rfl,by simp,by omega,eb.out,bt.out,t⟩
        case measure=>omega
     ·have j:((F !=((f:Int)+1))=true):=(by simp;omega);have A:=ad.out;rw[if_neg da]at A;have bv:=Lib.hid A;clear A ad;go_wp2_with fail
      go_roundg (gk-1)
      case rel=>exact⟨i+1,a,c,met,rfl,by simp,by omega,bv.out.symm,a8.out,Y.out⟩
      case measure=>omega
    ·have j:i=I:=(by omega);have dr:met=cu k ((f+1:Nat):Int) rs []:=(by rw[a4,List.take_of_length_le (by rw[c2.out];omega)]);have a5:fk k rs (f+1)=a'+met.length:=(by rw[dr,ek.out];rfl);have a7:=Lib.hid a5;have Y:=Lib.hid K;clear dr a5 a4 cf K;go_wp2_with fail
     go_roundg (b3-1)
     case rel=>exact⟨f+1,by simp,by rw[a7.out];simp,by omega,Y.out⟩
     case measure=>omega
  ·have e5:f=5:=(by omega);subst e5;go_wp2_with fail
   go_ret
   exact⟨rfl,K⟩

end Go.Proofs.YtafkamlhimkbmaaGreat
