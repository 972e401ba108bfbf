/-
  law27.bed.
-/
import Derived.Test.YtafkamlhimkbmaaGreatPSiftB
import Derived.Deep.AppendLies
namespace Go.Proofs.YtafkamlhimkbmaaGreat
set_option maxRecDepth 1000000
set_option maxHeartbeats 8000000
set_option linter.unusedSimpArgs false
set_option linter.unusedVariables false
open Go.RowKit

def fG (w:World)(a:Option Addr)(p:Nat)(j:List (Int×List Bool)):Prop:=
 ∀i r,j[i]?=some r→(1≤r.1∧r.1≤5)∧r.2.length=p∧∃b off B,a=some ⟨b,off,none⟩∧w.cell? ⟨b,off+i*2,none⟩=some (.int .u8 r.1)∧w.cell? ⟨b,off+i*2+1,none⟩=some (.slice (some ⟨B,0,none⟩) p p)∧bm w B r.2

theorem jl {w q:World}{B:Nat}{j:List Bool}(h:bm w B j)(s:aa w q):bm q B j:=h.a4 (aa.av s (fun _=>False)) (fun h=>h)

theorem fG.U {w s:World}{a:Option Addr}{p:Nat}{q:List (Int×List Bool)}(h:fG w a p q)(j:aa w s):fG s a p q:=fun i r I=>by
 obtain⟨t,z,b,off,B,E,q,s,A⟩:=h i r I;exact⟨t,z,b,off,B,E,j.cell q,j.cell s,jl A j⟩

structure nQ (F:Nat→Prop)(w0 wy:World)(sb:Nat)(M:St)(f:Int)(ps ws:List Int)(B:Nat)(x:Edge)(M':St)(F1:Nat→Prop):Prop where
 a0:wy.cell? ⟨B,0,none⟩=some (.int .u8 x.tag)
 a1:wy.cell? ⟨B,1,none⟩=some (.int .u32 x.to)
 ok:x.ok
 bt:dC f M' (hasB ws) ps 0 0 x
 ca:de M M' ((2 ^ ps.length-1:Nat):Int)
 av:ae F w0 wy
 a5:ag F1 wy sb M'
 sub:∀j,F1 j→F j∨w0.heap.size≤j
 nB:¬F1 B
 gB:w0.heap.size≤B

theorem tg {F:Nat→Prop}{w0 A E z:World}{L:Nat}{M M':St}{f:Int}{ps ws:List Int}{B:Nat}{x:Edge}(W:∀k,F k→k<w0.heap.size)(J:aa w0 A)(Z:x.ok)(O:dC f M' (hasB ws) ps 0 0 x)(S:de M M' ((2 ^ ps.length-1:Nat):Int))(X:bC F A E L M')
  (I:ae (fun k=>k=B∨k=B) E z) (t:w0.heap.size≤B∧(B<A.heap.size∨E.heap.size≤B)) (a0:z.cell? ⟨B,0,none⟩=some (.int .u8 x.tag)) (N:z.cell? ⟨B,1,none⟩=some (.int .u32 x.to)):∃s,nQ F w0 z L M f ps ws B x M' s:=by
 obtain⟨⟨s,hS,K⟩,Y⟩:=X
 have z:=J.size
 have no:¬s B:=fun j=>by
  have z:=hS.lt B j;rcases K B j with q|q;·have:=W B q;have:=t.1;omega
  ·rcases t.2 with z|z<;>omega
 refine⟨s,a0,N,Z,O,S,((aa.av J F).a' Y).b8 I (fun i hi j=>?_),hS.a4 I (fun k U j=>?_),fun ab T=>?_,no,t.1⟩
 ·have:=t.1;rcases j with rfl|rfl<;>omega
 ·rcases j with rfl|rfl<;>exact no U
 ·rcases K ab T with q|q;·exact .inl q
  ·exact .inr (by omega)

structure iC (Fo:Nat→Prop)(w wr:World)(sb ob:Nat)(room:Int)(ps:List Int)(fs:List (Int×List Bool))(d:Nat)(v:Value)(F:Nat→Prop)(M:St)(rs:List (Int×Edge)):Prop where
 bw:eO F Fo wr sb ob M ps
 cp:ct M ps (fs.take d) rs
 len:M.len≤(d:Int)*31
 room:M.room=room
 row:wr.ownsRow w.heap.size 55 3 v d (rs.flatMap dI)
 apart:∀k,v.ownBlock=some k→¬F k∧¬Fo k
 U:aa w wr
 e4:∀k,F k∨Fo k→w.heap.size≤k

theorem oo (room:Int)(be cn:Option Addr)(cp cap2:Nat)(ps:List Int)(K:List (Int×List Bool))(w:World)(c1:aL w be ps)(b6:aA ps=true)(cy:ps.length≤5)(bg:fG w cn (2 ^ ps.length) K)(bb:K.length≤4)(a3:(K.length:Int)*31≤room)(U:room≤1000000) :
  Calls Tryz.prog 11 #[.int .i64 room,.slice be ps.length cp,.slice cn K.length cap2] w fun e I=>∃(N O:Nat) (F Fo:Nat→Prop) (M:St) (a:Option Addr) (c:Nat) (rs:List (Int×Edge)),e=.returned (.tuple #[.pointer (some ⟨N,0,none⟩),.pointer (some ⟨O,0,none⟩),.slice a K.length c,.bool true])∧iC Fo w I N O room ps K K.length (.slice a K.length c) F M rs:=by
 have a6:=Ak room be cp ps w c1 b6 (by omega) (by omega)
 have b7:2 ^ ps.length≤2 ^ 5:=Nat.pow_le_pow_right (by decide) cy
 have cv:(2:Nat) ^ 5=32:=rfl
 rw[cv]at b7
 have c8:1≤2 ^ ps.length:=Nat.pow_pos (by decide)
 have bv:=fun(B:Nat) (S:List Bool) (bi:S.length=2 ^ ps.length) (A:World) (be:bm A B S)=>by
  have:=zE (ps.length:Int) B (2 ^ ps.length) S A be (by omega) (by omega);rw[bi]at this;exact this
 have bn:=fun(f:Int) (a5:1≤f∧f≤5) (F Fo:Nat→Prop) (W0 A:World) (N O:Nat) (M:St) (G:Nat) (S:List Bool) (bi:S.length=2 ^ ps.length) (hS:eO F Fo W0 N O M ps) (a4:aa W0 A) (b4:cH A G (bu S)) (c0:W0.heap.size≤G) (b8:M.len+31≤M.room)=>by
  have be:=hS.U a4;have er:(bu S).length≤1048576:=by rw[lh,bi];omega
  have:=tk be.a5 be.cd be.dr be.n f (by simp[bD];omega) (some ⟨G,0,none⟩) (bu S).length (bu S).length rfl er (b4.fi (fun x am=>Cl am)) (fun b off e z=>by cases e;have:=hS.a5.lt _ z;omega) (zF (by omega) bi) (by omega);exact gz (w0:=W0) (wc:=W0) (Q:=fun r I=>iD f F A N M (hasB (bu S)) ps 0 0 r I) (R:=fun _=>True) hS.a5.lt (Nat.le_refl _) (this.mono (fun r I z=>⟨z,by obtain⟨e,M',_,_,_,_,a6⟩:=z;exact a6.av,trivial⟩))
 obtain⟨eR,hi,eu,ev,ew⟩:=info_parts o8
 obtain⟨n,bs⟩:∃n,n=ps.length:=⟨_,rfl⟩
 obtain⟨p,bw⟩:∃p,p=2 ^ n:=⟨_,rfl⟩
 obtain⟨ad,b3⟩:∃ad,ad=K.length:=⟨_,rfl⟩
 rw[←bs]at a6 bg b7 c8 ⊢
 simp only[←bs]at bv bn
 rw[←bw]at bg b7 c8
 simp only[←bw]at bv bn
 rw[←b3]at bb a3 ⊢
 have cj:=Lib.hid a6
 have d0:=Lib.hid bv
 have dk:=Lib.hid bn
 have cl:=Lib.hid bg
 have ch:=Lib.hid bs
 have dB:=Lib.hid b3
 have d2:=Lib.hid b6
 have S:=Lib.hid bw
 have ci:=Lib.hid (⟨a3,U⟩:_∧_)
 have d7:n≤5:=by omega
 clear a6 bv bn bg bs b3 b6 bw cy a3 U c1
 go_enter Tryz.func11,Tryz.ntmps11
 go_wp2_with fail
 refine cj.out.mono ?_
 rintro e w1 ⟨N,O,F,Fo,rfl,c5,hS,c2,bq,cD,cS⟩
 have J:iC Fo w w1 N O room ps K 0 (.slice none 0 0) F (St.new (n:Int) room) []:=⟨⟨hS,c2,bq,by show(n:Int)=_;rw[ch.out],by show room<1048576;have:=ci.out.2;omega⟩,⟨rfl,fun i q r U W=>by cases W⟩,by show(0:Int)≤0*31;decide,rfl,World.ownsRow_nil _ _ _ _,(fun k j=>by simp[Value.ownBlock]at j),c5,fun k j=>by rcases j with q|q;exact cD k q;exact cS k q⟩
 have T:=Lib.hid J
 clear c5 hS c2 bq cD cS J cj
 go_wp2_with fail
 go_loopg [13,14] ad (fun gk S a6 wr=>∃(d:Nat) (a:Option Addr) (c:Nat) (F:Nat→Prop) (M:St) (rs:List (Int×Edge)),S=.slice a d c∧a6=.int .i64 (d:Int)∧d+gk=ad∧iC Fo w wr N O room ps K d (.slice a d c) F M rs)
 case atStart=>exact⟨0,none,0,F,_,[],rfl,rfl,by omega,T.out⟩
 case round=>
  clear T;obtain⟨d,a,c,aw,a1,Z,rfl,rfl,S,J⟩:=hrel;by_cases eg:d<ad
  ·obtain⟨r,am⟩:∃r,K[d]?=some r:=⟨_,List.getElem?_eq_getElem (by rw[←dB.out];exact eg)⟩;obtain⟨a5,a7,b,off,a',rfl,b0,d6,b2⟩:=(cl.out.U J.U) d r am;obtain⟨b',a6,S,a2,co,-,-⟩:=(cl.out d r am).2.2;cases a2;have S:b<w.heap.size:=(by have:=aD co;simpa using this);have a6:=J.U.size;have a6:∀k,k<w.heap.size→¬aw k:=fun k j z=>(by have:=J.e4 k (.inl z);omega);have cb:¬aw b:=a6 b S
   have b8:a1.len+31≤a1.room:=by
    have U:=J.len;have W:=ci.out.1;rw[J.room];omega
   obtain⟨f,ts⟩:=r;dsimp only at a5 a7 b0 d6 b2
   have S:=fun(A:World) (a4:aa wr A)=>gz (F:=fun _=>False) (w0:=wr) (wc:=wr) (Q:=fun e I=>∃g,A.heap.size≤g∧e=.returned (.agg #[.int .i64 (n:Int),.slice (some ⟨g,0,none⟩) (bu ts).length (bu ts).length])∧cH I g (bu ts)) (R:=fun I=>aa A I) (fun _ h=>h.elim) (Nat.le_refl _)
    ((d0.out a' ts a7 A (jl b2 a4)).mono (fun e I ⟨g,U,W,b1,bb⟩=>⟨⟨g,U,W,b1⟩,bb.av _,bb⟩))
   have d1:=Lib.hid S;clear S;have dl:=Lib.hid (fun(A:World) (G:Nat) (a4:aa wr A) (b4:cH A G (bu ts)) (c0:wr.heap.size≤G)=>dk.out f a5 aw Fo wr A N O a1 G ts a7 J.bw a4 b4 c0 b8);have T:=Lib.hid J;have d5:=Lib.hid am;have cg:=Lib.hid a5;have ds:=Lib.hid J.bw.a5.lt;have S:wr.heap.size≠b:=(by omega);have S:=Lib.hid a7;clear J am a5 co b2 a7 b8;go_wp2_with fail
   go_cut [15,16] (fun S am av=>∃B x X ab,S=.pointer (some ⟨B,0,none⟩)∧am=.int .u8 0∧nQ aw wr av N a1 f ps (bu ts) B x X ab)
   case first=>
    go_region_held3 (fun I=>I.cell? ⟨b,off+d*2,none⟩=some (.int .u8 f)∧I.cell? ⟨b,off+d*2+1,none⟩=some (.slice (some ⟨a',0,none⟩) p p)) (go_keep) ((first
     |(go_at_call 46;refine(d1.out _ (by(exact kp))).mono ?_;rintro e5 cd ⟨⟨⟨E,ec,rfl,da⟩,-,b5⟩,c3,e8,e',fb,fi⟩;have d3:=Lib.hid da;have en:=b5.size;(try simp only[World.size_alloc,World.a3,World.cD]at en ec);have e3:=b5.cell (a:=⟨b,off+d*2,none⟩) (v:=.int .u8 f) (by go_keep);have e4:=b5.cell (a:=⟨b,off+d*2+1,none⟩) (v:=.slice (some ⟨a',0,none⟩) p p) (by go_keep);have S:cd.heap.size≠b:=(by omega);clear da)
     |(go_at_call 45;refine(dl.out _ E (by(exact kp)) (d3.out.U (by(exact kp))) (by omega)).mono ?_;rintro e6 a8 ⟨⟨⟨x,X,rfl,et,d9,⟨ee,-⟩,em⟩,ca,-⟩,bp,e7,e9,fa,fg⟩;have ep:=ca.size;(try simp only[World.size_alloc,World.a3,World.cD]at ep);have e3:=ca.cellAt (b:=b) (o:=off+d*2) (v:=.int .u8 f) cb (by go_keep);have e4:=ca.cellAt (b:=b) (o:=off+d*2+1) (v:=.slice (some ⟨a',0,none⟩) p p) cb (by go_keep);have S:a8.heap.size≠b:=(by omega))))
    all_goals(try go_wp2_with fail)
    all_goals go_meet
    all_goals refine(fun S=>Exists.elim S (fun dj d8=>⟨_,x,X,dj,rfl,rfl,d8⟩)) (tg ds.out (by(exact kp)) et d9 ee em ?_ ?_ ?_ ?_)
    all_goals(try(simp[go_sem];done))
    all_goals(try(first|omega|(simp only[World.size_alloc,World.a3,World.size_setCell];omega)))
    all_goals(try(repeat (first|with_reducible exact ae.refl _ _|with_reducible refine ae.alloc ?_ _|with_reducible refine ae.drew ?_|refine ae.setCell ?_ (Or.inl (Or.inl rfl)) _|refine ae.setCell ?_ (Or.inl (Or.inr rfl)) _)))
    all_goals(first
     |(have ce:a8.cell? ⟨cd.heap.size,0,none⟩=some (.int .u8 0):=(bp _ _ (by omega) (by simp)).trans (by simp[go_sem]);have cf:a8.cell? ⟨cd.heap.size,1,none⟩=some (.int .u32 0):=(bp _ _ (by omega) (by simp)).trans (by simp[go_sem]);simp[go_sem,ce,cf];done)
     |(have ce:a8.cell? ⟨wr.heap.size,0,none⟩=some (.int .u8 0):=(bp _ _ (Nat.le_refl _) (by omega)).trans ((c3 _ _ (Nat.le_refl _) (by simp)).trans (by simp[go_sem]));have cf:a8.cell? ⟨wr.heap.size,1,none⟩=some (.int .u32 0):=(bp _ _ (Nat.le_refl _) (by omega)).trans ((c3 _ _ (Nat.le_refl _) (by simp)).trans (by simp[go_sem]));simp[go_sem,ce,cf];done))
   case rest=>
    obtain⟨Y,rfl⟩:∃A,A=wc:=⟨_,rfl⟩;obtain⟨B,x,X,ab,rfl,rfl,s⟩:=hcut;replace b0:=s.av.cellAt cb b0;have e2:=s.a0;have A:=s.a1;have A:=s.av.size;have c9:=s.av.bq (fun k j z=>(T.out.apart k j).1 z) T.out.row;have bx:=Lib.hid c9
    have bt:∀k,Value.ownBlock (.slice a d c)=some k→k<wr.heap.size:=fun k j=>by
     rcases T.out.row.2 with⟨a2,_⟩|⟨am,A,S,a2,a4,ea,_⟩
     ·rw[a2]at j;simp[Value.ownBlock]at j
     ·rw[a2]at j;simp[Value.ownBlock]at j;subst j;exact aK ea
    have e0:(Value.slice a d c).ownBlock≠some b:=fun z=>(by have:=gT bx.out z;omega);have A:=s.gB;have db:(Value.slice a d c).ownBlock≠some B:=fun z=>(by have:=bt B z;omega);have eS:=aD e2;dsimp only at eS;have A:Y.heap.size≠b:=(by omega);have A:Y.heap.size≠B:=(by omega);have e1:d+1≤maxLen:=(by unfold maxLen;omega);have A:w.heap.size≤Y.heap.size:=(by omega);have A:=Lib.hid s;have A:=Lib.hid bt
    have c4:∀(g cap:Nat) (av:World),av.ownsRow w.heap.size 55 3 (.slice (some ⟨g,0,none⟩) (d+1) cap) (d+1) (Z.flatMap dI++dI (f,x))→ae (fun k=>(Value.slice a d c).ownBlock=some k) Y av→((Value.slice a d c).ownBlock=some g∨Y.heap.size≤g)→iC Fo w av N O room ps K (d+1) (.slice (some ⟨g,0,none⟩) (d+1) cap) ab X (Z++[(f,x)]):=fun g cap av U W b1=>by
     have t:=T.out;have el:=d2.out
     have c7:∀k,(Value.slice a d c).ownBlock=some k→¬ab k:=fun k j z=>by
      rcases s.sub k z with q|q;·exact(t.apart k j).1 q
      ·have:=bt k j;omega
     have hex:=s.ca.ext;have c6:X.n=(ps.length:Int):=by rw[hex.n];exact t.bw.n
     have bq:∀k,ab k→¬Fo k:=fun k L E=>by
      rcases s.sub k L with q|q;·exact t.bw.dr k q E
      ·have:=t.bw.cd.lt k E;omega
     have A:bA Fo Y O ps:=t.bw.cd.a4 s.av (fun k L E=>t.bw.dr k E L);refine⟨⟨s.a5.a4 W (fun k L E=>c7 k E L),A.a4 W (fun k L E=>(t.apart k E).2 L),bq,c6,by rw[s.ca.room];exact t.bw.room⟩,?_,?_,by rw[s.ca.room];exact t.room,by rw[List.flatMap_append];simpa using U,fun k j=>?_,?_,fun k j=>?_⟩
     ·have b9:=fO d5.out;refine⟨by rw[b9,List.length_append,List.length_append,t.cp.1];rfl,fun i q r L E=>?_⟩;by_cases hid:i<Z.length
      ·rw[List.getElem?_append_left hid]at E;rw[b9,List.getElem?_append_left (by rw[←t.cp.1];exact hid)]at L;obtain⟨A,K,S⟩:=t.cp.2 i q r L E;exact⟨A,K,S.ext t.bw.a5.wf hex⟩
      ·rw[List.getElem?_append_right (by omega)]at E;rw[b9,List.getElem?_append_right (by rw[←t.cp.1];omega),←t.cp.1]at L
       have a3:i-Z.length=0:=by
        have:=(List.getElem?_eq_some_iff.1 E).1;simp at this;omega
       rw[a3]at L E;cases L;cases E;exact⟨rfl,cg.out,tm s.a5.wf cg.out el c6 s.ok s.bt⟩
     ·have A:=s.ca.len;have A:2 ^ ps.length≤2 ^ 5:=Nat.pow_le_pow_right (by decide) (by rw[←ch.out];exact d7);have cv:(2:Nat) ^ 5=32:=rfl;have:=t.len;omega
     ·simp[Value.ownBlock]at j;subst j;rcases b1 with q|q;·exact⟨c7 _ q,(t.apart _ q).2⟩
      ·exact⟨fun z=>by have:=s.a5.lt _ z;omega,fun z=>by have:=t.bw.cd.lt _ z;omega⟩
     ·exact(t.U.new s.av (fun k j=>t.e4 k (.inl j))).new W (fun k j=>gT bx.out j)
     ·rcases j with j|j
      ·rcases s.sub k j with q|q;·exact t.e4 k (.inl q)
       ·omega
      ·exact t.e4 k (.inr j)
    have dr:=Lib.hid c4;clear s c9 bt c4;go_wp2_with fail
    go_region_held3 (fun I=>I.cell? ⟨b,off+d*2,none⟩=some (.int .u8 f)∧I.cell? ⟨B,0,none⟩=some (.int .u8 x.tag)∧I.cell? ⟨B,1,none⟩=some (.int .u32 x.to)) (go_keep) ((refine step_append_lies _ rfl (.tmp 54) (.tmp 62) 31 rfl w.heap.size 55 eR _ 3 12 Tryz.underlying31 hi eu ev ew rfl (by decide) (.slice a d c) d (Z.flatMap dI) rfl ?_ _ 1 1 (dI (f,x)) rfl rfl ?_ ?_ (by decide) ?_ ?_ ?_ _ rfl ?_;exact aa.bq (show aa Y _ by(exact kp)) bx.out;(first|exact dZ _ _ _ _ (by simp)|exact lI _ _ _ _ (by simp));(intro u c';simp[dI]at c';rcases c' with rfl|rfl|rfl<;>rfl);exact e1;omega;(simp;omega);intro cx cq s ek br ed s;have s:=gL (b:=b) (o:=off+d*2) (v:=.int .u8 f) br e0 (by go_keep);have s:=gL (b:=B) (o:=0) (v:=.int .u8 x.tag) br db (by go_keep);have s:=gL (b:=B) (o:=1) (v:=.int .u32 x.to) br db (by go_keep)))
    all_goals(try go_wp2_with fail)
    all_goals go_roundg (gk-1)
    case rel=>
     refine⟨d+1,some ⟨cx,0,none⟩,cq,ab,X,Z++[(f,x)],rfl,by simp,by omega,dr.out cx cq _ ek (ae.ca (by repeat (first|exact ae.refl _ _|refine ae.alloc ?_ _|refine ae.drew ?_)) br (fun k j=>.inl j)) ?_⟩;rcases ed with q|q;·exact .inl q
     ·right;rw[q];simp
    case measure=>omega
  ·have eb:d=ad:=(by omega);subst eb;have T:=Lib.hid J;clear J;go_wp2_with fail
   refine bodyPost_ret (v:=.tuple #[.pointer (some ⟨N,0,none⟩),.pointer (some ⟨O,0,none⟩),.slice a d c,.bool true]) (by simp[results,Tryz.results11,go_sem]) rfl ?_;exact⟨N,O,aw,Fo,a1,a,c,Z,rfl,T.out⟩

end Go.Proofs.YtafkamlhimkbmaaGreat
