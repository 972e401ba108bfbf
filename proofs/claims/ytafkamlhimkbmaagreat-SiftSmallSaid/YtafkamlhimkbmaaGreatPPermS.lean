/-
  Plain law of the steps that make one permutation to another one.
-/
import Derived.Test.YtafkamlhimkbmaaGreatPSwapR
namespace Go.Proofs.YtafkamlhimkbmaaGreat
set_option maxRecDepth 1000000
set_option maxHeartbeats 8000000
set_option linter.unusedSimpArgs false
set_option linter.unusedVariables false

structure fu (ps qs:List Int)(i:Nat)(ss:List Nat):Prop where
 c8:∀j,j<i→(aJ ps ss)[j]?=qs[j]?
 b1:∀s∈ss,s+1<ps.length
 bx:ss.length≤i*ps.length

structure StepsIn (ps qs:List Int)(i p:Nat)(x:Int)(ss:List Nat):Prop where
 c8:∀j,j<i→(aJ ps ss)[j]?=qs[j]?
 b1:∀s∈ss,s+1<ps.length
 bx:ss.length+p≤i*ps.length+ps.length
 dk:(aJ ps ss)[p]?=some x
 low:i≤p

theorem StepsIn.lt {ps qs:List Int}{i p:Nat}{x:Int}{ss:List Nat}(h:StepsIn ps qs i p x ss):p<ps.length:=by
 have:=(List.getElem?_eq_some_iff.1 h.dk).1;rwa[eP]at this

theorem fu.start (ps qs:List Int):fu ps qs 0 []:=⟨fun s q=>by omega,(fun q j=>by cases j),by simp⟩

theorem StepsIn.next {ps qs:List Int}{i p:Nat}{x:Int}{ss:List Nat}(h:StepsIn ps qs i (p+1) x ss)(t:i≤p):StepsIn ps qs i p x (ss++[p]):=by
 have j:=h.lt;have q:p+1<(aJ ps ss).length:=by rw[eP];exact j
 refine⟨fun A s=>?_,fun E z=>?_,?_,?_,t⟩
 ·rw[iZ,eG q,if_neg (by omega),if_neg (by omega)];exact h.c8 A s
 ·rcases List.mem_append.1 z with g|g;·exact h.b1 E g
  ·simp at g;subst g;exact j
 ·have:=h.bx;rw[List.length_append,List.length_singleton];omega
 ·rw[iZ,eG q,if_pos rfl];exact h.dk

theorem StepsIn.out {ps qs:List Int}{i:Nat}{x:Int}{ss:List Nat}(h:StepsIn ps qs i i x ss)(q:qs[i]?=some x):fu ps qs (i+1) ss:=by
 refine⟨fun j s=>?_,h.b1,?_⟩
 ·by_cases e:j=i
  ·subst e;rw[h.dk,q]
  ·exact h.c8 j (by omega)
 ·have:=h.bx;rw[Nat.add_mul];omega

theorem fu.low {ps qs:List Int}{i k:Nat}{x:Int}{ss:List Nat}(h:fu ps qs i ss)(s:ar qs=true)(t:qs[i]?=some x)(j:(aJ ps ss)[k]?=some x):StepsIn ps qs i k x ss:=by
 have q:=(List.getElem?_eq_some_iff.1 j).1;rw[eP]at q;refine⟨h.c8,h.b1,by have:=h.bx;omega,j,?_⟩;apply Classical.byContradiction;intro q;have e:=h.c8 k (by omega);rw[j]at e;have:=iU (dm.1 s).2.2 t e.symm;omega

theorem fu.has {ps qs:List Int}{i:Nat}{x:Int}{ss:List Nat}(h:fu ps qs i ss)(j:ar ps=true)(t:ar qs=true)(q:ps.length=qs.length)(z:qs[i]?=some x):x∈aJ ps ss:=by
 have q:=qQ ss ps h.b1 j;have s:=(dm.1 t).2.1 x (List.mem_of_getElem? z);have j:=(kY.1 q).2;rw[eP]at j;exact j.symm.subset (fG.2 ⟨s.1,by omega⟩)

theorem fu.done {ps qs:List Int}{ss:List Nat}(h:fu ps qs ps.length ss)(j:ps.length=qs.length):aJ ps ss=qs:=by
 apply List.ext_getElem?;intro j;by_cases q:j<ps.length;·exact h.c8 j q
 ·rw[List.getElem?_eq_none (by rw[eP];omega),List.getElem?_eq_none (by omega)]

open Go.RowKit

theorem wu (g cap:Nat)(ps:List Int)(x:Int)(w:World)(h:bD w g ps)(S:ps.length≤1048576)(L:x∈ps) :
  Calls Tryz.prog 168 #[.slice (some ⟨g,0,none⟩) ps.length cap,.int .i64 x] w fun e w'=>(∃k:Nat,e=.returned (.int .i64 (k:Int))∧ps[k]?=some x)∧w=w':=by
 obtain⟨q,t⟩:∃q,q=ps.length:=⟨_,rfl⟩
 rw[←t]at S ⊢
 have H:=Lib.hid h
 have A:=Lib.hid t
 have N:=Lib.hid L
 clear h t L
 go_enter Tryz.func168,Tryz.ntmps168
 go_wp2_with fail
 go_loopg [5,8] q (fun gk t t wr=>∃d:Nat,t=.int .i64 (d:Int)∧d+gk=q∧(∀j,j<d→ps[j]?≠some x)∧w=wr)
 case atStart=>exact⟨0,rfl,by omega,fun j s=>by omega,rfl⟩
 case round=>
  obtain⟨d,rfl,U,K,rfl⟩:=hrel;have E:=Lib.hid K;clear K;by_cases T:d<q
  ·obtain⟨y,q⟩:∃b,ps[d]?=some b:=⟨_,List.getElem?_eq_getElem (by rw[←A.out];exact T)⟩;have t:=H.out.cell q;have I:=Lib.hid q;clear q;by_cases J:x=y
   ·subst J;go_wp2_with fail
    go_ret
    exact⟨⟨d,rfl,I.out⟩,rfl⟩
   ·go_wp2_with fail
    go_roundg (gk-1)
    case rel=>
     refine⟨d+1,by simp,by omega,fun j s z=>?_,rfl⟩;by_cases O:j=d
     ·subst O;rw[I.out]at z;exact J (Option.some.inj z).symm
     ·exact E.out j (by omega) z
    case measure=>omega
  ·exfalso;obtain⟨j,s⟩:=List.mem_iff_getElem?.1 N.out;have:=(List.getElem?_eq_some_iff.1 s).1;exact E.out j (by have:=A.out;omega) s

theorem yr {w:World}{lo j:Nat}{e:TypeId}{size:Nat}{v:Value}{n:Nat}{xs:List Value}(t:j≤lo)(h:w.ownsRow lo e size v n xs):w.ownsRow j e size v n xs:=by
 refine⟨h.1,?_⟩;rcases h.2 with z|⟨g,cap,j,q,s,rest⟩;·exact .inl z
 ·exact .inr ⟨g,cap,j,q,Nat.le_trans t s,rest⟩

theorem AN (ad a5:Option Addr)(cap1 cap2:Nat)(ps qs:List Int)(w:World)(a7:aG w ad ps)(a':aG w a5 qs)(N:ar ps=true)(bs:ar qs=true)(av:ps.length=qs.length) :
  Calls Tryz.prog 105 #[.slice ad ps.length cap1,.slice a5 qs.length cap2] w fun e w'=>∃(ss:List Nat) (Z:Option Addr) (am:Nat),e=.returned (.tuple #[.slice Z ss.length am,.bool true]) ∧
   w'.ownsRow w.heap.size 3 1 (.slice Z ss.length am) ss.length (ss.map (fun t:Nat=>Value.int .i64 (t:Int)))∧aJ ps ss=qs∧(∀t∈ss,t+1<ps.length)∧ss.length≤ps.length*ps.length∧aa w w':=by
 have a8:=(dm.1 N).1
 have be:=fun s (Z:aa w s)=>m8 ad cap1 ps s (a7.U Z) (by omega)
 have bg:=fun s (Z:aa w s)=>m8 a5 cap2 qs s (a'.U Z) (by omega)
 have bb:=fun s (Z:aa w s)=>mc ad cap1 ps s (a7.U Z) (by omega)
 obtain⟨ep,hi,el,em,en⟩:=info_parts ij
 obtain⟨K,I⟩:∃K,K=ps.length:=⟨_,rfl⟩
 have Z:=fun(g cap:Nat) (ss:List Nat) (x:Int) (s:World) (ad:bD s g (aJ ps ss)) (X:x∈aJ ps ss)=>by
  have:=wu g cap (aJ ps ss) x s ad (by rw[eP];omega) X;rw[eP,←I]at this;exact this
 rw[N,←I]at be
 rw[bs,←av,←I]at bg
 rw[←I]at bb
 rw[←av,←I]
 rw[←I]at a8
 have c0:=Lib.hid be
 have c1:=Lib.hid bg
 have ci:=Lib.hid bb
 have cp:=Lib.hid Z
 have z:=Lib.hid I
 have a2:=Lib.hid av
 have cS:=Lib.hid N
 have b0:=Lib.hid bs
 have ch:=Lib.hid a'
 clear be bg bb Z I av N bs a7 a'
 go_enter Tryz.func105,Tryz.ntmps105
 go_wp2_with fail
 refine(c0.out _ (by(exact kp))).mono ?_
 rintro e w1 ⟨rfl,rfl⟩
 go_wp2_with fail
 refine(c1.out _ (by(exact kp))).mono ?_
 rintro e I ⟨rfl,rfl⟩
 go_wp2_with fail
 refine(ci.out _ (by(exact kp))).mono ?_
 rintro e U ⟨dr,ds,rfl,I,bq⟩
 have b1:=Lib.hid I
 clear I
 go_wp2_with fail
 go_loopg [7,8,9,10,30] K (fun gk bt I I cg I wr=>∃(d:Nat) (ss:List Nat) (O:Option Addr) (S:Nat),I=.int .i64 (d:Int)∧bt=.slice O ss.length S∧d+gk=K∧fu ps qs d ss∧iH w.heap.size wr dr (aJ ps ss)∧wr.ownsRow U.heap.size 3 1 (.slice O ss.length S) ss.length (ss.map (fun t:Nat=>Value.int .i64 (t:Int)))∧aa w wr∧U.heap.size≤wr.heap.size)
 case atStart=>exact⟨0,[],none,0,rfl,rfl,by omega,fu.start ps qs,b1.out,World.ownsRow_nil _ _ _ _,bq,Nat.le_refl _⟩
 case round=>
  obtain⟨d,ss,O,S,rfl,rfl,d1,ad,Z,I,A,eg⟩:=hrel;have Y:=Lib.hid ad;have c5:=Lib.hid Z;have bv:=Lib.hid I;clear ad Z I;by_cases ea:d<K
  ·obtain⟨x,X⟩:∃b,qs[d]?=some b:=⟨_,List.getElem?_eq_getElem (by rw[←a2.out,←z.out];exact ea)⟩;obtain⟨b,off,rfl,ca⟩:=ch.out d x X;have I:=A.cell ca;have a1:=Y.out.has cS.out b0.out a2.out X;have b2:=Lib.hid X;obtain⟨g,rfl,cd,bp⟩:=c5.out (fun e=>by rw[e]at a1;cases a1)
   have I:g<U.heap.size:=by
    obtain⟨b3,da,_,ee⟩:=b1.out (fun e=>by rw[e]at z;have:=z.out;simp at this;omega);cases da;exact ee.lt
   have I:=cp.out g ds ss x wr bp a1;have cn:=Lib.hid bp;have cq:=Lib.hid I;clear I a1 ca X bp;go_wp2_with fail
   refine cq.out.mono ?_;rintro e I ⟨⟨k,rfl,ce⟩,rfl⟩;have I:=Y.out.low b0.out b2.out ce;have cf:=I.lt;have X:=I.low;have co:=Lib.hid I;clear ce I;rw[←z.out]at cf;obtain⟨a6,d5⟩:∃a6,a6=gk:=⟨_,rfl⟩;rw[←d5]at d1;go_wp2_with fail
   go_loopg [7,10] (k-d) (fun X bt cg I=>∃(p:Nat) (q:List Nat) (lb:Option Addr) (T:Nat),cg=.int .i64 ((p:Int)-1)∧bt=.slice lb q.length T∧p=d+X∧p<K∧StepsIn ps qs d p x q∧bD I g (aJ ps q)∧I.ownsRow U.heap.size 3 1 (.slice lb q.length T) q.length (q.map (fun t:Nat=>Value.int .i64 (t:Int)))∧aa w I∧U.heap.size≤I.heap.size)
   case atStart=>exact⟨k,ss,O,S,rfl,rfl,by omega,cf,co.out,cn.out,bv.out,A,eg⟩
   case round=>
    obtain⟨p,q,lb,T,rfl,rfl,N,ec,I,Z,X,E,ek⟩:=hrel;have W:=Lib.hid I;have J:=Lib.hid Z;have a3:=Lib.hid X;clear I Z X;have bx:=Lib.hid N;clear N;by_cases I:d<p
    ·obtain⟨j,rfl⟩:∃j,p=j+1:=⟨p-1,by omega⟩;rw[show((j+1:Nat):Int)-1=(j:Int)from by omega];have d6:d≤j:=(by omega);have ed:j+1<(aJ ps q).length:=(by rw[eP,←z.out];exact ec);obtain⟨y,I⟩:∃b,(aJ ps q)[j]?=some b:=⟨_,List.getElem?_eq_getElem (by omega)⟩;have N:=W.out.dk;have c8:=J.out.cell I;have c9:=J.out.cell N;have c7:=Lib.hid I;have dk:=J.out.frozen j;have dl:=J.out.frozen (j+1);have X:g<wr.heap.size:=J.out.lt;clear I N;have bi:ae (fun I=>I=g) wr ((wr.setCell ⟨g,j,none⟩ (.int .i64 x)).setCell ⟨g,j+1,none⟩ (.int .i64 y)):=ae.setCell (F:=fun I=>I=g) (p:=⟨g,j+1,none⟩) (ae.setCell (F:=fun I=>I=g) (p:=⟨g,j,none⟩) (ae.refl _ _) (.inl rfl) _) (.inl rfl) _
     have b4:=bi.br (fun k A e=>by
      rcases a3.out.2 with⟨L,_⟩|⟨b3,am,c',L,d0,_⟩
      ·rw[L]at A;simp[Value.ownBlock]at A
      ·rw[L]at A;simp[Value.ownBlock]at A;omega) a3.out
     have b6:bD ((wr.setCell ⟨g,j,none⟩ (.int .i64 x)).setCell ⟨g,j+1,none⟩ (.int .i64 y)) g (aJ ps (q++[j])):=by
      rw[iZ];unfold aq;have db:(aJ ps q).getD (j+1) 0=x:=(by rw[List.getD_eq_getElem?_getD,W.out.dk];rfl);have dj:(aJ ps q).getD j 0=y:=(by rw[List.getD_eq_getElem?_getD,c7.out];rfl);rw[db,dj];exact(J.out.set j x (by omega)).set (j+1) y (by simpa using ed)
     have ab:=W.out.bx;have dB:ps.length*ps.length≤16*16:=Nat.mul_le_mul (by rw[←z.out];exact a8) (by rw[←z.out];exact a8)
     have d3:d*ps.length+ps.length≤ps.length*ps.length:=by
      have:=Nat.mul_le_mul_right ps.length (show d+1≤ps.length by rw[←z.out];omega);rwa[Nat.add_mul,Nat.one_mul]at this
     have d9:q.length+1≤256:=(by omega);have eu:q.length+1≤maxLen:=(by unfold maxLen;omega);have ev:(q.length+1)*8≤140737488355328:=(by omega);have cv:=Lib.hid b4;have c2:=Lib.hid b6;have c6:=Lib.hid bi;clear b4 b6 bi ab dB d3 d9;have I:=bq.size;go_upto_region 11 with fail
     go_cut [] (fun I=>aa ((wr.setCell ⟨g,j,none⟩ (.int .i64 x)).setCell ⟨g,j+1,none⟩ (.int .i64 y)) I)
     case first=>
      go_region
      all_goals go_wp2_with fail
      all_goals go_meet
      all_goals(exact kp)
     case rest=>
      obtain⟨a4,b8⟩:∃s,s=wc:=⟨_,rfl⟩;rw[←b8]at hcut ⊢;clear b8;have b5:=(hcut.av (fun _=>False)).br (fun _ _ h=>h) cv.out;have b7:=c2.out.U hcut;have bn:=c6.out.a' (hcut.av _);have s:=bn.size;have d7:aa w a4:=E.new bn (fun k e=>by subst e;exact cd);have c3:=Lib.hid b7;have bw:=Lib.hid b5;clear b5 b7 bn hcut c8 c9 dk dl
      go_wp2_with (first
       |(at_builtin;refine wpList_append_own _ rfl _ _ 22 rfl U.heap.size 3 ep (.int .i64 0) 1 8 Tryz.underlying22 hi el em en rfl (by decide) (.slice lb q.length T) q.length (q.map (fun t:Nat=>Value.int .i64 (t:Int))) rfl (bw.out.alloc _) ⟨a4.heap.size,0,none⟩ 1 1 [.int .i64 (j:Int)] rfl rfl (ez _ _ _ _ rfl) (by simp[Value.oneCell']) (by exact eu) (by exact ev) (by simp;omega) ?_;intro s ew br cb _)
       |fail)
      obtain⟨er,et,rfl,-⟩:=eO br;have aw:ae (fun k=>(Value.slice lb q.length T).ownBlock=some k) a4 ew:=ae.cy (by repeat (first|exact ae.refl _ _|refine ae.alloc ?_ _|refine ae.drew ?_)) cb (fun k A=>.inl A)
      have b9:∀k,(Value.slice lb q.length T).ownBlock=some k→U.heap.size≤k:=fun k E=>by
       rcases bw.out.2 with⟨L,_⟩|⟨b3,am,c',L,d0,_⟩
       ·rw[L]at E;simp[Value.ownBlock]at E
       ·rw[L]at E;simp[Value.ownBlock]at E;omega
      have s:=aw.size;have s:=c3.out.a5 aw (fun e=>by have:=b9 _ e;omega);have d8:=d7.new aw (fun k E=>by have:=b9 _ E;omega);have c4:=Lib.hid s;have cD:=Lib.hid br;clear br cb aw s;go_wp2_with fail
      go_roundg (gk-1)
      case rel=>exact⟨j,q++[j],er,et,rfl,by simp,by have:=bx.out;omega,by omega,W.out.next d6,c4.out,by have:=cD.out;simpa using this,d8,by omega⟩
      case measure=>have:=bx.out;omega
    ·have eb:p=d:=(by have:=W.out.low;omega);subst eb;have j:¬(p:Int)≤(p:Int)-1:=(by omega);have j:=W.out.out b2.out;have cy:=Lib.hid j;clear j;go_wp2_with fail
     go_roundg (a6-1)
     case rel=>exact⟨p+1,q,lb,T,by simp,rfl,by omega,cy.out,fun _=>⟨g,rfl,cd,J.out⟩,a3.out,E,ek⟩
     case measure=>omega
  ·have d2:d=K:=(by omega);subst d2
   have s:aJ ps ss=qs:=by
    have j:=Y.out;rw[z.out]at j;exact j.done a2.out
   have ab:=Y.out.bx;rw[←z.out]at ab;have j:=bv.out;have E:(Value.slice O ss.length S).ownBlock=none∨True:=.inr trivial;have q:wr.ownsRow w.heap.size 3 1 (.slice O ss.length S) ss.length (ss.map (fun t:Nat=>Value.int .i64 (t:Int))):=yr bq.size j;have cx:=Lib.hid q;have cl:=Lib.hid s;have cj:=Lib.hid ab;clear s ab j E q;go_wp2_with fail
   go_ret2
   exact⟨ss,O,S,rfl,cx.out,cl.out,fun t j=>by rw[z.out];exact Y.out.b1 t j,by have:=cj.out;exact this,A⟩

theorem zZ {n:Nat}{ts:List Bool}(j:ts.length=2 ^ n):fh n (bB ts)=ts:=by
 apply List.ext_getElem?;intro x;by_cases j:x<2 ^ n
 ·rw[qX j,vU (by omega),List.getD_eq_getElem?_getD,List.getElem?_eq_getElem (by omega)];rfl
 ·rw[List.getElem?_eq_none (by rw[qY];omega),List.getElem?_eq_none (by omega)]

theorem oS {w:World}{B n:Nat}{j:List Bool}(h:bu w B j)(s:j.length=2 ^ n):gV w (some ⟨B,0,none⟩) (fh n (bB j)):=by
 rw[zZ s];exact fun i b q=>⟨B,0,rfl,by rw[Nat.zero_add];exact h.cell q⟩

theorem wL {F:Nat→Prop}{w:World}{a1:Nat}{M:St}{ps ws:List Int}{x:Edge}(h:ag F w a1 M)(a0:Option Addr)(cap0:Nat)(W:aG w a0 ps)(ab:ar ps=true)(U:ps.length≤6)(a':M.n=(ps.length:Int))(f:Int)(L:1≤f∧f≤5)(aw:x.ok)(N:M.leads f x 0=true)(am:bH M f x 0)(a2:ay f M (ps.length+1) x=bj f ps.length (bR (hasB ws) ps 0) 0)(J:Option Addr)(T:Nat)(X:gV w J (fh ps.length ws)) :
  Calls Tryz.prog 57 #[.pointer (some ⟨a1,0,none⟩),.slice a0 ps.length cap0,.int .u8 f,.agg #[.int .u8 x.tag,.int .u32 x.to],.slice J (2 ^ ps.length) T] w fun r w'=>r=.returned (.bool true)∧aa w w':=by
 have a8:(0:Int)+(ps.length:Int)=M.n:=by omega
 have O:=fun(j:World) (q:aa w j)=>oW (h.U q) f x 0 aw
 rw[pO L N am]at O
 have A:=fun(j:World) (q:aa w j)=>Cf (h.U q) (by omega) f L (ps.length+1) (by omega) x aw (mE N (by omega))
 rw[show((ps.length+1:Nat):Int)-1=(ps.length:Int) by omega]at A
 have s:=fun(j:World) (q:aa w j)=>rM a0 cap0 ps ws J T f L j (W.U q) ab U (X.U q)
 rw[←a2]at s
 obtain⟨J,av⟩:∃J,J=ay f M (ps.length+1) x:=⟨_,rfl⟩
 rw[←av]at A s
 obtain⟨p,ad⟩:∃p,p=2 ^ ps.length:=⟨_,rfl⟩
 rw[←ad]at s ⊢
 obtain⟨n,Z⟩:∃n,n=ps.length:=⟨_,rfl⟩
 rw[←Z]at A s U ⊢
 have I:(w.alloc (.cells #[.int .u8 x.tag,.int .u32 x.to] 52)).cell? ⟨w.heap.size,0,none⟩=some (.int .u8 x.tag):=by simp[go_sem]
 have S:(w.alloc (.cells #[.int .u8 x.tag,.int .u32 x.to] 52)).cell? ⟨w.heap.size,1,none⟩=some (.int .u32 x.to):=by simp[go_sem]
 have E:aa w (w.alloc (.cells #[.int .u8 x.tag,.int .u32 x.to] 52)):=(aa.refl _).alloc _
 obtain⟨t,K⟩:∃t,t=w.alloc (.cells #[.int .u8 x.tag,.int .u32 x.to] 52):=⟨_,rfl⟩
 rw[←K]at I S E
 have a3:=Lib.hid (fun(j:World) (q:aa t j)=>O j (E.trans q))
 have a5:=Lib.hid (fun(j:World) (q:aa t j)=>A j (E.trans q))
 have a4:=Lib.hid (fun(j:World) (q:aa t j)=>s j (E.trans q))
 have a6:=Lib.hid K
 clear h W ab a' am X N O A s a2 av ad Z a8 K
 go_enter Tryz.func57,Tryz.ntmps57
 go_wp2_with fail
 rw[←a6.out]
 refine(a3.out _ (aa.refl _)).mono ?_
 rintro e bb ⟨rfl,z⟩
 replace I:=z.cell I
 replace S:=z.cell S
 have j:w.heap.size<bb.heap.size:=by have:=aD I;exact this
 go_wp2_with fail
 refine(a5.out _ z).mono ?_
 rintro e j ⟨rfl,Y⟩
 go_wp2_with fail
 refine(a4.out _ (z.trans Y)).mono ?_
 rintro e j ⟨rfl,a7⟩
 go_wp2_with fail
 go_ret
 exact⟨by simp,E.trans ((z.trans Y).trans a7)⟩

end Go.Proofs.YtafkamlhimkbmaaGreat
