/-
  Plain law of the steps that make one permutation to another one.
-/
import Derived.Test.YtafkamlhimkbmaaGreatPBuildW
import Derived.Test.YtafkamlhimkbmaaGreatPSwapU
namespace Go.Proofs.YtafkamlhimkbmaaGreat
set_option maxRecDepth 1000000
set_option maxHeartbeats 8000000
set_option linter.unusedSimpArgs false
set_option linter.unusedVariables false

structure ff (ps qs:List Int)(i:Nat)(ss:List Nat):Prop where
 c7:∀j,j<i→(bk ps ss)[j]?=qs[j]?
 b1:∀s∈ss,s+1<ps.length
 b0:ss.length≤i*ps.length

structure StepsIn (ps qs:List Int)(i p:Nat)(x:Int)(ss:List Nat):Prop where
 c7:∀j,j<i→(bk ps ss)[j]?=qs[j]?
 b1:∀s∈ss,s+1<ps.length
 b0:ss.length+p≤i*ps.length+ps.length
 da:(bk ps ss)[p]?=some x
 low:i≤p

theorem StepsIn.lt {ps qs:List Int}{i p:Nat}{x:Int}{ss:List Nat}(h:StepsIn ps qs i p x ss):p<ps.length:=by
 have:=(List.getElem?_eq_some_iff.1 h.da).1;rwa[eX]at this

theorem ff.start (ps qs:List Int):ff ps qs 0 []:=⟨fun s q=>by omega,(fun q j=>by cases j),by simp⟩

theorem StepsIn.next {ps qs:List Int}{i p:Nat}{x:Int}{ss:List Nat}(h:StepsIn ps qs i (p+1) x ss)(t:i≤p):StepsIn ps qs i p x (ss++[p]):=by
 have j:=h.lt;have q:p+1<(bk ps ss).length:=by rw[eX];exact j
 refine⟨fun A s=>?_,fun E z=>?_,?_,?_,t⟩
 ·rw[iX,gq q,if_neg (by omega),if_neg (by omega)];exact h.c7 A s
 ·rcases List.mem_append.1 z with g|g;·exact h.b1 E g
  ·simp at g;subst g;exact j
 ·have:=h.b0;rw[List.length_append,List.length_singleton];omega
 ·rw[iX,gq q,if_pos rfl];exact h.da

theorem StepsIn.out {ps qs:List Int}{i:Nat}{x:Int}{ss:List Nat}(h:StepsIn ps qs i i x ss)(q:qs[i]?=some x):ff ps qs (i+1) ss:=by
 refine⟨fun j s=>?_,h.b1,?_⟩
 ·by_cases e:j=i
  ·subst e;rw[h.da,q]
  ·exact h.c7 j (by omega)
 ·have:=h.b0;rw[Nat.add_mul];omega

theorem ff.low {ps qs:List Int}{i k:Nat}{x:Int}{ss:List Nat}(h:ff ps qs i ss)(s:aA qs=true)(t:qs[i]?=some x)(j:(bk ps ss)[k]?=some x):StepsIn ps qs i k x ss:=by
 have q:=(List.getElem?_eq_some_iff.1 j).1;rw[eX]at q;refine⟨h.c7,h.b1,by have:=h.b0;omega,j,?_⟩;apply Classical.byContradiction;intro q;have e:=h.c7 k (by omega);rw[j]at e;have:=iT (dp.1 s).2.2 t e.symm;omega

theorem ff.has {ps qs:List Int}{i:Nat}{x:Int}{ss:List Nat}(h:ff ps qs i ss)(j:aA ps=true)(t:aA qs=true)(q:ps.length=qs.length)(z:qs[i]?=some x):x∈bk ps ss:=by
 have q:=zm ss ps h.b1 j;have s:=(dp.1 t).2.1 x (List.mem_of_getElem? z);have j:=(kP.1 q).2;rw[eX]at j;exact j.symm.subset (gi.2 ⟨s.1,by omega⟩)

theorem ff.done {ps qs:List Int}{ss:List Nat}(h:ff ps qs ps.length ss)(j:ps.length=qs.length):bk ps ss=qs:=by
 apply List.ext_getElem?;intro j;by_cases q:j<ps.length;·exact h.c7 j q
 ·rw[List.getElem?_eq_none (by rw[eX];omega),List.getElem?_eq_none (by omega)]

open Go.RowKit

theorem vH (g cap:Nat)(ps:List Int)(x:Int)(w:World)(h:bz w g ps)(S:ps.length≤1048576)(L:x∈ps) :
  Calls Tryz.prog 168 #[.slice (some ⟨g,0,none⟩) ps.length cap,.int .i64 x] w fun e U=>(∃k:Nat,e=.returned (.int .i64 (k:Int))∧ps[k]?=some x)∧w=U:=by
 obtain⟨q,t⟩:∃q,q=ps.length:=⟨_,rfl⟩
 rw[←t]at S ⊢
 have H:=Lib.hid h
 have A:=Lib.hid t
 have N:=Lib.hid L
 clear h t L
 go_enter Tryz.func168,Tryz.ntmps168
 go_wp2_with fail
 go_loopg [5,8] q (fun gk t t wr=>∃d:Nat,t=.int .i64 (d:Int)∧d+gk=q∧(∀j,j<d→ps[j]?≠some x)∧w=wr)
 case atStart=>exact⟨0,rfl,by omega,fun j s=>by omega,rfl⟩
 case round=>
  obtain⟨d,rfl,W,K,rfl⟩:=hrel;have E:=Lib.hid K;clear K;by_cases T:d<q
  ·obtain⟨y,q⟩:∃b,ps[d]?=some b:=⟨_,List.getElem?_eq_getElem (by rw[←A.out];exact T)⟩;have t:=H.out.cell q;have I:=Lib.hid q;clear q;by_cases J:x=y
   ·subst J;go_wp2_with fail
    go_ret
    exact⟨⟨d,rfl,I.out⟩,rfl⟩
   ·go_wp2_with fail
    go_roundg (gk-1)
    case rel=>
     refine⟨d+1,by simp,by omega,fun j s z=>?_,rfl⟩;by_cases O:j=d
     ·subst O;rw[I.out]at z;exact J (Option.some.inj z).symm
     ·exact E.out j (by omega) z
    case measure=>omega
  ·exfalso;obtain⟨j,s⟩:=List.mem_iff_getElem?.1 N.out;have:=(List.getElem?_eq_some_iff.1 s).1;exact E.out j (by have:=A.out;omega) s

theorem xX {w:World}{lo j:Nat}{e:TypeId}{size:Nat}{v:Value}{n:Nat}{xs:List Value}(t:j≤lo)(h:w.ownsRow lo e size v n xs):w.ownsRow j e size v n xs:=by
 refine⟨h.1,?_⟩;rcases h.2 with z|⟨g,cap,j,q,s,rest⟩;·exact .inl z
 ·exact .inr ⟨g,cap,j,q,Nat.le_trans t s,rest⟩

theorem Ap (ad a5:Option Addr)(a6 cap2:Nat)(ps qs:List Int)(w:World)(a8:aL w ad ps)(bb:aL w a5 qs)(N:aA ps=true)(bt:aA qs=true)(av:ps.length=qs.length) :
  Calls Tryz.prog 105 #[.slice ad ps.length a6,.slice a5 qs.length cap2] w fun e ci=>∃(ss:List Nat) (Z:Option Addr) (am:Nat),e=.returned (.tuple #[.slice Z ss.length am,.bool true]) ∧
   ci.ownsRow w.heap.size 3 1 (.slice Z ss.length am) ss.length (ss.map (fun t:Nat=>Value.int .i64 (t:Int)))∧bk ps ss=qs∧(∀t∈ss,t+1<ps.length)∧ss.length≤ps.length*ps.length∧aa w ci:=by
 have a':=(dp.1 N).1
 have bg:=fun s (Z:aa w s)=>mH ad a6 ps s (a8.U Z) (by omega)
 have bi:=fun s (Z:aa w s)=>mH a5 cap2 qs s (bb.U Z) (by omega)
 have be:=fun s (Z:aa w s)=>lK ad a6 ps s (a8.U Z) (by omega)
 obtain⟨et,hi,en,ep,er⟩:=info_parts gM
 obtain⟨K,I⟩:∃K,K=ps.length:=⟨_,rfl⟩
 have Z:=fun(g cap:Nat) (ss:List Nat) (x:Int) (s:World) (ad:bz s g (bk ps ss)) (X:x∈bk ps ss)=>by
  have:=vH g cap (bk ps ss) x s ad (by rw[eX];omega) X;rw[eX,←I]at this;exact this
 rw[N,←I]at bg
 rw[bt,←av,←I]at bi
 rw[←I]at be
 rw[←av,←I]
 rw[←I]at a'
 have c2:=Lib.hid bg
 have c3:=Lib.hid bi
 have cl:=Lib.hid be
 have cv:=Lib.hid Z
 have z:=Lib.hid I
 have a2:=Lib.hid av
 have c1:=Lib.hid N
 have b1:=Lib.hid bt
 have cj:=Lib.hid bb
 clear bg bi be Z I av N bt a8 bb
 go_enter Tryz.func105,Tryz.ntmps105
 go_wp2_with fail
 refine(c2.out _ (by(exact kp))).mono ?_
 rintro e w1 ⟨rfl,rfl⟩
 go_wp2_with fail
 refine(c3.out _ (by(exact kp))).mono ?_
 rintro e I ⟨rfl,rfl⟩
 go_wp2_with fail
 refine(cl.out _ (by(exact kp))).mono ?_
 rintro e U ⟨dB,d0,rfl,I,br⟩
 have b2:=Lib.hid I
 clear I
 go_wp2_with fail
 go_loopg [7,8,9,10,30] K (fun gk bv I I ch I wr=>∃(d:Nat) (ss:List Nat) (O:Option Addr) (S:Nat),I=.int .i64 (d:Int)∧bv=.slice O ss.length S∧d+gk=K∧ff ps qs d ss∧jh w.heap.size wr dB (bk ps ss)∧wr.ownsRow U.heap.size 3 1 (.slice O ss.length S) ss.length (ss.map (fun t:Nat=>Value.int .i64 (t:Int)))∧aa w wr∧U.heap.size≤wr.heap.size)
 case atStart=>exact⟨0,[],none,0,rfl,rfl,by omega,ff.start ps qs,b2.out,World.ownsRow_nil _ _ _ _,br,Nat.le_refl _⟩
 case round=>
  obtain⟨d,ss,O,S,rfl,rfl,d3,ad,Z,I,A,el⟩:=hrel;have Y:=Lib.hid ad;have c7:=Lib.hid Z;have bw:=Lib.hid I;clear ad Z I;by_cases ec:d<K
  ·obtain⟨x,X⟩:∃b,qs[d]?=some b:=⟨_,List.getElem?_eq_getElem (by rw[←a2.out,←z.out];exact ec)⟩;obtain⟨b,off,rfl,cb⟩:=cj.out d x X;have I:=A.cell cb;have a1:=Y.out.has c1.out b1.out a2.out X;have b3:=Lib.hid X;obtain⟨g,rfl,ce,bq⟩:=c7.out (fun e=>by rw[e]at a1;cases a1)
   have I:g<U.heap.size:=by
    obtain⟨b4,dj,_,ek⟩:=b2.out (fun e=>by rw[e]at z;have:=z.out;simp at this;omega);cases dj;exact ek.lt
   have I:=cv.out g d0 ss x wr bq a1;have cp:=Lib.hid bq;have cx:=Lib.hid I;clear I a1 cb X bq;go_wp2_with fail
   refine cx.out.mono ?_;rintro e I ⟨⟨k,rfl,cf⟩,rfl⟩;have I:=Y.out.low b1.out b3.out cf;have cg:=I.lt;have X:=I.low;have cq:=Lib.hid I;clear cf I;rw[←z.out]at cg;obtain⟨a7,d7⟩:∃a7,a7=gk:=⟨_,rfl⟩;rw[←d7]at d3;go_wp2_with fail
   go_loopg [7,10] (k-d) (fun X bv ch I=>∃(p:Nat) (q:List Nat) (lb:Option Addr) (T:Nat),ch=.int .i64 ((p:Int)-1)∧bv=.slice lb q.length T∧p=d+X∧p<K∧StepsIn ps qs d p x q∧bz I g (bk ps q)∧I.ownsRow U.heap.size 3 1 (.slice lb q.length T) q.length (q.map (fun t:Nat=>Value.int .i64 (t:Int)))∧aa w I∧U.heap.size≤I.heap.size)
   case atStart=>exact⟨k,ss,O,S,rfl,rfl,by omega,cg,cq.out,cp.out,bw.out,A,el⟩
   case round=>
    obtain⟨p,q,lb,T,rfl,rfl,N,ee,I,Z,X,E,em⟩:=hrel;have W:=Lib.hid I;have J:=Lib.hid Z;have a3:=Lib.hid X;clear I Z X;have b0:=Lib.hid N;clear N;by_cases I:d<p
    ·obtain⟨j,rfl⟩:∃j,p=j+1:=⟨p-1,by omega⟩;rw[show((j+1:Nat):Int)-1=(j:Int)from by omega];have d8:d≤j:=(by omega);have eg:j+1<(bk ps q).length:=(by rw[eX,←z.out];exact ee);obtain⟨y,I⟩:∃b,(bk ps q)[j]?=some b:=⟨_,List.getElem?_eq_getElem (by omega)⟩;have N:=W.out.da;have c':=J.out.cell I;have da:=J.out.cell N;have c9:=Lib.hid I;have dr:=J.out.frozen j;have ds:=J.out.frozen (j+1);have X:g<wr.heap.size:=J.out.lt;clear I N;have bn:ae (fun I=>I=g) wr ((wr.setCell ⟨g,j,none⟩ (.int .i64 x)).setCell ⟨g,j+1,none⟩ (.int .i64 y)):=ae.setCell (F:=fun I=>I=g) (p:=⟨g,j+1,none⟩) (ae.setCell (F:=fun I=>I=g) (p:=⟨g,j,none⟩) (ae.refl _ _) (.inl rfl) _) (.inl rfl) _
     have b5:=bn.bq (fun k A e=>by
      rcases a3.out.2 with⟨L,_⟩|⟨b4,am,db,L,d2,_⟩
      ·rw[L]at A;simp[Value.ownBlock]at A
      ·rw[L]at A;simp[Value.ownBlock]at A;omega) a3.out
     have b7:bz ((wr.setCell ⟨g,j,none⟩ (.int .i64 x)).setCell ⟨g,j+1,none⟩ (.int .i64 y)) g (bk ps (q++[j])):=by
      rw[iX];unfold bG;have dk:(bk ps q).getD (j+1) 0=x:=(by rw[List.getD_eq_getElem?_getD,W.out.da];rfl);have dl:(bk ps q).getD j 0=y:=(by rw[List.getD_eq_getElem?_getD,c9.out];rfl);rw[dk,dl];exact(J.out.set j x (by omega)).set (j+1) y (by simpa using eg)
     have ab:=W.out.b0;have d1:ps.length*ps.length≤16*16:=Nat.mul_le_mul (by rw[←z.out];exact a') (by rw[←z.out];exact a')
     have d6:d*ps.length+ps.length≤ps.length*ps.length:=by
      have:=Nat.mul_le_mul_right ps.length (show d+1≤ps.length by rw[←z.out];omega);rwa[Nat.add_mul,Nat.one_mul]at this
     have eb:q.length+1≤256:=(by omega);have ew:q.length+1≤maxLen:=(by unfold maxLen;omega);have eR:(q.length+1)*8≤140737488355328:=(by omega);have cy:=Lib.hid b5;have c4:=Lib.hid b7;have c8:=Lib.hid bn;clear b5 b7 bn ab d1 d6 eb;have I:=br.size;go_upto_region 11 with fail
     go_cut [] (fun I=>aa ((wr.setCell ⟨g,j,none⟩ (.int .i64 x)).setCell ⟨g,j+1,none⟩ (.int .i64 y)) I)
     case first=>
      go_region
      all_goals go_wp2_with fail
      all_goals go_meet
      all_goals(exact kp)
     case rest=>
      obtain⟨a4,b9⟩:∃s,s=wc:=⟨_,rfl⟩;rw[←b9]at hcut ⊢;clear b9;have b6:=(hcut.av (fun _=>False)).bq (fun _ _ h=>h) cy.out;have b8:=c4.out.U hcut;have bp:=c8.out.a' (hcut.av _);have s:=bp.size;have d9:aa w a4:=E.new bp (fun k e=>by subst e;exact ce);have c5:=Lib.hid b8;have bx:=Lib.hid b6;clear b6 b8 bp hcut c' da dr ds
      go_wp2_with (first
       |(at_builtin;refine wpList_append_own _ rfl _ _ 22 rfl U.heap.size 3 et (.int .i64 0) 1 8 Tryz.underlying22 hi en ep er rfl (by decide) (.slice lb q.length T) q.length (q.map (fun t:Nat=>Value.int .i64 (t:Int))) rfl (bx.out.alloc _) ⟨a4.heap.size,0,none⟩ 1 1 [.int .i64 (j:Int)] rfl rfl (dZ _ _ _ _ rfl) (by simp[Value.oneCell']) (by exact ew) (by exact eR) (by simp;omega) ?_;intro s eS bs cd _)
       |fail)
      obtain⟨eu,ev,rfl,-⟩:=ej bs;have aw:ae (fun k=>(Value.slice lb q.length T).ownBlock=some k) a4 eS:=ae.ca (by repeat (first|exact ae.refl _ _|refine ae.alloc ?_ _|refine ae.drew ?_)) cd (fun k A=>.inl A)
      have ca:∀k,(Value.slice lb q.length T).ownBlock=some k→U.heap.size≤k:=fun k E=>by
       rcases bx.out.2 with⟨L,_⟩|⟨b4,am,db,L,d2,_⟩
       ·rw[L]at E;simp[Value.ownBlock]at E
       ·rw[L]at E;simp[Value.ownBlock]at E;omega
      have s:=aw.size;have s:=c5.out.a4 aw (fun e=>by have:=ca _ e;omega);have ea:=d9.new aw (fun k E=>by have:=ca _ E;omega);have c6:=Lib.hid s;have c0:=Lib.hid bs;clear bs cd aw s;go_wp2_with fail
      go_roundg (gk-1)
      case rel=>exact⟨j,q++[j],eu,ev,rfl,by simp,by have:=b0.out;omega,by omega,W.out.next d8,c6.out,by have:=c0.out;simpa using this,ea,by omega⟩
      case measure=>have:=b0.out;omega
    ·have ed:p=d:=(by have:=W.out.low;omega);subst ed;have j:¬(p:Int)≤(p:Int)-1:=(by omega);have j:=W.out.out b3.out;have cS:=Lib.hid j;clear j;go_wp2_with fail
     go_roundg (a7-1)
     case rel=>exact⟨p+1,q,lb,T,by simp,rfl,by omega,cS.out,fun _=>⟨g,rfl,ce,J.out⟩,a3.out,E,em⟩
     case measure=>omega
  ·have d5:d=K:=(by omega);subst d5
   have s:bk ps ss=qs:=by
    have j:=Y.out;rw[z.out]at j;exact j.done a2.out
   have ab:=Y.out.b0;rw[←z.out]at ab;have j:=bw.out;have E:(Value.slice O ss.length S).ownBlock=none∨True:=.inr trivial;have q:wr.ownsRow w.heap.size 3 1 (.slice O ss.length S) ss.length (ss.map (fun t:Nat=>Value.int .i64 (t:Int))):=xX br.size j;have cD:=Lib.hid q;have co:=Lib.hid s;have cn:=Lib.hid ab;clear s ab j E q;go_wp2_with fail
   go_ret2
   exact⟨ss,O,S,rfl,cD.out,co.out,fun t j=>by rw[z.out];exact Y.out.b1 t j,by have:=cn.out;exact this,A⟩

theorem tk {F Fo:Nat→Prop}{w:World}{O U:Nat}{M:St}{ps ws:List Int}(h:ag F w O M)(ab:bA Fo w U ps)(bp:∀k,F k→¬Fo k)(Z:M.n=(ps.length:Int))(f:Int)(S:bD f=true)
  (z:Option Addr) (len cap:Nat) (a2:ws.length=len) (br:len≤1048576) (J:gE w z ws) (bw:∀b off,z=some ⟨b,off,none⟩→¬F b) (N:ey (ps.length:Int) ws=true) (bx:M.len+((2 ^ ps.length-1:Nat):Int)≤M.room) :
  Calls Tryz.prog 45 #[.pointer (some ⟨O,0,none⟩),.pointer (some ⟨U,0,none⟩),.int .u8 f,.agg #[.int .i64 (ps.length:Int),.slice z len cap]] w (iD f F w O M (hasB ws) ps 0 0):=by
 have a3:=dp.1 ab.perm
 have bt:=fun(j:World) (t:aa w j)=>tj (h.U t) (ab.U t) Z f S
 have c0:0<ws.length:=by have:=(ix.1 N).2.1;omega
 have aw:=fun(j:World) (I:Nat) (t:aa w j) (cg:w.heap.size≤I) (cg:j.cell? ⟨I,0,none⟩=some (.pointer (some ⟨O,0,none⟩))) (ch:j.cell? ⟨I,1,none⟩=some (.pointer (some ⟨U,0,none⟩))) (ci:j.cell? ⟨I,2,none⟩=some (.int .u8 f)) (cj:j.cell? ⟨I,3,none⟩=some (.int .i64 (ps.length:Int))) (cl:j.cell? ⟨I,4,none⟩=some (.slice z len cap))=>by
  have cS:¬F I:=fun cn=>by have:=h.lt _ cn;omega
  have cy:eA F Fo j O U I f ps.length ps ws z len cap:=⟨cg,ch,ci,cj,cl,cS,J.U t,bw,ab.U t,fun k I cn=>bp k cn I⟩;have:=sJ f S a2 br N rfl a3.2.1 ps [] rfl F j M 0 (h.U t) cy (Nat.pow_pos (by decide)) Z bx;exact this
 have am:=fun(j:World) (t:aa w j)=>dz (h.U t)
 have ad:=fun(j:World) (t:aa w j)=>qx (ps.length:Int) z len cap ws j a2 br (J.U t)
 rw[N]at ad
 rw[Z]at am
 have bs:=h.lt
 have b8:=Lib.hid bs
 obtain⟨n,bv⟩:∃n,n=ps.length:=⟨_,rfl⟩
 rw[←bv]at aw am ad ⊢
 have b9:=Lib.hid bt
 have b6:=Lib.hid aw
 have ce:=Lib.hid am
 have cb:=Lib.hid ad
 have t:n≤16:=by have:=a3.1;omega
 clear h ab bp Z a2 J bw N bx a3 bt c0 aw am ad bs bv
 go_enter Tryz.func45,Tryz.ntmps45
 go_wp2_with fail
 refine(b9.out _ (by(exact kp))).mono ?_
 rintro r w1 ⟨rfl,K⟩
 have a4:=K.cell (a:=⟨w.heap.size,0,none⟩) (v:=.int .i64 (n:Int)) (by simp[go_sem])
 have a5:=K.cell (a:=⟨w.heap.size,1,none⟩) (v:=.slice z len cap) (by simp[go_sem])
 have a':=K.cell (a:=⟨w.heap.size+1,0,none⟩) (v:=.int .u8 0) (by simp[go_sem])
 have bb:=K.cell (a:=⟨w.heap.size+1,1,none⟩) (v:=.int .u32 0) (by simp[go_sem])
 have be:=fun o:Nat=>K.a2 (a:=⟨w.heap.size+1,o,none⟩) (by simp) (by simp[go_sem])
 have c4:=K.size
 simp only[World.size_alloc]at c4
 have a1:aa w w1:=(((aa.refl w).alloc _).alloc _).trans K
 go_wp2_with fail
 have cf:=Lib.hid (fun(j:World) (J:aa w1 j)=>ce.out j (a1.trans J))
 have cd:=Lib.hid (fun(j:World) (J:aa w1 j)=>cb.out j (a1.trans J))
 have c2:=ai.cell a4
 have c3:=ai.cell a5
 refine dO (w1) (by kernel_rfl) (by kernel_rfl) (by(exact kp)) ?_;(repeat (go_big_quiet_step ((first|(go_at_call 97;with_reducible refine Calls.b4 (cd.out _ (ai.a4 _)))|(go_at_call 48;with_reducible refine Calls.ed (cf.out _ (ai.a4 _)))))));refine wpQuiet_nil ?_;rintro E ⟨⟨_,L⟩,rfl⟩;try dsimp only
 replace a4:=L.cell a4
 replace a5:=L.cell a5
 replace a':=L.cell a'
 replace bb:=L.cell bb
 replace be:=fun o:Nat=>L.a2 (a:=⟨w.heap.size+1,o,none⟩) (by dsimp only;omega) (be o)
 have j:=L.size
 have Y:=a1.trans L
 clear c2 c3
 go_wp2_with fail
 obtain⟨s,A⟩:∃s,s=E.alloc (.cells #[.pointer (some ⟨O,0,none⟩),.pointer (some ⟨U,0,none⟩),.int .u8 f,.int .i64 (n:Int),.slice z len cap] 175):=⟨_,rfl⟩
 have X:aa E s:=by rw[A];exact(aa.refl _).alloc _
 have co:s.cell? ⟨E.heap.size,0,none⟩=some (.pointer (some ⟨O,0,none⟩)):=by rw[A];simp[go_sem]
 have cp:s.cell? ⟨E.heap.size,1,none⟩=some (.pointer (some ⟨U,0,none⟩)):=by rw[A];simp[go_sem]
 have cq:s.cell? ⟨E.heap.size,2,none⟩=some (.int .u8 f):=by rw[A];simp[go_sem]
 have cv:s.cell? ⟨E.heap.size,3,none⟩=some (.int .i64 (n:Int)):=by rw[A];simp[go_sem]
 have cx:s.cell? ⟨E.heap.size,4,none⟩=some (.slice z len cap):=by rw[A];simp[go_sem]
 have j:s.heap.size=E.heap.size+1:=by rw[A];simp
 rw[←A]
 clear A
 have a7:=X.cell a'
 have a8:=X.cell bb
 have b4:=fun o:Nat=>X.a2 (a:=⟨w.heap.size+1,o,none⟩) (by dsimp only;omega) (be o)
 refine(b6.out s E.heap.size (Y.trans X) Y.size co cp cq cv cx).mono ?_
 rintro r c5 ⟨e,M',rfl,N,bn,bq,T⟩
 have av:¬F (w.heap.size+1):=fun S=>by have:=b8.out _ S;omega
 replace a7:=T.cell av a7
 replace a8:=T.cell av a8
 replace b4:=fun o:Nat=>T.a2 (b:=w.heap.size+1) (o:=o) (by omega) av (b4 o)
 have c1:w.heap.size+1<c5.heap.size:=by have:=T.av.size;omega
 have b3:=(bC.after (Y.trans X) T).av
 obtain⟨⟨bg,b1,a6⟩,-⟩:=T
 have b0:¬bg (w.heap.size+1):=fun S=>by
  rcases a6 _ S with q|q;·exact av q
  ·omega
 have b2:∀W,bg W→F W∨w.heap.size≤W:=fun W cD=>by
  rcases a6 W cD with q|q;·exact .inl q
  ·right;have:=Y.size;omega
 have bi:=Lib.hid (bC.g5 b1 b2 b3 b0 (Nat.le_succ _))
 have ca:=Lib.hid N
 have b5:=Lib.hid bn
 have b7:=Lib.hid bq
 clear N bn bq b1 a6 b2 b3 b0
 go_wp2_with fail
 all_goals refine bodyPost_ret (v:=.tuple #[.agg #[.int .u8 e.tag,.int .u32 e.to],.int .u8 0]) (by simp[results,Tryz.results45,go_sem,c1,a7,a8]) rfl ?_
 all_goals refine⟨e,M',rfl,ca.out,b5.out,b7.out,?_⟩
 all_goals first|exact(bi.out _ _)|exact(bi.out _ _).U (by(exact kp))

theorem Cb {f:Int}{M M':St}(q:au M M')(hF:cN f M){n:Nat}{e:Edge}{l:Int}(h:At f M e l n):ar f M' n e=ar f M n e:=
 BV (Ca hF (roots:=[e.to]) (fun id hid=>by
  cases j:look M.cs id with
  |none=>exact absurd j hid.some
  |some r=>exact q.sub _ _ j) n e l h (fun s=>Reaches.root (by simp) s))

theorem qk {f:Int}(j:1≤f∧f≤5){M:St}(hF:cN f M){k:Nat}{x:Edge}(q:M.leads f x 0=true)(E:bE M f x 0)(s:0≤x.to)(z:eZ M)(t:M.n=(k:Int))(A:M.len+((2 ^ k:Nat):Int)≤1048576):ar f M (k+1) x=bd f k (cz M f x 0) 0:=by
 obtain⟨M',t,I,K,L,N,J⟩:=ze (k:=k) j hF.wf A s z q E (Int.le_refl _) (by omega);have z:=BB I j J (by rw[t.n];omega) (Int.le_refl _) k (Nat.le_refl _);rw[←z];exact(Cb t hF (l:=0) ⟨q,s,by push_cast;omega⟩).symm

def iM (n:Nat)(has:Nat→Bool):List Bool:=(List.range (2 ^ n)).map has

theorem oT {n:Nat}{has:Nat→Bool}{j:Nat}(h:j<2 ^ n):(iM n has)[j]?=some (has j):=by
 unfold iM;rw[List.getElem?_map,List.getElem?_range h];rfl

theorem AI {M:St}{f:Int}{ps:List Int}{x:Edge}{has:Nat→Bool}(t:aA ps=true)(s:M.n=(ps.length:Int))(h:cz M f x 0=bO has ps 0):tabP M ps f x=iM ps.length has:=by
 apply List.ext_getElem?;intro q;by_cases j:q<2 ^ ps.length;·rw[qU j,←qQ s,h,lF,mM t j,oT j]
 ·rw[List.getElem?_eq_none (by rw[AJ];omega),List.getElem?_eq_none (by unfold iM;simp;omega)]

theorem qT {M:St}{f:Int}{ps:List Int}{x:Edge}{has:Nat→Bool}(s:aA ps=true)(t:M.n=(ps.length:Int))(h:tabP M ps f x=iM ps.length has):cz M f x 0=bO has ps 0:=by
 apply List.ext_getElem?;intro y;have A:(cz M f x 0).length=2 ^ ps.length:=by rw[nh];congr 1;omega
 by_cases q:y<2 ^ ps.length
 ·obtain⟨z,j,rfl⟩:=oH s q;have q:=qU (M:=M) (f:=f) (e:=x) j;rw[h,oT j]at q;rw[qQ t,←q,lF,mM s j]
 ·rw[List.getElem?_eq_none (by omega),List.getElem?_eq_none (by rw[fW];omega)]

noncomputable def eF (M:St):List (Int×Edge)→Int
 |[]=>0
 |r::rs=>if bD r.1=false then 4 else if gN M r.1 r.2 0=false then 1 else eF M rs

theorem pJ (M:St)(r:Int×Edge)(rs:List (Int×Edge)):eF M (r::rs)=if bD r.1=false then 4 else if gN M r.1 r.2 0=false then 1 else eF M rs:=rfl

theorem qB {F:Nat→Prop}{w:World}{aw:Nat}{M:St}(h:ag F w aw M)(a:Option Addr)(cap:Nat)(rs:List (Int×Edge))(av:dJ w a rs)(a5:rs.length≤1048576) :
  Calls Tryz.prog 49 #[.pointer (some ⟨aw,0,none⟩),.slice a rs.length cap] w fun e T=>e=.returned (.int .u8 (eF M rs))∧aa w T:=by
 have a1:=Lib.hid (fun(f:Int) (v:Edge) (aw:v.ok) (K:World) (ad:aa w K)=>oA (h.U ad) f v 0 aw)
 obtain⟨z,ab⟩:∃z,z=rs.length:=⟨_,rfl⟩
 rw[←ab]at a5 ⊢
 have a2:=Lib.hid av
 have am:=Lib.hid ab
 clear h av ab
 go_enter Tryz.func49,Tryz.ntmps49
 go_wp2
 go_loopg [9] z (fun gk ab wr=>∃d:Nat,ab=.int .i64 (d:Int)∧d+gk=z∧eF M (rs.drop d)=eF M rs∧aa w wr)
 case atStart=>exact⟨0,rfl,by omega,rfl,by(exact kp)⟩
 case round=>
  obtain⟨d,rfl,ab,j,O⟩:=hrel;have W:=Lib.hid j;clear j;by_cases a6:d<z
  ·obtain⟨r,I⟩:∃b,rs[d]?=some b:=⟨_,List.getElem?_eq_getElem (by rw[←am.out];exact a6)⟩;obtain⟨a3,E,b,off,rfl,X,Y,Z⟩:=a2.out d r I;replace X:=O.cell X;replace Y:=O.cell Y;replace Z:=O.cell Z
   have N:rs.drop d=r::rs.drop (d+1):=by
    obtain⟨hi,z⟩:=List.getElem?_eq_some_iff.1 I;rw[List.drop_eq_getElem_cons hi,z]
   have j:=W.out;rw[N]at j;rw[pJ]at j;obtain⟨f,e⟩:=r;have q:=ij f;have s:=fun(K:World) (ad:aa w K)=>a1.out f e E K ad;dsimp only at a3 E X Y Z j;cases A:bD f with
   |false=>
    rw[A]at q j;have J:=Lib.hid q;have t:Hid (eF M rs=4):=Lib.hid (by rw[←j];simp);clear j q s N I E A;go_wp2_with (first|(go_at_call 100;refine(J.out _).mono ?_;rintro L T ⟨rfl,rfl⟩)|fail)
    go_ret
    exact⟨by rw[t.out];rfl,by(exact kp)⟩
   |true=>
    rw[A]at q j;have J:=Lib.hid q;cases S:gN M f e 0 with
    |false=>
     rw[S]at s j;have U:=Lib.hid s;have t:Hid (eF M rs=1):=Lib.hid (by rw[←j];simp);clear j q s N I E A S;go_wp2_with (first|(go_at_call 100;refine(J.out _).mono ?_;rintro L T ⟨rfl,rfl⟩)|(go_at_call 92;refine(U.out _ (by(exact kp))).mono ?_;rintro L a7 ⟨rfl,a4⟩)|fail)
     go_ret
     exact⟨by rw[t.out];rfl,by(exact kp)⟩
    |true=>
     rw[S]at s j;have U:=Lib.hid s;have t:Hid (eF M (rs.drop (d+1))=eF M rs):=Lib.hid (by rw[←j];simp);clear j q s N I E A S;go_wp2_with (first|(go_at_call 100;refine(J.out _).mono ?_;rintro L T ⟨rfl,rfl⟩)|(go_at_call 92;refine(U.out _ (by(exact kp))).mono ?_;rintro L a7 ⟨rfl,a4⟩)|fail)
     go_roundg (gk-1)
     case rel=>exact⟨d+1,by simp,by omega,t.out,by(exact kp)⟩
     case measure=>omega
  ·have t:Hid (eF M rs=0):=Lib.hid (by rw[←W.out,List.drop_of_length_le (by rw[←am.out];omega)];rfl);clear W;go_wp2_with fail
   go_ret
   exact⟨by rw[t.out];rfl,O⟩

theorem zU {F Fo:Nat→Prop}{w:World}{I A:Nat}{M:St}{ps:List Int}(h:ag F w I M)(J:bA Fo w A ps) :
  Calls Tryz.prog 47 #[.pointer (some ⟨I,0,none⟩),.pointer (some ⟨A,0,none⟩)] w fun e j=>e=.returned (.int .u8 (if M.n=(ps.length:Int)then 0 else 1))∧aa w j:=by
 have z:=Lib.hid (fun(A:World) (I:aa w A)=>dz (h.U I))
 have t:=Lib.hid (fun(A:World) (I:aa w A)=>mE (J.U I))
 have N:=h.wf.n0
 have O:=h.wf.br
 have S:=J.le
 obtain⟨q,K⟩:∃q,q=ps.length:=⟨_,rfl⟩
 obtain⟨n,L⟩:∃n,n=M.n:=⟨_,rfl⟩
 rw[←K]at t S ⊢
 rw[←L]at z N O ⊢
 clear h J K L
 by_cases s:n=(q:Int)
 ·rw[if_pos s];subst s;go_enter Tryz.func47,Tryz.ntmps47
  go_wp2_with (first|(go_at_call 48;refine(z.out _ (by(exact kp))).mono ?_;rintro E j ⟨rfl,rfl⟩)|(go_at_call 99;refine(t.out _ (by(exact kp))).mono ?_;rintro E j ⟨rfl,rfl⟩)|fail)
  go_ret
  exact⟨rfl,by(exact kp)⟩
 ·rw[if_neg s];have A:(n !=(q:Int))=true:=by simp[s]
  go_enter Tryz.func47,Tryz.ntmps47
  go_wp2_with (first|(go_at_call 48;refine(z.out _ (by(exact kp))).mono ?_;rintro E j ⟨rfl,rfl⟩)|(go_at_call 99;refine(t.out _ (by(exact kp))).mono ?_;rintro E j ⟨rfl,rfl⟩)|fail)
  go_ret
  exact⟨rfl,by(exact kp)⟩

open Go.ChangeShapes Go.WideShapes Go.ChangeAt Go.RowKit

def iF (w:World)(a:Option Addr)(len:Nat)(ws:List (Int×Int)):Prop:=
 ws.length=len∧∀i x,ws[i]?=some x→(0≤x.1∧x.1≤255)∧(0≤x.2∧x.2≤18446744073709551615)∧∃b off,a=some ⟨b,off,none⟩∧w.cell? ⟨b,off+i*2,none⟩=some (.int .u8 x.1)∧w.cell? ⟨b,off+i*2+1,none⟩=some (.int .u64 x.2)

theorem iF.U {w q:World}{a:Option Addr}{len:Nat}{ws:List (Int×Int)}(h:iF w a len ws)(j:aa w q):iF q a len ws:=
 ⟨h.1,fun i x E=>by
  obtain⟨t,z,b,off,A,q,s⟩:=h.2 i x E
  exact⟨t,z,b,off,A,j.cell q,j.cell s⟩⟩

instance:Inhabited (Int×Int):=⟨(0,0)⟩

theorem Cj {x:Int}(h:(Lit.int .u64 x).wf=true):0≤x∧x≤18446744073709551615:=by
 unfold Lit.wf at h;simp only[Bool.and_eq_true,decide_eq_true_eq]at h;exact h

theorem Ci {H:Type}{enc:TypeId×Value→H}{J:World}{K:Nat}{N:Nat→Bool}{held:Bool}{n:Nat}{cs:List Value}{x:DataW H×List MemPlace}
  (h:DataW.trod enc Tryz.prog J K N held n 98 cs=some x):∃r:Int×Int,((0≤r.1∧r.1≤255)∧(0≤r.2∧r.2≤18446744073709551615))∧cs=[.int .u8 r.1,.int .u64 r.2]:=by
 obtain⟨xs,m,_,_,A,L,z⟩:=DataW.trod_struct Tryz.underlying98 h
 have J:Tryz.prog.cellsOf 98=2:=by kernel_rfl
 have I:Tryz.prog.cellsOf 5=1:=by kernel_rfl
 have E:Tryz.prog.cellsOf 56=1:=by kernel_rfl
 rw[J]at A
 have j:=z 0 _ rfl
 have q:=z 1 _ rfl
 rw[List.getElem?_eq_getElem (by rw[L];decide)]at j q
 obtain⟨a,s,_,O⟩:=DataW.trod_int Tryz.underlying5 j
 obtain⟨b,t,_,wb⟩:=DataW.trod_int Tryz.underlying56 q
 match cs,A with
 |[j,q],_=>
  simp[I,E]at s t;refine⟨(a,b),⟨wf_u8 O,Cj wb⟩,?_⟩;rw[s,t]

theorem xS {H:Type}{enc:TypeId×Value→H}{s:World}{z:Nat}{J:Nat→Bool}{held:Bool}{a:Option Addr}{len cap:Nat}{d:DataW H}{p:List MemPlace}
  (h:DataW.Trod enc Tryz.prog s z J held 23 (.slice a len cap) d p):∃ws:List (Int×Int),iF s a len ws:=by
 obtain⟨rs,q,j⟩:=pU (k:=2) (fun(r:Int×Int) cs=>((0≤r.1∧r.1≤255)∧(0≤r.2∧r.2≤18446744073709551615))∧cs=[.int .u8 r.1,.int .u64 r.2]) Tryz.underlying23 (by kernel_rfl) (by decide) (fun n cs x I=>by
  obtain⟨r,q,j⟩:=Ci I
  exact⟨by rw[j];rfl,r,q,j⟩) h
 refine⟨rs,q,fun i r E=>?_⟩
 obtain⟨b,off,cs,A,⟨t,rfl⟩,q⟩:=j i r E
 have j:=q 0 (by decide)
 rw[Nat.add_zero]at j
 exact⟨t.1,t.2,b,off,A,j,q 1 (by decide)⟩

theorem qX (a0:Option Addr)(cap0:Nat)(ps ws:List Int)(I:Option Addr)(K:Nat)(f:Int)(X:1≤f∧f≤5)(w:World)(N:aL w a0 ps)(J:aA ps=true)(L:ps.length≤6)(O:gW w I (eY ps.length ws)) :
  Calls Tryz.prog 64 #[.slice a0 ps.length cap0,.int .u8 f,.slice I (2 ^ ps.length) K] w fun e j=>e=.returned (.string (bd f ps.length (bO (hasB ws) ps 0) 0))∧aa w j:=by
 have a1:2 ^ ps.length≤2 ^ 6:=Nat.pow_le_pow_right (by decide) L
 have aw:(2:Nat) ^ 6=64:=rfl
 have A:=fun(j:World) (T:aa w j)=>AH a0 cap0 ps I K (eY ps.length ws) j (N.U T) J (O.U T) (qz _ _)
 have q:=fun(t:List Bool) (K:t.length=2 ^ ps.length) (h:∀I,I<2 ^ ps.length→t[aP I ps]?=(eY ps.length ws)[I]?)=>AM J K h
 have s:=fun(B:Nat) (j:World) (z:bm j B (bO (hasB ws) ps 0))=>AY f X ps.length (by omega) 0 (2 ^ ps.length) (bO (hasB ws) ps 0) 0 j (wz z) (fW _ _ _) (Nat.le_refl _) (by omega) (by omega) (by omega)
 obtain⟨E,S⟩:∃E,E=bO (hasB ws) ps 0:=⟨_,rfl⟩
 rw[←S]at q s ⊢
 obtain⟨j,hS⟩:∃j,j=eY ps.length ws:=⟨_,rfl⟩
 rw[←hS]at A q
 obtain⟨n,Y⟩:∃n,n=ps.length:=⟨_,rfl⟩
 rw[←Y]at A q s ⊢
 obtain⟨j,Z⟩:∃j,j=bd f n E 0:=⟨_,rfl⟩
 rw[←Z]at s ⊢
 have ad:=Lib.hid A
 have ab:=Lib.hid q
 have av:=Lib.hid s
 clear A q s N J O L a1 aw S hS Y Z X
 go_enter Tryz.func64,Tryz.ntmps64
 go_wp2_with fail
 refine(ad.out _ (by(exact kp))).mono ?_
 rintro e w1 ⟨B,t,rfl,z,W,U,j⟩
 have a2:=ab.out t W U
 subst a2
 have am:=Lib.hid (av.out B _ z)
 clear z W U
 go_wp2_with fail
 refine am.out.mono ?_
 rintro e j ⟨rfl,j⟩
 go_wp2_with fail
 go_ret
 exact⟨rfl,by(exact kp)⟩

end Go.Proofs.YtafkamlhimkbmaaGreat
