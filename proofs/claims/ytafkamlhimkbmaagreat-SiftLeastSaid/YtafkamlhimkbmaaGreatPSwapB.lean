/-
  The walk of swap.all.
-/
import Derived.Test.YtafkamlhimkbmaaGreatPBuildW
import Derived.Test.YtafkamlhimkbmaaGreatPSwapW
namespace Go.Proofs.YtafkamlhimkbmaaGreat
set_option maxRecDepth 1000000
set_option maxHeartbeats 8000000
set_option linter.unusedSimpArgs false
set_option linter.unusedVariables false
open Go.RowKit

def iB (F Fo:Nat→Prop)(w:World)(j s:Nat)(M:St)(ps:List Int)(ss:List Nat)(rs:List (Int×Edge))(c:Int)(r:Ending)(q:World):Prop:=
 ∃(g:Nat) (es:List Edge) (M':St) (F':Nat→Prop),r=.returned (.tuple #[.slice (some ⟨g,0,none⟩) rs.length rs.length,.int .u8 0])∧bL q g es∧w.heap.size≤g∧ic ps.length ss M M' rs es ∧
  ag F' q j M'∧(∀j,F' j→F j∨w.heap.size≤j)∧¬F' g∧bA Fo q s (bk ps ss)∧ae (fun j=>F j∨Fo j) w q∧bR M M' (((ss.length*rs.length:Nat):Int)*c)

structure nO (F:Nat→Prop)(w0 wy:World)(sb tb b:Nat)(lv f:Int)(M:St)(V:List (Int×Edge×Int))(e:Edge)(B:Nat)(M':St)(x:Edge)(er:Int)(F':Nat→Prop):Prop where
 swp:dX lv f M e 0 M' x er (df lv 0)
 ok:x.ok
 hA:er=0∨er=6
 a0:wy.cell? ⟨B,0,none⟩=some (.int .u8 x.tag)
 a1:wy.cell? ⟨B,1,none⟩=some (.int .u32 x.to)
 av:ae (fun j=>F j∨j=b) w0 wy
 sub:∀j,F' j→F j∨w0.heap.size≤j
 gB:w0.heap.size≤B
 cS:er=0→∃V' D',bB F' wy sb tb b lv M' V' D'∧V'.length+1≤V.length+2 ^ ((lv-0).toNat+1)

theorem sk {F:Nat→Prop}{w0 I E J:World}{U N b:Nat}{lv f:Int}{M:St}{V:List (Int×Edge×Int)}{e:Edge}{B:Nat}{M':St}{x:Edge}{A:Int}{F':Nat→Prop}(aw:∀k,F k→k<w0.heap.size)(a2:b<w0.heap.size)(a3:N<w0.heap.size)(T:aa w0 I)
  (Y:dX lv f M e 0 M' x A (df lv 0)) (Z:x.ok) (ab:A=0∨A=6) (ad:ae (fun j=>F j∨j=b) I E) (O:∀j,F' j→F j∨I.heap.size≤j) (av:∀j,F' j→j<E.heap.size)
  (am:A=0→∃z K,bB F' E U N b lv M' z K∧z.length+1≤V.length+2 ^ ((lv-0).toNat+1)∧∀q∈z,q∈V∨0≤q.2.2)
  (S:ae (fun k=>k=B) E J) (t:w0.heap.size≤B∧(B<I.heap.size∨E.heap.size≤B)) (a0:J.cell? ⟨B,0,none⟩=some (.int .u8 x.tag)) (W:J.cell? ⟨B,1,none⟩=some (.int .u32 x.to)) :
  nO F w0 J U N b lv f M V e B M' x A F':=by
 have A:=T.size
 have a1:¬F' B:=fun s=>by
  rcases t.2 with q|q
  ·rcases O B s with A|A;·have:=aw B A;have:=t.1;omega
   ·omega
  ·have:=av B s;omega
 refine⟨Y,Z,ab,a0,W,((aa.av T _).a' ad).b8 S (fun i hi s=>by have:=t.1;omega),fun j L=>?_,t.1,fun X=>?_⟩
 ·rcases O j L with q|q;·exact .inl q
  ·exact .inr (by omega)
 ·obtain⟨z,K,A,E,_⟩:=am X;exact⟨z,K,A.e1 S (fun j L s=>a1 (s ▸ L)) (fun s=>by have:=t.1;omega) (fun s=>by have:=t.1;omega),E⟩

theorem yx {d i q j:Nat}{c:Int}(z:d<q)(hi:i<j)(t:0≤c):((d*j+i:Nat):Int)*c+c≤((q*j:Nat):Int)*c:=by
 have s:d*j+i+1≤q*j:=by
  have:(d+1)*j≤q*j:=Nat.mul_le_mul_right _ z;rw[Nat.add_mul]at this;omega
 have z:((d*j+i+1:Nat):Int)*c≤((q*j:Nat):Int)*c:=Int.mul_le_mul_of_nonneg_right (by exact_mod_cast s) t
 have q:((d*j+i+1:Nat):Int)*c=((d*j+i:Nat):Int)*c+c:=by
  rw[show((d*j+i+1:Nat):Int)=((d*j+i:Nat):Int)+1 by push_cast;rfl,Int.add_mul,Int.one_mul]
 omega

theorem Az {F Fo:Nat→Prop}{w:World}{S a3:Nat}{M:St}{ps:List Int}{ss:List Nat}{rs:List (Int×Edge)}{c:Int}(h:ag F w S M)(e9:bA Fo w a3 ps)(cl:∀k,F k→¬Fo k)
  (er da:Option Addr) (cap2 cap3:Nat) (hS:∀A,ae (fun j=>F j∨Fo j) w A→aL A er (ss.map (fun z:Nat=>(z:Int)))) (cj:∀A,ae (fun j=>F j∨Fo j) w A→dJ A da rs) (hx:ss.length≤1000) (hw:rs.length≤16) (d3:bM M rs=0)
  (e6:M.n=(ps.length:Int)) (fl:∀z∈ss,z+1<ps.length) (eS:∀z∈ss,df (z:Int) 0≤c) (hf:0≤c) (fb:M.len+((ss.length*rs.length:Nat):Int)*c<M.room) (b7:M.room<1048576) :
  Calls Tryz.prog 213 #[.pointer (some ⟨S,0,none⟩),.pointer (some ⟨a3,0,none⟩),.slice er ss.length cap2,.slice da rs.length cap3] w (iB F Fo w S a3 M ps ss rs c):=by
 have cq:=fun(A:World) (bs:aa w A)=>qN (h.U bs) da cap3 rs (cj A (bs.av _)) (by omega)
 rw[d3]at cq
 have e4:=xr d3
 have bw:∀(i:Nat) (r:Int×Edge),rs[i]?=some r→r.2.ok:=fun i r da=>(cj w (ae.refl _ _) i r da).2.1
 obtain⟨E,ci⟩:∃E,E=rs.length:=⟨_,rfl⟩
 obtain⟨bn,ch⟩:∃bn,bn=ss.length:=⟨_,rfl⟩
 obtain⟨hD,J,hE,hG,hH⟩:=info_parts o7
 rw[←ci]at cq hw
 rw[←ch]at hx
 have ec:=Lib.hid cq
 have H:=Lib.hid h
 have be:=Lib.hid e9
 have d9:=Lib.hid cl
 have ek:=Lib.hid hS
 have ee:=Lib.hid cj
 have X:=Lib.hid ci
 have bb:=Lib.hid ch
 have eb:=Lib.hid e4
 have gu:=Lib.hid bw
 have gh:=Lib.hid e6
 have el:=Lib.hid fl
 have f9:=Lib.hid eS
 have eg:=Lib.hid (⟨fb,b7⟩:_∧_)
 clear cq h e9 cl hS cj e4 bw e6 fl eS fb b7 d3
 rw[←ci,←ch]
 clear ci ch
 go_enter Tryz.func213,Tryz.ntmps213
 go_wp2_with (first
  |(go_at_call 248;refine(ec.out _ (by(exact kp))).mono ?_;rintro e w1 ⟨rfl,d1⟩)
  |(at_make;refine wpList_make_full _ rfl _ _ 34 rfl w1.heap.size 52 hD (.agg #[.int .u8 0,.int .u32 0]) 2 Tryz.underlying34 J hE hG .i64 .i64 (E:Int) (E:Int) E rfl rfl rfl rfl (by rw[hH];omega) (by unfold maxLen;omega) (by simp) ?_;intro b1 fa bt)
  |fail)
 have dj:=qm fa
 have fz:aa w1 b1:=⟨bt.os,bt.tape,bt.output,bt.size,fun i hi=>bt.block i hi (by simp)⟩
 have e3:aa w b1:=d1.trans fz
 have gc:=Lib.hid e3
 have c1:=Lib.hid dj
 have hI:=dj.lt
 have f2:=d1.size
 obtain⟨g,e1⟩:∃g,g=w1.heap.size:=⟨_,rfl⟩
 rw[←e1]at c1 hI f2 ⊢
 clear fa bt fz e3 dj d1 e1 ec
 go_loopg [34] E (fun gk bt wr=>∃(d:Nat) (es:List Edge),bt=.int .i64 (d:Int)∧d+gk=E∧es.length=E∧bL wr g es∧(∀i,i<d→∀r,rs[i]?=some r→es[i]?=some r.2)∧ae (fun j=>j=g) b1 wr)
 case atStart=>exact⟨0,_,rfl,by omega,by simp,c1.out,fun i hi=>by omega,ae.refl _ _⟩
 case round=>
  obtain⟨d,es,rfl,cl,ch,U,bt,O⟩:=hrel;have a':=Lib.hid ch;have K:=Lib.hid U;have c0:=Lib.hid bt;have W:=Lib.hid O;have ci:aa w wr:=gc.out.new O (fun j J=>by omega);have b2:=Lib.hid ci;have cx:=U.lt;clear ch U bt O ci;by_cases a2:d<E
  ·obtain⟨r,I⟩:∃b,rs[d]?=some b:=⟨_,List.getElem?_eq_getElem (by rw[←X.out];exact a2)⟩;obtain⟨d0,bw,b,off,ds,cd,ce,cf⟩:=ee.out wr (b2.out.av _) d r I;obtain⟨y,a6⟩:∃b,es[d]?=some b:=⟨_,List.getElem?_eq_getElem (by rw[a'.out];exact a2)⟩;obtain⟨cD,cS⟩:=K.out.cell a6;have g':=K.out.frozen (d*2);have ha:=K.out.frozen (d*2+1);have c8:=Lib.hid I;have bt:wr.heap.size≠g:=(by omega);have bt:g≠wr.heap.size:=(by omega);obtain⟨f,e⟩:=r;dsimp only at cd ce cf;subst ds;clear I a6 bw d0;go_wp2_with fail
   go_roundg (gk-1)
   case rel=>
    refine⟨d+1,es.set d e,by simp,by omega,by rw[List.length_set,a'.out],?_,fun i hi q d5=>?_,?_⟩;·exact(K.out.set d e (by rw[a'.out];exact a2)).U ((aa.refl _).alloc _)
    ·by_cases hid:i=d
     ·subst hid;rw[c8.out]at d5;cases d5;rw[List.getElem?_set_self (by rw[a'.out];exact a2)]
     ·rw[List.getElem?_set_ne (fun e=>hid e.symm)];exact c0.out i (by omega) q d5
    ·exact(cE (P:=fun j=>j=g) rfl (cE (P:=fun j=>j=g) rfl W.out _ _) _ _).alloc _
   case measure=>omega
  ·have cn:d=E:=by omega
   have fg:ic ps.length [] M M rs es:=⟨by rw[a'.out,X.out],fun i r x am cg=>by
    have:=c0.out i (by rw[cn,X.out];exact(List.getElem?_eq_some_iff.1 am).1) r am;rw[cg]at this;cases this
    exact eN.start (eb.out r (List.mem_of_getElem? am)).2 (gu.out i r am)⟩
   have g0:=Lib.hid fg;have hM:¬F g:=fun s=>(by have:=H.out.lt _ s;omega);have g5:=Lib.hid (bR.refl H.out.wf);have gC:=Lib.hid (H.out.U b2.out);have gx:=Lib.hid (be.out.U b2.out);clear cn fg c0 a' c1;obtain⟨a',bt⟩:∃a',a'=wr:=⟨_,rfl⟩;have hn:w.heap.size≤g:=f2;go_wp2_with fail
   go_loopg [47] bn (fun gk a' wr=>∃(d:Nat) (es:List Edge) (M':St) (F':Nat→Prop),a'=.int .i64 (d:Int)∧d+gk=bn∧bL wr g es∧ic ps.length (ss.take d) M M' rs es∧ag F' wr S M'∧(∀j,F' j→F j∨w.heap.size≤j)∧¬F' g∧bA Fo wr a3 ps∧ae (fun j=>F j∨Fo j) w wr∧bR M M' (((d*E:Nat):Int)*c))
   case atStart=>exact⟨0,es,M,F,rfl,by omega,K.out,by simpa using g0.out,gC.out,fun j J=>.inl J,hM,gx.out,b2.out.av _,by simpa using g5.out⟩
   case round=>
    clear K W cx b2 a2;obtain⟨d,es,c',ca,rfl,cl,U,fi,ew,b8,bv,b5,O,b9⟩:=hrel;have K:=Lib.hid U;have c4:=Lib.hid fi;have cb:=Lib.hid ew;have Z:=Lib.hid b8;have bg:=Lib.hid b5;have W:=Lib.hid O;have ab:=Lib.hid b9;have cx:=U.lt;obtain⟨db,e2⟩:∃db,db=gk:=⟨_,rfl⟩;have ea:=Lib.hid e2;have d6:=O.size;have a':w.heap.size≤wr.heap.size:=d6;have a':g<wr.heap.size:=U.lt;clear U fi ew b8 b5 O b9 e2;obtain⟨t,hB⟩:∃A,A=wr:=⟨wr,rfl⟩;subst hB;by_cases a2:d<bn
    ·obtain⟨z,I⟩:∃b,ss[d]?=some b:=⟨_,List.getElem?_eq_getElem (by rw[←bb.out];exact a2)⟩;obtain⟨g8,hN,dr,cs⟩:=ek.out t W.out d (z:Int) (by rw[List.getElem?_map,I];rfl);have c6:=Lib.hid (fO I);have c5:=Lib.hid (el.out z (List.mem_of_getElem? I));have ga:=Lib.hid (f9.out z (List.mem_of_getElem? I));have a':=be.out.le;have a':(z:Int)≤14:=(by have:=c5.out;omega);have hr:=@run_makeMap Tryz.prog;subst dr;clear I;go_wp2_with fail
     have cp:aa t ((t.alloc (.map #[] 0)).alloc (.cells #[.pointer (some ⟨S,0,none⟩),.int .i64 (z:Int),.map (some t.heap.size)] 306)):=((aa.refl _).alloc _).alloc _
     have dB:bB ca ((t.alloc (.map #[] 0)).alloc (.cells #[.pointer (some ⟨S,0,none⟩),.int .i64 (z:Int),.map (some t.heap.size)] 306)) S (t.heap.size+1) t.heap.size (z:Int) c' [] (.map []):=by
      have f0:∀j,t.heap.size≤j→¬ca j:=fun j J s=>(by have:=cb.out.lt _ s;omega);exact⟨cb.out.U cp,by simp[go_sem],by simp[go_sem],by simp[go_sem],f0 _ (Nat.le_refl _),f0 _ (by omega),im (World.ownsMap_made t Tryz.prog 309 gH) (((aa.refl (t.alloc (.map #[] 0))).alloc _).block t.heap.size (by simp)),eM.empty _ _⟩
     have f4:((t.alloc (.map #[] 0)).alloc (.cells #[.pointer (some ⟨S,0,none⟩),.int .i64 (z:Int),.map (some t.heap.size)] 306)).heap.size=t.heap.size+2:=(by simp);obtain⟨ws,fx⟩:∃A,A=(t.alloc (.map #[] 0)).alloc (.cells #[.pointer (some ⟨S,0,none⟩),.int .i64 (z:Int),.map (some t.heap.size)] 306):=⟨_,rfl⟩;rw[←fx]at cp dB f4 ⊢;obtain⟨a',bt⟩:t.heap.size+2≤ws.heap.size∧ws.heap.size≤t.heap.size+2:=(by omega);have c3:=Lib.hid cp;have d8:=Lib.hid dB;clear fx cp dB cs hr f4;go_loopg [57] E (fun gk a' a7=>∃(i:Nat) (a1:List Edge) (ad:St) (N:Nat→Prop) (V:List (Int×Edge×Int)) (D:DataW Unit),a'=.int .i64 (i:Int)∧i+gk=E∧bL a7 g a1∧ia ps.length (ss.take d) z i M ad rs a1∧bB N a7 S (t.heap.size+1) t.heap.size (z:Int) ad V D∧V.length≤i*2 ^ (z+1)∧(∀j,N j→F j∨w.heap.size≤j)∧¬N g∧bA Fo a7 a3 ps∧ae (fun j=>F j∨Fo j) w a7∧bR M ad (((d*E+i:Nat):Int)*c))
     case atStart=>exact⟨0,es,c',ca,[],.map [],rfl,by omega,K.out.U c3.out,c4.out.mid z,d8.out,by simp,Z.out,bv,bg.out.U c3.out,W.out.a' (c3.out.av _),by simpa using ab.out⟩
     case round=>
      clear K c4 cb Z bg W ab d8 bv cx d6;obtain⟨i,a1,ad,N,V,D,rfl,hi,U,b7,a',bt,b8,bv,b5,O,b9⟩:=hrel;have K:=Lib.hid U;have b3:=Lib.hid b7;have a8:=Lib.hid a';have en:=Lib.hid bt;have Z:=Lib.hid b8;have bg:=Lib.hid b5;have W:=Lib.hid O;have ab:=Lib.hid b9;have cx:=U.lt;have b2:=a'.lt.1;have b2:=a'.lt.2;have d6:=O.size;clear U b7 a' bt b8 b5 O b9;by_cases b6:i<E
      ·obtain⟨r,I⟩:∃b,rs[i]?=some b:=⟨_,List.getElem?_eq_getElem (by rw[←X.out];exact b6)⟩;obtain⟨d0,bw,b,off,ds,cd,ce,cf⟩:=ee.out wr W.out i r I;obtain⟨x,a6⟩:∃b,a1[i]?=some b:=⟨_,List.getElem?_eq_getElem (by rw[b3.out.1,←X.out];exact b6)⟩;obtain⟨cD,cS⟩:=K.out.cell a6;have c8:=Lib.hid I;have c9:=Lib.hid a6;have Y:=b3.out.2 i r x I a6;have e0:=(eb.out r (List.mem_of_getElem? I)).1;obtain⟨f,e⟩:=r;dsimp only at cd ce cf e0;have bi:=Lib.hid Y;have gb:=Lib.hid e0;have U:0≤f∧f≤255:=d0;subst ds;clear I a6 bw Y;go_wp2_with fail
       have bx:aa wr (wr.alloc (.cells #[.int .u8 f,.int .u8 e.tag,.int .u32 e.to] 55)):=(aa.refl _).alloc _;have f1:(wr.alloc (.cells #[.int .u8 f,.int .u8 e.tag,.int .u32 e.to] 55)).cell? ⟨wr.heap.size,0,none⟩=some (.int .u8 f):=(by simp[go_sem]);have f3:(wr.alloc (.cells #[.int .u8 f,.int .u8 e.tag,.int .u32 e.to] 55)).heap.size=wr.heap.size+1:=(by simp);obtain⟨T,fv⟩:∃A,A=wr.alloc (.cells #[.int .u8 f,.int .u8 e.tag,.int .u32 e.to] 55):=⟨_,rfl⟩;rw[←fv]at bx f1 f3 ⊢;obtain⟨U,a6⟩:wr.heap.size+1≤T.heap.size∧T.heap.size≤wr.heap.size+1:=(by omega);clear f3;replace cD:=bx.cell cD;replace cS:=bx.cell cS;have dk:=a8.out.U bx;have hu:2 ^ (z+1)≤2 ^ 15:=Nat.pow_le_pow_right (by decide) (by omega)
       have hg:V.length+2 ^ (z+1)≤1000000:=by
        have am:=en.out;have cg:i*2 ^ (z+1)≤15*2 ^ (z+1):=Nat.mul_le_mul_right _ (by omega);have U:(2:Nat) ^ 15=32768:=rfl;omega
       have eR:=fun(A:World) (bs:aa T A)=>(sl (n:=M.n) (room:=M.room) (by have:=c5.out;have:=gh.out;omega) eg.out.2 z f x 0 N ad V D A (by omega) (Int.le_refl _) gb.out bi.out.ok ab.out.ext.n ab.out.room bi.out.lead hg (dk.U bs)).mono
        (fun r b0 s=>(⟨s,by obtain⟨_,_,_,_,_,_,_,_,O,_⟩:=s;exact O,trivial⟩:gA N A S (t.heap.size+1) t.heap.size (z:Int) f ad V x 0 r b0∧ae (fun j=>N j∨j=t.heap.size) A b0∧True))
       have d2:∀k,N k→k<T.heap.size:=fun k av=>(by have:=a8.out.a5.lt k av;omega);have f7:=Lib.hid (fun(A:World) (bs:aa T A)=>gz (F:=fun j=>N j∨j=t.heap.size) (w0:=T) (wc:=T) (fun k av=>by rcases av with av|av;exact d2 k av;omega) (Nat.le_refl _) (eR A bs));have gd:=Lib.hid d2;have O:=Lib.hid dk;have c2:=Lib.hid bx
       have nq:¬(N wr.heap.size∨wr.heap.size=t.heap.size):=fun s=>by
        rcases s with s|s;·have:=a8.out.a5.lt _ s;omega
        ·omega
       have et:=a8.out.cy (K.out.cell c9.out).1;have cy:¬(N g∨g=t.heap.size):=fun s=>(by rcases s with s|s;exact bv s;exact et s);have O:T.heap.size≠wr.heap.size:=(by omega);have O:T.heap.size≠g:=(by omega);have hK:t.heap.size<T.heap.size:=(by omega);have hL:t.heap.size+1<T.heap.size:=(by omega);clear fv eR d2 dk bx hu cd ce cf;go_cut [19,20] (fun O U a6=>∃B a4 br bp a5,O=.pointer (some ⟨B,0,none⟩)∧U=.int .u8 br∧nO N T a6 S (t.heap.size+1) t.heap.size (z:Int) f ad V x B bp a4 br a5)
       case first=>
        go_region_held3 (fun b0=>b0.cell? ⟨wr.heap.size,0,none⟩=some (.int .u8 f)∧b0.cell? ⟨g,i*2,none⟩=some (.int .u8 x.tag)∧b0.cell? ⟨g,i*2+1,none⟩=some (.int .u32 x.to)) (go_keep) ((go_at_call 249;refine(f7.out _ (by(exact kp))).mono ?_;rintro g9 b1 ⟨⟨⟨bp,a4,br,a5,rfl,hy,hC,hk,aw,hc,he,hb⟩,-,-⟩,hj,O,hq,hs,ht⟩;have hz:=aw.size;(try simp only[World.size_alloc,World.a3,World.cD]at hz);have O:=aw.cellAt (b:=wr.heap.size) (o:=0) (v:=.int .u8 f) nq (by go_keep);have O:=aw.cellAt (b:=g) (o:=i*2) (v:=.int .u8 x.tag) cy (by go_keep);have O:=aw.cellAt (b:=g) (o:=i*2+1) (v:=.int .u32 x.to) cy (by go_keep);have O:b1.heap.size≠wr.heap.size:=(by omega);have O:b1.heap.size≠g:=(by omega)))
        all_goals(try go_wp2_with fail)
        all_goals go_meet
        all_goals refine⟨_,a4,br,bp,a5,rfl,rfl,sk gd.out hK hL (by(exact kp)) hy hC hk aw hc he.lt hb ?_ ?_ ?_ ?_⟩
        all_goals(try(simp[go_sem];done))
        all_goals(try(simp only[World.size_alloc,World.a3,World.size_setCell];omega))
        all_goals(try(repeat (first|with_reducible exact ae.refl _ _|with_reducible refine ae.alloc ?_ _|with_reducible refine ae.drew ?_|refine jN ?_ _ _)))
        all_goals(try(simp[go_sem,hj,hq,hs,ht];done))
       case rest=>
        obtain⟨B,a4,br,bp,a5,rfl,rfl,L⟩:=hcut;have cv:=ab.out.trans L.swp.cf;have hh:df (z:Int) 0≤c:=ga.out;have hv:=yx (c:=c) a2 b6 hf
        have hl:br=0:=by
         rcases L.hA with q|q;·exact q
         ·exfalso;have am:=(L.swp.c6 (by omega)).2.2;have cg:=cv.room;have O:=cv.len;have O:=eg.out.1;rw[←X.out,←bb.out]at O;omega
        subst hl;obtain⟨ep,f6,eu,e5⟩:=L.cS rfl
        have f5:∀bq,(¬(N bq∨bq=t.heap.size))→bq<T.heap.size→¬a5 bq:=fun bq am cg s=>by
         rcases L.sub bq s with q|q;·exact am (.inl q)
         ·omega
        have fD:=f5 g cy (by omega);have a0:=L.a0;have O:=L.a1;have O:=L.gB;have hJ:=aD a0;dsimp only at hJ;have b4:=(K.out.U c2.out).a4 L.av cy;obtain⟨O,T⟩:=b4.cell c9.out;have g':=b4.frozen (i*2);have ha:=b4.frozen (i*2+1)
        have ft:ae (fun j=>F j∨Fo j) w wc:=(W.out.a' (c2.out.av _)).b8 L.av (fun j J s=>by
         rcases s with s|s
         ·rcases Z.out j s with q|q;·exact .inl q
          ·omega
         ·omega)
        have ev:bA Fo wc a3 ps:=(bg.out.U c2.out).a4 L.av (fun k av s=>by
         have hp:=be.out.lt k av;rcases s with s|s
         ·rcases Z.out k s with q|q;·exact d9.out k q av
          ·omega
         ·omega)
        have fp:∀j,a5 j→F j∨w.heap.size≤j:=fun j J=>by
         rcases L.sub j J with q|q;·exact Z.out j q
         ·exact .inr (by omega)
        have O:(a1.length)=E:=(by rw[b3.out.1,X.out]);have ho:i<a1.length:=(by omega);have e8:=b3.out.next c8.out c9.out a8.out.a5.wf L.swp.cf.ext (L.swp.cS rfl) c5.out;have gj:=Lib.hid e8;have f8:=Lib.hid b4;have g3:=Lib.hid ft;have gp:=Lib.hid ev;have g1:=Lib.hid fp;have f':=Lib.hid eu
        have O:ep.length≤(i+1)*2 ^ (z+1):=by
         have am:=en.out;rw[show((z:Int)-0).toNat=z by omega]at e5;rw[Nat.add_mul,Nat.one_mul];omega
        have T:bR M bp (((d*E+(i+1):Nat):Int)*c):=by
         refine cv.le ?_;rw[show((d*E+(i+1):Nat):Int)=((d*E+i:Nat):Int)+1 by push_cast;omega,Int.add_mul,Int.one_mul];omega
        have g6:=Lib.hid T;have g4:=Lib.hid O;have U:B≠g:=(by omega);have g9:g≠B:=(by omega);clear e8 b4 ft ev fp eu cv T O e5 f5 hv hh L cD cS f1;go_wp2_with fail
        go_roundg (gk-1)
        case rel=>
         have d7:ae (fun j=>j=g) wc ((wc.setCell ⟨g,i*2,none⟩ (.int .u8 a4.tag)).setCell ⟨g,i*2+1,none⟩ (.int .u32 a4.to)):=cE (P:=fun j=>j=g) rfl (cE (P:=fun j=>j=g) rfl (ae.refl _ _) _ _) _ _;have hm:∀j,Fo j→¬j=g:=fun j J s=>(by subst s;have:=be.out.lt _ J;omega);refine⟨i+1,a1.set i a4,bp,a5,ep,f6,by simp,by omega,f8.out.set i a4 ho,gj.out,f'.out.e1 d7 (fun j J s=>by subst s;exact fD J) (fun s=>et s.symm) (fun s=>by omega),g4.out,g1.out,fD,gp.out.a4 d7 hm,g3.out.b8 d7 (fun j J s=>by omega),g6.out⟩
        case measure=>omega
      ·have co:i=E:=(by omega);subst co;have Y:=b3.out;rw[X.out]at Y;have L:=Y.all;rw[←c6.out]at L;have bi:=Lib.hid L
       have O:bR M ad ((((d+1)*i:Nat):Int)*c):=by
        have:=ab.out;rw[Nat.add_mul,Nat.one_mul];exact this
       have g7:=Lib.hid O;clear Y L O;go_wp2_with fail
       go_roundg (db-1)
       case rel=>exact⟨d+1,a1,ad,N,by simp,by have:=ea.out;omega,K.out,bi.out,a8.out.a5,Z.out,bv,bg.out,W.out,ab.out |> fun _=>g7.out⟩
       case measure=>have:=ea.out;omega
    ·have cn:d=bn:=(by omega);subst cn;have Y:=c4.out;rw[bb.out,List.take_length]at Y;have bi:=Lib.hid Y;clear Y;go_wp2_with fail
     obtain⟨N,L⟩:∃A,A=t:=⟨t,rfl⟩;go_loopg [84] d (fun gk A a7=>∃(i:Nat),A=.int .i64 (i:Int)∧i+gk=d∧bA Fo a7 a3 (bk ps (ss.take i))∧ae Fo t a7)
     case atStart=>exact⟨0,rfl,by omega,by simpa[bk]using bg.out,ae.refl _ _⟩
     case round=>
      obtain⟨i,rfl,hi,t,aw⟩:=hrel;have ed:=Lib.hid t;have c7:=Lib.hid aw;have A:ae (fun j=>F j∨Fo j) w wr:=W.out.b8 aw (fun j J s=>.inr s);have em:=Lib.hid A;clear t aw A;by_cases b6:i<d
      ·obtain⟨z,I⟩:∃b,ss[i]?=some b:=⟨_,List.getElem?_eq_getElem (by rw[←bb.out];exact b6)⟩;obtain⟨g8,hN,dr,cs⟩:=ek.out wr em.out i (z:Int) (by rw[List.getElem?_map,I];rfl);have fs:=fO I;have fj:=el.out z (List.mem_of_getElem? I);have g2:=Lib.hid (xU ed.out z (by rw[eX];exact fj));have c6:=Lib.hid fs;subst dr;clear I fs fj;go_wp2_with fail
       refine g2.out.mono ?_;rintro t t ⟨rfl,hA,hd⟩;go_wp2_with fail
       go_roundg (gk-1)
       case rel=>exact⟨i+1,by simp,by omega,by rw[c6.out,iX];exact hd,c7.out.a' hA⟩
       case measure=>omega
      ·have co:i=d:=(by omega);have dl:=ed.out;rw[co,bb.out,List.take_length]at dl;have e7:¬Fo g:=fun s=>by have:=be.out.lt _ s;omega
       have e':iB F Fo w S a3 M ps ss rs c (.returned (.tuple #[.slice (some ⟨g,0,none⟩) E E,.int .u8 0])) wr:=by
        refine⟨g,es,c',ca,by rw[X.out],K.out.a4 c7.out e7,hn,bi.out,cb.out.a4 c7.out (fun j J s=>?_),Z.out,bv,dl,em.out,?_⟩
        ·have hp:=be.out.lt j s;rcases Z.out j J with q|q;·exact d9.out j q s
         ·omega
        ·rw[←X.out,←bb.out];exact ab.out
       have gB:=Lib.hid e';clear co dl e7 e';go_wp2_with fail
       go_ret2
       exact gB.out

end Go.Proofs.YtafkamlhimkbmaaGreat
