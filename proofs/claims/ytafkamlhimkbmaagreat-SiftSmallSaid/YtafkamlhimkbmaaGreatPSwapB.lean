/-
  The walk of swap.all.
-/
import Derived.Test.YtafkamlhimkbmaaGreatPSwapR
import Derived.Test.YtafkamlhimkbmaaGreatPSwapW
namespace Go.Proofs.YtafkamlhimkbmaaGreat
set_option maxRecDepth 1000000
set_option maxHeartbeats 8000000
set_option linter.unusedSimpArgs false
set_option linter.unusedVariables false
open Go.RowKit

def iB (F Fo:Nat→Prop)(w:World)(j q:Nat)(M:St)(ps:List Int)(ss:List Nat)(rs:List (Int×Edge))(c:Int)(r:Ending)(w':World):Prop:=
 ∃(g:Nat) (es:List Edge) (M':St) (F':Nat→Prop),r=.returned (.tuple #[.slice (some ⟨g,0,none⟩) rs.length rs.length,.int .u8 0])∧bJ w' g es∧w.heap.size≤g∧ic ps.length ss M M' rs es ∧
  ag F' w' j M'∧(∀j,F' j→F j∨w.heap.size≤j)∧¬F' g∧bC Fo w' q (aJ ps ss)∧ae (fun j=>F j∨Fo j) w w'∧bU M M' (((ss.length*rs.length:Nat):Int)*c)

structure oB (F:Nat→Prop)(w0 wy:World)(sb tb b:Nat)(lv f:Int)(M:St)(V:List (Int×Edge×Int))(e:Edge)(B:Nat)(M':St)(x:Edge)(er:Int)(F':Nat→Prop):Prop where
 swp:ey lv f M e 0 M' x er (dh lv 0)
 ok:x.ok
 hI:er=0∨er=6
 a0:wy.cell? ⟨B,0,none⟩=some (.int .u8 x.tag)
 a1:wy.cell? ⟨B,1,none⟩=some (.int .u32 x.to)
 av:ae (fun j=>F j∨j=b) w0 wy
 sub:∀j,F' j→F j∨w0.heap.size≤j
 gB:w0.heap.size≤B
 c6:er=0→∃V' D',bE F' wy sb tb b lv M' V' D'∧V'.length+1≤V.length+2 ^ ((lv-0).toNat+1)

theorem sQ {F:Nat→Prop}{w0 I E J:World}{U N b:Nat}{lv f:Int}{M:St}{V:List (Int×Edge×Int)}{e:Edge}{B:Nat}{M':St}{x:Edge}{A:Int}{F':Nat→Prop}(aw:∀k,F k→k<w0.heap.size)(a2:b<w0.heap.size)(a3:N<w0.heap.size)(T:aa w0 I)
  (Y:ey lv f M e 0 M' x A (dh lv 0)) (Z:x.ok) (ab:A=0∨A=6) (ad:ae (fun j=>F j∨j=b) I E) (O:∀j,F' j→F j∨I.heap.size≤j) (av:∀j,F' j→j<E.heap.size)
  (am:A=0→∃z K,bE F' E U N b lv M' z K∧z.length+1≤V.length+2 ^ ((lv-0).toNat+1)∧∀q∈z,q∈V∨0≤q.2.2)
  (S:ae (fun k=>k=B) E J) (t:w0.heap.size≤B∧(B<I.heap.size∨E.heap.size≤B)) (a0:J.cell? ⟨B,0,none⟩=some (.int .u8 x.tag)) (W:J.cell? ⟨B,1,none⟩=some (.int .u32 x.to)) :
  oB F w0 J U N b lv f M V e B M' x A F':=by
 have A:=T.size
 have a1:¬F' B:=fun s=>by
  rcases t.2 with q|q
  ·rcases O B s with A|A;·have:=aw B A;have:=t.1;omega
   ·omega
  ·have:=av B s;omega
 refine⟨Y,Z,ab,a0,W,((aa.av T _).a' ad).b9 S (fun i hi s=>by have:=t.1;omega),fun j L=>?_,t.1,fun X=>?_⟩
 ·rcases O j L with q|q;·exact .inl q
  ·exact .inr (by omega)
 ·obtain⟨z,K,A,E,_⟩:=am X;exact⟨z,K,A.e7 S (fun j L s=>a1 (s ▸ L)) (fun s=>by have:=t.1;omega) (fun s=>by have:=t.1;omega),E⟩

theorem yR {d i q j:Nat}{c:Int}(z:d<q)(hi:i<j)(t:0≤c):((d*j+i:Nat):Int)*c+c≤((q*j:Nat):Int)*c:=by
 have s:d*j+i+1≤q*j:=by
  have:(d+1)*j≤q*j:=Nat.mul_le_mul_right _ z;rw[Nat.add_mul]at this;omega
 have z:((d*j+i+1:Nat):Int)*c≤((q*j:Nat):Int)*c:=Int.mul_le_mul_of_nonneg_right (by exact_mod_cast s) t
 have q:((d*j+i+1:Nat):Int)*c=((d*j+i:Nat):Int)*c+c:=by
  rw[show((d*j+i+1:Nat):Int)=((d*j+i:Nat):Int)+1 by push_cast;rfl,Int.add_mul,Int.one_mul]
 omega

theorem AW {F Fo:Nat→Prop}{w:World}{S a3:Nat}{M:St}{ps:List Int}{ss:List Nat}{rs:List (Int×Edge)}{c:Int}(h:ag F w S M)(e8:bC Fo w a3 ps)(cj:∀k,F k→¬Fo k)
  (ep c':Option Addr) (cap2 cap3:Nat) (hS:∀A,ae (fun j=>F j∨Fo j) w A→aG A ep (ss.map (fun z:Nat=>(z:Int)))) (ci:∀A,ae (fun j=>F j∨Fo j) w A→dz A c' rs) (hx:ss.length≤1000) (hw:rs.length≤16) (d2:bP M rs=0)
  (e5:M.n=(ps.length:Int)) (fj:∀z∈ss,z+1<ps.length) (eR:∀z∈ss,dh (z:Int) 0≤c) (hf:0≤c) (fa:M.len+((ss.length*rs.length:Nat):Int)*c<M.room) (b6:M.room<1048576) :
  Calls Tryz.prog 213 #[.pointer (some ⟨S,0,none⟩),.pointer (some ⟨a3,0,none⟩),.slice ep ss.length cap2,.slice c' rs.length cap3] w (iB F Fo w S a3 M ps ss rs c):=by
 have cp:=fun(A:World) (bs:aa w A)=>rC (h.U bs) c' cap3 rs (ci A (bs.av _)) (by omega)
 rw[d2]at cp
 have e3:=xP d2
 have bw:∀(i:Nat) (r:Int×Edge),rs[i]?=some r→r.2.ok:=fun i r c'=>(ci w (ae.refl _ _) i r c').2.1
 obtain⟨E,ch⟩:∃E,E=rs.length:=⟨_,rfl⟩
 obtain⟨bn,cg⟩:∃bn,bn=ss.length:=⟨_,rfl⟩
 obtain⟨hD,J,hE,hG,hH⟩:=info_parts pG
 rw[←ch]at cp hw
 rw[←cg]at hx
 have eb:=Lib.hid cp
 have H:=Lib.hid h
 have be:=Lib.hid e8
 have d8:=Lib.hid cj
 have eg:=Lib.hid hS
 have ed:=Lib.hid ci
 have X:=Lib.hid ch
 have bb:=Lib.hid cg
 have ea:=Lib.hid e3
 have gu:=Lib.hid bw
 have gj:=Lib.hid e5
 have ek:=Lib.hid fj
 have f9:=Lib.hid eR
 have ee:=Lib.hid (⟨fa,b6⟩:_∧_)
 clear cp h e8 cj hS ci e3 bw e5 fj eR fa b6 d2
 rw[←ch,←cg]
 clear ch cg
 go_enter Tryz.func213,Tryz.ntmps213
 go_wp2_with (first
  |(go_at_call 248;refine(eb.out _ (by(exact kp))).mono ?_;rintro e w1 ⟨rfl,d0⟩)
  |(at_make;refine wpList_make_full _ rfl _ _ 34 rfl w1.heap.size 52 hD (.agg #[.int .u8 0,.int .u32 0]) 2 Tryz.underlying34 J hE hG .i64 .i64 (E:Int) (E:Int) E rfl rfl rfl rfl (by rw[hH];omega) (by unfold maxLen;omega) (by simp) ?_;intro b0 e' bt)
  |fail)
 have db:=qO e'
 have fz:aa w1 b0:=⟨bt.os,bt.tape,bt.output,bt.size,fun i hi=>bt.block i hi (by simp)⟩
 have e2:aa w b0:=d0.trans fz
 have gc:=Lib.hid e2
 have c0:=Lib.hid db
 have hI:=db.lt
 have f2:=d0.size
 obtain⟨g,e0⟩:∃g,g=w1.heap.size:=⟨_,rfl⟩
 rw[←e0]at c0 hI f2 ⊢
 clear e' bt fz e2 db d0 e0 eb
 go_loopg [34] E (fun gk bt wr=>∃(d:Nat) (es:List Edge),bt=.int .i64 (d:Int)∧d+gk=E∧es.length=E∧bJ wr g es∧(∀i,i<d→∀r,rs[i]?=some r→es[i]?=some r.2)∧ae (fun j=>j=g) b0 wr)
 case atStart=>exact⟨0,_,rfl,by omega,by simp,c0.out,fun i hi=>by omega,ae.refl _ _⟩
 case round=>
  obtain⟨d,es,rfl,cj,cg,U,bt,O⟩:=hrel;have a':=Lib.hid cg;have K:=Lib.hid U;have cS:=Lib.hid bt;have W:=Lib.hid O;have ch:aa w wr:=gc.out.new O (fun j J=>by omega);have b1:=Lib.hid ch;have cv:=U.lt;clear cg U bt O ch;by_cases a2:d<E
  ·obtain⟨r,I⟩:∃b,rs[d]?=some b:=⟨_,List.getElem?_eq_getElem (by rw[←X.out];exact a2)⟩;obtain⟨dB,bw,b,off,dr,cb,cd,ce⟩:=ed.out wr (b1.out.av _) d r I;obtain⟨y,a6⟩:∃b,es[d]?=some b:=⟨_,List.getElem?_eq_getElem (by rw[a'.out];exact a2)⟩;obtain⟨cy,cD⟩:=K.out.cell a6;have g':=K.out.frozen (d*2);have ha:=K.out.frozen (d*2+1);have c7:=Lib.hid I;have bt:wr.heap.size≠g:=(by omega);have bt:g≠wr.heap.size:=(by omega);obtain⟨f,e⟩:=r;dsimp only at cb cd ce;subst dr;clear I a6 bw dB;go_wp2_with fail
   go_roundg (gk-1)
   case rel=>
    refine⟨d+1,es.set d e,by simp,by omega,by rw[List.length_set,a'.out],?_,fun i hi q d3=>?_,?_⟩;·exact(K.out.set d e (by rw[a'.out];exact a2)).U ((aa.refl _).alloc _)
    ·by_cases hid:i=d
     ·subst hid;rw[c7.out]at d3;cases d3;rw[List.getElem?_set_self (by rw[a'.out];exact a2)]
     ·rw[List.getElem?_set_ne (fun e=>hid e.symm)];exact cS.out i (by omega) q d3
    ·exact(cI (P:=fun j=>j=g) rfl (cI (P:=fun j=>j=g) rfl W.out _ _) _ _).alloc _
   case measure=>omega
  ·have cl:d=E:=by omega
   have fb:ic ps.length [] M M rs es:=⟨by rw[a'.out,X.out],fun i r x am cf=>by
    have:=cS.out i (by rw[cl,X.out];exact(List.getElem?_eq_some_iff.1 am).1) r am;rw[cf]at this;cases this
    exact eW.start (ea.out r (List.mem_of_getElem? am)).2 (gu.out i r am)⟩
   have g0:=Lib.hid fb;have hM:¬F g:=fun s=>(by have:=H.out.lt _ s;omega);have g5:=Lib.hid (bU.refl H.out.wf);have gC:=Lib.hid (H.out.U b1.out);have gx:=Lib.hid (be.out.U b1.out);clear cl fb cS a' c0;obtain⟨a',bt⟩:∃a',a'=wr:=⟨_,rfl⟩;have hn:w.heap.size≤g:=f2;go_wp2_with fail
   go_loopg [47] bn (fun gk a' wr=>∃(d:Nat) (es:List Edge) (M':St) (F':Nat→Prop),a'=.int .i64 (d:Int)∧d+gk=bn∧bJ wr g es∧ic ps.length (ss.take d) M M' rs es∧ag F' wr S M'∧(∀j,F' j→F j∨w.heap.size≤j)∧¬F' g∧bC Fo wr a3 ps∧ae (fun j=>F j∨Fo j) w wr∧bU M M' (((d*E:Nat):Int)*c))
   case atStart=>exact⟨0,es,M,F,rfl,by omega,K.out,by simpa using g0.out,gC.out,fun j J=>.inl J,hM,gx.out,b1.out.av _,by simpa using g5.out⟩
   case round=>
    clear K W cv b1 a2;obtain⟨d,es,c9,b9,rfl,cj,U,fg,ev,b7,bv,b4,O,b8⟩:=hrel;have K:=Lib.hid U;have c3:=Lib.hid fg;have ca:=Lib.hid ev;have Z:=Lib.hid b7;have bg:=Lib.hid b4;have W:=Lib.hid O;have ab:=Lib.hid b8;have cv:=U.lt;obtain⟨da,e1⟩:∃da,da=gk:=⟨_,rfl⟩;have d9:=Lib.hid e1;have d5:=O.size;have a':w.heap.size≤wr.heap.size:=d5;have a':g<wr.heap.size:=U.lt;clear U fg ev b7 b4 O b8 e1;obtain⟨t,hB⟩:∃A,A=wr:=⟨wr,rfl⟩;subst hB;by_cases a2:d<bn
    ·obtain⟨z,I⟩:∃b,ss[d]?=some b:=⟨_,List.getElem?_eq_getElem (by rw[←bb.out];exact a2)⟩;obtain⟨g8,hN,dl,cs⟩:=eg.out t W.out d (z:Int) (by rw[List.getElem?_map,I];rfl);have c5:=Lib.hid (fJ I);have c4:=Lib.hid (ek.out z (List.mem_of_getElem? I));have ga:=Lib.hid (f9.out z (List.mem_of_getElem? I));have a':=be.out.le;have a':(z:Int)≤14:=(by have:=c4.out;omega);have hr:=@run_makeMap Tryz.prog;subst dl;clear I;go_wp2_with fail
     have co:aa t ((t.alloc (.map #[] 0)).alloc (.cells #[.pointer (some ⟨S,0,none⟩),.int .i64 (z:Int),.map (some t.heap.size)] 306)):=((aa.refl _).alloc _).alloc _
     have ds:bE b9 ((t.alloc (.map #[] 0)).alloc (.cells #[.pointer (some ⟨S,0,none⟩),.int .i64 (z:Int),.map (some t.heap.size)] 306)) S (t.heap.size+1) t.heap.size (z:Int) c9 [] (.map []):=by
      have f0:∀j,t.heap.size≤j→¬b9 j:=fun j J s=>(by have:=ca.out.lt _ s;omega);exact⟨ca.out.U co,by simp[go_sem],by simp[go_sem],by simp[go_sem],f0 _ (Nat.le_refl _),f0 _ (by omega),ir (World.ownsMap_made t Tryz.prog 309 gL) (((aa.refl (t.alloc (.map #[] 0))).alloc _).block t.heap.size (by simp)),eV.empty _ _⟩
     have f4:((t.alloc (.map #[] 0)).alloc (.cells #[.pointer (some ⟨S,0,none⟩),.int .i64 (z:Int),.map (some t.heap.size)] 306)).heap.size=t.heap.size+2:=(by simp);obtain⟨ws,fx⟩:∃A,A=(t.alloc (.map #[] 0)).alloc (.cells #[.pointer (some ⟨S,0,none⟩),.int .i64 (z:Int),.map (some t.heap.size)] 306):=⟨_,rfl⟩;rw[←fx]at co ds f4 ⊢;obtain⟨a',bt⟩:t.heap.size+2≤ws.heap.size∧ws.heap.size≤t.heap.size+2:=(by omega);have c2:=Lib.hid co;have d7:=Lib.hid ds;clear fx co ds cs hr f4;go_loopg [57] E (fun gk a' a7=>∃(i:Nat) (a1:List Edge) (ad:St) (N:Nat→Prop) (V:List (Int×Edge×Int)) (D:DataW Unit),a'=.int .i64 (i:Int)∧i+gk=E∧bJ a7 g a1∧ia ps.length (ss.take d) z i M ad rs a1∧bE N a7 S (t.heap.size+1) t.heap.size (z:Int) ad V D∧V.length≤i*2 ^ (z+1)∧(∀j,N j→F j∨w.heap.size≤j)∧¬N g∧bC Fo a7 a3 ps∧ae (fun j=>F j∨Fo j) w a7∧bU M ad (((d*E+i:Nat):Int)*c))
     case atStart=>exact⟨0,es,c9,b9,[],.map [],rfl,by omega,K.out.U c2.out,c3.out.mid z,d7.out,by simp,Z.out,bv,bg.out.U c2.out,W.out.a' (c2.out.av _),by simpa using ab.out⟩
     case round=>
      clear K c3 ca Z bg W ab d7 bv cv d5;obtain⟨i,a1,ad,N,V,D,rfl,hi,U,b6,a',bt,b7,bv,b4,O,b8⟩:=hrel;have K:=Lib.hid U;have b2:=Lib.hid b6;have a8:=Lib.hid a';have em:=Lib.hid bt;have Z:=Lib.hid b7;have bg:=Lib.hid b4;have W:=Lib.hid O;have ab:=Lib.hid b8;have cv:=U.lt;have b1:=a'.lt.1;have b1:=a'.lt.2;have d5:=O.size;clear U b6 a' bt b7 b4 O b8;by_cases b5:i<E
      ·obtain⟨r,I⟩:∃b,rs[i]?=some b:=⟨_,List.getElem?_eq_getElem (by rw[←X.out];exact b5)⟩;obtain⟨dB,bw,b,off,dr,cb,cd,ce⟩:=ed.out wr W.out i r I;obtain⟨x,a6⟩:∃b,a1[i]?=some b:=⟨_,List.getElem?_eq_getElem (by rw[b2.out.1,←X.out];exact b5)⟩;obtain⟨cy,cD⟩:=K.out.cell a6;have c7:=Lib.hid I;have c8:=Lib.hid a6;have Y:=b2.out.2 i r x I a6;have eS:=(ea.out r (List.mem_of_getElem? I)).1;obtain⟨f,e⟩:=r;dsimp only at cb cd ce eS;have bi:=Lib.hid Y;have gb:=Lib.hid eS;have U:0≤f∧f≤255:=dB;subst dr;clear I a6 bw Y;go_wp2_with fail
       have bx:aa wr (wr.alloc (.cells #[.int .u8 f,.int .u8 e.tag,.int .u32 e.to] 55)):=(aa.refl _).alloc _;have f1:(wr.alloc (.cells #[.int .u8 f,.int .u8 e.tag,.int .u32 e.to] 55)).cell? ⟨wr.heap.size,0,none⟩=some (.int .u8 f):=(by simp[go_sem]);have f3:(wr.alloc (.cells #[.int .u8 f,.int .u8 e.tag,.int .u32 e.to] 55)).heap.size=wr.heap.size+1:=(by simp);obtain⟨T,fv⟩:∃A,A=wr.alloc (.cells #[.int .u8 f,.int .u8 e.tag,.int .u32 e.to] 55):=⟨_,rfl⟩;rw[←fv]at bx f1 f3 ⊢;obtain⟨U,a6⟩:wr.heap.size+1≤T.heap.size∧T.heap.size≤wr.heap.size+1:=(by omega);clear f3;replace cy:=bx.cell cy;replace cD:=bx.cell cD;have dj:=a8.out.U bx;have hu:2 ^ (z+1)≤2 ^ 15:=Nat.pow_le_pow_right (by decide) (by omega)
       have hg:V.length+2 ^ (z+1)≤1000000:=by
        have am:=em.out;have cf:i*2 ^ (z+1)≤15*2 ^ (z+1):=Nat.mul_le_mul_right _ (by omega);have U:(2:Nat) ^ 15=32768:=rfl;omega
       have ew:=fun(A:World) (bs:aa T A)=>(sR (n:=M.n) (room:=M.room) (by have:=c4.out;have:=gj.out;omega) ee.out.2 z f x 0 N ad V D A (by omega) (Int.le_refl _) gb.out bi.out.ok ab.out.ext.n ab.out.room bi.out.lead hg (dj.U bs)).mono
        (fun r w' s=>(⟨s,by obtain⟨_,_,_,_,_,_,_,_,O,_⟩:=s;exact O,trivial⟩:gG N A S (t.heap.size+1) t.heap.size (z:Int) f ad V x 0 r w'∧ae (fun j=>N j∨j=t.heap.size) A w'∧True))
       have d1:∀k,N k→k<T.heap.size:=fun k av=>(by have:=a8.out.a4.lt k av;omega);have f7:=Lib.hid (fun(A:World) (bs:aa T A)=>gF (F:=fun j=>N j∨j=t.heap.size) (w0:=T) (wc:=T) (fun k av=>by rcases av with av|av;exact d1 k av;omega) (Nat.le_refl _) (ew A bs));have gh:=Lib.hid d1;have O:=Lib.hid dj;have c1:=Lib.hid bx
       have nq:¬(N wr.heap.size∨wr.heap.size=t.heap.size):=fun s=>by
        rcases s with s|s;·have:=a8.out.a4.lt _ s;omega
        ·omega
       have er:=a8.out.cS (K.out.cell c8.out).1;have cx:¬(N g∨g=t.heap.size):=fun s=>(by rcases s with s|s;exact bv s;exact er s);have O:T.heap.size≠wr.heap.size:=(by omega);have O:T.heap.size≠g:=(by omega);have hK:t.heap.size<T.heap.size:=(by omega);have hL:t.heap.size+1<T.heap.size:=(by omega);clear fv ew d1 dj bx hu cb cd ce;go_cut [19,20] (fun O U a6=>∃B a4 br bp a5,O=.pointer (some ⟨B,0,none⟩)∧U=.int .u8 br∧oB N T a6 S (t.heap.size+1) t.heap.size (z:Int) f ad V x B bp a4 br a5)
       case first=>
        go_region_held3 (fun w'=>w'.cell? ⟨wr.heap.size,0,none⟩=some (.int .u8 f)∧w'.cell? ⟨g,i*2,none⟩=some (.int .u8 x.tag)∧w'.cell? ⟨g,i*2+1,none⟩=some (.int .u32 x.to)) (go_keep) ((go_at_call 249;refine(f7.out _ (by(exact kp))).mono ?_;rintro g9 b0 ⟨⟨⟨bp,a4,br,a5,rfl,hy,hC,hk,aw,hc,he,hb⟩,-,-⟩,hj,O,hq,hs,ht⟩;have hz:=aw.size;(try simp only[World.size_alloc,World.a3,World.c5]at hz);have O:=aw.cellAt (b:=wr.heap.size) (o:=0) (v:=.int .u8 f) nq (by go_keep);have O:=aw.cellAt (b:=g) (o:=i*2) (v:=.int .u8 x.tag) cx (by go_keep);have O:=aw.cellAt (b:=g) (o:=i*2+1) (v:=.int .u32 x.to) cx (by go_keep);have O:b0.heap.size≠wr.heap.size:=(by omega);have O:b0.heap.size≠g:=(by omega)))
        all_goals(try go_wp2_with fail)
        all_goals go_meet
        all_goals refine⟨_,a4,br,bp,a5,rfl,rfl,sQ gh.out hK hL (by(exact kp)) hy hC hk aw hc he.lt hb ?_ ?_ ?_ ?_⟩
        all_goals(try(simp[go_sem];done))
        all_goals(try(simp only[World.size_alloc,World.a3,World.size_setCell];omega))
        all_goals(try(repeat (first|with_reducible exact ae.refl _ _|with_reducible refine ae.alloc ?_ _|with_reducible refine ae.drew ?_|refine jU ?_ _ _)))
        all_goals(try(simp[go_sem,hj,hq,hs,ht];done))
       case rest=>
        obtain⟨B,a4,br,bp,a5,rfl,rfl,L⟩:=hcut;have cq:=ab.out.trans L.swp.cd;have hh:dh (z:Int) 0≤c:=ga.out;have hv:=yR (c:=c) a2 b5 hf
        have hl:br=0:=by
         rcases L.hI with q|q;·exact q
         ·exfalso;have am:=(L.swp.cx (by omega)).2.2;have cf:=cq.room;have O:=cq.len;have O:=ee.out.1;rw[←X.out,←bb.out]at O;omega
        subst hl;obtain⟨en,f6,et,e4⟩:=L.c6 rfl
        have f5:∀bq,(¬(N bq∨bq=t.heap.size))→bq<T.heap.size→¬a5 bq:=fun bq am cf s=>by
         rcases L.sub bq s with q|q;·exact am (.inl q)
         ·omega
        have fD:=f5 g cx (by omega);have a0:=L.a0;have O:=L.a1;have O:=L.gB;have hJ:=aD a0;dsimp only at hJ;have b3:=(K.out.U c1.out).a5 L.av cx;obtain⟨O,T⟩:=b3.cell c8.out;have g':=b3.frozen (i*2);have ha:=b3.frozen (i*2+1)
        have ft:ae (fun j=>F j∨Fo j) w wc:=(W.out.a' (c1.out.av _)).b9 L.av (fun j J s=>by
         rcases s with s|s
         ·rcases Z.out j s with q|q;·exact .inl q
          ·omega
         ·omega)
        have eu:bC Fo wc a3 ps:=(bg.out.U c1.out).a5 L.av (fun k av s=>by
         have hp:=be.out.lt k av;rcases s with s|s
         ·rcases Z.out k s with q|q;·exact d8.out k q av
          ·omega
         ·omega)
        have fl:∀j,a5 j→F j∨w.heap.size≤j:=fun j J=>by
         rcases L.sub j J with q|q;·exact Z.out j q
         ·exact .inr (by omega)
        have O:(a1.length)=E:=(by rw[b2.out.1,X.out]);have ho:i<a1.length:=(by omega);have e7:=b2.out.next c7.out c8.out a8.out.a4.wf L.swp.cd.ext (L.swp.c6 rfl) c4.out;have gp:=Lib.hid e7;have f8:=Lib.hid b3;have g3:=Lib.hid ft;have gr:=Lib.hid eu;have g1:=Lib.hid fl;have f':=Lib.hid et
        have O:en.length≤(i+1)*2 ^ (z+1):=by
         have am:=em.out;rw[show((z:Int)-0).toNat=z by omega]at e4;rw[Nat.add_mul,Nat.one_mul];omega
        have T:bU M bp (((d*E+(i+1):Nat):Int)*c):=by
         refine cq.le ?_;rw[show((d*E+(i+1):Nat):Int)=((d*E+i:Nat):Int)+1 by push_cast;omega,Int.add_mul,Int.one_mul];omega
        have g6:=Lib.hid T;have g4:=Lib.hid O;have U:B≠g:=(by omega);have g9:g≠B:=(by omega);clear e7 b3 ft eu fl et cq T O e4 f5 hv hh L cy cD f1;go_wp2_with fail
        go_roundg (gk-1)
        case rel=>
         have d6:ae (fun j=>j=g) wc ((wc.setCell ⟨g,i*2,none⟩ (.int .u8 a4.tag)).setCell ⟨g,i*2+1,none⟩ (.int .u32 a4.to)):=cI (P:=fun j=>j=g) rfl (cI (P:=fun j=>j=g) rfl (ae.refl _ _) _ _) _ _;have hm:∀j,Fo j→¬j=g:=fun j J s=>(by subst s;have:=be.out.lt _ J;omega);refine⟨i+1,a1.set i a4,bp,a5,en,f6,by simp,by omega,f8.out.set i a4 ho,gp.out,f'.out.e7 d6 (fun j J s=>by subst s;exact fD J) (fun s=>er s.symm) (fun s=>by omega),g4.out,g1.out,fD,gr.out.a5 d6 hm,g3.out.b9 d6 (fun j J s=>by omega),g6.out⟩
        case measure=>omega
      ·have cn:i=E:=(by omega);subst cn;have Y:=b2.out;rw[X.out]at Y;have L:=Y.all;rw[←c5.out]at L;have bi:=Lib.hid L
       have O:bU M ad ((((d+1)*i:Nat):Int)*c):=by
        have:=ab.out;rw[Nat.add_mul,Nat.one_mul];exact this
       have g7:=Lib.hid O;clear Y L O;go_wp2_with fail
       go_roundg (da-1)
       case rel=>exact⟨d+1,a1,ad,N,by simp,by have:=d9.out;omega,K.out,bi.out,a8.out.a4,Z.out,bv,bg.out,W.out,ab.out |> fun _=>g7.out⟩
       case measure=>have:=d9.out;omega
    ·have cl:d=bn:=(by omega);subst cl;have Y:=c3.out;rw[bb.out,List.take_length]at Y;have bi:=Lib.hid Y;clear Y;go_wp2_with fail
     obtain⟨N,L⟩:∃A,A=t:=⟨t,rfl⟩;go_loopg [84] d (fun gk A a7=>∃(i:Nat),A=.int .i64 (i:Int)∧i+gk=d∧bC Fo a7 a3 (aJ ps (ss.take i))∧ae Fo t a7)
     case atStart=>exact⟨0,rfl,by omega,by simpa[aJ]using bg.out,ae.refl _ _⟩
     case round=>
      obtain⟨i,rfl,hi,t,aw⟩:=hrel;have ec:=Lib.hid t;have c6:=Lib.hid aw;have A:ae (fun j=>F j∨Fo j) w wr:=W.out.b9 aw (fun j J s=>.inr s);have el:=Lib.hid A;clear t aw A;by_cases b5:i<d
      ·obtain⟨z,I⟩:∃b,ss[i]?=some b:=⟨_,List.getElem?_eq_getElem (by rw[←bb.out];exact b5)⟩;obtain⟨g8,hN,dl,cs⟩:=eg.out wr el.out i (z:Int) (by rw[List.getElem?_map,I];rfl);have fp:=fJ I;have fi:=ek.out z (List.mem_of_getElem? I);have g2:=Lib.hid (yo ec.out z (by rw[eP];exact fi));have c5:=Lib.hid fp;subst dl;clear I fp fi;go_wp2_with fail
       refine g2.out.mono ?_;rintro t t ⟨rfl,hA,hd⟩;go_wp2_with fail
       go_roundg (gk-1)
       case rel=>exact⟨i+1,by simp,by omega,by rw[c5.out,iZ];exact hd,c6.out.a' hA⟩
       case measure=>omega
      ·have cn:i=d:=(by omega);have dk:=ec.out;rw[cn,bb.out,List.take_length]at dk;have e6:¬Fo g:=fun s=>by have:=be.out.lt _ s;omega
       have e9:iB F Fo w S a3 M ps ss rs c (.returned (.tuple #[.slice (some ⟨g,0,none⟩) E E,.int .u8 0])) wr:=by
        refine⟨g,es,c9,b9,by rw[X.out],K.out.a5 c6.out e6,hn,bi.out,ca.out.a5 c6.out (fun j J s=>?_),Z.out,bv,dk,el.out,?_⟩
        ·have hp:=be.out.lt j s;rcases Z.out j J with q|q;·exact d8.out j q s
         ·omega
        ·rw[←X.out,←bb.out];exact ab.out
       have gB:=Lib.hid e9;clear cn dk e6 e9;go_wp2_with fail
       go_ret2
       exact gB.out

end Go.Proofs.YtafkamlhimkbmaaGreat
