/-
  sift.Size of few nodes.
-/
import Derived.Test.YtafkamlhimkbmaaGreatPRSfSize
import Derived.Test.YtafkamlhimkbmaaGreatPSiftC
import Derived.Test.YtafkamlhimkbmaaGreatPSiftI
namespace Go.Proofs.YtafkamlhimkbmaaGreat
set_option maxRecDepth 1000000
set_option maxHeartbeats 8000000
set_option linter.unusedSimpArgs false
set_option linter.unusedVariables false
open Go.RowKit

theorem Ar {F:Nat→Prop}{w:World}{X:Nat}{M:St}(h:ag F w X M)(a:Option Addr)(cap:Nat)(rs:List (Int×Edge))(s:dz w a rs)(q:rs.length≤1048576)(T:dX M rs=0)(K:(aQ M.cs ((rs.map Prod.snd).map Edge.to)).length≤12) :
  Calls Tryz.prog 19 #[.pointer (some ⟨X,0,none⟩),.slice a rs.length cap] w fun e w'=>e=.returned (.tuple #[.int .i64 ((aQ M.cs ((rs.map Prod.snd).map Edge.to)).length:Int),.int .u8 0])∧aa w w':=by
 have E:=lq h a cap rs s q
 rw[T]at E
 have U:∀e∈rs.map Prod.snd,e.ok:=fun e A=>by
  obtain⟨r,ad,rfl⟩:=List.mem_map.1 A;obtain⟨i,hi⟩:=List.mem_iff_getElem?.1 ad;exact(s i r hi).2.1
 have O:=fun(j:World) (X:Nat) (z:aa w j) (ad:j.cell? ⟨X,2,none⟩=some (.slice a rs.length cap))=>ke ad (s.U z) rfl q
 have W:=fun(j:World) (g:Nat) (z:aa w j) (S:bJ j g (rs.map Prod.snd))=>zq (h.U z) (some ⟨g,0,none⟩) rs.length rs.length (rs.map Prod.snd) ⟨by rw[List.length_map],fun i e A=>(S.at U) i e A⟩ q K
 have J:=Lib.hid E
 have I:=Lib.hid O
 have t:=Lib.hid W
 obtain⟨j,N⟩:∃j,j=rs.length:=⟨_,rfl⟩
 rw[←N]at J I t q ⊢
 obtain⟨j,L⟩:∃j,j=aQ M.cs ((rs.map Prod.snd).map Edge.to):=⟨_,rfl⟩
 rw[←L]at t ⊢
 clear h s T E U O W N L K
 go_enter Tryz.func19,Tryz.ntmps19
 go_wp2_with (first|(go_at_call 49;refine J.out.mono ?_;rintro e w1 ⟨rfl,am⟩)|fail)
 refine(I.out _ _ (by(exact kp)) (by simp[go_sem])).mono ?_
 rintro e Y ⟨g,rfl,S,q,s⟩
 have j:aa w Y:=(show aa w _ from am.alloc _).trans s
 have ab:=Lib.hid (t.out Y g j q)
 have Z:=Lib.hid j
 clear q s j
 go_wp2_with fail
 refine ab.out.mono ?_
 rintro e j ⟨v,rfl,⟨aw,a1,rfl,-⟩,av,-⟩
 go_wp2_with fail
 go_ret2
 exact⟨rfl,Z.out.trans av⟩

theorem mB {F Fo:Nat→Prop}{w:World}{bn bi cap0 g n p:Nat}{a0:Option Addr}{M:St}{qs:List Int}{fs:List (Int×List Bool)}{rs:List (Int×Edge)}(hS:eo F Fo w bn bi M qs)(t:ar qs=true)(A:qs.length=n)(Z:p=2 ^ n)(cb:n≤5)(a3:ct M qs fs rs)(bg:M.len=(ai fs qs:Int))(bb:M.len+64≤1048576)(W:eI w a0 p fs)(T:fs.length≤4)(a8:bJ w g (rs.map Prod.snd)) :
  Calls Tryz.prog 16 #[.pointer (some ⟨bn,0,none⟩),.pointer (some ⟨bi,0,none⟩),.slice a0 fs.length cap0,.slice (some ⟨g,0,none⟩) fs.length fs.length] w fun e w'=>e=.returned (.bool true)∧aa w w':=by
 have a1:=kV hS.b7
 rw[A]at a1
 have a2:=fun(a:Option Addr) (c:Nat) (q:World) (L:aG q a qs)=>nn a c qs q L (by omega)
 simp only[t,A]at a2
 have Y:=fun(q:World) (s:aa w q)=>jR (hS.a4.U s)
 rw[bg]at Y
 have N:=fun(a:Option Addr) (c:Nat) (q:World) (L:aG q a qs) (s:aa w q)=>ns a a0 c cap0 qs fs q L t (by omega) (by rw[A,←Z];exact W.U s) T
 simp only[A]at N
 have be:=fun(a:Option Addr) (c i:Nat) (j:Int×List Bool) (r:Int×Edge) (hi:fs[i]?=some j) (E:rs[i]?=some r) (B:Nat) (q:World) (L:aG q a qs) (s:aa w q) (U:bu q B j.2)=>by
  obtain⟨b0,a7,ab⟩:=a3.2 i j r hi E;obtain⟨-,bn,-⟩:=W i j hi;have bi:M.n=(qs.length:Int):=hS.n;have:=wL (ws:=bB j.2) (hS.a4.U s) a c L t (by omega) bi r.1 a7 ab.ok ab.lead ab.right (AJ hS.a4 a7 t bi (by omega) bb ab) (some ⟨B,0,none⟩) p (oS U (by rw[bn,Z,A]));rw[A,←Z,b0]at this;exact this
 have aw:∀i,i<fs.length→∃j r,fs[i]?=some j∧rs[i]?=some r:=fun i hi=>⟨_,_,List.getElem?_eq_getElem hi,List.getElem?_eq_getElem (by rw[a3.1];exact hi)⟩
 have a':∀i j r,fs[i]?=some j→rs[i]?=some r→∃b off B,a0=some ⟨b,off,none⟩∧w.cell? ⟨b,off+i*2,none⟩=some (.int .u8 j.1)∧w.cell? ⟨b,off+i*2+1,none⟩=some (.slice (some ⟨B,0,none⟩) p p)∧bu w B j.2∧w.cell? ⟨g,i*2,none⟩=some (.int .u8 r.2.tag)∧w.cell? ⟨g,i*2+1,none⟩=some (.int .u32 r.2.to):=fun i j r hi E=>by
  obtain⟨-,-,b,off,B,b1,b2,b3,T⟩:=W i j hi;obtain⟨I,J⟩:=a8.cell (i:=i) (e:=r.2) (by rw[List.getElem?_map,E];rfl);exact⟨b,off,B,b1,b2,b3,T,I,J⟩
 obtain⟨L,av⟩:∃L:Nat,L=ai fs qs:=⟨_,rfl⟩
 rw[←av]at Y
 simp only[←av]at N
 obtain⟨K,am⟩:∃K,K=fs.length:=⟨_,rfl⟩
 rw[←am]at aw T ⊢
 simp only[←am]at N
 have bs:=Lib.hid a1
 have bt:=Lib.hid a2
 have br:=Lib.hid Y
 have bv:=Lib.hid N
 have bq:=Lib.hid be
 have a5:=Lib.hid aw
 have a4:=Lib.hid a'
 clear a1 a2 Y N be aw a' hS t A Z a3 bg bb W a8 av am
 go_enter Tryz.func16,Tryz.ntmps16
 go_wp2_with fail
 refine bs.out.mono ?_
 rintro e w1 ⟨bw,bx,rfl,A,L⟩
 have ad:=Lib.hid A.ea
 have a6:=Lib.hid L
 clear A
 go_wp2_with (first
  |(go_at_call 9;refine(bt.out _ _ _ (ad.out.U (by(exact kp)))).mono ?_;rintro e b6 ⟨rfl,rfl⟩)
  |(go_at_call 21;refine(br.out _ (by(exact kp))).mono ?_;rintro e b6 ⟨rfl,rfl⟩)
  |(go_at_call 20;refine(bv.out _ _ _ (ad.out.U (by(exact kp))) (by(exact kp))).mono ?_;rintro e cd ⟨rfl,A⟩)
  |fail)
 go_loopg [10] K (fun gk A wr=>∃d:Nat,A=.int .i64 (d:Int)∧d+gk=K∧aa w1 wr)
 case atStart=>exact⟨0,rfl,by omega,by(exact kp)⟩
 case round=>
  obtain⟨d,rfl,A,X⟩:=hrel;by_cases b5:d<K
  ·obtain⟨j,r,t,E⟩:=a5.out d b5;obtain⟨b,off,B,rfl,O,S,U,I,J⟩:=a4.out d j r t E;have z:=a6.out.trans X;replace O:=z.cell O;replace S:=z.cell S;replace I:=z.cell I;replace J:=z.cell J;have bp:=Lib.hid (fun(q:World) (s:aa wr q)=>bq.out bw bx d j r t E B q (ad.out.U (X.trans s)) (z.trans s) (jo U (z.trans s)));obtain⟨f,ts⟩:=j;obtain⟨j,x⟩:=r;dsimp only at O S I J;clear t E U a4 a5 z;have b7:=aj.cell O;have b8:=aj.cell S;have b9:=aj.cell I;have ca:=aj.cell J;go_wp2_with fail
   refine dT (wr) (by kernel_rfl) (by kernel_rfl) (by(exact kp)) ?_;(repeat (go_big_quiet_step ((first|(go_at_call 57;with_reducible refine Calls.b5 (bp.out _ (aj.a5 _)))))));refine wpQuiet_nil ?_;rintro j ⟨⟨_,b4⟩,rfl⟩;try dsimp only
   clear b7 b8 b9 ca;go_wp2_with fail
   go_roundg (gk-1)
   case rel=>exact⟨d+1,by simp,by omega,X.trans b4⟩
   case measure=>omega
  ·go_wp2_with fail
   go_ret
   exact⟨rfl,a6.out.trans X⟩

theorem tn {F0 Fo:Nat→Prop}{w0 w:World}{E lb cap Z Y n j a b m g:Nat}{X:Option Addr}{ps:List Int}{fs:List (Int×List Bool)}(h:aL F0 Fo (fun s=>s=j) w0 w E lb X cap Z Y ps fs)(bw:ps.length=n)(b2:bO w j a b m)
  (W:j<w0.heap.size∧¬F0 j∧¬Fo j∧j≠E∧j≠lb) (a8:a<n) (am:b<n) (T:m≤508) (ch:g≤1000) :
  Calls Tryz.prog 109 #[.pointer (some ⟨E,0,none⟩),.pointer (some ⟨j,0,none⟩),.int .i64 (-1),.int .i64 0,.int .i64 (g:Int)] w fun e w'=>e=.returned (.bool true) ∧
   aL F0 Fo (fun s=>s=j) w0 w' E lb X cap Z Y (bV (ai fs) g a ps b m).1 fs∧bO w' j (bV (ai fs) g a ps b m).2.1 (bV (ai fs) g a ps b m).2.2.1 (bV (ai fs) g a ps b m).2.2.2:=by
 obtain⟨A,J⟩:∃A,A=bV (ai fs) g a ps b m:=⟨_,rfl⟩
 rw[←J]
 have ch:n≤6:=by have:=h.en.1.1;omega
 have be:=Lib.hid h
 have bn:=Lib.hid J
 have b4:=Lib.hid bw
 have N:=Lib.hid b2
 have bp:=Lib.hid W
 have bx:¬(F0 j∨Fo j∨j=lb∨w0.heap.size≤j):=fun cf=>by
  rcases cf with q|q|q|q;·exact W.2.1 q
  ·exact W.2.2.1 q
  ·exact W.2.2.2.2 q
  ·omega
 have b5:=Lib.hid bx
 clear h J bw b2 W bx
 go_enter Tryz.func109,Tryz.ntmps109
 go_wp2_with fail
 go_loopg [11] a (fun gk W wr=>∃(p:List Int) (b m:Nat),gk<n∧b<n∧m≤508∧(p.length=n∧bV (ai fs) g gk p b m=A)∧aL F0 Fo (fun s=>s=j) w0 wr E lb X cap Z Y p fs∧bO wr j gk b m)
 case atStart=>exact⟨ps,b,m,a8,am,T,⟨b4.out,bn.out.symm⟩,be.out,N.out⟩
 case round=>
  clear be N bn am T a8;obtain⟨p,b,m,a8,am,T,⟨bb,t⟩,O,J⟩:=hrel;obtain⟨b7,b8,b9,bq⟩:=J.cells;by_cases ce:gk=0
  ·subst ce;have U:aL F0 Fo (fun s=>s=j) w0 wr E lb X cap Z Y A.1 fs∧bO wr j A.2.1 A.2.2.1 A.2.2.2:=(by rw[←t];exact⟨O,J⟩);have L:=Lib.hid U;clear t U O J bb bq;go_wp2_with fail
   go_ret
   exact⟨rfl,L.out.1,L.out.2⟩
  ·obtain⟨a,rfl⟩:∃a,gk=a+1:=⟨gk-1,by omega⟩;have a8:=fun(ab:World) (a6:aa wr ab)=>jk (O.U a6) a (by omega);have W:=O.en;have ca:=W.2.1.c0;have be:IntKind.i64.wrap ((a:Int)+1 + -1)=(a:Int):=(IntWalk.i64_in _ ⟨by omega,by omega⟩).trans (by omega);have bi:=Lib.hid a8;have N:=Lib.hid J;have K:=Lib.hid t;have bg:=Lib.hid bb;clear a8 J t bb O W;go_wp2_with fail
   refine jg 12 #[true,true,true,true,true,true,true,true,true,true,true,true,false,false] (by kernel_rfl) (by kernel_rfl) ?_;simp only[List.take_succ_cons,List.take_zero,List.drop_succ_cons,List.drop_zero];repeat still_step
   refine wpStill_nil ?_;refine wpAny_ready (fuel:=1) (rs:=[12]) (by kernel_rfl) (by decide) (AllReady.cons rfl (fun a2 S=>?_) AllReady.nil);go_simp;rw[if_pos (show(a:Int)<(a:Int)+1 by omega)];refine(bi.out _ (by(exact kp))).mono ?_;rintro e w1 ⟨rfl,a3,bt⟩;refine S _ _ ?_;clear S a2;refine wpAny_ready (rs:=[13]) (by kernel_rfl) (by decide) (AllReady.cons rfl (fun a2 S=>?_) AllReady.nil);go_simp;refine S _ _ ?_;clear S a2;refine wpAny_done (by kernel_rfl) ?_ _;have a5:=(N.out.U (((aa.refl wr).drew))).a5 bt b5.out;have a7:∀s,s=j→s<w0.heap.size∧¬F0 s∧¬Fo s∧s≠E∧s≠lb:=fun s cg=>(by subst cg;exact bp.out);have ad:=a3.fD (w':=w1.setCell ⟨j,0,none⟩ (.int .i64 (a:Int))) ((ae.refl (fun s=>s=j) w1).setCell (.inl rfl) _) a7;have bs:=a5.ha a (a:Int) rfl;have a':=fun(ab:World) (a6:aa (w1.setCell ⟨j,0,none⟩ (.int .i64 (a:Int))) ab)=>kf ad ab a6;have a4:=ad.size;obtain⟨O,J,S,W⟩:=a5.cells;have J:=a3.en.2.1.c0;have J:j≠E:=bp.out.2.2.2.1;have S:E≠j:=fun e=>J e.symm;have J:j<w1.heap.size:=aD O;obtain⟨z,br⟩:∃z,z=ai fs (aq p a):=⟨_,rfl⟩;have t:=K.out;unfold bV at t;rw[←br]at a' a4 t;have aw:=Lib.hid a';have av:=Lib.hid ad;have a1:=Lib.hid bs;have b6:=Lib.hid a7;clear a' ad bs a3 bt a5 a7 br K bi N b7 b8 b9 ca bq;by_cases bv:z<m
   ·have b0:¬(100+g)*min m z<100*z:=by
     rw[Nat.min_eq_right (by omega),Nat.add_mul];omega
    rw[if_neg b0,if_pos bv,Nat.min_eq_right (by omega)]at t;have K:=Lib.hid t;obtain⟨Q,I⟩:∃Q:Nat,Q=(100+g)*z:=⟨_,rfl⟩;have cd:(100+(g:Int))*(z:Int)=(Q:Int):=(by rw[I];push_cast;rfl);have cb:Q≤1100*508:=(by rw[I];exact Nat.mul_le_mul (by omega) a4);have J:100*z≤Q:=(by rw[I,Nat.add_mul];omega);clear t b0 I;go_wp2_with (first|(go_at_call 21;refine(aw.out _ (by(exact kp))).mono ?_;rintro e b3 ⟨rfl,rfl⟩)|fail)
    go_roundg a
    case rel=>exact⟨aq p a,a,z,by omega,by omega,a4,⟨by rw[ck];exact bg.out,K.out⟩,av.out.fD ((((ae.refl (fun s=>s=j) _).setCell (.inl rfl) _)).setCell (.inl rfl) _) b6.out,(a1.out.hc z _ rfl).hb a _ rfl⟩
    case measure=>omega
   ·rw[if_neg bv,Nat.min_eq_left (by omega)]at t;obtain⟨Q,I⟩:∃Q:Nat,Q=(100+g)*m:=⟨_,rfl⟩;have cd:(100+(g:Int))*(m:Int)=(Q:Int):=(by rw[I];push_cast;rfl);have cb:Q≤1100*508:=(by rw[I];exact Nat.mul_le_mul (by omega) T);rw[←I]at t;clear I;by_cases b1:Q<100*z
    ·rw[if_pos b1]at t;have U:aL F0 Fo (fun s=>s=j) w0 (w1.setCell ⟨j,0,none⟩ (.int .i64 (a:Int))) E lb X cap Z Y A.1 fs∧bO (w1.setCell ⟨j,0,none⟩ (.int .i64 (a:Int))) j A.2.1 A.2.2.1 A.2.2.2:=(by rw[←t];exact⟨av.out,a1.out⟩);have L:=Lib.hid U;clear t U;go_wp2_with (first|(go_at_call 21;refine(aw.out _ (by(exact kp))).mono ?_;rintro e b3 ⟨rfl,rfl⟩)|fail)
     go_ret
     exact⟨rfl,L.out.1,L.out.2⟩
    ·rw[if_neg b1]at t;have K:=Lib.hid t;clear t;go_wp2_with (first|(go_at_call 21;refine(aw.out _ (by(exact kp))).mono ?_;rintro e b3 ⟨rfl,rfl⟩)|fail)
     go_roundg a
     case rel=>exact⟨aq p a,b,m,by omega,am,T,⟨by rw[ck];exact bg.out,K.out⟩,av.out,a1.out⟩
     case measure=>omega

theorem ti {F Fo:Nat→Prop}{w:World}{O lb cap ab Z n v g:Nat}{Y:Option Addr}{M:St}{ps:List Int}{fs:List (Int×List Bool)}{rs:List (Int×Edge)}(h:fm F Fo w O lb Y cap ab Z M ps fs rs)(T:ps.length=n)(N:v<n)(b5:g≤1000) :
  Calls Tryz.prog 58 #[.pointer (some ⟨O,0,none⟩),.int .i64 (v:Int),.int .i64 (g:Int)] w fun e w'=>e=.returned (.bool true)∧aL F Fo (fun _=>False) w w' O lb Y cap ab Z (gw (ai fs) g ps (ps.idxOf (v:Int))) fs:=by
 have b7:=kZ h.perm (v:=(v:Int)) (by omega) (by omega)
 have X:ps.idxOf (v:Int)<n:=by rw[←T];exact List.idxOf_lt_length_of_mem b7
 have b6:ps[ps.idxOf (v:Int)]?=some (v:Int):=by rw[List.getElem?_eq_getElem (by rw[T];exact X),List.getElem_idxOf]
 have bg:=fun(A:World) (S:aa w A)=>yn (h.bp.b7.U S) (ps.idxOf (v:Int)) v b6
 have bp:=fun(A:World) (S:aa w A)=>kW (h.bp.b7.U S)
 have be:=kf (aL.start h (fun _=>False))
 have a6:=aL.size (aL.start h (fun _=>False))
 have bb:=h.cells
 have E:=h.n6
 obtain⟨a,b3⟩:∃a,a=ps.idxOf (v:Int):=⟨_,rfl⟩
 obtain⟨t,a7⟩:∃t,t=ai fs ps:=⟨_,rfl⟩
 rw[←b3]at X bg ⊢
 rw[←a7]at be a6
 rw[T]at bp E
 have ci:=bb.c0
 have bx:=bb.c1
 obtain⟨E,N⟩:=h.ew
 have a2:gw (ai fs) g ps a=aJ (bV (ai fs) g (aP (ai fs) g (n-1-a) ps a a t).2.1 (aP (ai fs) g (n-1-a) ps a a t).1 (aP (ai fs) g (n-1-a) ps a a t).2.2.1 (aP (ai fs) g (n-1-a) ps a a t).2.2.2).1 (bA (bV (ai fs) g (aP (ai fs) g (n-1-a) ps a a t).2.1 (aP (ai fs) g (n-1-a) ps a a t).1 (aP (ai fs) g (n-1-a) ps a a t).2.2.1 (aP (ai fs) g (n-1-a) ps a a t).2.2.2).2.1 (bV (ai fs) g (aP (ai fs) g (n-1-a) ps a a t).2.1 (aP (ai fs) g (n-1-a) ps a a t).1 (aP (ai fs) g (n-1-a) ps a a t).2.2.1 (aP (ai fs) g (n-1-a) ps a a t).2.2.2).2.2.1):=by
  rw[a7,←T];rfl
 have I:=lD (ai fs) g n (n-1-a) ps a a t T (by omega) X
 obtain⟨z,a8⟩:∃z,z=aP (ai fs) g (n-1-a) ps a a t:=⟨_,rfl⟩
 rw[←a8]at a2 I
 have ad:=lE (ai fs) g n z.2.1 z.1 z.2.2.1 z.2.2.2 I.len I.cj I.db
 obtain⟨J,a'⟩:∃J,J=bV (ai fs) g z.2.1 z.1 z.2.2.1 z.2.2.2:=⟨_,rfl⟩
 rw[←a']at a2 ad
 rw[a2]
 -- the three trips, from the world in which the trip lies
 have av:=fun(W0 A:World) (q:Nat) (am:aa w W0) (L:w.heap.size≤q∧q<W0.heap.size) (bi:bO W0 q a a t) (S:aa W0 A)=>by
  have bq:¬F q:=fun N=>by have:=h.bp.a4.lt q N;omega
  have br:¬Fo q:=fun N=>by have:=h.bp.b7.lt q N;omega
  exact tg (F0:=F) (w0:=W0) ((aL.start (h.U am) (fun E=>E=q)).U S) T (bi.U S) ⟨L.2,bq,br,by omega,by omega⟩ X X a6 b5
 have bn:=fun(W0 A:World) (q:Nat) (am:aa w W0) (L:w.heap.size≤q∧q<W0.heap.size) (S:aL F Fo (fun E=>E=q) W0 A O lb Y cap ab Z z.1 fs) (bi:bO A q z.2.1 z.2.2.1 z.2.2.2)=>by
  have bq:¬F q:=fun N=>by have:=h.bp.a4.lt q N;omega
  have br:¬Fo q:=fun N=>by have:=h.bp.b7.lt q N;omega
  exact tn (n:=n) (g:=g) S I.len bi ⟨L.2,bq,br,by omega,by omega⟩ I.cj I.db (Nat.le_trans I.eb a6) b5
 have b8:=fun(W0 A:World) (q:Nat) (S:aL F Fo (fun E=>E=q) W0 A O lb Y cap ab Z J.1 fs)=>tm (n:=n) S ad.len J.2.1 J.2.2.1 ad.cj ad.db
 have b4:=fun(W0 A:World) (q:Nat) (am:aa w W0) (L:w.heap.size≤q) (S:aL F Fo (fun E=>E=q) W0 A O lb Y cap ab Z (aJ J.1 (bA J.2.1 J.2.2.1)) fs)=>aL.next (F0:=F) (X0:=fun _=>False) (w0:=w) (fun E z=>.inl z) (am.av _) (fun E z=>.inr (by rw[z];exact L)) S
 rw[←a8]at av
 rw[show((n-1:Nat):Int)=(n:Int)-1 by omega]at av
 simp only[←a']at bn
 have cd:=Lib.hid bg
 have ch:=Lib.hid bp
 have cb:=Lib.hid be
 have ca:=Lib.hid av
 have cg:=Lib.hid bn
 have bw:=Lib.hid b8
 have bv:=Lib.hid b4
 clear bg bp be av bn b8 b4 h bb b7 b6 a2 I ad a8 a' b3 a7
 go_enter Tryz.func58,Tryz.ntmps58
 go_wp2_with (first
  |(go_at_call 108;refine(cd.out _ (by(exact kp))).mono ?_;rintro e w1 ⟨rfl,rfl⟩)
  |(go_at_call 21;refine(cb.out _ (by(exact kp))).mono ?_;rintro e w1 ⟨rfl,rfl⟩)
  |fail)
 have aw:aa w (w.alloc (.cells #[.int .i64 (a:Int),.int .i64 (a:Int),.int .i64 (t:Int)] 185)):=(aa.refl _).alloc _
 have a4:bO (w.alloc (.cells #[.int .i64 (a:Int),.int .i64 (a:Int),.int .i64 (t:Int)] 185)) w.heap.size a a t:=by
  show(w.heap.push _)[w.heap.size]?=_;simp
 have a3:w.heap.size<(w.alloc (.cells #[.int .i64 (a:Int),.int .i64 (a:Int),.int .i64 (t:Int)] 185)).heap.size:=by simp
 obtain⟨K,b2⟩:∃K,K=w.alloc (.cells #[.int .i64 (a:Int),.int .i64 (a:Int),.int .i64 (t:Int)] 185):=⟨_,rfl⟩
 rw[←b2]at aw a4 a3 ⊢
 clear b2
 obtain⟨q,L⟩:∃q,q=w.heap.size:=⟨_,rfl⟩
 rw[←L]at a4 a3 ⊢
 have a1:w.heap.size≤q:=by omega
 have t:IntKind.i64.wrap ((n:Int)-1)=(n:Int)-1:=IntWalk.i64_in _ ⟨by omega,by omega⟩
 have t:=aw.cell bx
 have ce:=Lib.hid a4
 have U:=Lib.hid aw
 clear L a4 aw ci bx
 refine jg 9 #[true,true,true,true,true,true,true,true,true,false,false,false,false,false,false,false,false,false,false,false,false,false,false,false,false,false,false,false,false] (by kernel_rfl) (by kernel_rfl) ?_
 simp only[List.take_succ_cons,List.take_zero,List.drop_succ_cons,List.drop_zero]
 repeat still_step
 refine wpStill_step (fun s j=>?_)
 go_simp
 refine⟨_,(ch.out _ (U.out.trans (by(exact kp)))).mono (fun _ _ ⟨t,z⟩=>⟨t,z.symm⟩),j _ ?_⟩
 clear j s
 repeat still_step
 refine wpStill_nil ?_
 refine wpAny_ready (fuel:=19) (rs:=[9]) (by kernel_rfl) (by decide) (AllReady.cons rfl (fun s j=>?_) AllReady.nil)
 go_simp
 refine(ca.out K _ q U.out ⟨a1,a3⟩ ce.out (by(exact kp))).mono ?_
 rintro t t ⟨rfl,t,z⟩
 have b9:=Lib.hid t
 have cf:=Lib.hid z
 clear t z
 refine j _ _ ?_
 clear j s
 refine wpAny_ready (rs:=[10]) (by kernel_rfl) (by decide) (AllReady.cons rfl (fun s j=>?_) AllReady.nil)
 go_simp
 refine j _ _ ?_
 clear j s
 refine wpAny_take (i:=11) (v:=?_) rfl (by kernel_rfl) (by kernel_rfl) (by kernel_rfl) (fun _ _ _ h=>h) (Or.inl ⟨by rfl,?_⟩) ?_
 rotate_left
 ·intro w;go_simp;try with_reducible rfl
 refine wpAny_take (i:=12) (v:=?_) rfl (by kernel_rfl) (by kernel_rfl) (by kernel_rfl) (fun _ _ _ h=>h) (Or.inl ⟨by rfl,?_⟩) ?_
 rotate_left
 ·intro w;go_simp;try with_reducible rfl
 refine wpAny_take (i:=13) (v:=?_) rfl (by kernel_rfl) (by kernel_rfl) (by kernel_rfl) (fun _ _ _ h=>h) (Or.inl ⟨by rfl,?_⟩) ?_
 rotate_left
 ·intro w;go_simp;try with_reducible rfl
 refine wpAny_ready (rs:=[14]) (by kernel_rfl) (by decide) (AllReady.cons rfl (fun s j=>?_) AllReady.nil)
 go_simp
 refine(cg.out K _ q U.out ⟨a1,a3⟩ (b9.out.U (by(exact kp))) (cf.out.U (by(exact kp)))).mono ?_
 rintro t t ⟨rfl,b0,b1⟩
 obtain⟨A,E,t,z⟩:=b1.cells
 have bt:=Lib.hid b0
 clear b0 b1 z t
 refine j _ _ ?_
 clear j s
 refine wpAny_ready (rs:=[15]) (by kernel_rfl) (by decide) (AllReady.cons rfl (fun s j=>?_) AllReady.nil)
 go_simp
 refine j _ _ ?_
 clear j s
 refine wpAny_ready (rs:=[16]) (by kernel_rfl) (by decide) (AllReady.cons rfl (fun s j=>?_) AllReady.nil)
 go_simp
 refine j _ _ ?_
 clear j s
 refine wpAny_take (i:=17) (v:=?_) rfl (by kernel_rfl) (by kernel_rfl) (by kernel_rfl) (fun _ _ _ h=>h) (Or.inl ⟨by rfl,?_⟩) ?_
 rotate_left
 ·intro w;go_simp;try with_reducible rfl
 refine wpAny_take (i:=18) (v:=?_) rfl (by kernel_rfl) (by kernel_rfl) (by kernel_rfl) (fun _ _ _ h=>h) (Or.inl ⟨by rfl,?_⟩) ?_
 rotate_left
 ·intro w;go_simp;try with_reducible rfl
 refine wpAny_take (i:=19) (v:=?_) rfl (by kernel_rfl) (by kernel_rfl) (by kernel_rfl) (fun _ _ _ h=>h) (Or.inl ⟨by rfl,?_⟩) ?_
 rotate_left
 ·intro w;go_simp;try with_reducible rfl
 refine wpAny_take (i:=20) (v:=?_) rfl (by kernel_rfl) (by kernel_rfl) (by kernel_rfl) (fun _ _ _ h=>h) (Or.inl ⟨by rfl,?_⟩) ?_
 rotate_left
 ·intro w;go_simp;try with_reducible rfl
 refine wpAny_take (i:=22) (v:=?_) rfl (by kernel_rfl) (by kernel_rfl) (by kernel_rfl) (fun _ _ _ h=>h) (Or.inl ⟨by rfl,?_⟩) ?_
 rotate_left
 ·intro w;go_simp;try with_reducible rfl
 refine wpAny_take (i:=23) (v:=?_) rfl (by kernel_rfl) (by kernel_rfl) (by kernel_rfl) (fun _ _ _ h=>h) (Or.inl ⟨by rfl,?_⟩) ?_
 rotate_left
 ·intro w;go_simp;try with_reducible rfl
 refine wpAny_take (i:=24) (v:=?_) rfl (by kernel_rfl) (by kernel_rfl) (by kernel_rfl) (fun _ _ _ h=>h) (Or.inl ⟨by rfl,?_⟩) ?_
 rotate_left
 ·intro w;go_simp;try with_reducible rfl
 refine wpAny_ready (rs:=[21,25]) (by kernel_rfl) (by decide) (AllReady.cons rfl (fun s j=>?_) (AllReady.cons rfl (fun s j=>?_) AllReady.nil))
 ·go_simp;refine j _ _ ?_;clear j s;refine wpAny_ready (rs:=[25]) (by kernel_rfl) (by decide) (AllReady.cons rfl (fun s j=>?_) AllReady.nil);go_simp;refine j _ _ ?_;clear j s;refine wpAny_ready (rs:=[26]) (by kernel_rfl) (by decide) (AllReady.cons rfl (fun s j=>?_) AllReady.nil);go_simp;refine(bw.out K _ q (bt.out.U (by(exact kp)))).mono ?_;rintro cj bs ⟨rfl,W⟩;have a5:=Lib.hid W;clear W;refine j _ _ ?_;clear j s;refine wpAny_ready (rs:=[27]) (by kernel_rfl) (by decide) (AllReady.cons rfl (fun s j=>?_) AllReady.nil);go_simp;refine j _ _ ?_;clear j s;refine wpAny_ready (rs:=[28]) (by kernel_rfl) (by decide) (AllReady.cons rfl (fun s j=>?_) AllReady.nil);go_simp;refine j _ _ ?_;clear j s;refine wpAny_done (by kernel_rfl) ?_ _;go_wp2_with fail
  go_ret
  exact⟨rfl,bv.out K bs q U.out a1 a5.out⟩
 ·go_simp;refine j _ _ ?_;clear j s;refine wpAny_ready (rs:=[21]) (by kernel_rfl) (by decide) (AllReady.cons rfl (fun s j=>?_) AllReady.nil);go_simp;refine j _ _ ?_;clear j s;refine wpAny_ready (rs:=[26]) (by kernel_rfl) (by decide) (AllReady.cons rfl (fun s j=>?_) AllReady.nil);go_simp;refine(bw.out K _ q (bt.out.U (by(exact kp)))).mono ?_;rintro cj bs ⟨rfl,W⟩;have a5:=Lib.hid W;clear W;refine j _ _ ?_;clear j s;refine wpAny_ready (rs:=[27]) (by kernel_rfl) (by decide) (AllReady.cons rfl (fun s j=>?_) AllReady.nil);go_simp;refine j _ _ ?_;clear j s;refine wpAny_ready (rs:=[28]) (by kernel_rfl) (by decide) (AllReady.cons rfl (fun s j=>?_) AllReady.nil);go_simp;refine j _ _ ?_;clear j s;refine wpAny_done (by kernel_rfl) ?_ _;go_wp2_with fail
  go_ret
  exact⟨rfl,bv.out K bs q U.out a1 a5.out⟩

theorem lu {fs:List (Int×List Bool)}{ps:List Int}(s:ps.length≤6)(z:fs.length≤4):ai fs ps≤20971520:=by
 have t:∀f:Nat,f<6→fk ps.length (eC ps fs) f≤f*4194304:=by
  intro f;induction f with
  |zero=>intro _;exact Nat.zero_le _
  |succ f z=>
   intro A;have A:=z (by omega);have j:=mO (k:=ps.length) s (f:=((f+1:Nat):Int)) (by omega) (eC ps fs) [];have q:(eC ps fs).length=fs.length:=(by simp[eC]);rw[q]at j;show fk ps.length (eC ps fs) f+_≤_;simp at j ⊢;omega
 have:=t 5 (by omega);have e:ai fs ps=fk ps.length (eC ps fs) 5:=rfl;omega

end Go.Proofs.YtafkamlhimkbmaaGreat
