/-
  sift.bed's to, goes.
-/
import Derived.Test.YtafkamlhimkbmaaGreatPSiftB
namespace Go.Proofs.YtafkamlhimkbmaaGreat
set_option maxRecDepth 1000000
set_option maxHeartbeats 8000000
set_option linter.unusedSimpArgs false
set_option linter.unusedVariables false
open Go.RowKit

theorem mS {d b:Nat}(h:d<b):bA d b=d::bA (d+1) b:=by
 have s:bA d b=(List.range (b-d)).map (fun i=>d+i):=if_pos h;rw[s,show b-d=(b-(d+1))+1 by omega,List.range_succ_eq_map];by_cases q:d+1<b
 ·have j:bA (d+1) b=(List.range (b-(d+1))).map (fun i=>d+1+i):=if_pos q;rw[j];simp only[List.map_cons,List.map_map,Nat.add_zero];congr 1
  apply List.map_congr_left;intro i _;simp only[Function.comp];omega
 ·have j:bA (d+1) b=(List.range (d+1-b)).map (fun i=>d+1-1-i):=if_neg q;rw[j,show d+1-b=0 by omega,show b-(d+1)=0 by omega];rfl

theorem mT {d b:Nat}(h:b<d):bA d b=(d-1)::bA (d-1) b:=by
 have j:bA d b=(List.range (d-b)).map (fun i=>d-1-i):=if_neg (by omega);have q:bA (d-1) b=(List.range (d-1-b)).map (fun i=>d-1-1-i):=if_neg (by omega);rw[j,q,show d-b=(d-1-b)+1 by omega,List.range_succ_eq_map];simp only[List.map_cons,List.map_map,Nat.sub_zero];congr 1
 apply List.map_congr_left;intro i _;simp only[Function.comp];omega

theorem jH (b:Nat):bA b b=[]:=by
 have j:bA b b=(List.range (b-b)).map (fun i=>b-1-i):=if_neg (by omega);rw[j,Nat.sub_self];rfl

theorem tm {F0 Fo J:Nat→Prop}{w0 w:World}{E lb cap T S n:Nat}{O:Option Addr}{ps:List Int}{fs:List (Int×List Bool)}(h:aL F0 Fo J w0 w E lb O cap T S ps fs)(Z:ps.length=n)(a b:Nat)(a1:a<n)(a6:b<n) :
  Calls Tryz.prog 110 #[.pointer (some ⟨E,0,none⟩),.int .i64 (a:Int),.int .i64 (b:Int)] w fun e w'=>e=.returned (.bool true)∧aL F0 Fo J w0 w' E lb O cap T S (aJ ps (bA a b)) fs:=by
 have aw:=h.en.1.1
 obtain⟨I,X⟩:∃I,I=aJ ps (bA a b):=⟨_,rfl⟩
 rw[←X]
 have ab:=Lib.hid h
 have av:=Lib.hid X
 have ad:=Lib.hid Z
 have a6:n≤6:=by omega
 clear h X Z aw
 go_enter Tryz.func110,Tryz.ntmps110
 go_wp2_with fail
 go_loopg [1] (b-a) (fun gk Y wr=>∃(d:Nat) (p:List Int),Y=.int .i64 (d:Int)∧d<n∧(b-d=gk∧p.length=n∧aJ p (bA d b)=I)∧aL F0 Fo J w0 wr E lb O cap T S p fs)
 case atStart=>exact⟨a,ps,rfl,a1,⟨rfl,ad.out,av.out.symm⟩,ab.out⟩
 case round=>
  obtain⟨d,p,rfl,a2,⟨a4,s,j⟩,q⟩:=hrel;by_cases X:d<b
  ·rw[mS X]at j;have N:=jk q d (by omega);have U:=Lib.hid N;have A:=Lib.hid j;have z:=Lib.hid s;clear j s N q;go_wp2_with fail
   refine U.out.mono ?_;rintro e w1 ⟨rfl,L,-⟩;have t:=Lib.hid L;clear L;go_wp2_with fail
   go_roundg (gk-1)
   case rel=>exact⟨d+1,aq p d,by simp,by omega,⟨by omega,by rw[ck];exact z.out,A.out⟩,t.out⟩
   case measure=>omega
  ·have t:=Lib.hid q;have A:=Lib.hid j;have z:=Lib.hid s;clear q j s;obtain⟨X,a5⟩:∃W,W=wr:=⟨wr,rfl⟩;subst a5;obtain⟨X,a3⟩:∃W,W=gk:=⟨gk,rfl⟩;subst a3;go_wp2_with fail
   go_loopg [1] (d-b) (fun gk Y wr=>∃(c:Nat) (p:List Int),Y=.int .i64 (c:Int)∧c<n∧b≤c∧(c-b=gk∧p.length=n∧aJ p (bA c b)=I)∧aL F0 Fo J w0 wr E lb O cap T S p fs)
   case atStart=>exact⟨d,p,rfl,a2,by omega,⟨rfl,z.out,A.out⟩,t.out⟩
   case round=>
    clear t A z;obtain⟨c,p,rfl,X,W,⟨a4,s,j⟩,q⟩:=hrel;by_cases W:b<c
    ·rw[mT W]at j;obtain⟨K,rfl⟩:∃K,c=K+1:=⟨c-1,by omega⟩;rw[Nat.add_sub_cancel]at j;have N:=jk q K (by omega);have U:=Lib.hid N;have A:=Lib.hid j;have z:=Lib.hid s;clear j s N q;go_wp2_with fail
     refine U.out.mono ?_;rintro e w1 ⟨rfl,L,-⟩;have t:=Lib.hid L;clear L;go_wp2_with fail
     go_roundg (gk-1)
     case rel=>exact⟨K,aq p K,by simp,by omega,by omega,⟨by omega,by rw[ck];exact z.out,A.out⟩,t.out⟩
     case measure=>omega
    ·have t:c=b:=(by omega);rw[t,jH]at j;have z:aL F0 Fo J w0 wr E lb O cap T S I fs:=(by rw[←j];exact q);have am:=Lib.hid z;clear j s q z t;go_wp2_with fail
     go_ret
     exact⟨rfl,am.out⟩

def bO (w:World)(j a b m:Nat):Prop:=w.heap[j]?=some (.cells #[.int .i64 (a:Int),.int .i64 (b:Int),.int .i64 (m:Int)] 185 (0,0))

theorem bO.cells {w:World}{j a b m:Nat}(h:bO w j a b m):w.cell? ⟨j,0,none⟩=some (.int .i64 (a:Int))∧w.cell? ⟨j,1,none⟩=some (.int .i64 (b:Int))∧w.cell? ⟨j,2,none⟩=some (.int .i64 (m:Int))∧∀i,w.frozen? ⟨j,i,none⟩=false:=
 ⟨by rw[cell_of_row w j 0 _ _ _ h];rfl,by rw[cell_of_row w j 1 _ _ _ h];rfl,by rw[cell_of_row w j 2 _ _ _ h];rfl,fun i=>frozen_of_row w j i _ _ h⟩

theorem bO.a5 {G:Nat→Prop}{w w':World}{j a b m:Nat}(h:bO w j a b m)(s:ae G w w')(q:¬G j):bO w' j a b m:=(s.block j (aN h) q).trans h

theorem bO.U {w w':World}{j a b m:Nat}(h:bO w j a b m)(q:aa w w'):bO w' j a b m:=h.a5 (q.av (fun _=>False)) (fun h=>h)

theorem bO.ha {w:World}{j a b m:Nat}(h:bO w j a b m)(q:Nat)(v:Int)(s:v=(q:Int)):bO (w.setCell ⟨j,0,none⟩ (.int .i64 v)) j q b m:=by subst s;exact Go.heap_setCell_same w j 0 _ _ (.int .i64 (q:Int)) h

theorem bO.hb {w:World}{j a b m:Nat}(h:bO w j a b m)(b':Nat)(v:Int)(q:v=(b':Int)):bO (w.setCell ⟨j,1,none⟩ (.int .i64 v)) j a b' m:=by subst q;exact Go.heap_setCell_same w j 1 _ _ (.int .i64 (b':Int)) h

theorem bO.hc {w:World}{j a b m:Nat}(h:bO w j a b m)(q:Nat)(v:Int)(s:v=(q:Int)):bO (w.setCell ⟨j,2,none⟩ (.int .i64 v)) j a b q:=by subst s;exact Go.heap_setCell_same w j 2 _ _ (.int .i64 (q:Int)) h

theorem aL.size {F0 Fo j:Nat→Prop}{w0 w:World}{q lb cap z t:Nat}{s:Option Addr}{ps:List Int}{fs:List (Int×List Bool)}(h:aL F0 Fo j w0 w q lb s cap z t ps fs):ai fs ps≤508:=by
 obtain⟨F,M,rs,j,-⟩:=h;have q:=j.bp.a4.wf.cx;have q:=j.bp.room;have q:=j.bx;have q:=(j.ch.size j.bp.a4 j.perm j.bp.n j.n6 (by have:=j.b0;omega)).2;omega

theorem kf {F0 Fo s:Nat→Prop}{w0 w:World}{t lb cap q E:Nat}{A:Option Addr}{ps:List Int}{fs:List (Int×List Bool)}(h:aL F0 Fo s w0 w t lb A cap q E ps fs)(j:World)(z:aa w j) :
  Calls Tryz.prog 21 #[.pointer (some ⟨q,0,none⟩)] j fun e w'=>e=.returned (.int .i64 (ai fs ps:Int))∧j=w':=by
 obtain⟨F,M,rs,j,-⟩:=h
 have:=jR (j.bp.a4.U z)
 rw[j.len]at this
 exact this

theorem tg {F0 Fo:Nat→Prop}{w0 w:World}{I lb cap ab Z n j a b m g:Nat}{Y:Option Addr}{ps:List Int}{fs:List (Int×List Bool)}(h:aL F0 Fo (fun s=>s=j) w0 w I lb Y cap ab Z ps fs)(bx:ps.length=n)(b3:bO w j a b m)
  (X:j<w0.heap.size∧¬F0 j∧¬Fo j∧j≠I∧j≠lb) (cl:a<n) (av:b<n) (U:m≤508) (cn:g≤1000) :
  Calls Tryz.prog 109 #[.pointer (some ⟨I,0,none⟩),.pointer (some ⟨j,0,none⟩),.int .i64 1,.int .i64 ((n-1:Nat):Int),.int .i64 (g:Int)] w fun e w'=>e=.returned (.bool true) ∧
   aL F0 Fo (fun s=>s=j) w0 w' I lb Y cap ab Z (aP (ai fs) g (n-1-a) ps a b m).1 fs∧bO w' j (aP (ai fs) g (n-1-a) ps a b m).2.1 (aP (ai fs) g (n-1-a) ps a b m).2.2.1 (aP (ai fs) g (n-1-a) ps a b m).2.2.2:=by
 obtain⟨A,K⟩:∃A,A=aP (ai fs) g (n-1-a) ps a b m:=⟨_,rfl⟩
 rw[←K]
 have cl:n≤6:=by have:=h.en.1.1;omega
 have be:=Lib.hid h
 have bn:=Lib.hid K
 have b5:=Lib.hid bx
 have O:=Lib.hid b3
 have bp:=Lib.hid X
 have b0:¬(F0 j∨Fo j∨j=lb∨w0.heap.size≤j):=fun cg=>by
  rcases cg with q|q|q|q;·exact X.2.1 q
  ·exact X.2.2.1 q
  ·exact X.2.2.2.2 q
  ·omega
 have b6:=Lib.hid b0
 obtain⟨E,br⟩:∃E:Nat,E=n-1:=⟨_,rfl⟩
 rw[←br]
 have cj:n=E+1:=by omega
 subst cj
 clear h K bx b3 X b0 br
 go_enter Tryz.func109,Tryz.ntmps109
 go_wp2_with fail
 go_loopg [11] (E-a) (fun gk X wr=>∃(k:Nat) (p:List Int) (a b m:Nat),a+k=E∧b<E+1∧m≤508∧(k=gk∧p.length=E+1∧aP (ai fs) g k p a b m=A)∧aL F0 Fo (fun s=>s=j) w0 wr I lb Y cap ab Z p fs∧bO wr j a b m)
 case atStart=>exact⟨E-a,ps,a,b,m,by omega,av,U,⟨rfl,b5.out,by rw[bn.out,Nat.add_sub_cancel]⟩,be.out,O.out⟩
 case round=>
  clear be O bn av U;obtain⟨k,p,a,b,m,X,av,U,⟨ci,bb,t⟩,S,K⟩:=hrel;obtain⟨b8,b9,ca,bq⟩:=K.cells;cases k with
  |zero=>
   have cf:a=E:=(by omega);subst cf;have W:aL F0 Fo (fun s=>s=j) w0 wr I lb Y cap ab Z A.1 fs∧bO wr j A.2.1 A.2.2.1 A.2.2.2:=(by rw[←t];exact⟨S,K⟩);have N:=Lib.hid W;clear t W S K bb ci bq;go_wp2_with fail
   go_ret
   exact⟨rfl,N.out.1,N.out.2⟩
  |succ k=>
   have X:=fun(ad:World) (a7:aa wr ad)=>jk (S.U a7) a (by omega);have be:(a:Int)≠(E:Int):=(by omega);have E:=S.en;have cb:=E.2.1.c0;have be:IntKind.i64.wrap ((a:Int)+1)=(a:Int)+1:=IntWalk.i64_in _ ⟨by omega,by omega⟩;have bi:=Lib.hid X;have O:=Lib.hid K;have L:=Lib.hid t;have bg:=Lib.hid bb;clear X K t bb S E;go_wp2_with fail
   refine jg 12 #[true,true,true,true,true,true,true,true,true,true,true,true,false,false] (by kernel_rfl) (by kernel_rfl) ?_;simp only[List.take_succ_cons,List.take_zero,List.drop_succ_cons,List.drop_zero];repeat still_step
   refine wpStill_nil ?_;refine wpAny_ready (fuel:=1) (rs:=[12]) (by kernel_rfl) (by decide) (AllReady.cons rfl (fun a3 T=>?_) AllReady.nil);go_simp;rw[if_neg (show¬(a:Int)+1<(a:Int) by omega)];refine(bi.out _ (by(exact kp))).mono ?_;rintro e w1 ⟨rfl,a4,bv⟩;refine T _ _ ?_;clear T a3;refine wpAny_ready (rs:=[13]) (by kernel_rfl) (by decide) (AllReady.cons rfl (fun a3 T=>?_) AllReady.nil);go_simp;refine T _ _ ?_;clear T a3;refine wpAny_done (by kernel_rfl) ?_ _;have a6:=(O.out.U (((aa.refl wr).drew))).a5 bv b6.out;have a8:∀s,s=j→s<w0.heap.size∧¬F0 s∧¬Fo s∧s≠I∧s≠lb:=fun s ch=>(by subst ch;exact bp.out);have am:=a4.fD (w':=w1.setCell ⟨j,0,none⟩ (.int .i64 ((a:Int)+1))) ((ae.refl (fun s=>s=j) w1).setCell (.inl rfl) _) a8;have bt:=a6.ha (a+1) ((a:Int)+1) (by omega);have a':=fun(ad:World) (a7:aa (w1.setCell ⟨j,0,none⟩ (.int .i64 ((a:Int)+1))) ad)=>kf am ad a7;have a5:=am.size;obtain⟨K,E,S,T⟩:=a6.cells;have E:=a4.en.2.1.c0;have E:j≠I:=bp.out.2.2.2.1;have S:I≠j:=fun e=>E e.symm;have E:j<w1.heap.size:=aD K;obtain⟨z,bs⟩:∃z,z=ai fs (aq p a):=⟨_,rfl⟩;have t:=L.out;unfold aP at t;rw[←bs]at a' a5 t;have a1:=Lib.hid a';have aw:=Lib.hid am;have a2:=Lib.hid bt;have b7:=Lib.hid a8;clear a' am bt a4 bv a6 a8 bs L bi O b8 b9 ca cb bq;by_cases bw:z<m
   ·have b1:¬(100+g)*min m z<100*z:=by
     rw[Nat.min_eq_right (by omega),Nat.add_mul];omega
    rw[if_neg b1,if_pos bw,Nat.min_eq_right (by omega)]at t;have L:=Lib.hid t;obtain⟨Q,J⟩:∃Q:Nat,Q=(100+g)*z:=⟨_,rfl⟩;have ce:(100+(g:Int))*(z:Int)=(Q:Int):=(by rw[J];push_cast;rfl);have cd:Q≤1100*508:=(by rw[J];exact Nat.mul_le_mul (by omega) a5);have E:100*z≤Q:=(by rw[J,Nat.add_mul];omega);clear t b1 J;go_wp2_with (first|(go_at_call 21;refine(a1.out _ (by(exact kp))).mono ?_;rintro e b4 ⟨rfl,rfl⟩)|fail)
    go_roundg (gk-1)
    case rel=>exact⟨k,aq p a,a+1,a+1,z,by omega,by omega,a5,⟨by omega,by rw[ck];exact bg.out,L.out⟩,aw.out.fD ((((ae.refl (fun s=>s=j) _).setCell (.inl rfl) _)).setCell (.inl rfl) _) b7.out,(a2.out.hc z _ rfl).hb (a+1) _ (by omega)⟩
    case measure=>omega
   ·rw[if_neg bw,Nat.min_eq_left (by omega)]at t;obtain⟨Q,J⟩:∃Q:Nat,Q=(100+g)*m:=⟨_,rfl⟩;have ce:(100+(g:Int))*(m:Int)=(Q:Int):=(by rw[J];push_cast;rfl);have cd:Q≤1100*508:=(by rw[J];exact Nat.mul_le_mul (by omega) U);rw[←J]at t;clear J;by_cases b2:Q<100*z
    ·rw[if_pos b2]at t;have W:aL F0 Fo (fun s=>s=j) w0 (w1.setCell ⟨j,0,none⟩ (.int .i64 ((a:Int)+1))) I lb Y cap ab Z A.1 fs∧bO (w1.setCell ⟨j,0,none⟩ (.int .i64 ((a:Int)+1))) j A.2.1 A.2.2.1 A.2.2.2:=(by rw[←t];exact⟨aw.out,a2.out⟩);have N:=Lib.hid W;clear t W;go_wp2_with (first|(go_at_call 21;refine(a1.out _ (by(exact kp))).mono ?_;rintro e b4 ⟨rfl,rfl⟩)|fail)
     go_ret
     exact⟨rfl,N.out.1,N.out.2⟩
    ·rw[if_neg b2]at t;have L:=Lib.hid t;clear t;go_wp2_with (first|(go_at_call 21;refine(a1.out _ (by(exact kp))).mono ?_;rintro e b4 ⟨rfl,rfl⟩)|fail)
     go_roundg (gk-1)
     case rel=>exact⟨k,aq p a,a+1,b,m,by omega,av,U,⟨by omega,by rw[ck];exact bg.out,L.out⟩,aw.out,a2.out⟩
     case measure=>omega

end Go.Proofs.YtafkamlhimkbmaaGreat
