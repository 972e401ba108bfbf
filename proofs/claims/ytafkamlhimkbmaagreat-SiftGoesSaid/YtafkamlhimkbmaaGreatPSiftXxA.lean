/-
  Plainly: the permutation that comes next.
-/
import Derived.Test.YtafkamlhimkbmaaGreatPPermRxA
import Derived.Test.YtafkamlhimkbmaaGreatPSiftX
namespace Go.Proofs.YtafkamlhimkbmaaGreat
set_option maxRecDepth 1000000
set_option maxHeartbeats 8000000
set_option linter.unusedSimpArgs false
set_option linter.unusedVariables false

def jM (ps:List Int)(x:Int):Int:=if x∈ps then(ps.idxOf x:Int)else -1

open Go.RowKit

theorem wk {ps:List Int}{x:Int}:∀{d:Nat},ps[d]?=some x→x∉ps.take d→ps.idxOf x=d:=by
 induction ps with
 |nil=>intro d h;simp at h
 |cons p ps t=>
  intro d h j;cases d with
  |zero=>cases h;simp
  |succ d=>
   rw[List.take_succ_cons,List.mem_cons]at j;have s:¬p=x:=fun e=>j (.inl e.symm);have q:(p==x)=false:=(by simpa using s);rw[List.idxOf_cons,q];show ps.idxOf x+1=d+1;rw[t (by simpa using h) (fun q=>j (.inr q))]

theorem zs (a:Option Addr)(cap:Nat)(ps:List Int)(x:Int)(w:World)(h:aG w a ps)(N:ps.length≤1048576) :
  Calls Tryz.prog 59 #[.slice a ps.length cap,.int .i64 x] w fun e w'=>e=.returned (.int .i64 (jM ps x))∧w=w':=by
 obtain⟨j,E⟩:∃j,j=ps.length:=⟨_,rfl⟩
 rw[←E]at N ⊢
 have H:=Lib.hid h
 have J:=Lib.hid E
 clear h E
 go_enter Tryz.func59,Tryz.ntmps59
 go_wp2
 go_loopg [5] j (fun gk E wr=>∃d:Nat,E=.int .i64 (d:Int)∧d+gk=j∧x∉ps.take d∧w=wr)
 case atStart=>exact⟨0,rfl,by omega,by simp,rfl⟩
 case round=>
  obtain⟨d,rfl,T,s,rfl⟩:=hrel;have z:=Lib.hid s;clear s;by_cases O:d<j
  ·obtain⟨y,I⟩:∃b,ps[d]?=some b:=⟨_,List.getElem?_eq_getElem (by rw[←J.out];exact O)⟩;obtain⟨b,off,rfl,j⟩:=H.out d y I;have A:=Lib.hid I;clear I;by_cases K:y=x
   ·subst K;go_wp2_with fail
    go_ret
    have S:y∈ps:=List.mem_of_getElem? A.out;exact⟨by unfold jM;rw[if_pos S,wk A.out z.out];rfl,rfl⟩
   ·go_wp2_with fail
    go_roundg (gk-1)
    case rel=>
     refine⟨d+1,by simp,by omega,fun t=>?_,rfl⟩;rw[fJ A.out,List.mem_append]at t;rcases t with q|q;·exact z.out q
     ·simp at q;exact K q.symm
    case measure=>omega
  ·have s:x∉ps:=fun t=>z.out (by rw[List.take_of_length_le (by rw[←J.out];omega)];exact t);have L:=Lib.hid s;clear s;go_wp2_with fail
   go_ret
   exact⟨by unfold jM;rw[if_neg L.out];rfl,rfl⟩

def iE (w:World)(n:Nat)(j:List Int×Nat×Nat×Nat)(e:Ending)(w':World):Prop:=
 ∃(x:Option Addr) (c:Nat),e=.returned (.tuple #[.slice x n c,.int .i64 (j.2.1:Int),.int .i64 (j.2.2.2:Int),.int .i64 (j.2.2.1:Int)])∧aG w' x j.1∧aa w w'

theorem nx {n:Nat}(t:n≤6)(w:World):Hid (∀(a:Option Addr) (c:Nat) (p:List Int) (lv:Nat) (j:World),p.length=n→lv+1<n→aG j a p →
  Calls Tryz.prog 61 #[.slice a n c,.int .i64 (lv:Int)] j fun e w'=>∃q s,e=.returned (.slice q n s)∧aG w' q (aq p lv)∧aa j w'):=Lib.hid (fun a c p lv j t z h=>by
 have:=zw a c p j h (by omega) lv (by omega)
 rw[t]at this
 refine this.mono ?_
 rintro e w' ⟨q,s,j,t,z⟩
 exact⟨q,s,j,t.ea,z⟩)

theorem nu {n:Nat}(E:n≤6){w:World}{q:Option Addr}{cap1:Nat}{fs:List (Int×List Bool)}(A:eI w q (2 ^ n) fs)(t:fs.length≤4){s:Nat}(z:s=fs.length):Hid (∀(a:Option Addr) (c:Nat) (p:List Int) (j:World),p.length=n→ar p=true→aG j a p→aa w j →
  Calls Tryz.prog 20 #[.slice a n c,.slice q s cap1] j fun e w'=>e=.returned (.int .i64 (ai fs p:Int))∧aa j w'):=Lib.hid (fun a c p j s I h E=>by
 have:=ns a q c cap1 p fs j h I (by omega) (by rw[s];exact A.U E) t
 rw[s,←z]at this
 exact this)

theorem zt (n:Nat)(a7:n≤6)(a0 a6:Option Addr)(cap0 cap1 a b m g:Nat)(ps:List Int)(fs:List (Int×List Bool))(w:World)(a':aG w a0 ps)(s:ar ps=true)(bi:ps.length=n)(be:eI w a6 (2 ^ n) fs)(Z:fs.length≤4)(b4:a<n)(K:m≤20971520)(b5:g≤1000) :
  Calls Tryz.prog 60 #[.slice a0 n cap0,.slice a6 fs.length cap1,.int .i64 (a:Int),.int .i64 1,.int .i64 ((n-1:Nat):Int),.int .i64 (g:Int),.int .i64 (m:Int),.int .i64 (b:Int)] w (iE w n (aP (ai fs) g (n-1-a) ps a b m)):=by
 obtain⟨J,ad⟩:∃J,J=aP (ai fs) g (n-1-a) ps a b m:=⟨_,rfl⟩
 rw[←ad]
 obtain⟨a6,ab⟩:∃a6,a6=fs.length:=⟨_,rfl⟩
 have bx:=nu a7 (cap1:=cap1) be Z ab
 have bw:=nx a7 w
 rw[←ab]
 have a5:=Lib.hid ad
 have br:aG w a0 ps∧ar ps=true∧ps.length=n:=⟨a',s,bi⟩
 have a2:=Lib.hid br
 have bv:=Lib.hid Z
 obtain⟨q,a8⟩:∃q:Nat,q=n-1:=⟨_,rfl⟩
 rw[←a8]
 have b3:n=q+1:=by omega
 subst b3
 clear ad a' s bi be Z ab a8 br
 go_enter Tryz.func60,Tryz.ntmps60
 go_wp2_with fail
 go_loopg [0,2,6,7,20] (q-a) (fun gk Z ab ad a6 a7 wr=>∃(k:Nat) (p:List Int) (x:Option Addr) (c a b m:Nat),Z=.slice x (q+1) c∧ab=.int .i64 (a:Int)∧ad=.int .i64 (m:Int)∧a6=.int .i64 (b:Int)∧a+k=q∧m≤20971520∧(k=gk∧aP (ai fs) g k p a b m=J)∧(aG wr x p∧ar p=true∧p.length=q+1)∧aa w wr)
 case atStart=>exact⟨q-a,ps,a0,cap0,a,b,m,rfl,rfl,rfl,rfl,by omega,K,⟨rfl,by rw[a5.out,Nat.add_sub_cancel]⟩,a2.out,by(exact kp)⟩
 case round=>
  clear a5 a2 K;obtain⟨k,p,x,c,a,b,m,rfl,rfl,rfl,rfl,Z,K,⟨am,j⟩,s,av⟩:=hrel;cases k with
  |zero=>
   have b2:a=q:=(by omega);subst b2;have L:∀z,aa wr z→iE w (a+1) J (.returned (.tuple #[.slice x (a+1) c,.int .i64 (a:Int),.int .i64 (m:Int),.int .i64 (b:Int)])) z:=fun z N=>(by rw[←j];exact⟨x,c,rfl,s.1.U N,av.trans N⟩);have T:=Lib.hid L;clear j L s am;go_wp2_with fail
   refine bodyPost_ret (v:=.tuple #[.slice x (a+1) c,.int .i64 (a:Int),.int .i64 (m:Int),.int .i64 (b:Int)]) (by simp[results,Tryz.results60,go_sem]) rfl ?_;exact T.out _ (by(exact kp))
  |succ k=>
   have Z:(a:Int)≠(q:Int):=(by omega);have a3:=Lib.hid (bw.out x c p a wr s.2.2 (by omega) s.1);have ab:ar (aq p a)=true:=gy (by omega) s.2.1;have Z:(aq p a).length=q+1:=(by rw[ck];exact s.2.2);have bb:ai fs (aq p a)≤20971520:=lu (by omega) bv.out;have a4:=Lib.hid (fun(ad:Option Addr) (a2:Nat) (z:World) (N:aG z ad (aq p a)) (am:aa w z)=>bx.out ad a2 (aq p a) z Z ab N am);have U:=Lib.hid (⟨ab,Z⟩:_∧_);have a1:=Lib.hid av;clear s ab Z av;go_wp2_with fail
   refine a3.out.mono ?_;rintro e w1 ⟨E,I,rfl,s,z⟩;have O:=Lib.hid s;have Y:=Lib.hid (a4.out E I w1 s (a1.out.trans z));have aw:=Lib.hid (a1.out.trans z);clear s z a3;obtain⟨A,bq⟩:∃A,A=aq p a:=⟨_,rfl⟩;obtain⟨V,bg⟩:∃V,V=ai fs (aq p a):=⟨_,rfl⟩;unfold aP at j;rw[←bg]at bb Y j;rw[←bq]at j U O;clear bg bq a4;go_wp2_with fail
   refine Y.out.mono ?_;rintro e bt ⟨rfl,s⟩;have X:=Lib.hid (⟨O.out.U s,U.out⟩:aG bt E A∧ar A=true∧A.length=q+1);have S:=Lib.hid (aw.out.trans s);clear s Y aw O U;by_cases bn:V<m
   ·have bp:¬(100+g)*min m V<100*V:=by
     rw[Nat.min_eq_right (by omega),Nat.add_mul];omega
    rw[if_neg bp,if_pos bn,Nat.min_eq_right (by omega)]at j;have W:=Lib.hid j;obtain⟨Q,t⟩:∃Q:Nat,Q=(100+g)*V:=⟨_,rfl⟩;have b1:(100+(g:Int))*(V:Int)=(Q:Int):=(by rw[t];push_cast;rfl);have b0:Q≤1100*20971520:=(by rw[t];exact Nat.mul_le_mul (by omega) bb);have s:100*V≤Q:=(by rw[t,Nat.add_mul];omega);clear j bp t;go_wp2_with fail
    go_roundg (gk-1)
    case rel=>exact⟨k,A,E,I,a+1,a+1,V,rfl,by push_cast;rfl,rfl,by push_cast;rfl,by omega,by omega,⟨by omega,W.out⟩,X.out,S.out⟩
    case measure=>omega
   ·rw[if_neg bn,Nat.min_eq_left (by omega)]at j;obtain⟨Q,t⟩:∃Q:Nat,Q=(100+g)*m:=⟨_,rfl⟩;have b1:(100+(g:Int))*(m:Int)=(Q:Int):=(by rw[t];push_cast;rfl);have b0:Q≤1100*20971520:=(by rw[t];exact Nat.mul_le_mul (by omega) K);rw[←t]at j;clear t;by_cases bs:Q<100*V
    ·rw[if_pos bs]at j;have L:iE w (q+1) J (.returned (.tuple #[.slice E (q+1) I,.int .i64 ((a:Int)+1),.int .i64 (m:Int),.int .i64 (b:Int)])) bt:=(by rw[←j];exact⟨E,I,by simp,X.out.1,S.out⟩);have T:=Lib.hid L;clear j L;go_wp2_with fail
     refine bodyPost_ret (v:=.tuple #[.slice E (q+1) I,.int .i64 ((a:Int)+1),.int .i64 (m:Int),.int .i64 (b:Int)]) (by simp[results,Tryz.results60,go_sem]) rfl ?_;exact T.out
    ·rw[if_neg bs]at j;have W:=Lib.hid j;clear j;go_wp2_with fail
     go_roundg (gk-1)
     case rel=>exact⟨k,A,E,I,a+1,b,m,rfl,by push_cast;rfl,rfl,rfl,by omega,K,⟨by omega,W.out⟩,X.out,S.out⟩
     case measure=>omega

theorem zy (n:Nat)(bb:n≤6)(a0 a':Option Addr)(cap0 cap1 a b m g:Nat)(ps:List Int)(fs:List (Int×List Bool))(w:World)(be:aG w a0 ps)(q:ar ps=true)(bp:ps.length=n)(bi:eI w a' (2 ^ n) fs)(Z:fs.length≤4)(bn:a<n)(K:m≤20971520)(b3:g≤1000) :
  Calls Tryz.prog 60 #[.slice a0 n cap0,.slice a' fs.length cap1,.int .i64 (a:Int),.int .i64 (-1),.int .i64 0,.int .i64 (g:Int),.int .i64 (m:Int),.int .i64 (b:Int)] w (iE w n (bV (ai fs) g a ps b m)):=by
 obtain⟨I,ad⟩:∃I,I=bV (ai fs) g a ps b m:=⟨_,rfl⟩
 rw[←ad]
 obtain⟨a',ab⟩:∃a',a'=fs.length:=⟨_,rfl⟩
 have b0:=nu bb (cap1:=cap1) bi Z ab
 have bx:=nx bb w
 rw[←ab]
 have a8:=Lib.hid ad
 have a':aG w a0 ps∧ar ps=true∧ps.length=n:=⟨be,q,bp⟩
 have a5:=Lib.hid a'
 have bw:=Lib.hid Z
 clear ad be q bp bi Z ab a'
 go_enter Tryz.func60,Tryz.ntmps60
 go_wp2_with fail
 go_loopg [0,2,6,7,20] a (fun gk Z ab ad a' bb wr=>∃(k:Nat) (p:List Int) (x:Option Addr) (c b m:Nat),Z=.slice x n c∧ab=.int .i64 (k:Int)∧ad=.int .i64 (m:Int)∧a'=.int .i64 (b:Int)∧k<n∧m≤20971520∧(k=gk∧bV (ai fs) g k p b m=I)∧(aG wr x p∧ar p=true∧p.length=n)∧aa w wr)
 case atStart=>exact⟨a,ps,a0,cap0,b,m,rfl,rfl,rfl,rfl,bn,K,⟨rfl,a8.out.symm⟩,a5.out,by(exact kp)⟩
 case round=>
  clear a8 a5 K bn;obtain⟨k,p,x,c,b,m,rfl,rfl,rfl,rfl,Z,K,⟨J,j⟩,q,av⟩:=hrel;cases k with
  |zero=>
   have L:∀t,aa wr t→iE w n I (.returned (.tuple #[.slice x n c,.int .i64 0,.int .i64 (m:Int),.int .i64 (b:Int)])) t:=fun t O=>(by rw[←j];exact⟨x,c,rfl,q.1.U O,av.trans O⟩);have T:=Lib.hid L;clear j L q J;go_wp2_with fail
   refine bodyPost_ret (v:=.tuple #[.slice x n c,.int .i64 0,.int .i64 (m:Int),.int .i64 (b:Int)]) (by simp[results,Tryz.results60,go_sem]) rfl ?_;exact T.out _ (by(exact kp))
  |succ k=>
   have N:=Lib.hid J;clear J;have a6:=Lib.hid (bx.out x c p k wr q.2.2 (by omega) q.1);have a1:ar (aq p k)=true:=gy (by omega) q.2.1;have aw:(aq p k).length=n:=(by rw[ck];exact q.2.2);have bg:ai fs (aq p k)≤20971520:=lu (by omega) bw.out;have a7:=Lib.hid (fun(Z:Option Addr) (ab:Nat) (t:World) (O:aG t Z (aq p k)) (J:aa w t)=>b0.out Z ab (aq p k) t aw a1 O J);have U:=Lib.hid (⟨a1,aw⟩:_∧_);have a4:=Lib.hid av;have t:IntKind.i64.wrap (((k+1:Nat):Int) + -1)=(k:Int):=(IntWalk.i64_in _ ⟨by omega,by omega⟩).trans (by push_cast;omega);have t:((k+1:Nat):Int)≠0:=(by omega);obtain⟨z,bs⟩:∃z,z=aq p k:=⟨_,rfl⟩;obtain⟨V,am⟩:∃V,V=ai fs (aq p k):=⟨_,rfl⟩;unfold bV at j;rw[←am]at bg j;have t:(k:Int)<(k:Int)+1:=(by omega);clear q a1 aw av;go_wp2_with fail
   rw[show(k:Int)+1 + -1=(k:Int) by omega];refine a6.out.mono ?_;rintro e w1 ⟨A,E,rfl,q,t⟩;have Y:=Lib.hid (a7.out A E w1 q (a4.out.trans t));rw[←am]at Y;rw[←bs]at j U q;have a2:=Lib.hid q;have a3:=Lib.hid (a4.out.trans t);clear q t a6 am bs a7;go_wp2_with fail
   refine Y.out.mono ?_;rintro e bv ⟨rfl,q⟩;have X:=Lib.hid (⟨a2.out.U q,U.out⟩:aG bv A z∧ar z=true∧z.length=n);have S:=Lib.hid (a3.out.trans q);clear q Y a3 a2 U;by_cases bq:V<m
   ·have br:¬(100+g)*min m V<100*V:=by
     rw[Nat.min_eq_right (by omega),Nat.add_mul];omega
    rw[if_neg br,if_pos bq,Nat.min_eq_right (by omega)]at j;have W:=Lib.hid j;obtain⟨Q,s⟩:∃Q:Nat,Q=(100+g)*V:=⟨_,rfl⟩;have b2:(100+(g:Int))*(V:Int)=(Q:Int):=(by rw[s];push_cast;rfl);have b1:Q≤1100*20971520:=(by rw[s];exact Nat.mul_le_mul (by omega) bg);have q:100*V≤Q:=(by rw[s,Nat.add_mul];omega);clear j br s;go_wp2_with fail
    go_roundg (gk-1)
    case rel=>exact⟨k,z,A,E,k,V,rfl,congrArg (Value.int .i64) (by omega),rfl,congrArg (Value.int .i64) (by omega),by omega,by omega,⟨by have:=N.out;omega,W.out⟩,X.out,S.out⟩
    case measure=>have:=N.out;omega
   ·rw[if_neg bq,Nat.min_eq_left (by omega)]at j;obtain⟨Q,s⟩:∃Q:Nat,Q=(100+g)*m:=⟨_,rfl⟩;have b2:(100+(g:Int))*(m:Int)=(Q:Int):=(by rw[s];push_cast;rfl);have b1:Q≤1100*20971520:=(by rw[s];exact Nat.mul_le_mul (by omega) K);rw[←s]at j;clear s;by_cases bt:Q<100*V
    ·rw[if_pos bt]at j;have L:iE w n I (.returned (.tuple #[.slice A n E,.int .i64 ((k:Int)+1 + -1),.int .i64 (m:Int),.int .i64 (b:Int)])) bv:=(by rw[←j,show(k:Int)+1 + -1=(k:Int) by omega];exact⟨A,E,rfl,X.out.1,S.out⟩);have T:=Lib.hid L;clear j L;go_wp2_with fail
     refine bodyPost_ret (v:=.tuple #[.slice A n E,.int .i64 ((k:Int)+1 + -1),.int .i64 (m:Int),.int .i64 (b:Int)]) (by simp[results,Tryz.results60,go_sem]) rfl ?_;exact T.out
    ·rw[if_neg bt]at j;have W:=Lib.hid j;clear j;go_wp2_with fail
     go_roundg (gk-1)
     case rel=>exact⟨k,z,A,E,b,m,rfl,congrArg (Value.int .i64) (by omega),rfl,rfl,by omega,K,⟨by have:=N.out;omega,W.out⟩,X.out,S.out⟩
     case measure=>have:=N.out;omega

theorem zv (n:Nat)(aw:n≤6)(a0 am:Option Addr)(cap0 cap1 g:Nat)(ps:List Int)(fs:List (Int×List Bool))(w:World)(cn:aG w a0 ps)(cy:ar ps=true)(cx:ps.length=n)(L:eI w am (2 ^ n) fs)(U:fs.length≤4)(cv:g≤1000) :
  Calls Tryz.prog 18 #[.slice a0 n cap0,.slice am fs.length cap1,.int .i64 (g:Int)] w fun e w'=>∃a c,e=.returned (.slice a n c)∧aG w' a (cH (ai fs) g ps n)∧aa w w':=by
 have bv:=fun v (d6:v≤n)=>jO (ai fs) g cy v (by omega)
 rw[cx]at bv
 have bp:=fun(x:Option Addr) (c a m:Nat) (p:List Int) (q:World) (A:aG q x p) (bt:ar p=true) (j:p.length=n) (K:aa w q) (N:a<n) (br:m≤20971520)=>zt n aw x am c cap1 a a m g p fs q A bt j (L.U K) U N br cv
 have b0:=fun(x:Option Addr) (c a b m:Nat) (p:List Int) (q:World) (A:aG q x p) (bt:ar p=true) (j:p.length=n) (K:aa w q) (N:a<n) (br:m≤20971520)=>zy n aw x am c cap1 a b m g p fs q A bt j (L.U K) U N br cv
 have cS:=fun(p:List Int) (j:p.length=n)=>lu (fs:=fs) (ps:=p) (by omega) U
 obtain⟨am,bi⟩:∃am,am=fs.length:=⟨_,rfl⟩
 have da:=nu aw (cap1:=cap1) L U bi
 have cb:=nx aw w
 rw[←bi]at bp b0 ⊢
 have c9:=Lib.hid bv
 have c3:=Lib.hid bp
 have db:=Lib.hid b0
 have c':=Lib.hid cS
 have am:aG w a0 (cH (ai fs) g ps 0):=cn
 have b8:=Lib.hid am
 clear cn cy cx L U bi am bv bp b0 cS
 go_enter Tryz.func18,Tryz.ntmps18
 go_wp2_with fail
 go_loopg [0,7,8,9,10] n (fun gk X U a7 am am wr=>∃(v:Nat) (x:Option Addr) (c:Nat),X=.slice x n c∧U=.int .i64 (v:Int)∧v+gk=n∧aG wr x (cH (ai fs) g ps v)∧aa w wr)
 case atStart=>exact⟨0,a0,cap0,rfl,rfl,by omega,b8.out,by(exact kp)⟩
 case round=>
  clear b8;obtain⟨v,x,c,rfl,rfl,d6,A,z⟩:=hrel;by_cases a4:v<n
  ·obtain⟨j,T⟩:=c9.out v (by omega);have a5:cH (ai fs) g ps (v+1)=gw (ai fs) g (cH (ai fs) g ps v) ((cH (ai fs) g ps v).idxOf (v:Int)):=rfl;obtain⟨p,cD⟩:∃p,p=cH (ai fs) g ps v:=⟨_,rfl⟩;rw[←cD]at j T a5 A;have bs:=kZ T (v:=(v:Int)) (by omega) (by omega);have W:=zs x c p (v:Int) wr A (by omega);rw[show jM p (v:Int)=(p.idxOf (v:Int):Int) by unfold jM;rw[if_pos bs]]at W;have N:p.idxOf (v:Int)<n:=(by rw[←j];exact List.idxOf_lt_length_of_mem bs);rw[j]at W;obtain⟨a,cq⟩:∃a,a=p.idxOf (v:Int):=⟨_,rfl⟩;rw[←cq]at W N a5;have hS:=c'.out p j;have bw:=da.out x c p wr j T A z;obtain⟨s,bn⟩:∃s,s=ai fs p:=⟨_,rfl⟩;rw[←bn]at hS bw;have J:=lD (ai fs) g n (n-1-a) p a a s j (by omega) N
   have a6:gw (ai fs) g p a=aJ (bV (ai fs) g (aP (ai fs) g (n-1-a) p a a s).2.1 (aP (ai fs) g (n-1-a) p a a s).1 (aP (ai fs) g (n-1-a) p a a s).2.2.1 (aP (ai fs) g (n-1-a) p a a s).2.2.2).1 (bA (bV (ai fs) g (aP (ai fs) g (n-1-a) p a a s).2.1 (aP (ai fs) g (n-1-a) p a a s).1 (aP (ai fs) g (n-1-a) p a a s).2.2.1 (aP (ai fs) g (n-1-a) p a a s).2.2.2).2.1 (bV (ai fs) g (aP (ai fs) g (n-1-a) p a a s).2.1 (aP (ai fs) g (n-1-a) p a a s).1 (aP (ai fs) g (n-1-a) p a a s).2.2.1 (aP (ai fs) g (n-1-a) p a a s).2.2.2).2.2.1):=by
    rw[bn,←j];rfl
   have a3:=c3.out x c a s p;obtain⟨t,L⟩:∃t,t=aP (ai fs) g (n-1-a) p a a s:=⟨_,rfl⟩;rw[←L]at a6 J a3;rw[show((n-1:Nat):Int)=(n:Int)-1 by omega]at a3;have Y:=lE (ai fs) g n t.2.1 t.1 t.2.2.1 t.2.2.2 J.len J.cj J.db;have bx:=fun(x:Option Addr) (c:Nat) (q:World) (A:aG q x t.1) (K:aa w q)=>db.out x c t.2.1 t.2.2.1 t.2.2.2 t.1 q A (J.perm T) J.len K J.cj (Nat.le_trans J.eb hS);obtain⟨I,co⟩:∃I,I=bV (ai fs) g t.2.1 t.1 t.2.2.1 t.2.2.2:=⟨_,rfl⟩;rw[←co]at a6 Y bx;have b4:=Lib.hid (fun(q:World) (K:aa wr q)=>a3 q (A.U K) T j (z.trans K) N hS);have cd:=Lib.hid bx;have c2:=Lib.hid W;have ci:=Lib.hid bw;have ad:Hid (cH (ai fs) g ps (v+1)=aJ I.1 (bA I.2.1 I.2.2.1)):=Lib.hid (by rw[a5,a6]);have cf:Hid (I.1.length=n):=Lib.hid Y.len;have cp:=Y.cj;have d1:=Y.db;obtain⟨Z,be⟩:∃Z,Z=I.2.1:=⟨_,rfl⟩;obtain⟨B,bg⟩:∃B,B=I.2.2.1:=⟨_,rfl⟩;have s:IntKind.i64.wrap ((n:Int)-1)=(n:Int)-1:=IntWalk.i64_in _ ⟨by omega,by omega⟩;have c7:=Lib.hid z;obtain⟨bb,s⟩:∃bb,bb=gk:=⟨gk,rfl⟩;obtain⟨W0,d2⟩:∃q,q=wr:=⟨wr,rfl⟩;subst d2;clear j T a5 A bs W cq bw bn J a6 a3 Y bx L co z cD;rw[←be]at ad cp;rw[←bg]at ad d1;have b1:=a4;clear a4;go_wp2_with fail
   refine c2.out.mono ?_;rintro e w1 ⟨rfl,rfl⟩;go_wp2_with fail
   refine ci.out.mono ?_;rintro e s ⟨rfl,s⟩;have b5:=Lib.hid (b4.out _ s);have b6:=Lib.hid (c7.out.trans s);clear s b4 ci;go_wp2_with fail
   refine b5.out.mono ?_;rintro e d7 ⟨d8,dr,rfl,t,s⟩;have ce:=Lib.hid (cd.out d8 dr d7 t (b6.out.trans s));have c4:=Lib.hid (b6.out.trans s);clear s t cd b5;go_wp2_with fail
   refine ce.out.mono ?_;rintro e s ⟨d9,ds,rfl,s,t⟩;rw[←be,←bg];have b7:=Lib.hid (c4.out.trans t);have cg:=Lib.hid s;clear t s ce be bg;go_wp2_with fail
   go_loopg [0,8] (B-Z) (fun gk X a7 wr=>∃(x:Option Addr) (c d:Nat) (p:List Int),X=.slice x n c∧a7=.int .i64 (d:Int)∧d<n∧(B-d=gk∧p.length=n∧cH (ai fs) g ps (v+1)=aJ p (bA d B))∧aG wr x p∧aa w wr)
   case atStart=>exact⟨d9,ds,Z,I.1,rfl,rfl,cp,⟨rfl,cf.out,ad.out⟩,cg.out,b7.out⟩
   case round=>
    clear ad cg b7 cf;obtain⟨c1,cj,d,b2,rfl,rfl,d5,⟨bq,j,E⟩,a1,z⟩:=hrel;by_cases a4:d<B
    ·rw[mS a4]at E;have b9:=Lib.hid (cb.out c1 cj b2 d wr j (by omega) a1);have S:=Lib.hid E;have O:=Lib.hid j;have ab:=Lib.hid z;clear E j a1 z;go_wp2_with fail
     refine b9.out.mono ?_;rintro e s ⟨ea,dB,rfl,s,t⟩;have dk:=Lib.hid s;have c5:=Lib.hid (ab.out.trans t);clear s t b9;go_wp2_with fail
     go_roundg (gk-1)
     case rel=>exact⟨ea,dB,d+1,aq b2 d,rfl,by push_cast;rfl,by omega,⟨by omega,by rw[ck];exact O.out,S.out⟩,dk.out,c5.out⟩
     case measure=>omega
    ·have S:=Lib.hid E;have O:=Lib.hid j;have ch:=Lib.hid a1;have ab:=Lib.hid z;clear E j a1 z bq;obtain⟨s,t⟩:∃s,s=gk:=⟨gk,rfl⟩;obtain⟨s,d3⟩:∃q,q=wr:=⟨wr,rfl⟩;subst d3;go_wp2_with fail
     go_loopg [0,8] (d-B) (fun gk X a7 wr=>∃(x:Option Addr) (c d:Nat) (p:List Int),X=.slice x n c∧a7=.int .i64 (d:Int)∧d<n∧B≤d∧(d-B=gk∧p.length=n∧cH (ai fs) g ps (v+1)=aJ p (bA d B))∧aG wr x p∧aa w wr)
     case atStart=>exact⟨c1,cj,d,b2,rfl,rfl,d5,by omega,⟨rfl,O.out,S.out⟩,ch.out,ab.out⟩
     case round=>
      clear S O ch ab;obtain⟨b3,cl,av,c0,rfl,rfl,s,q,⟨bq,j,E⟩,a2,z⟩:=hrel;by_cases q:B<av
      ·rw[mT q]at E;obtain⟨a',rfl⟩:∃q,av=q+1:=⟨av-1,by omega⟩;rw[Nat.add_sub_cancel]at E;have ca:=Lib.hid (cb.out b3 cl c0 a' wr j (by omega) a2);have S:=Lib.hid E;have O:=Lib.hid j;have a8:=Lib.hid z;clear E j a2 z;go_wp2_with fail
       refine ca.out.mono ?_;rintro e q ⟨eb,d0,rfl,q,s⟩;have dl:=Lib.hid q;have c6:=Lib.hid (a8.out.trans s);clear q s ca;go_wp2_with fail
       go_roundg (gk-1)
       case rel=>exact⟨eb,d0,a',aq c0 a',rfl,rfl,by omega,by omega,⟨by omega,by rw[ck];exact O.out,S.out⟩,dl.out,c6.out⟩
       case measure=>omega
      ·have q:av=B:=(by omega);rw[q,jH]at E;have s:aG wr b3 (cH (ai fs) g ps (v+1)):=(by rw[E];exact a2);have c8:=Lib.hid s;have a8:=Lib.hid z;clear E j a2 s q z bq;go_wp2_with fail
       go_roundg (bb-1)
       case rel=>exact⟨v+1,b3,cl,rfl,by push_cast;rfl,by omega,c8.out,a8.out⟩
       case measure=>omega
  ·have b1:v=n:=(by omega);rw[b1]at A;have dj:=Lib.hid A;clear A b1;go_wp2_with fail
   go_ret
   exact⟨x,c,rfl,dj.out,z⟩

end Go.Proofs.YtafkamlhimkbmaaGreat
