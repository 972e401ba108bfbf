/-
  law27.kept.
-/
import Derived.Test.YtafkamlhimkbmaaGreatPNextX
import Derived.Test.YtafkamlhimkbmaaGreatPRSfSize
import Derived.Test.YtafkamlhimkbmaaGreatPSiftJ
namespace Go.Proofs.YtafkamlhimkbmaaGreat
set_option maxRecDepth 1000000
set_option maxHeartbeats 8000000
set_option linter.unusedSimpArgs false
set_option linter.unusedVariables false
open Go.RowKit

theorem vW {F Fo:Nat→Prop}{w:World}{bp bn cap0 g n p:Nat}{a0:Option Addr}{M:St}{qs:List Int}{s:List (Int×List Bool)}{rs:List (Int×Edge)}(hS:eO F Fo w bp bn M qs)(z:aA qs=true)(E:qs.length=n)(ab:p=2 ^ n)(ce:n≤5)(a4:ct M qs s rs)(bi:M.len=(aI s qs:Int))(be:M.len+64≤1048576)(X:fG w a0 p s)(U:s.length≤4)(a':bL w g (rs.map Prod.snd)) :
  Calls Tryz.prog 16 #[.pointer (some ⟨bp,0,none⟩),.pointer (some ⟨bn,0,none⟩),.slice a0 s.length cap0,.slice (some ⟨g,0,none⟩) s.length s.length] w fun e b7=>e=.returned (.bool true)∧aa w b7:=by
 have a2:=kN hS.cd
 rw[E]at a2
 have a3:=fun(a:Option Addr) (c:Nat) (q:World) (N:aL q a qs)=>qi a c qs q N (by omega)
 simp only[z,E]at a3
 have Z:=fun(q:World) (t:aa w q)=>nc (hS.a5.U t)
 rw[bi]at Z
 have O:=fun(a:Option Addr) (c:Nat) (q:World) (N:aL q a qs) (t:aa w q)=>qj a a0 c cap0 qs s q N z (by omega) (by rw[E,←ab];exact X.U t) U
 simp only[E]at O
 have bg:=fun(a:Option Addr) (c i:Nat) (j:Int×List Bool) (r:Int×Edge) (hi:s[i]?=some j) (I:rs[i]?=some r) (B:Nat) (q:World) (N:aL q a qs) (t:aa w q) (W:bm q B j.2)=>by
  obtain⟨b1,a8,ad⟩:=a4.2 i j r hi I;obtain⟨-,bp,-⟩:=X i j hi;have bn:M.n=(qs.length:Int):=hS.n;have:=vU (ws:=bu j.2) (hS.a5.U t) a c N z (by omega) bn r.1 a8 ad.ok ad.lead ad.right (Al hS.a5 a8 z bn (by omega) be ad) (some ⟨B,0,none⟩) p (ou W (by rw[bp,ab,E]));rw[E,←ab,b1]at this;exact this
 have a1:∀i,i<s.length→∃j r,s[i]?=some j∧rs[i]?=some r:=fun i hi=>⟨_,_,List.getElem?_eq_getElem hi,List.getElem?_eq_getElem (by rw[a4.1];exact hi)⟩
 have bb:∀i j r,s[i]?=some j→rs[i]?=some r→∃b off B,a0=some ⟨b,off,none⟩∧w.cell? ⟨b,off+i*2,none⟩=some (.int .u8 j.1)∧w.cell? ⟨b,off+i*2+1,none⟩=some (.slice (some ⟨B,0,none⟩) p p)∧bm w B j.2∧w.cell? ⟨g,i*2,none⟩=some (.int .u8 r.2.tag)∧w.cell? ⟨g,i*2+1,none⟩=some (.int .u32 r.2.to):=fun i j r hi I=>by
  obtain⟨-,-,b,off,B,b2,b3,b4,U⟩:=X i j hi;obtain⟨J,K⟩:=a'.cell (i:=i) (e:=r.2) (by rw[List.getElem?_map,I];rfl);exact⟨b,off,B,b2,b3,b4,U,J,K⟩
 obtain⟨N,aw⟩:∃N:Nat,N=aI s qs:=⟨_,rfl⟩
 rw[←aw]at Z
 simp only[←aw]at O
 obtain⟨L,av⟩:∃L,L=s.length:=⟨_,rfl⟩
 rw[←av]at a1 U ⊢
 simp only[←av]at O
 have bt:=Lib.hid a2
 have bv:=Lib.hid a3
 have bs:=Lib.hid Z
 have bw:=Lib.hid O
 have br:=Lib.hid bg
 have a6:=Lib.hid a1
 have a5:=Lib.hid bb
 clear a2 a3 Z O bg a1 bb hS z E ab a4 bi be X a' aw av
 go_enter Tryz.func16,Tryz.ntmps16
 go_wp2_with fail
 refine bt.out.mono ?_
 rintro e w1 ⟨bx,b0,rfl,s,E⟩
 have am:=Lib.hid s.eg
 have a7:=Lib.hid E
 clear s
 go_wp2_with (first
  |(go_at_call 9;refine(bv.out _ _ _ (am.out.U (by(exact kp)))).mono ?_;rintro e b8 ⟨rfl,rfl⟩)
  |(go_at_call 21;refine(bs.out _ (by(exact kp))).mono ?_;rintro e b8 ⟨rfl,rfl⟩)
  |(go_at_call 20;refine(bw.out _ _ _ (am.out.U (by(exact kp))) (by(exact kp))).mono ?_;rintro e cf ⟨rfl,s⟩)
  |fail)
 go_loopg [10] L (fun gk s wr=>∃d:Nat,s=.int .i64 (d:Int)∧d+gk=L∧aa w1 wr)
 case atStart=>exact⟨0,rfl,by omega,by(exact kp)⟩
 case round=>
  obtain⟨d,rfl,s,Y⟩:=hrel;by_cases b6:d<L
  ·obtain⟨j,r,z,I⟩:=a6.out d b6;obtain⟨b,off,B,rfl,S,T,W,J,K⟩:=a5.out d j r z I;have A:=a7.out.trans Y;replace S:=A.cell S;replace T:=A.cell T;replace J:=A.cell J;replace K:=A.cell K;have bq:=Lib.hid (fun(q:World) (t:aa wr q)=>br.out bx b0 d j r z I B q (am.out.U (Y.trans t)) (A.trans t) (jl W (A.trans t)));obtain⟨f,ts⟩:=j;obtain⟨j,x⟩:=r;dsimp only at S T J K;clear z I W a5 a6 A;have b9:=ai.cell S;have ca:=ai.cell T;have cb:=ai.cell J;have cd:=ai.cell K;go_wp2_with fail
   refine dO (wr) (by kernel_rfl) (by kernel_rfl) (by(exact kp)) ?_;(repeat (go_big_quiet_step ((first|(go_at_call 57;with_reducible refine Calls.b4 (bq.out _ (ai.a4 _)))))));refine wpQuiet_nil ?_;rintro j ⟨⟨_,b5⟩,rfl⟩;try dsimp only
   clear b9 ca cb cd;go_wp2_with fail
   go_roundg (gk-1)
   case rel=>exact⟨d+1,by simp,by omega,Y.trans b5⟩
   case measure=>omega
  ·go_wp2_with fail
   go_ret
   exact⟨rfl,a7.out.trans Y⟩

theorem zz:((List.range 5).all fun n=>cC n==bo n 0)=true:=by kernel_rfl

theorem xP {n:Nat}(j:n≤4):cC n=bo n 0:=by
 have h:=zz;rw[List.all_eq_true]at h;exact eq_of_beq (h n (List.mem_range.2 (by omega)))

theorem xC {n r c:Nat}(N:n≤4)(O:r<aZ n)(a:Option Addr)(T:n≤c)(w:World)(h:aL w a (bo n r)) :
  Calls Tryz.prog 56 #[.slice a n c] w fun e I=>aa w I∧(r+1<aZ n∧(∃s t,e=.returned (.tuple #[.slice s n t,.bool true])∧aL I s (bo n (r+1))∧n≤t)∨r+1=aZ n∧e=.returned (.tuple #[.slice none 0 0,.bool false])):=by
 have j:=xB N O
 unfold my at j
 have z:=gm n r
 have L:cJ (bo n r) ((bo n r).length-1)≠0→0≤gl (bo n r):=fun K=>by
  split at j;·simp only[Bool.and_eq_true,decide_eq_true_eq]at j;exact j.1.2
  ·rw[z]at K;exact absurd (eq_of_beq j) K
 have K:=y9 a c (bo n r) w h (by omega) (by omega) L
 rw[z]at K
 refine K.mono ?_
 rintro e I ⟨I,A⟩
 refine⟨I,?_⟩
 rw[z]at A
 by_cases E:r+1<aZ n
 ·rw[if_pos E]at j;simp only[Bool.and_eq_true,decide_eq_true_eq]at j;obtain⟨⟨z,I⟩,S⟩:=j;rcases A with⟨J,_⟩|⟨_,s,t,q,I,z⟩
  ·omega
  ·rw[eq_of_beq S]at q I z;rw[gm]at q z;exact .inl ⟨E,s,t,q,I,z⟩
 ·rw[if_neg E]at j;rcases A with⟨_,q⟩|⟨J,_⟩
  ·exact .inr ⟨by omega,q⟩
  ·exact absurd (eq_of_beq j) J

theorem yZ (n:Nat)(br:n≤4)(a0:Option Addr)(cap0:Nat)(j:List (Int×List Bool))(w:World)(A:fG w a0 (2 ^ n) j)(bb:j.length≤4) :
  Calls Tryz.prog 15 #[.int .i64 (n:Int),.slice a0 j.length cap0] w fun e a8=>∃a c,e=.returned (.slice a n c)∧aL a8 a (eE (aI j) n)∧aa w a8:=by
 have bv:=za n (by omega) w
 have am:=fun(a:Option Addr) (c:Nat) (ps:List Int) (a8:ps.length=n) (b8:aA ps=true) (q:World) (b1:aL q a ps) (s:aa w q)=>by
  have:=qj a a0 c cap0 ps j q b1 b8 (by omega) (by rw[a8];exact A.U s) bb;rw[a8]at this;exact this
 have bi:=jr n
 obtain⟨a8,be⟩:∃a8,a8=j.length:=⟨_,rfl⟩
 rw[←be]at am ⊢
 have a6:=Lib.hid am
 have a4:=Lib.hid bv
 obtain⟨z,N⟩:∃z,z=aZ n:=⟨_,rfl⟩
 rw[←N]at bi
 have J:=Lib.hid N
 have bw:=xP br
 have a7:=Lib.hid bw
 have bp:eE (aI j) n=bY (aI j) n (z-1):=by unfold eE;rw[N]
 have bx:=Lib.hid bp
 clear bv am A bb be N bw bp
 go_enter Tryz.func15,Tryz.ntmps15
 go_wp2_with fail
 refine a4.out.mono ?_
 rintro e w1 ⟨Y,a',rfl,N,b2,b4⟩
 have S:=Lib.hid N
 clear N a4
 go_wp2_with fail
 go_loopg [5,6] z (fun gk N am wr=>∃(r:Nat) (a:Option Addr) (c:Nat) (b:Option Addr) (d:Nat),N=.slice a n c∧am=.slice b n d∧r+gk=z∧0<gk∧n≤c∧aL wr a (bo n r)∧aL wr b (bY (aI j) n r)∧aa w wr)
 case atStart=>exact⟨0,Y,a',Y,a',rfl,rfl,by omega,bi,b2,by rw[←a7.out];exact S.out,(by show aL w1 Y (bo n 0);rw[←a7.out];exact S.out),b4⟩
 case round=>
  obtain⟨r,a,c,b,d,rfl,rfl,a7,Y,a4,N,am,bn⟩:=hrel;have Y:=xC br (r:=r) (by rw[←J.out];omega) a a4 wr N;rw[←J.out]at Y;have a3:=Lib.hid Y;have U:=Lib.hid am;have a4:=Lib.hid N;have a7:=wW (aI j) (n:=n) (r:=r) (by omega) (by rw[←J.out];omega);have a4:=wV (aI j) n r;have a2:=Lib.hid (⟨a4,a7⟩:_∧_);clear Y am N a7 a4 S;go_wp2_with fail
  refine a3.out.mono ?_;rintro e aw ⟨E,⟨b7,K,L,rfl,O,bg⟩|⟨b3,rfl⟩⟩
  ·have bt:=kL (n:=n) (r:=r+1) (by omega) (by rw[←J.out];exact b7);have bs:=gm n (r+1);have Z:=a6.out K L (bo n (r+1)) bs bt;have ab:=a6.out b d (bY (aI j) n r) a2.out.1 a2.out.2;have ad:bY (aI j) n (r+1)=if aI j (bo n (r+1))<aI j (bY (aI j) n r)then bo n (r+1)else bY (aI j) n r:=rfl;obtain⟨W,hS⟩:∃W,W=aI j (bo n (r+1)):=⟨_,rfl⟩;obtain⟨X,A⟩:∃X,X=aI j (bY (aI j) n r):=⟨_,rfl⟩;rw[←hS]at Z;rw[←A]at ab;rw[←hS,←A]at ad;have J:=fun(q:World) (s:aa aw q)=>O.U s;have j:=bn.trans E;have N:=E;have t:=Lib.hid (fun(q:World) (s:aa aw q)=>Z q (O.U s) (j.trans s));have a1:=Lib.hid (fun(q:World) (s:aa aw q)=>ab q (U.out.U (E.trans s)) (j.trans s));have T:=Lib.hid O;have a5:=Lib.hid ad;clear bt bs Z ab ad hS A J j N O a3;by_cases bq:W<X
   ·go_wp2_with (first
     |(go_at_call 20;have av:=t;clear av;refine(t.out _ (by(exact kp))).mono ?_;rintro e b9 ⟨rfl,b5⟩;clear t)
     |(go_at_call 20;refine(a1.out _ (by(exact kp))).mono ?_;rintro e ca ⟨rfl,b6⟩)
     |fail)
    go_roundg (gk-1)
    case rel=>
     have I:=a5.out;rw[if_pos bq]at I;refine⟨r+1,K,L,K,L,rfl,rfl,by omega,by omega,bg,T.out.U (by(exact kp)),by rw[I];exact T.out.U (by(exact kp)),by(exact kp)⟩
    case measure=>omega
   ·go_wp2_with (first
     |(go_at_call 20;have av:=t;clear av;refine(t.out _ (by(exact kp))).mono ?_;rintro e b9 ⟨rfl,b5⟩;clear t)
     |(go_at_call 20;refine(a1.out _ (by(exact kp))).mono ?_;rintro e ca ⟨rfl,b6⟩)
     |fail)
    go_roundg (gk-1)
    case rel=>
     have I:=a5.out;rw[if_neg bq]at I;refine⟨r+1,K,L,b,d,rfl,rfl,by omega,by omega,bg,T.out.U (by(exact kp)),by rw[I];exact U.out.U (by(exact kp)),by(exact kp)⟩
    case measure=>omega
  ·have q:r=z-1:=(by omega);have j:=bx.out;rw[←q]at j;have b0:=Lib.hid j;clear j q b3;go_wp2_with fail
   go_ret
   exact⟨b,d,rfl,by rw[b0.out];exact U.out.U E,bn.trans E⟩

end Go.Proofs.YtafkamlhimkbmaaGreat
