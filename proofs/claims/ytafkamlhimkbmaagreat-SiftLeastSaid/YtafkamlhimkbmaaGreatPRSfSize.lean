/-
  ramageref27.Size.
-/
import Derived.Test.YtafkamlhimkbmaaGreatPLFBed
import Derived.Test.YtafkamlhimkbmaaGreatPSiftGS
namespace Go.Proofs.YtafkamlhimkbmaaGreat
set_option maxRecDepth 1000000
set_option maxHeartbeats 8000000
set_option linter.unusedSimpArgs false
set_option linter.unusedVariables false
open Go.RowKit

theorem xt (k:Nat)(f:Int):∀(xs j:List (Int×List Bool)) (met:List ByteArray),bZ k f (xs++j) met=bZ k f j (bZ k f xs met):=by
 intro xs;induction xs with
 |nil=>intro j met;rfl
 |cons x xs q=>intro j met;show bZ k f (xs++j) _=_;rw[q];rfl

theorem rM (out:List ByteArray)(x:ByteArray):(di out x).length≤out.length+1:=by
 unfold di;split;·omega
 ·simp

theorem nY (xs:List ByteArray):∀out:List ByteArray,(xs.foldl di out).length≤out.length+xs.length:=by
 induction xs with
 |nil=>intro out;simp
 |cons x xs j=>
  intro out;have q:=j (di out x);have j:=rM out x;rw[List.foldl_cons,List.length_cons];omega

theorem pL {k:Nat}(L:k≤6){f:Int}(t:1≤f∧f≤5):∀(rs:List (Int×List Bool)) (met:List ByteArray),(bZ k f rs met).length≤met.length+rs.length*1048576:=by
 intro rs;induction rs with
 |nil=>intro met;simp[bZ]
 |cons r rs K=>
  intro met;have j:=K (if r.1=f then(a9 (bd f k r.2 0) (bd f k r.2 0).size).foldl di met else met);have q:=nY (a9 (bd f k r.2 0) (bd f k r.2 0).size) met;have s:=mG (bd f k r.2 0) (bd f k r.2 0).size;have z:=qY t L r.2 0;show(bZ k f rs _).length≤_;rw[List.length_cons,Nat.add_mul];by_cases h:r.1=f
  ·rw[if_pos h]at j ⊢;obtain⟨t,A⟩:∃t,t=(bZ k f rs ((a9 (bd f k r.2 0) (bd f k r.2 0).size).foldl di met)).length:=⟨_,rfl⟩;obtain⟨B,E⟩:∃B,B=((a9 (bd f k r.2 0) (bd f k r.2 0).size).foldl di met).length:=⟨_,rfl⟩;obtain⟨C,I⟩:∃C,C=(a9 (bd f k r.2 0) (bd f k r.2 0).size).length:=⟨_,rfl⟩;obtain⟨D,J⟩:∃D,D=(bd f k r.2 0).size:=⟨_,rfl⟩;rw[←A]at j ⊢;rw[←E]at j q;rw[←I]at q s;rw[←J]at s z;clear A E I J K;omega
  ·rw[if_neg h]at j ⊢;exact Nat.le_trans j (by clear j q s z;omega)

theorem xE (j:ByteArray)(w:World)(J:j.size≤1048576) :
  Calls Tryz.prog 63 #[.string j] w fun e z=>∃a cap,e=.returned (.slice a (a9 j j.size).length cap)∧z.ownsRow w.heap.size 9 1 (.slice a (a9 j j.size).length cap) (a9 j j.size).length ((a9 j j.size).map Value.string)∧aa w z:=by
 have q:=yg j w J
 obtain⟨ps,t⟩:∃ps,ps=a9 j j.size:=⟨_,rfl⟩
 rw[←t]at q ⊢
 obtain⟨c,s⟩:∃c,c=ps.length:=⟨_,rfl⟩
 rw[←s]at q ⊢
 have A:=Lib.hid q
 clear q s t
 go_enter Tryz.func63,Tryz.ntmps63
 go_wp2_with (first|(go_at_call 113;refine A.out.mono ?_;rintro e j ⟨K,L,rfl,I,E⟩)|fail)
 go_ret
 exact⟨K,L,rfl,I,E⟩

def ly (w:World)(a:Option Addr)(xs:List ByteArray):Prop:=∀i x,xs[i]?=some x→∃g,a=some ⟨g,0,none⟩∧w.cell? ⟨g,i,none⟩=some (.string x)

theorem Av {w:World}{s n cap:Nat}{a:Option Addr}{xs:List ByteArray}(h:w.ownsRow s 9 1 (.slice a n cap) n (xs.map Value.string))(z:n=xs.length):ly w a xs:=fun i x q=>by
 have hi:=(List.getElem?_eq_some_iff.1 q).1;rcases h.2 with⟨j,A⟩|⟨t,cap2,s,j,z,_⟩
 ·omega
 ·cases j;refine⟨t,rfl,?_⟩;rw[h.cellAt i (by omega),List.getElem?_map,q];rfl

theorem qj (a0 c7:Option Addr)(cap0 ev:Nat)(ps:List Int)(N:List (Int×List Bool))(w:World)(dj:aL w a0 ps)(d0:aA ps=true)(c':ps.length≤6)(be:fG w c7 (2 ^ ps.length) N)(b7:N.length≤4) :
  Calls Tryz.prog 20 #[.slice a0 ps.length cap0,.slice c7 N.length ev] w fun e f0=>e=.returned (.int .i64 (aI N ps:Int))∧aa w f0:=by
 have O:=fun(f:Int) (ca:1≤f∧f≤5) (ts:List Bool) (ev:ts.length=2 ^ ps.length) (B:Nat) (q:World) (bg:aa w q) (c7:bm q B ts)=>qX a0 cap0 ps (bu ts) (some ⟨B,0,none⟩) (2 ^ ps.length) f ca q (dj.U bg) d0 c' (ou c7 ev)
 obtain⟨fv,hi,fp,fs,ft⟩:=info_parts pb
 obtain⟨k,t⟩:∃k,k=ps.length:=⟨_,rfl⟩
 obtain⟨I,a1⟩:∃I,I=N.length:=⟨_,rfl⟩
 obtain⟨p,bn⟩:∃p,p=2 ^ k:=⟨_,rfl⟩
 obtain⟨rs,a7⟩:∃rs,rs=gR ps N:=⟨_,rfl⟩
 have ch:aI N ps=gn k rs 5:=by rw[t,a7];rfl
 have d3:∀f:Nat,f<6→gn k rs f≤f*(I*1048576):=by
  intro f;induction f with
  |zero=>intro _;exact Nat.zero_le _
  |succ f c7=>
   intro ca;have aw:=c7 (by omega);have X:=pL (k:=k) (by omega) (f:=((f+1:Nat):Int)) (by omega) rs [];have e0:rs.length=I:=(by rw[a7,a1];simp[gR]);rw[e0]at X;show gn k rs f+_≤_;rw[Nat.add_mul];simp at X ⊢;omega
 rw[ch]
 rw[←t]at be c' ⊢
 simp only[←t]at O
 rw[←bn]at be
 simp only[←bn]at O
 rw[←a1]at b7 ⊢
 have c5:=Lib.hid O
 have en:=Lib.hid be
 have eg:=Lib.hid a1
 have ek:=Lib.hid a7
 have c7:=Lib.hid t
 have c7:=Lib.hid bn
 have em:=Lib.hid d3
 have d1:rs.length=I:=by rw[a7,a1];simp[gR]
 have c3:=Lib.hid d1
 clear O be a1 a7 bn ch dj d0 d3 d1 t
 go_enter Tryz.func20,Tryz.ntmps20
 go_wp2_with fail
 go_loopg [5,6] 5 (fun gk a1 a7 wr=>∃f:Nat,a7=.int .u8 ((f+1:Nat):Int)∧a1=.int .i64 (gn k rs f:Int)∧f+gk=5∧aa w wr)
 case atStart=>exact⟨0,rfl,rfl,rfl,by(exact kp)⟩
 case round=>
  obtain⟨f,rfl,rfl,ca,K⟩:=hrel;by_cases a1:f<5
  ·obtain⟨b4,a1⟩:∃b4,b4=gk:=⟨gk,rfl⟩;obtain⟨W0,e1⟩:∃q,q=wr:=⟨wr,rfl⟩;subst e1;have ee:=Lib.hid K;clear K;obtain⟨bb,hS⟩:∃bb,bb=gn k rs f:=⟨_,rfl⟩
   have a1:bb≤20971520:=by
    have:=em.out f (by omega);rw[hS];have X:f*(I*1048576)≤5*(4*1048576):=Nat.mul_le_mul (by omega) (Nat.mul_le_mul_right _ b7);omega
   rw[←hS];have el:=Lib.hid hS;clear hS;have a1:(f:Int)+1≤5:=(by omega);go_wp2_with fail
   go_loopg [7,8] I (fun gk cx a1 wr=>∃(i:Nat) (a:Option Addr) (c:Nat) (met:List ByteArray),cx=.slice a met.length c∧a1=.int .i64 (i:Int)∧i+gk=I∧met=bZ k ((f+1:Nat):Int) (rs.take i) []∧wr.ownsRow w.heap.size 9 1 (.slice a met.length c) met.length (met.map Value.string)∧aa w wr)
   case atStart=>exact⟨0,none,0,[],rfl,rfl,by omega,rfl,World.ownsRow_nil _ _ _ _,ee.out⟩
   case round=>
    obtain⟨i,a,c,met,rfl,rfl,a1,a5,cg,K⟩:=hrel;have bi:1≤((f+1:Nat):Int)∧((f+1:Nat):Int)≤5:=by omega
    have a1:met.length≤4*1048576:=by
     have aw:=pL (k:=k) (by omega) bi (rs.take i) [];rw[←a5,List.length_nil,Nat.zero_add]at aw;have X:(rs.take i).length≤4:=(by rw[List.length_take,c3.out];exact Nat.le_trans (Nat.min_le_right _ _) b7);exact Nat.le_trans aw (Nat.mul_le_mul_right _ X)
    by_cases e9:i<I
    ·obtain⟨r,T⟩:∃r,N[i]?=some r:=⟨_,List.getElem?_eq_getElem (by rw[←eg.out];exact e9)⟩;obtain⟨fl,d7,b,off,eb,rfl,et,eu,da⟩:=(en.out.U K) i r T;have d2:rs[i]?=some (r.1,bO (hasB (bu r.2)) ps 0):=(by rw[ek.out];unfold gR;rw[List.getElem?_map,T];rfl);have ci:=fO d2;obtain⟨F,ts⟩:=r;dsimp only at fl d7 et eu da ci
     have d5:bZ k ((f+1:Nat):Int) (rs.take (i+1)) []=if F=((f+1:Nat):Int)then(a9 (bd ((f+1:Nat):Int) k (bO (hasB (bu ts)) ps 0) 0) (bd ((f+1:Nat):Int) k (bO (hasB (bu ts)) ps 0) 0).size).foldl di met else met:=by
      rw[ci,xt,←a5];rfl
     have am:=Lib.hid d5;have a':=Lib.hid cg;have Z:=Lib.hid K;clear T d2 ci d5 cg K a5;by_cases db:F=((f+1:Nat):Int)
     ·subst db;have A:=am.out;rw[if_pos rfl]at A;have b9:((f+1:Nat):Int)=(f:Int)+1:=(by push_cast;rfl);rw[b9]at A bi am;have O:=c5.out ((f:Int)+1) bi ts d7 eb;have cj:=qY bi (k:=k) (by omega) (bO (hasB (bu ts)) ps 0) 0;obtain⟨U,d6⟩:∃U,U=bd ((f:Int)+1) k (bO (hasB (bu ts)) ps 0) 0:=⟨_,rfl⟩;rw[←d6]at A O cj;have cd:=fun(q:World)=>xE U q cj;have d9:=mG U U.size;obtain⟨xs,ea⟩:∃xs,xs=a9 U U.size:=⟨_,rfl⟩;rw[←ea]at A cd d9;have N:xs.length≤1048576:=(by omega);have c6:=Lib.hid (fun(q:World) (bg:aa wr q)=>O q (Z.out.trans bg) (jl da bg));have c1:=Lib.hid cd;rw[←b9]at A;have bw:=Lib.hid A;clear A O d6 cd ea d9 am c5 cj b9;go_wp2_with fail
      refine(c6.out _ (by(exact kp))).mono ?_;rintro e w1 ⟨rfl,fa⟩;go_wp2_with fail
      refine(c1.out _).mono ?_;rintro e bs ⟨cv,f2,rfl,cf,dr⟩;have cb:aa wr bs:=(show aa wr w1 by(exact kp)).trans dr;have dl:=Av cf rfl
      have dk:∀b br,cv=some ⟨b,br,none⟩→b<bs.heap.size∧(Value.slice a met.length c).ownBlock≠some b:=fun b br e=>by
       subst e;have N:=(show aa wr w1 by(exact kp)).size;rcases cf.2 with⟨W,_⟩|⟨b3,N,ew,W,e4,e5,_⟩
       ·cases W
       ·cases W;refine⟨aK e5,fun S=>?_⟩;rcases a'.out.2 with⟨b2,_⟩|⟨av,cap2,N,b2,O,e6,_⟩
        ·rw[b2]at S;simp[Value.ownBlock]at S
        ·rw[b2]at S;simp[Value.ownBlock]at S;have:=aK e6;omega
      have c4:=Lib.hid (cb.bq a'.out);have ab:=Lib.hid dl;have c2:=Lib.hid dk;have c0:=Lib.hid (Z.out.trans cb);clear fa dr cb dl dk cf c6 c1 a';obtain⟨b5,N⟩:∃b5,b5=gk:=⟨gk,rfl⟩;obtain⟨N,e2⟩:∃q,q=bs:=⟨bs,rfl⟩;subst e2;go_wp2_with fail
      go_loopg [7,10] xs.length (fun gk cx N wr=>∃(z:Nat) (J:Option Addr) (L:Nat) (j:List ByteArray),cx=.slice J j.length L∧N=.int .i64 (z:Int)∧z+gk=xs.length∧j=(xs.take z).foldl di met∧wr.ownsRow w.heap.size 9 1 (.slice J j.length L) j.length (j.map Value.string)∧ly wr cv xs∧(∀b br,cv=some ⟨b,br,none⟩→b<wr.heap.size∧(Value.slice J j.length L).ownBlock≠some b)∧aa w wr)
      case atStart=>exact⟨0,a,c,met,rfl,rfl,by omega,rfl,c4.out,ab.out,c2.out,c0.out⟩
      case round=>
       clear c4 ab c2 c0;obtain⟨z,J,L,j,rfl,rfl,N,a4,bq,bp,ce,t⟩:=hrel
       have N:j.length≤5*1048576:=by
        have aw:=nY (xs.take z) met;have X:(xs.take z).length≤xs.length:=(by rw[List.length_take];exact Nat.min_le_right _ _);rw[←a4]at aw;omega
       by_cases fj:z<xs.length
       ·obtain⟨x,T⟩:∃x,xs[z]?=some x:=⟨_,List.getElem?_eq_getElem fj⟩;obtain⟨b6,rfl,eR⟩:=bp z x T;obtain⟨N,cq⟩:=ce b6 0 rfl;have a6:(xs.take (z+1)).foldl di met=di j x:=(by rw[fO T,List.foldl_append,←a4];rfl);have a8:=Lib.hid a6;have bv:=Lib.hid bq;have ab:=Lib.hid bp;have ed:=Lib.hid t;clear a6 bq bp ce t a4 T;obtain⟨av,N⟩:∃av,av=gk:=⟨gk,rfl⟩;obtain⟨ep,e3⟩:∃q,q=wr:=⟨wr,rfl⟩;subst e3;go_wp2_with fail
        go_loopg [11,12] j.length (fun q N O ws=>∃s:Nat,s+q=j.length∧N=.bool ((j.take s).any (fun E=>E.toList==x.toList))∧O=.int .i64 (s:Int)∧aa ep ws)
        case atStart=>exact⟨0,by omega,rfl,rfl,aa.refl _⟩
        case round=>
         obtain⟨s,f1,rfl,rfl,Y⟩:=hrel;have ad:=Lib.hid (Y.bq bv.out);have bt:=Lib.hid (ed.out.trans Y);have q:=Y.cell eR;have q:=Y.size;by_cases e':s<j.length
         ·obtain⟨y,co⟩:∃y,j[s]?=some y:=⟨_,List.getElem?_eq_getElem e'⟩
          obtain⟨g,rfl,q⟩:∃g,J=some ⟨g,0,none⟩∧wr.cell? ⟨g,s,none⟩=some (.string y):=by
           rcases ad.out.2 with⟨W,q⟩|⟨eS,cap3,ew,W,e4,_⟩
           ·omega
           ·cases W;refine⟨eS,rfl,?_⟩;rw[ad.out.cellAt s (by omega)];simp[co]
          have d8:(j.take (s+1)).any (fun E=>E.toList==x.toList)=((j.take s).any (fun E=>E.toList==x.toList)||(y.toList==x.toList)):=by
           rw[List.take_add_one,co,List.any_append];simp
          have bx:=Lib.hid d8;clear d8 co;obtain⟨b',a3⟩:∃b,b=(j.take s).any (fun E=>E.toList==x.toList):=⟨_,rfl⟩;rw[←a3]at bx ⊢;clear a3;cases b'
          ·go_wp2_with fail
           go_quiet (fail)
           go_wp2
           go_roundg (gk-1)
           case rel=>exact⟨s+1,by omega,by rw[bx.out];rfl,by go_num,by(exact kp)⟩
           case measure=>omega
          ·go_wp2_with fail
           go_quiet (fail)
           go_wp2
           go_roundg (gk-1)
           case rel=>exact⟨s+1,by omega,by rw[bx.out];rfl,by go_num,by(exact kp)⟩
           case measure=>omega
         ·have a2:j.take s=j:=List.take_of_length_le (by omega);rw[a2];have b8:di j x=if j.any (fun E=>E.toList==x.toList)=true then j else j++[x]:=rfl;obtain⟨b',a3⟩:∃b,b=j.any (fun E=>E.toList==x.toList):=⟨_,rfl⟩;rw[←a3]at b8 ⊢;have cS:=Lib.hid b8;clear a3 a2 b8;have fz:j.length+1≤maxLen:=(by unfold maxLen;omega);have fD:(j.length+1)*16≤140737488355328:=(by omega);have ch:=bt.out.size;cases b'
          ·go_wp2_with (first
            |(at_builtin;refine wpList_append_lies _ rfl _ _ 126 rfl w.heap.size 9 fv (.string ByteArray.empty) 1 16 Tryz.underlying126 hi fp fs ft rfl (by decide) (.slice J j.length L) j.length (j.map Value.string) rfl (ad.out.alloc _) ⟨wr.heap.size,0,none⟩ 1 1 [.string x] rfl rfl (dZ _ _ _ _ rfl) (by simp[Value.oneCell']) (by decide) (by exact fz) (by exact fD) (by simp;omega) (wr.heap.size+1) (by simp) ?_;intro c9 c8 cy fb q e8 s)
            |fail)
           have cl:ae (fun k=>(Value.slice J j.length L).ownBlock=some k) wr cy:=ae.ca (by repeat (first|exact ae.refl _ _|refine ae.alloc ?_ _|refine ae.drew ?_)) q (fun k t=>.inl t);have dB:(j++[x]).length=j.length+1:=(by simp);have fg:cy.ownsRow w.heap.size 9 1 (.slice (some ⟨c9,0,none⟩) (j++[x]).length c8) (j++[x]).length ((j++[x]).map Value.string):=(by rw[dB,List.map_append];exact fb);have q:=cl.size
           have fi:ly cy (some ⟨b6,0,none⟩) xs:=fun cp cD cn=>by
            obtain⟨b3,b1,b0⟩:=ab.out cp cD cn;cases b1;exact⟨b6,rfl,cl.cellAt cq (Y.cell b0)⟩
           go_roundg (av-1)
           case rel=>
            refine⟨z+1,some ⟨c9,0,none⟩,c8,j++[x],by rw[dB],by simp,by omega,by rw[a8.out,cS.out,if_neg (by decide)],fg,fi,fun er fx e=>?_,bt.out.new cl (fun k t=>gT ad.out t)⟩;cases e;refine⟨by omega,fun S=>?_⟩;simp[Value.ownBlock]at S;subst S;rcases e8 with q|q;·exact cq q
            ·omega
           case measure=>omega
          ·go_wp2_with fail
           go_roundg (av-1)
           case rel=>exact⟨z+1,J,L,j,rfl,by simp,by omega,by rw[a8.out,cS.out];simp,ad.out,fun cp cD cn=>by obtain⟨b3,b1,b0⟩:=ab.out cp cD cn;exact⟨b3,b1,Y.cell b0⟩,fun er fx e=>by cases e;exact⟨by omega,cq⟩,bt.out⟩
           case measure=>omega
       ·have a2:j=bZ k ((f+1:Nat):Int) (rs.take (i+1)) []:=(by rw[a4,List.take_of_length_le (by omega),bw.out]);have ec:=Lib.hid a2;have bv:=Lib.hid bq;clear a2 a4 bq bp ce;go_wp2_with fail
        go_roundg (b5-1)
        case rel=>exact⟨i+1,J,L,j,rfl,by simp,by omega,ec.out,bv.out,t⟩
        case measure=>omega
     ·have j:((F !=((f:Int)+1))=true):=(by simp;omega);have A:=am.out;rw[if_neg db]at A;have bw:=Lib.hid A;clear A am;go_wp2_with fail
      go_roundg (gk-1)
      case rel=>exact⟨i+1,a,c,met,rfl,by simp,by omega,bw.out.symm,a'.out,Z.out⟩
      case measure=>omega
    ·have j:i=I:=(by omega);have ds:met=bZ k ((f+1:Nat):Int) rs []:=(by rw[a5,List.take_of_length_le (by rw[c3.out];omega)]);have a6:gn k rs (f+1)=bb+met.length:=(by rw[ds,el.out];rfl);have a8:=Lib.hid a6;have Z:=Lib.hid K;clear ds a6 a5 cg K;go_wp2_with fail
     go_roundg (b4-1)
     case rel=>exact⟨f+1,by simp,by rw[a8.out];simp,by omega,Z.out⟩
     case measure=>omega
  ·have e7:f=5:=(by omega);subst e7;go_wp2_with fail
   go_ret
   exact⟨rfl,K⟩

end Go.Proofs.YtafkamlhimkbmaaGreat
