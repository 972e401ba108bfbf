/-
  slices.Sort at uint32, part 10: partialInsertionSortOrdered.
-/
import Derived.Test.YtafkamlhimkbmaaGreatPSortB
import Derived.Sort.LotD3
namespace Go.Proofs.YtafkamlhimkbmaaGreat
set_option maxRecDepth 1000000
set_option maxHeartbeats 8000000
set_option linter.unusedSimpArgs false
set_option linter.unusedVariables false
open Go.RowKit Go.Sort
theorem yq (j:Nat)(d:Array Int):(shiftDown ltInt j d).size=d.size:=by
 fun_induction shiftDown ltInt j d<;>simp_all [size_swp]
theorem zb (b j:Nat)(d:Array Int):(shiftUp ltInt b j d).size=d.size:=by
 fun_induction shiftUp ltInt b j d<;>simp_all [size_swp]
theorem tC (a i:Nat)(d:Array Int):(fixDown ltInt a i d).size=d.size:=by
 unfold fixDown;split;·exact yq _ _
 ·rfl
theorem lO (b i:Nat)(d:Array Int):(fixUp ltInt b i d).size=d.size:=by
 unfold fixUp;split;·exact zb _ _ _
 ·rfl
theorem yp (j:Nat)(d:Array Int)(h0:0<j)(h:ltInt d[j]! d[j-1]! = true):shiftDown ltInt (j-1) (swp d j (j-1)) = shiftDown ltInt j d:=by
 obtain⟨k,rfl⟩:∃k,j=k+1:=⟨j-1,by omega⟩;simp only[Nat.add_sub_cancel]at h ⊢;rw[shiftDown,ag (by simp[h])]
theorem yr (j:Nat)(d:Array Int)(h:j = 0∨ltInt d[j]! d[j-1]! = false):shiftDown ltInt j d = d:=by
 cases j with
 |zero=>rfl
 |succ k=>
  simp only[Nat.add_sub_cancel]at h;rw[shiftDown,ai (by rcases h with h|h<;>simp_all)]
theorem za (b j:Nat)(d:Array Int)(h0:j<b)(h:ltInt d[j]! d[j-1]! = true):shiftUp ltInt b (j+1) (swp d j (j-1)) = shiftUp ltInt b j d:=by
 rw[shiftUp.eq_1 ltInt b j,ai h0,ag (by simp[h])]
theorem pS (b j:Nat)(d:Array Int)(h:¬j<b∨ltInt d[j]! d[j-1]! = false):shiftUp ltInt b j d = d:=by
 rw[shiftUp];rcases h with h|h;·rw[ag h]
 ·by_cases s:j<b;·rw[ai s,ai (by simp[h])]
  ·rw[ag s]
theorem yX (b i:Nat)(d:Array Int)(h0:i<b)(h:ltInt d[i]! d[i-1]! = false):scanSorted ltInt d b (i+1) = scanSorted ltInt d b i:=by
 rw[scanSorted.eq_1 ltInt d b i,ai (by simp[h0,h])]
theorem pP (b i:Nat)(d:Array Int)(h:¬i<b∨ltInt d[i]! d[i-1]! = true):scanSorted ltInt d b i = i:=by
 rw[scanSorted,ag (by rcases h with h|h<;>simp[h])]
theorem xt (a b s i:Nat)(d:Array Int)(h:scanSorted ltInt d b i=b):partialIns ltInt a b (s+1) i d=(d,true):=by
 rw[partialIns_succ,ai h]
theorem xr (a b u i s:Nat)(d:Array Int)(h:scanSorted ltInt d b i=s)(z:s<b)(t:b-a<50):partialIns ltInt a b (u+1) i d=(d,false):=by
 subst h;rw[partialIns_succ,ag (by omega),ai t]
theorem xu (a b t i s:Nat)(d:Array Int)(h:scanSorted ltInt d b i=s)(z:s<b)(u:¬b-a<50):partialIns ltInt a b t s (fixUp ltInt b s (fixDown ltInt a s (swp d s (s-1))))=partialIns ltInt a b (t+1) i d:=by
 subst h;rw[partialIns_succ,ag (by omega),ag u]
theorem xv (u cap len a b:Nat)(d:Array Int)(w:World)(cf:bE w u cap d)(ce:d.size=len)(c5:a<b)(c6:b≤len)(da:len≤1048576) :
  Calls Tryz.prog 221 #[.slice (some ⟨u,0,none⟩) len cap,.int .i64 a,.int .i64 b] w fun e c3=>
   e=.returned (.bool (partialInsertionSort ltInt d a b).2)∧aL w c3 u cap (partialInsertionSort ltInt d a b).1:=by
 obtain⟨R,bh⟩:∃R,partialInsertionSort ltInt d a b=R:=⟨_,rfl⟩
 have ch:Hid (R=partialIns ltInt a b 5 (a+1) d):=aa (by rw[←bh];rfl)
 rw[bh]
 clear bh
 go_enter Tryz.func221,Tryz.ntmps221
 go_wp2
 go_loopg [7,8] 6 (fun gk b7 vs wr=>∃(i E:Nat) (z:Array Int),E<gk∧E≤5∧b7=.int .i64 (i:Int)∧vs=.int .i64 (5-(E:Int))∧a<i∧i≤b∧z.size=len∧aL w wr u cap z∧R=partialIns ltInt a b E i z)
 case atStart=>exact⟨a+1,5,d,by omega,by omega,by go_num,rfl,by omega,by omega,ce,aL.self cf,ch.out⟩
 case round=>
  obtain⟨i,E,z,c7,c',rfl,rfl,cy,cB,ch,hS,bh⟩:=hrel;have b9:=aa hS;have a6:=aa bh;have ah:=aa ch;clear hS bh ch cf ce;obtain⟨be,rfl⟩:∃x:Nat,x=gk:=⟨_,rfl⟩;obtain⟨db,rfl⟩:∃x:World,x=wr:=⟨_,rfl⟩;obtain⟨h,cd⟩:∃h:Nat→Int,∀J,h J=z[J]!:=⟨fun J=>z[J]!,fun _=>rfl⟩;have U:=aa cd;clear cd;cases E with
  |zero=>
   have ca:(5:Int)-((0:Nat):Int)=5:=rfl;rw[ca];clear ca;go_wp2;go_ret;rw[a6.out];exact⟨rfl,b9.out⟩
  |succ E=>
   have c0:(5:Int)-((E+1:Nat):Int)<5:=(by omega);obtain⟨b3,bw⟩:∃b3:Int,b3=(5:Int)-((E+1:Nat):Int):=⟨_,rfl⟩;rw[←bw]at c0 ⊢;have bh:0≤b3:=(by omega);have ba:=aa bw;clear bw;go_wp2_with fail;go_loopg [7] (b+1) (fun aw b7 a4=>∃s:Nat,b+1-s≤aw∧b7=.int .i64 (s:Int)∧a<s∧s≤b∧aL w a4 u cap z∧scanSorted ltInt z b s=scanSorted ltInt z b i)
   case atStart=>exact⟨i,by omega,rfl,cy,cB,b9.out,rfl⟩
   case round=>
    obtain⟨s,c8,rfl,bi,bt,bh,bw⟩:=hrel;have V:=aa bh;have a8:=aa bw;clear bh bw;have b4:((s:Int)-1).toNat=s-1:=(by omega);have b5:(0:Int)≤(s:Int)-1:=(by omega);have b6:(s:Int)-1<(len:Int):=(by omega);have bc:wr.cell? ⟨u,s-1,none⟩=some (.int .u32 (h (s-1))):=(by rw[U.out];exact V.out.row.cell (s-1) (by rw[ah.out];omega));by_cases a2:s<b
    ·have cn:wr.cell? ⟨u,s,none⟩=some (.int .u32 (h s)):=(by rw[U.out];exact V.out.row.cell s (by rw[ah.out];omega));have bh:(s:Int)<(len:Int):=(by omega);have Y:(s:Int)<(b:Int):=(by omega);rcases eC (ltInt (h s) (h (s-1)))with a9|a9
     ·have av:Hid (scanSorted ltInt z b (s+1)=scanSorted ltInt z b i):=aa (by rw[←a8.out];exact yX b s z a2 (by rw[←U.out,←U.out];exact a9));go_wp2_with fail;go_quiet ((go_at_call 222;exact aU (aV _ _ _)));go_wp2;go_roundg (gk-1)
      case rel=>exact⟨s+1,by omega,by go_num,by omega,by omega,V.out.drewN nq,av.out⟩
      case measure=>omega
     ·have ad:Hid (scanSorted ltInt z b i=s):=aa (by rw[←a8.out];exact pP b s z (Or.inr (by rw[←U.out,←U.out];exact a9)));have c1:¬s=b:=(by omega);by_cases bn:b-a<50
      ·have cj:(b:Int)-(a:Int)<50:=(by omega);go_wp2_with fail;go_quiet ((go_at_call 222;exact aU (aV _ _ _)));go_wp2;go_ret;rw[a6.out,xr a b E i s z ad.out a2 bn];exact⟨rfl,V.out.drewN _⟩
      ·have cj:¬(b:Int)-(a:Int)<50:=(by omega);have cv:wr.frozen? ⟨u,s,none⟩=false:=V.out.row.frozen s;have bd:wr.frozen? ⟨u,s-1,none⟩=false:=V.out.row.frozen (s-1);have Q:=fun n=>V.out.b8 n s (s-1) (by rw[ah.out];omega) (by rw[ah.out];omega);rw[←U.out,←U.out]at Q;have cl:=aa Q;have Z:Hid (R=partialIns ltInt a b E s (fixUp ltInt b s (fixDown ltInt a s (swp z s (s-1))))):=aa (by rw[xu a b E i s z ad.out a2 bn];exact a6.out);clear Q;have b1:¬s-1=s:=(by omega);have b2:¬s=s-1:=(by omega);go_wp2_with fail;go_quiet ((go_at_call 222;exact aU (aV _ _ _)));go_wp2;go_region;obtain⟨c4,b0⟩:∃x,x=((wr.drewN (nq+1)).setCell ⟨u,s,none⟩ (.int .u32 (h (s-1)))).setCell ⟨u,s-1,none⟩ (.int .u32 (h s)):=⟨_,rfl⟩;have a7:Hid (aL w c4 u cap (swp z s (s-1))):=aa (by rw[b0];exact cl.out (nq+1));rw[←b0];have a5:Hid ((swp z s (s-1)).size=len):=aa (by rw[size_swp];exact ah.out);obtain⟨N,cb⟩:∃x,x=swp z s (s-1):=⟨_,rfl⟩;rw[←cb]at a7 Z a5;have U:Hid (s<b∧¬b-a<50):=aa ⟨a2,bn⟩;clear b0 cb cn bc cv bd b1 b2 b4 b5 b6 c1 a9 ad a8 cj Y;go_upto_if 61 with fail
       go_cut [] (fun U=>aL w U u cap (fixDown ltInt a s N))
       case first=>
        by_cases ax:s-a≥2
        ·have Y:(2:Int)≤(s:Int)-(a:Int):=(by omega);have ab:Hid (fixDown ltInt a s N=shiftDown ltInt (s-1) N):=aa (by unfold fixDown;rw[ai ax]);go_wp2_with fail;go_loopg [9] (s+1) (fun aw b8 a4=>∃(j:Nat) (t:Array Int),j<aw∧b8=.int .i64 (j:Int)∧j<s∧t.size=len∧aL w a4 u cap t∧shiftDown ltInt j t=shiftDown ltInt (s-1) N)
         case atStart=>exact⟨s-1,N,by omega,by congr 1;omega,by omega,a5.out,a7.out,rfl⟩
         case round=>
          obtain⟨j,t,cz,rfl,cD,a3,a0,ay⟩:=hrel;have I:=aa a0;have W:=aa ay;have O:=aa a3;clear a0 ay a3;by_cases bv:j=0
          ·subst bv;have T:Hid (fixDown ltInt a s N=t):=aa (by rw[ab.out,←W.out];rfl);go_wp2_with fail;go_meet;case rel=>rw[T.out];exact I.out
          ·have ci:(1:Int)≤(j:Int):=(by omega);have b4:((j:Int)-1).toNat=j-1:=(by omega);have b5:(0:Int)≤(j:Int)-1:=(by omega);have b6:(j:Int)-1<(len:Int):=(by omega);have c2:(j:Int)<(len:Int):=(by omega);have b1:¬j-1=j:=(by omega);have b2:¬j=j-1:=(by omega);obtain⟨g,a1⟩:∃g:Nat→Int,∀J,g J=t[J]!:=⟨fun J=>t[J]!,fun _=>rfl⟩;have D:=aa a1;clear a1;have co:wr.cell? ⟨u,j,none⟩=some (.int .u32 (g j)):=(by rw[D.out];exact I.out.row.cell j (by rw[O.out];omega));have bc:wr.cell? ⟨u,j-1,none⟩=some (.int .u32 (g (j-1))):=(by rw[D.out];exact I.out.row.cell (j-1) (by rw[O.out];omega));have cx:wr.frozen? ⟨u,j,none⟩=false:=I.out.row.frozen j;have bd:wr.frozen? ⟨u,j-1,none⟩=false:=I.out.row.frozen (j-1);rcases eC (ltInt (g j) (g (j-1)))with X|X
           ·have T:Hid (fixDown ltInt a s N=t):=aa (by rw[ab.out,←W.out];exact yr j t (Or.inr (by rw[←D.out,←D.out];exact X)));go_wp2_with fail;go_quiet ((go_at_call 222;exact aU (aV _ _ _)));go_wp2_with fail;go_meet;case rel=>rw[T.out];exact I.out.drewN nq
           ·have Q:=fun n=>I.out.b8 n j (j-1) (by rw[O.out];omega) (by rw[O.out];omega);rw[←D.out,←D.out]at Q;have bb:=aa Q;have av:Hid (shiftDown ltInt (j-1) (swp t j (j-1))=shiftDown ltInt (s-1) N):=aa (by rw[←W.out];exact yp j t (by omega) (by rw[←D.out,←D.out];exact X));clear Q;go_wp2_with fail;go_quiet ((go_at_call 222;exact aU (aV _ _ _)));go_wp2;go_region;all_goals go_wp2
            go_roundg (gk-1)
            case rel=>exact⟨j-1,_,by omega,by congr 1;omega,by omega,by rw[size_swp];exact O.out,bb.out (nq+1),av.out⟩
            case measure=>omega
        ·have Y:¬(2:Int)≤(s:Int)-(a:Int):=(by omega);have T:Hid (fixDown ltInt a s N=N):=aa (by unfold fixDown;rw[ag ax]);go_wp2_with fail;go_meet;case rel=>rw[T.out];exact a7.out
       case rest=>
        have a':=aa hcut;have al:Hid ((fixDown ltInt a s N).size=len):=aa (by rw[tC];exact a5.out);obtain⟨d4,cc⟩:∃x,x=fixDown ltInt a s N:=⟨_,rfl⟩;rw[←cc]at a' Z al;clear hcut cc a7 a5;go_upto_if 98 with fail
        by_cases ax:b-s≥2
        ·have Y:(2:Int)≤(b:Int)-(s:Int):=(by omega);have ab:Hid (fixUp ltInt b s d4=shiftUp ltInt b (s+1) d4):=aa (by unfold fixUp;rw[ai ax]);go_wp2_with fail;go_loopg [10] (b+1) (fun aw b8 a4=>∃(j:Nat) (t:Array Int),b+1-j≤aw∧b8=.int .i64 (j:Int)∧s<j∧j≤b∧t.size=len∧aL w a4 u cap t∧shiftUp ltInt b j t=shiftUp ltInt b (s+1) d4)
         case atStart=>exact⟨s+1,d4,by omega,by go_num,by omega,by omega,al.out,a'.out,rfl⟩
         case round=>
          obtain⟨j,t,cz,rfl,cD,N,a3,a0,ay⟩:=hrel;have I:=aa a0;have W:=aa ay;have O:=aa a3;clear a0 ay a3;by_cases bv:¬j<b
          ·have T:Hid (fixUp ltInt b s d4=t):=aa (by rw[ab.out,←W.out];exact pS b j t (Or.inl bv));have ci:¬(j:Int)<(b:Int):=(by omega);go_wp2_with fail;have am:Hid ((fixUp ltInt b s d4).size=len):=aa (by rw[lO];exact al.out);go_roundg (be-1)
           case rel=>exact⟨s,E,_,by omega,by omega,rfl,by have:=ba.out;congr 1;omega,bi,bt,am.out,by rw[T.out];exact I.out,Z.out⟩
           case measure=>omega
          ·have ci:(j:Int)<(b:Int):=(by omega);have b4:((j:Int)-1).toNat=j-1:=(by omega);have b5:(0:Int)≤(j:Int)-1:=(by omega);have b6:(j:Int)-1<(len:Int):=(by omega);have c2:(j:Int)<(len:Int):=(by omega);have b1:¬j-1=j:=(by omega);have b2:¬j=j-1:=(by omega);obtain⟨g,a1⟩:∃g:Nat→Int,∀J,g J=t[J]!:=⟨fun J=>t[J]!,fun _=>rfl⟩;have D:=aa a1;clear a1;have co:wr.cell? ⟨u,j,none⟩=some (.int .u32 (g j)):=(by rw[D.out];exact I.out.row.cell j (by rw[O.out];omega));have bc:wr.cell? ⟨u,j-1,none⟩=some (.int .u32 (g (j-1))):=(by rw[D.out];exact I.out.row.cell (j-1) (by rw[O.out];omega));have cx:wr.frozen? ⟨u,j,none⟩=false:=I.out.row.frozen j;have bd:wr.frozen? ⟨u,j-1,none⟩=false:=I.out.row.frozen (j-1);rcases eC (ltInt (g j) (g (j-1)))with X|X
           ·have T:Hid (fixUp ltInt b s d4=t):=aa (by rw[ab.out,←W.out];exact pS b j t (Or.inr (by rw[←D.out,←D.out];exact X)));go_wp2_with fail;go_quiet ((go_at_call 222;exact aU (aV _ _ _)));go_wp2_with fail;have am:Hid ((fixUp ltInt b s d4).size=len):=aa (by rw[lO];exact al.out);go_roundg (be-1)
            case rel=>exact⟨s,E,_,by omega,by omega,rfl,by have:=ba.out;congr 1;omega,bi,bt,am.out,by rw[T.out];exact I.out.drewN nq,Z.out⟩
            case measure=>omega
           ·have Q:=fun n=>I.out.b8 n j (j-1) (by rw[O.out];omega) (by rw[O.out];omega);rw[←D.out,←D.out]at Q;have bb:=aa Q;have av:Hid (shiftUp ltInt b (j+1) (swp t j (j-1))=shiftUp ltInt b (s+1) d4):=aa (by rw[←W.out];exact za b j t (by omega) (by rw[←D.out,←D.out];exact X));clear Q;go_wp2_with fail;go_quiet ((go_at_call 222;exact aU (aV _ _ _)));go_wp2;go_region;all_goals go_wp2
            go_roundg (gk-1)
            case rel=>exact⟨j+1,_,by omega,by go_num,by omega,by omega,by rw[size_swp];exact O.out,bb.out (nq+1),av.out⟩
            case measure=>omega
        ·have Y:¬(2:Int)≤(b:Int)-(s:Int):=(by omega);have T:Hid (fixUp ltInt b s d4=d4):=aa (by unfold fixUp;rw[ag ax]);go_wp2_with fail;have am:Hid ((fixUp ltInt b s d4).size=len):=aa (by rw[lO];exact al.out);go_roundg (be-1)
         case rel=>exact⟨s,E,_,by omega,by omega,rfl,by have:=ba.out;congr 1;omega,bi,bt,am.out,by rw[T.out];exact a'.out,Z.out⟩
         case measure=>omega
    ·have ad:Hid (scanSorted ltInt z b i=b):=aa (by have e:s=b:=(by omega);rw[←a8.out,pP b s z (Or.inl a2)];exact e);have Y:decide ((s:Int)<(b:Int))=false:=bQ (by omega);have cp:s=b:=(by omega);subst cp;go_wp2_with fail;go_quiet ((go_at_call 222;exact aU (aV _ _ _)));go_wp2;go_ret;rw[a6.out,xt a s E i z ad.out];exact⟨rfl,V.out.drewN _⟩
def Leaves (a b s b':Nat)(d t:Array Int):Prop:=
 ∀R,PermIn s b' t R→SortedIn ltInt s b' R→PermIn a b d R∧SortedIn ltInt a b R
theorem Leaves.refl (a b:Nat)(d:Array Int):Leaves a b a b d d:=fun _ s t=>⟨s,t⟩
theorem Leaves.perm {a b s b':Nat}{d u t:Array Int}(h:Leaves a b s b' d u)(z:PermIn s b' u t):Leaves a b s b' d t:=
 fun R s t=>h R (permIn_trans _ _ _ _ _ z s) t
theorem aL.U {w w1 u:World}{s cap:Nat}{d:Array Int}(h:aL w w1 s cap d)(t:ae w1 u):aL w u s cap d:=h.trans ⟨ae.upd t _,h.row.keep (ae.upd t (fun _=>False)) (fun h=>h)⟩
theorem xk (t cap len:Nat)(am:len≤1048576):∀(bn a b bv:Nat) (d:Array Int) (w:World),b-a<bn→bE w t cap d→d.size=len→a≤b→b≤len→bv≤64→Below ltInt a b d →
  Calls Tryz.prog 178 #[.slice (some ⟨t,0,none⟩) len cap,.int .i64 a,.int .i64 b,.int .i64 bv] w fun e cl=>
   e=.returned (.tuple #[])∧∃d',PermIn a b d d'∧SortedIn ltInt a b d'∧aL w cl t cap d':=by
 intro bn
 induction bn with
 |zero=>intro _ _ _ _ _ h;exact absurd h (Nat.not_lt_zero _)
 |succ bn cp=>
  intro a b bv d w bn co cl c' da dj bn;have c6:=aa co;have c2:=aa cl;have cy:=aa bn;have cf:=aa cp;clear co cl bn cp;go_enter Tryz.func178,Tryz.ntmps178;go_wp2
  go_loopg [1,2,3,8,9] (b-a+1) (fun gk bn cl ca co cp wr=>∃(s b' lm:Nat) (bd wp:Bool) (E:Array Int),bn=.int .i64 (s:Int)∧cl=.int .i64 (b':Int)∧ca=.int .i64 (lm:Int)∧co=.bool bd∧cp=.bool wp ∧
   s≤b'∧b'≤len∧b'-s<gk∧gk≤b-a+1∧lm≤64∧E.size=len∧Below ltInt s b' E∧aL w wr t cap E∧Leaves a b s b' d E)
  case atStart=>exact⟨a,b,bv,true,true,d,rfl,rfl,rfl,rfl,rfl,c',da,by omega,by omega,dj,c2.out,cy.out,aL.self c6.out,Leaves.refl _ _ _⟩
  case round=>
   obtain⟨s,b',lm,bd,wp,E,rfl,rfl,rfl,rfl,rfl,b8,D,co,cp,dk,cl,bn,hS,bv⟩:=hrel;have O:=aa cl;have cd:=aa bn;have ah:=aa hS;have a2:=aa bv;clear cl bn hS bv;by_cases bn:b'-s≤12
   ·have ds:(b':Int)-(s:Int)≤12:=(by omega);have ab:=aa (uu t cap len s b' E wr ah.out.row O.out b8 D am);have z:=aa (insertionSort_holds swo_ltInt E s b' b8 (by rw[O.out];exact D));go_wp2_with fail;refine ab.out.mono ?_;rintro e bc ⟨rfl,N⟩;have Q:=aa (ah.out.trans N);clear N;go_wp2;first|go_end0|refine an (results_none rfl _ _ _) rfl ?_
    exact⟨rfl,_,(a2.out _ z.out.1 z.out.2).1,(a2.out _ z.out.1 z.out.2).2,Q.out⟩
   ·have ds:¬(b':Int)-(s:Int)≤12:=(by omega);by_cases db:lm=0
    ·subst db;have ab:=aa (t' t cap len s b' E wr ah.out.row O.out (by omega) D am);have z:=aa (heapSort_holds swo_ltInt E s b' b8 (by rw[O.out];exact D));go_wp2_with fail;refine ab.out.mono ?_;rintro e bc ⟨rfl,N⟩;have Q:=aa (ah.out.trans N);clear N;go_wp2;first|go_end0|refine an (results_none rfl _ _ _) rfl ?_
     exact⟨rfl,_,(a2.out _ z.out.1 z.out.2).1,(a2.out _ z.out.1 z.out.2).2,Q.out⟩
    ·have bn:¬(lm:Int)=0:=(by omega);go_upto_if 35 with fail
     go_cut [3] (fun ca Z=>∃(av:Nat) (U:Array Int),ca=.int .i64 (av:Int)∧av≤64∧PermIn s b' E U∧aL w Z t cap U)
     case first=>
      cases bd
      ·have ab:=aa (rQ t cap len s b' E wr ah.out.row O.out (by omega) D am);go_wp2_with fail;refine ab.out.mono ?_;rintro e bc ⟨rfl,U,I,N⟩;have a5:=aa I;have Q:=aa (ah.out.trans N);clear N I;go_wp2_with fail;go_meet;case rel=>exact⟨lm-1,U,by congr 1;omega,by omega,a5.out,Q.out⟩
      ·go_wp2_with fail;go_meet;case rel=>exact⟨lm,E,rfl,dk,permIn_refl _ _ _,ah.out⟩
     case rest=>
      obtain⟨av,U,rfl,a',I,bn⟩:=hcut;have a5:=aa I;have b6:=aa bn;have b1:Hid (U.size=len):=aa (I.1.trans O.out);clear I bn;have ab:=aa (sr t cap len s b' U wc b6.out.row b1.out (by omega) D am);go_upto_if 50 with fail
      refine ab.out.mono ?_;rintro e bc ⟨p,h,rfl,a4,I,bv,bn⟩;have Q:Hid (aL w bc t cap U):=aa (b6.out.U bn);clear bn;go_upto_if 50 with fail
      go_cut [11,12] (fun bn bv Z=>∃(p:Nat) (h:Int) (J:Array Int),bn=.int .i64 (p:Int)∧bv=.int .i64 h∧s≤p∧p<b'∧PermIn s b' E J∧aL w Z t cap J)
      case first=>
       by_cases V:h=2
       ·subst V;have c1:=aa (yg t cap len s b' U bc Q.out.row b1.out (by omega) D am);go_wp2_with fail;refine c1.out.mono ?_;rintro e cx ⟨rfl,J,bn,bc⟩;have c5:=aa (permIn_trans _ _ _ _ _ a5.out bn);have bh:=aa (Q.out.trans bc);clear bn bc;go_wp2_with fail;go_meet;case rel=>exact⟨b'-1-(p-s),1,J,by congr 1;omega,rfl,by omega,by omega,c5.out,bh.out⟩
       ·go_wp2_with fail;go_meet;case rel=>exact⟨p,h,U,rfl,rfl,a4,I,a5.out,Q.out⟩
      case rest=>
       obtain⟨p,h,J,rfl,rfl,a4,I,U,N⟩:=hcut;have a6:=aa U;have bh:=aa N;have b2:Hid (J.size=len):=aa (U.1.trans O.out);clear U N;go_upto_region 15 with fail
       go_cut [68] (fun N Z=>∃c:Bool,N=.bool c∧aL w Z t cap J)
       case first=>
        cases bd<;>cases wp<;>by_cases Y:h=1 <;>
         (go_wp2_with fail
          go_meet
          exact⟨_,rfl,bh.out⟩)
       case rest=>
        obtain⟨c,rfl,N⟩:=hcut;have a7:=aa N;clear N;go_upto_if 68 with fail
        go_cut [] (fun Z=>∃u:Array Int,PermIn s b' E u∧aL w Z t cap u)
        case first=>
         cases c
         ·go_wp2_with fail;go_meet;case rel=>exact⟨J,a6.out,a7.out⟩
         ·have bw:=aa (xv t cap len s b' J wc a7.out.row b2.out (by omega) D am);have z:=aa (partialInsertionSort_holds swo_ltInt J s b' (by omega) (by rw[b2.out];exact D) (Below.perm cd.out (by rw[O.out];exact D) a6.out));obtain⟨R,ch⟩:∃R,R=partialInsertionSort ltInt J s b':=⟨_,rfl⟩;rw[←ch]at bw z;clear ch;obtain⟨u,f⟩:=R;cases f
          ·go_wp2_with fail;refine bw.out.mono ?_;rintro e cx ⟨rfl,al⟩;have T:=aa (a7.out.trans al);clear al;go_wp2_with fail;go_meet;case rel=>exact⟨u,permIn_trans _ _ _ _ _ a6.out z.out.1,T.out⟩
          ·go_wp2_with fail;refine bw.out.mono ?_;rintro e cx ⟨rfl,al⟩;have T:=aa (a7.out.trans al);clear al;have ce:=aa (a2.out u (permIn_trans _ _ _ _ _ a6.out z.out.1) (z.out.2 (by trivial)));go_wp2;first|go_end0|refine an (results_none rfl _ _ _) rfl ?_
           exact⟨rfl,u,ce.out.1,ce.out.2,T.out⟩
        case rest=>
         obtain⟨u,E,al⟩:=hcut;have J:=aa E;have T:=aa al;have ad:Hid (u.size=len):=aa (E.1.trans O.out);have cc:Hid (Go.Sort.Below ltInt s b' u):=aa (Below.perm cd.out (by rw[O.out];exact D) E);have b4:Hid (Leaves a b s b' d u):=aa (a2.out.perm E);clear E al a5 a6 b6 Q bh a7 b1 b2 ab ah;obtain⟨g,cj⟩:∃g:Nat→Int,∀E,g E=u[E]!:=⟨fun E=>u[E]!,fun _=>rfl⟩;have be:=aa cj;clear cj;go_upto_region 17 with fail
         go_cut [87] (fun E Z=>∃B:Bool,E=.bool B∧(B=true→0<s∧ltInt (g (s-1)) (g p)=false)∧aL w Z t cap u)
         case first=>
          have E:wc.cell? ⟨t,p,none⟩=some (.int .u32 (g p)):=(by rw[be.out];exact T.out.row.cell p (by rw[ad.out];omega));have E:(p:Int)<(len:Int):=(by omega);rcases Nat.eq_zero_or_pos s with bt|bt
          ·subst bt;go_big_quiet (first|(go_at_call 222;exact aU (aV _ _ _)))
           go_wp2_with fail;go_meet;case rel=>exact⟨false,rfl,(fun h=>by cases h),T.out.drewN nq⟩
          ·have E:(s:Int) > 0:=(by omega);have E:((s:Int)-1).toNat=s-1:=(by omega);have E:(0:Int)≤(s:Int)-1:=(by omega);have E:(s:Int)-1<(len:Int):=(by omega);have E:wc.cell? ⟨t,s-1,none⟩=some (.int .u32 (g (s-1))):=(by rw[be.out];exact T.out.row.cell (s-1) (by rw[ad.out];omega));rcases eC (ltInt (g (s-1)) (g p))with ci|ci
           ·go_big_quiet (first|(go_at_call 222;exact aU (aV _ _ _)))
            go_wp2_with fail;go_meet;case rel=>exact⟨true,rfl,(fun _=>⟨by omega,ci⟩),T.out.drewN nq⟩
           ·go_big_quiet (first|(go_at_call 222;exact aU (aV _ _ _)))
            go_wp2_with fail;go_meet;case rel=>exact⟨false,rfl,(fun h=>by cases h),T.out.drewN nq⟩
         case rest=>
          obtain⟨B,rfl,E,J⟩:=hcut;have bi:=aa J;have c0:=aa E;clear J E T;cases B
          ·obtain⟨mid,ay⟩:∃x,x=(partition ltInt u s b' p).1:=⟨_,rfl⟩;obtain⟨ap,b9⟩:∃x,x=(partition ltInt u s b' p).2.1:=⟨_,rfl⟩;obtain⟨d4,ax⟩:∃x,x=(partition ltInt u s b' p).2.2:=⟨_,rfl⟩;have z:=round_part (d4:=d4) (mid:=mid) (ap:=ap) swo_ltInt (partition_holds ltInt) a4 I (by rw[ad.out];exact D) cc.out (by rw[ay,b9,ax]);obtain⟨dl,cv,bb,E,J,N,O⟩:=z;have W:=xe t cap len s b' p u wc bi.out.row ad.out a4 I D am;rw[←ay,←b9,←ax]at W;have W:=aa W;have a1:Hid (d4.size=len):=aa (bb.trans ad.out);have cB:=aa E;have cD:=aa J;have c4:=aa N;have c7:=aa O;clear ay b9 ax bb E J N O;go_upto_if 113 with fail
           refine W.out.mono ?_;rintro e cb ⟨rfl,a8⟩;have a3:=aa (bi.out.trans a8);clear a8;go_upto_if 113 with fail
           by_cases E:mid-s<b'-mid
           ·have c8:(mid:Int)-(s:Int)<(b':Int)-(mid:Int):=(by omega);have b0:=aa (cf.out s mid av d4 cb (by omega) a3.out.row a1.out (by omega) (by omega) a' cB.out);go_wp2_with fail;refine b0.out.mono ?_;rintro e dB ⟨rfl,X,a0,ba,a9⟩;have b3:Hid (X.size=len):=aa (a0.1.trans a1.out);have aw:=aa (c4.out X a0 ba);have b7:=aa (a3.out.trans a9);have b5:Hid (Leaves a b (mid+1) b' d X):=aa (fun R Y V=>b4.out R (aw.out.2 R Y V).1 (aw.out.2 R Y V).2);clear a0 ba a9;go_wp2_with fail;go_roundg (gk-1)
            case rel=>exact⟨mid+1,b',av,_,ap,X,rfl,rfl,rfl,rfl,rfl,by omega,D,by omega,by omega,a',b3.out,aw.out.1,b7.out,b5.out⟩
            case measure=>omega
           ·have c8:¬((mid:Int)-(s:Int)<(b':Int)-(mid:Int)):=(by omega);have b0:=aa (cf.out (mid+1) b' av d4 cb (by omega) a3.out.row a1.out (by omega) (by omega) a' cD.out);go_wp2_with fail;refine b0.out.mono ?_;rintro e dB ⟨rfl,X,a0,ba,a9⟩;have b3:Hid (X.size=len):=aa (a0.1.trans a1.out);have aw:=aa (c7.out X a0 ba);have b7:=aa (a3.out.trans a9);have b5:Hid (Leaves a b s mid d X):=aa (fun R Y V=>b4.out R (aw.out.2 R Y V).1 (aw.out.2 R Y V).2);clear a0 ba a9;go_wp2_with fail;go_roundg (gk-1)
            case rel=>exact⟨s,mid,av,_,ap,X,rfl,rfl,rfl,rfl,rfl,by omega,by omega,by omega,by omega,a',b3.out,aw.out.1,b7.out,b5.out⟩
            case measure=>omega
          ·obtain⟨bt,cn⟩:=c0.out rfl;obtain⟨mid,ay⟩:∃x,x=(partitionEqual ltInt u s b' p).1:=⟨_,rfl⟩;obtain⟨d4,ax⟩:∃x,x=(partitionEqual ltInt u s b' p).2:=⟨_,rfl⟩;have z:=round_eq (d4:=d4) (mid:=mid) swo_ltInt (partitionEqual_holds ltInt) bt a4 I (by rw[ad.out];exact D) cc.out (by rw[←be.out,←be.out];exact cn) (by rw[ay,ax]);obtain⟨dl,cv,bb,J,E⟩:=z;have W:=xm t cap len s b' p u wc bi.out.row ad.out a4 I D am;rw[←ay,←ax]at W;have W:=aa W;have a1:Hid (d4.size=len):=aa (bb.trans ad.out);have cz:=aa J;have c3:Hid (Leaves a b mid b' d d4):=aa (fun R Y V=>b4.out R (E R Y V).1 (E R Y V).2);clear ay ax bb J E cn;go_wp2_with fail;refine W.out.mono ?_;rintro e cb ⟨rfl,a8⟩;have a3:=aa (bi.out.trans a8);clear a8;go_wp2_with fail;go_roundg (gk-1)
           case rel=>exact⟨mid,b',av,bd,wp,d4,rfl,rfl,rfl,rfl,rfl,cv,D,by omega,by omega,a',a1.out,cz.out,a3.out,c3.out⟩
           case measure=>omega
theorem uv (w:World):Calls Tryz.prog 216 #[.slice none 0 0,.int .i64 0,.int .i64 0] w fun e s=>e=.returned (.tuple #[])∧s=w:=by
 go_enter Tryz.func216,Tryz.ntmps216;go_wp2;refine wp_loop_rounds 1 ?_;rw[rounds_succ];go_wp2;first|go_end0|refine an (results_none rfl _ _ _) rfl ?_
 exact⟨rfl,rfl⟩
theorem xl (t:Int)(w:World):Calls Tryz.prog 178 #[.slice none 0 0,.int .i64 0,.int .i64 0,.int .i64 t] w fun e s=>e=.returned (.tuple #[])∧s=w:=by
 go_enter Tryz.func178,Tryz.ntmps178;go_wp2;refine wp_loop_rounds 1 ?_;rw[rounds_succ];go_wp2_with (go_at_call 216;refine(uv _).mono ?_;rintro e s ⟨rfl,rfl⟩)
 first|go_end0|refine an (results_none rfl _ _ _) rfl ?_
 exact⟨rfl,rfl⟩
theorem vk (w:World):Calls Tryz.prog 179 #[.int .u64 0] w fun e s=>∃n:Nat,n≤64∧e=.returned (.int .i64 n)∧s=w:=by
 have t:=aa (oD 0 w (by omega) (by omega));go_enter Tryz.func179,Tryz.ntmps179;go_wp2_with (go_at_call 226;refine t.out.mono ?_;rintro e s ⟨rfl,rfl⟩)
 go_ret;exact⟨_,by decide,rfl,rfl⟩
theorem yU (w:World):Calls Tryz.prog 112 #[.slice none 0 0] w fun e s=>e=.returned (.tuple #[])∧s=w:=by
 go_enter Tryz.func112,Tryz.ntmps112;go_wp2_with (first|(go_at_call 179;refine(vk _).mono ?_;rintro e s ⟨n,t,rfl,rfl⟩)|(go_at_call 178;refine(xl _ _).mono ?_;rintro e s ⟨rfl,rfl⟩))
 first|go_end0|refine an (results_none rfl _ _ _) rfl ?_
 exact⟨rfl,rfl⟩
theorem yT (s cap len:Nat)(d:Array Int)(w:World)(t:bE w s cap d)(N:d.size=len)(h0:0<len)(O:len≤1048576) :
  Calls Tryz.prog 112 #[.slice (some ⟨s,0,none⟩) len cap] w fun e J=>
   e=.returned (.tuple #[])∧∃d',PermIn 0 len d d'∧SortedIn ltInt 0 len d'∧aL w J s cap d':=by
 have u:=aa (oE (len:Int) w (by omega) (by omega))
 have J:=mf (len:Int) (by omega) (by omega)
 have z:=aa (xk s cap len O (len+1) 0 len (Lib.bitLen (len:Int).toNat) d w (by omega) t N (by omega) (by omega) (by have:=J.1;omega) (.inl rfl))
 clear t
 go_enter Tryz.func112,Tryz.ntmps112
 go_wp2_with fail
 refine u.out.mono ?_
 rintro e w1 ⟨rfl,rfl⟩
 go_wp2_with fail
 refine z.out.mono ?_
 rintro e s ⟨rfl,d',D,E,I⟩
 go_wp2
 first|go_end0|refine an (results_none rfl _ _ _) rfl ?_
 exact⟨rfl,d',D,E,I⟩
end Go.Proofs.YtafkamlhimkbmaaGreat
