/-
  slices.Sort at uint32, part 10: partialInsertionSortOrdered.
-/
import Derived.Test.YtafkamlhimkbmaaGreatPSortB
import Derived.Sort.LotD3
namespace Go.Proofs.YtafkamlhimkbmaaGreat
set_option maxRecDepth 1000000
set_option maxHeartbeats 8000000
set_option linter.unusedSimpArgs false
set_option linter.unusedVariables false
open Go.RowKit Go.Sort

theorem zR (j:Nat)(d:Array Int):(shiftDown ltInt j d).size=d.size:=by
 fun_induction shiftDown ltInt j d<;>simp_all [size_swp]
theorem AU (b j:Nat)(d:Array Int):(shiftUp ltInt b j d).size=d.size:=by
 fun_induction shiftUp ltInt b j d<;>simp_all [size_swp]
theorem vn (a i:Nat)(d:Array Int):(fixDown ltInt a i d).size=d.size:=by
 unfold fixDown;split;·exact zR _ _
 ·rfl
theorem mn (b i:Nat)(d:Array Int):(fixUp ltInt b i d).size=d.size:=by
 unfold fixUp;split;·exact AU _ _ _
 ·rfl

theorem zQ (j:Nat)(d:Array Int)(q:0<j)(h:ltInt d[j]! d[j-1]! = true):shiftDown ltInt (j-1) (swp d j (j-1)) = shiftDown ltInt j d:=by
 obtain⟨k,rfl⟩:∃k,j=k+1:=⟨j-1,by omega⟩;simp only[Nat.add_sub_cancel]at h ⊢;rw[shiftDown,if_neg (by simp[h])]
theorem zS (j:Nat)(d:Array Int)(h:j = 0∨ltInt d[j]! d[j-1]! = false):shiftDown ltInt j d = d:=by
 cases j with
 |zero=>rfl
 |succ k=>
  simp only[Nat.add_sub_cancel]at h;rw[shiftDown,if_pos (by rcases h with h|h<;>simp_all)]
theorem AT (b j:Nat)(d:Array Int)(q:j<b)(h:ltInt d[j]! d[j-1]! = true):shiftUp ltInt b (j+1) (swp d j (j-1)) = shiftUp ltInt b j d:=by
 rw[shiftUp.eq_1 ltInt b j,if_pos q,if_neg (by simp[h])]
theorem rB (b j:Nat)(d:Array Int)(h:¬j<b∨ltInt d[j]! d[j-1]! = false):shiftUp ltInt b j d = d:=by
 rw[shiftUp];rcases h with h|h;·rw[if_neg h]
 ·by_cases q:j<b;·rw[if_pos q,if_pos (by simp[h])]
  ·rw[if_neg q]
theorem AH (b i:Nat)(d:Array Int)(j:i<b)(h:ltInt d[i]! d[i-1]! = false):scanSorted ltInt d b (i+1) = scanSorted ltInt d b i:=by
 rw[scanSorted.eq_1 ltInt d b i,if_pos (by simp[j,h])]
theorem rr (b i:Nat)(d:Array Int)(h:¬i<b∨ltInt d[i]! d[i-1]! = true):scanSorted ltInt d b i = i:=by
 rw[scanSorted,if_neg (by rcases h with h|h<;>simp[h])]

theorem yM (a b j i:Nat)(d:Array Int)(h:scanSorted ltInt d b i=b):partialIns ltInt a b (j+1) i d=(d,true):=by
 rw[partialIns_succ,if_pos h]
theorem yL (a b s i j:Nat)(d:Array Int)(h:scanSorted ltInt d b i=j)(t:j<b)(q:b-a<50):partialIns ltInt a b (s+1) i d=(d,false):=by
 subst h;rw[partialIns_succ,if_neg (by omega),if_pos q]
theorem yN (a b q i j:Nat)(d:Array Int)(h:scanSorted ltInt d b i=j)(t:j<b)(s:¬b-a<50):partialIns ltInt a b q j (fixUp ltInt b j (fixDown ltInt a j (swp d j (j-1))))=partialIns ltInt a b (q+1) i d:=by
 subst h;rw[partialIns_succ,if_neg (by omega),if_neg s]

theorem yO (t cap len a b:Nat)(d:Array Int)(w:World)(cj:bh w t cap d)(ci:d.size=len)(c7:a<b)(c8:b≤len)(db:len≤1048576) :
  Calls Tryz.prog 221 #[.slice (some ⟨t,0,none⟩) len cap,.int .i64 a,.int .i64 b] w fun e w'=>
   e=.returned (.bool (partialInsertionSort ltInt d a b).2)∧aA w w' t cap (partialInsertionSort ltInt d a b).1:=by
 obtain⟨R,bv⟩:∃R,partialInsertionSort ltInt d a b=R:=⟨_,rfl⟩
 have cl:Hid (R=partialIns ltInt a b 5 (a+1) d):=Lib.hid (by rw[←bv];rfl)
 rw[bv]
 clear bv
 go_enter Tryz.func221,Tryz.ntmps221
 go_wp2
 go_loopg [7,8] 6 (fun gk ca bv wr=>∃(i E:Nat) (z:Array Int),E<gk∧E≤5∧ca=.int .i64 (i:Int)∧bv=.int .i64 (5-(E:Int))∧a<i∧i≤b∧z.size=len∧aA w wr t cap z∧R=partialIns ltInt a b E i z)
 case atStart=>exact⟨a+1,5,d,by omega,by omega,by go_num,rfl,by omega,by omega,ci,aA.self cj,cl.out⟩
 case round=>
  obtain⟨i,E,z,c9,da,rfl,rfl,cS,c1,cl,hS,bv⟩:=hrel;have cd:=Lib.hid hS;have bb:=Lib.hid bv;have ad:=Lib.hid cl;clear hS bv cl cj ci;obtain⟨bt,rfl⟩:∃x:Nat,x=gk:=⟨_,rfl⟩;obtain⟨dj,rfl⟩:∃x:World,x=wr:=⟨_,rfl⟩;obtain⟨h,ch⟩:∃h:Nat→Int,∀J,h J=z[J]!:=⟨fun J=>z[J]!,fun _=>rfl⟩;have S:=Lib.hid ch;clear ch;cases E with
  |zero=>
   have ce:(5:Int)-((0:Nat):Int)=5:=rfl;rw[ce];clear ce;go_wp2
   go_ret
   rw[bb.out];exact⟨rfl,cd.out⟩
  |succ E=>
   have c3:(5:Int)-((E+1:Nat):Int)<5:=(by omega);obtain⟨b6,b2⟩:∃b6:Int,b6=(5:Int)-((E+1:Nat):Int):=⟨_,rfl⟩;rw[←b2]at c3 ⊢;have bv:0≤b6:=(by omega);have bp:=Lib.hid b2;clear b2;go_wp2_with fail
   go_loopg [7] (b+1) (fun a1 ca a8=>∃j:Nat,b+1-j≤a1∧ca=.int .i64 (j:Int)∧a<j∧j≤b∧aA w a8 t cap z∧scanSorted ltInt z b j=scanSorted ltInt z b i)
   case atStart=>exact⟨i,by omega,rfl,cS,c1,cd.out,rfl⟩
   case round=>
    obtain⟨j,c',rfl,bw,b0,bv,b2⟩:=hrel;have T:=Lib.hid bv;have bg:=Lib.hid b2;clear bv b2;have b7:((j:Int)-1).toNat=j-1:=(by omega);have b8:(0:Int)≤(j:Int)-1:=(by omega);have b9:(j:Int)-1<(len:Int):=(by omega);have br:wr.cell? ⟨t,j-1,none⟩=some (.int .u32 (h (j-1))):=(by rw[S.out];exact T.out.row.cell (j-1) (by rw[ad.out];omega));by_cases a6:j<b
    ·have cq:wr.cell? ⟨t,j,none⟩=some (.int .u32 (h j)):=(by rw[S.out];exact T.out.row.cell j (by rw[ad.out];omega));have bv:(j:Int)<(len:Int):=(by omega);have X:(j:Int)<(b:Int):=(by omega);rcases dV (ltInt (h j) (h (j-1)))with bi|bi
     ·have aw:Hid (scanSorted ltInt z b (j+1)=scanSorted ltInt z b i):=Lib.hid (by rw[←bg.out];exact AH b j z a6 (by rw[←S.out,←S.out];exact bi));go_wp2_with fail
      go_quiet ((go_at_call 222;exact Calls.quiet_of_same (aO _ _ _)))
      go_wp2
      go_roundg (gk-1)
      case rel=>exact⟨j+1,by omega,by go_num,by omega,by omega,T.out.drewN nq,aw.out⟩
      case measure=>omega
     ·have ab:Hid (scanSorted ltInt z b i=j):=Lib.hid (by rw[←bg.out];exact rr b j z (Or.inr (by rw[←S.out,←S.out];exact bi)));have c4:¬j=b:=(by omega);by_cases bx:b-a<50
      ·have co:(b:Int)-(a:Int)<50:=(by omega);go_wp2_with fail
       go_quiet ((go_at_call 222;exact Calls.quiet_of_same (aO _ _ _)))
       go_wp2
       go_ret
       rw[bb.out,yL a b E i j z ab.out a6 bx];exact⟨rfl,T.out.drewN _⟩
      ·have co:¬(b:Int)-(a:Int)<50:=(by omega);have cy:wr.frozen? ⟨t,j,none⟩=false:=T.out.row.frozen j;have bs:wr.frozen? ⟨t,j-1,none⟩=false:=T.out.row.frozen (j-1);have N:=fun n=>T.out.ca n j (j-1) (by rw[ad.out];omega) (by rw[ad.out];omega);rw[←S.out,←S.out]at N;have cp:=Lib.hid N;have Y:Hid (R=partialIns ltInt a b E j (fixUp ltInt b j (fixDown ltInt a j (swp z j (j-1))))):=Lib.hid (by rw[yN a b E i j z ab.out a6 bx];exact bb.out);clear N;have b4:¬j-1=j:=(by omega);have b5:¬j=j-1:=(by omega);go_wp2_with fail
       go_quiet ((go_at_call 222;exact Calls.quiet_of_same (aO _ _ _)))
       go_wp2
       go_region
       obtain⟨c6,b3⟩:∃x,x=((wr.drewN (nq+1)).setCell ⟨t,j,none⟩ (.int .u32 (h (j-1)))).setCell ⟨t,j-1,none⟩ (.int .u32 (h j)):=⟨_,rfl⟩;have be:Hid (aA w c6 t cap (swp z j (j-1))):=Lib.hid (by rw[b3];exact cp.out (nq+1));rw[←b3];have a':Hid ((swp z j (j-1)).size=len):=Lib.hid (by rw[size_swp];exact ad.out);obtain⟨K,cf⟩:∃x,x=swp z j (j-1):=⟨_,rfl⟩;rw[←cf]at be Y a';have S:Hid (j<b∧¬b-a<50):=Lib.hid ⟨a6,bx⟩;clear b3 cf cq br cy bs b4 b5 b7 b8 b9 c4 bi ab bg co X;go_upto_if 61 with fail
       go_cut [] (fun S=>aA w S t cap (fixDown ltInt a j K))
       case first=>
        by_cases a2:j-a≥2
        ·have X:(2:Int)≤(j:Int)-(a:Int):=(by omega);have Z:Hid (fixDown ltInt a j K=shiftDown ltInt (j-1) K):=Lib.hid (by unfold fixDown;rw[if_pos a2]);go_wp2_with fail
         go_loopg [9] (j+1) (fun a1 cb a8=>∃(q:Nat) (s:Array Int),q<a1∧cb=.int .i64 (q:Int)∧q<j∧s.size=len∧aA w a8 t cap s∧shiftDown ltInt q s=shiftDown ltInt (j-1) K)
         case atStart=>exact⟨j-1,K,by omega,by congr 1;omega,by omega,a'.out,be.out,rfl⟩
         case round=>
          obtain⟨q,s,c0,rfl,c2,a7,a4,a3⟩:=hrel;have I:=Lib.hid a4;have U:=Lib.hid a3;have L:=Lib.hid a7;clear a4 a3 a7;by_cases b1:q=0
          ·subst b1;have O:Hid (fixDown ltInt a j K=s):=Lib.hid (by rw[Z.out,←U.out];rfl);go_wp2_with fail
           go_meet;case rel=>rw[O.out];exact I.out
          ·have cn:(1:Int)≤(q:Int):=(by omega);have b7:((q:Int)-1).toNat=q-1:=(by omega);have b8:(0:Int)≤(q:Int)-1:=(by omega);have b9:(q:Int)-1<(len:Int):=(by omega);have c5:(q:Int)<(len:Int):=(by omega);have b4:¬q-1=q:=(by omega);have b5:¬q=q-1:=(by omega);obtain⟨g,a5⟩:∃g:Nat→Int,∀J,g J=s[J]!:=⟨fun J=>s[J]!,fun _=>rfl⟩;have A:=Lib.hid a5;clear a5;have cv:wr.cell? ⟨t,q,none⟩=some (.int .u32 (g q)):=(by rw[A.out];exact I.out.row.cell q (by rw[L.out];omega));have br:wr.cell? ⟨t,q-1,none⟩=some (.int .u32 (g (q-1))):=(by rw[A.out];exact I.out.row.cell (q-1) (by rw[L.out];omega));have cD:wr.frozen? ⟨t,q,none⟩=false:=I.out.row.frozen q;have bs:wr.frozen? ⟨t,q-1,none⟩=false:=I.out.row.frozen (q-1);rcases dV (ltInt (g q) (g (q-1)))with W|W
           ·have O:Hid (fixDown ltInt a j K=s):=Lib.hid (by rw[Z.out,←U.out];exact zS q s (Or.inr (by rw[←A.out,←A.out];exact W)));go_wp2_with fail
            go_quiet ((go_at_call 222;exact Calls.quiet_of_same (aO _ _ _)))
            go_wp2_with fail
            go_meet;case rel=>rw[O.out];exact I.out.drewN nq
           ·have N:=fun n=>I.out.ca n q (q-1) (by rw[L.out];omega) (by rw[L.out];omega);rw[←A.out,←A.out]at N;have bq:=Lib.hid N;have aw:Hid (shiftDown ltInt (q-1) (swp s q (q-1))=shiftDown ltInt (j-1) K):=Lib.hid (by rw[←U.out];exact zQ q s (by omega) (by rw[←A.out,←A.out];exact W));clear N;go_wp2_with fail
            go_quiet ((go_at_call 222;exact Calls.quiet_of_same (aO _ _ _)))
            go_wp2
            go_region
            all_goals go_wp2
            go_roundg (gk-1)
            case rel=>exact⟨q-1,_,by omega,by congr 1;omega,by omega,by rw[size_swp];exact L.out,bq.out (nq+1),aw.out⟩
            case measure=>omega
        ·have X:¬(2:Int)≤(j:Int)-(a:Int):=(by omega);have O:Hid (fixDown ltInt a j K=K):=Lib.hid (by unfold fixDown;rw[if_neg a2]);go_wp2_with fail
         go_meet;case rel=>rw[O.out];exact be.out
       case rest=>
        have bn:=Lib.hid hcut;have am:Hid ((fixDown ltInt a j K).size=len):=Lib.hid (by rw[vn];exact a'.out);obtain⟨d4,cg⟩:∃x,x=fixDown ltInt a j K:=⟨_,rfl⟩;rw[←cg]at bn Y am;clear hcut cg be a';go_upto_if 98 with fail
        by_cases a2:b-j≥2
        ·have X:(2:Int)≤(b:Int)-(j:Int):=(by omega);have Z:Hid (fixUp ltInt b j d4=shiftUp ltInt b (j+1) d4):=Lib.hid (by unfold fixUp;rw[if_pos a2]);go_wp2_with fail
         go_loopg [10] (b+1) (fun a1 cb a8=>∃(q:Nat) (s:Array Int),b+1-q≤a1∧cb=.int .i64 (q:Int)∧j<q∧q≤b∧s.size=len∧aA w a8 t cap s∧shiftUp ltInt b q s=shiftUp ltInt b (j+1) d4)
         case atStart=>exact⟨j+1,d4,by omega,by go_num,by omega,by omega,am.out,bn.out,rfl⟩
         case round=>
          obtain⟨q,s,c0,rfl,c2,K,a7,a4,a3⟩:=hrel;have I:=Lib.hid a4;have U:=Lib.hid a3;have L:=Lib.hid a7;clear a4 a3 a7;by_cases b1:¬q<b
          ·have O:Hid (fixUp ltInt b j d4=s):=Lib.hid (by rw[Z.out,←U.out];exact rB b q s (Or.inl b1));have cn:¬(q:Int)<(b:Int):=(by omega);go_wp2_with fail
           have av:Hid ((fixUp ltInt b j d4).size=len):=Lib.hid (by rw[mn];exact am.out);go_roundg (bt-1)
           case rel=>exact⟨j,E,_,by omega,by omega,rfl,by have:=bp.out;congr 1;omega,bw,b0,av.out,by rw[O.out];exact I.out,Y.out⟩
           case measure=>omega

          ·have cn:(q:Int)<(b:Int):=(by omega);have b7:((q:Int)-1).toNat=q-1:=(by omega);have b8:(0:Int)≤(q:Int)-1:=(by omega);have b9:(q:Int)-1<(len:Int):=(by omega);have c5:(q:Int)<(len:Int):=(by omega);have b4:¬q-1=q:=(by omega);have b5:¬q=q-1:=(by omega);obtain⟨g,a5⟩:∃g:Nat→Int,∀J,g J=s[J]!:=⟨fun J=>s[J]!,fun _=>rfl⟩;have A:=Lib.hid a5;clear a5;have cv:wr.cell? ⟨t,q,none⟩=some (.int .u32 (g q)):=(by rw[A.out];exact I.out.row.cell q (by rw[L.out];omega));have br:wr.cell? ⟨t,q-1,none⟩=some (.int .u32 (g (q-1))):=(by rw[A.out];exact I.out.row.cell (q-1) (by rw[L.out];omega));have cD:wr.frozen? ⟨t,q,none⟩=false:=I.out.row.frozen q;have bs:wr.frozen? ⟨t,q-1,none⟩=false:=I.out.row.frozen (q-1);rcases dV (ltInt (g q) (g (q-1)))with W|W
           ·have O:Hid (fixUp ltInt b j d4=s):=Lib.hid (by rw[Z.out,←U.out];exact rB b q s (Or.inr (by rw[←A.out,←A.out];exact W)));go_wp2_with fail
            go_quiet ((go_at_call 222;exact Calls.quiet_of_same (aO _ _ _)))
            go_wp2_with fail
            have av:Hid ((fixUp ltInt b j d4).size=len):=Lib.hid (by rw[mn];exact am.out);go_roundg (bt-1)
            case rel=>exact⟨j,E,_,by omega,by omega,rfl,by have:=bp.out;congr 1;omega,bw,b0,av.out,by rw[O.out];exact I.out.drewN nq,Y.out⟩
            case measure=>omega

           ·have N:=fun n=>I.out.ca n q (q-1) (by rw[L.out];omega) (by rw[L.out];omega);rw[←A.out,←A.out]at N;have bq:=Lib.hid N;have aw:Hid (shiftUp ltInt b (q+1) (swp s q (q-1))=shiftUp ltInt b (j+1) d4):=Lib.hid (by rw[←U.out];exact AT b q s (by omega) (by rw[←A.out,←A.out];exact W));clear N;go_wp2_with fail
            go_quiet ((go_at_call 222;exact Calls.quiet_of_same (aO _ _ _)))
            go_wp2
            go_region
            all_goals go_wp2
            go_roundg (gk-1)
            case rel=>exact⟨q+1,_,by omega,by go_num,by omega,by omega,by rw[size_swp];exact L.out,bq.out (nq+1),aw.out⟩
            case measure=>omega
        ·have X:¬(2:Int)≤(b:Int)-(j:Int):=(by omega);have O:Hid (fixUp ltInt b j d4=d4):=Lib.hid (by unfold fixUp;rw[if_neg a2]);go_wp2_with fail
         have av:Hid ((fixUp ltInt b j d4).size=len):=Lib.hid (by rw[mn];exact am.out);go_roundg (bt-1)
         case rel=>exact⟨j,E,_,by omega,by omega,rfl,by have:=bp.out;congr 1;omega,bw,b0,av.out,by rw[O.out];exact bn.out,Y.out⟩
         case measure=>omega

    ·have ab:Hid (scanSorted ltInt z b i=b):=Lib.hid (by have e:j=b:=(by omega);rw[←bg.out,rr b j z (Or.inl a6)];exact e);have X:decide ((j:Int)<(b:Int))=false:=decide_eq_false (by omega);have cx:j=b:=(by omega);subst cx;go_wp2_with fail
     go_quiet ((go_at_call 222;exact Calls.quiet_of_same (aO _ _ _)))
     go_wp2
     go_ret
     rw[bb.out,yM a j E i z ab.out];exact⟨rfl,T.out.drewN _⟩

def Leaves (a b j b':Nat)(d q:Array Int):Prop:=
 ∀R,PermIn j b' q R→SortedIn ltInt j b' R→PermIn a b d R∧SortedIn ltInt a b R

theorem Leaves.refl (a b:Nat)(d:Array Int):Leaves a b a b d d:=fun _ j q=>⟨j,q⟩

theorem Leaves.perm {a b j b':Nat}{d s q:Array Int}(h:Leaves a b j b' d s)(t:PermIn j b' s q):Leaves a b j b' d q:=
 fun R j q=>h R (permIn_trans _ _ _ _ _ t j) q

theorem aA.U {w w1 s:World}{j cap:Nat}{d:Array Int}(h:aA w w1 j cap d)(q:aa w1 s):aA w s j cap d:=h.trans ⟨aa.av q _,h.row.a5 (aa.av q (fun _=>False)) (fun h=>h)⟩

theorem yC (q cap len:Nat)(am:len≤1048576):∀(bw a b b0:Nat) (d:Array Int) (w:World),b-a<bw→bh w q cap d→d.size=len→a≤b→b≤len→b0≤64→Below ltInt a b d →
  Calls Tryz.prog 178 #[.slice (some ⟨q,0,none⟩) len cap,.int .i64 a,.int .i64 b,.int .i64 b0] w fun e w'=>
   e=.returned (.tuple #[])∧∃d',PermIn a b d d'∧SortedIn ltInt a b d'∧aA w w' q cap d':=by
 intro bw
 induction bw with
 |zero=>intro _ _ _ _ _ h;exact absurd h (Nat.not_lt_zero _)
 |succ bw cv=>
  intro a b b0 d w bw cq co da db dk bw;have c8:=Lib.hid cq;have c4:=Lib.hid co;have cD:=Lib.hid bw;have ci:=Lib.hid cv;clear cq co bw cv;go_enter Tryz.func178,Tryz.ntmps178
  go_wp2
  go_loopg [1,2,3,8,9] (b-a+1) (fun gk bw co cd cq cv wr=>∃(j b' a4:Nat) (wb wp:Bool) (A:Array Int),bw=.int .i64 (j:Int)∧co=.int .i64 (b':Int)∧cd=.int .i64 (a4:Int)∧cq=.bool wb∧cv=.bool wp ∧
   j≤b'∧b'≤len∧b'-j<gk∧gk≤b-a+1∧a4≤64∧A.size=len∧Below ltInt j b' A∧aA w wr q cap A∧Leaves a b j b' d A)
  case atStart=>exact⟨a,b,b0,true,true,d,rfl,rfl,rfl,rfl,rfl,da,db,by omega,by omega,dk,c4.out,cD.out,aA.self c8.out,Leaves.refl _ _ _⟩
  case round=>
   obtain⟨j,b',a4,wb,wp,A,rfl,rfl,rfl,rfl,rfl,ca,z,cq,cv,dl,co,bw,hS,b0⟩:=hrel;have K:=Lib.hid co;have cg:=Lib.hid bw;have ab:=Lib.hid hS;have a6:=Lib.hid b0;clear co bw hS b0;by_cases bw:b'-j≤12
   ·have ds:(b':Int)-(j:Int)≤12:=(by omega);have Y:=Lib.hid (pM q cap len j b' A wr ab.out.row K.out ca z am);have t:=Lib.hid (insertionSort_holds swo_ltInt A j b' ca (by rw[K.out];exact z));go_wp2_with fail
    refine Y.out.mono ?_;rintro e br ⟨rfl,J⟩;have L:=Lib.hid (ab.out.trans J);clear J;go_wp2
    first|go_end0|refine bodyPost_ret (results_none rfl _ _ _) rfl ?_
    exact⟨rfl,_,(a6.out _ t.out.1 t.out.2).1,(a6.out _ t.out.1 t.out.2).2,L.out⟩
   ·have ds:¬(b':Int)-(j:Int)≤12:=(by omega);by_cases dj:a4=0
    ·subst dj;have Y:=Lib.hid (vW q cap len j b' A wr ab.out.row K.out (by omega) z am);have t:=Lib.hid (heapSort_holds swo_ltInt A j b' ca (by rw[K.out];exact z));go_wp2_with fail
     refine Y.out.mono ?_;rintro e br ⟨rfl,J⟩;have L:=Lib.hid (ab.out.trans J);clear J;go_wp2
     first|go_end0|refine bodyPost_ret (results_none rfl _ _ _) rfl ?_
     exact⟨rfl,_,(a6.out _ t.out.1 t.out.2).1,(a6.out _ t.out.1 t.out.2).2,L.out⟩
    ·have bw:¬(a4:Int)=0:=(by omega);go_upto_if 35 with fail
     go_cut [3] (fun cd X=>∃(av:Nat) (O:Array Int),cd=.int .i64 (av:Int)∧av≤64∧PermIn j b' A O∧aA w X q cap O)
     case first=>
      cases wb
      ·have Y:=Lib.hid (tS q cap len j b' A wr ab.out.row K.out (by omega) z am);go_wp2_with fail
       refine Y.out.mono ?_;rintro e br ⟨rfl,O,E,J⟩;have a':=Lib.hid E;have L:=Lib.hid (ab.out.trans J);clear J E;go_wp2_with fail
       go_meet;case rel=>exact⟨a4-1,O,by congr 1;omega,by omega,a'.out,L.out⟩
      ·go_wp2_with fail
       go_meet;case rel=>exact⟨a4,A,rfl,dl,permIn_refl _ _ _,ab.out⟩
     case rest=>
      obtain⟨av,O,rfl,bn,E,a4⟩:=hcut;have a':=Lib.hid E;have b8:=Lib.hid a4;have b3:Hid (O.size=len):=Lib.hid (E.1.trans K.out);clear E a4;have Y:=Lib.hid (uq q cap len j b' O wc b8.out.row b3.out (by omega) z am);go_upto_if 50 with fail
      refine Y.out.mono ?_;rintro e br ⟨p,h,rfl,a8,E,bw,a4⟩;have L:Hid (aA w br q cap O):=Lib.hid (b8.out.U a4);clear a4;go_upto_if 50 with fail
      go_cut [11,12] (fun a4 bw X=>∃(p:Nat) (h:Int) (I:Array Int),a4=.int .i64 (p:Int)∧bw=.int .i64 h∧j≤p∧p<b'∧PermIn j b' A I∧aA w X q cap I)
      case first=>
       by_cases S:h=2
       ·subst S;have c3:=Lib.hid (zz q cap len j b' O br L.out.row b3.out (by omega) z am);go_wp2_with fail
        refine c3.out.mono ?_;rintro e cy ⟨rfl,I,br,a4⟩;have c7:=Lib.hid (permIn_trans _ _ _ _ _ a'.out br);have bt:=Lib.hid (L.out.trans a4);clear br a4;go_wp2_with fail
        go_meet;case rel=>exact⟨b'-1-(p-j),1,I,by congr 1;omega,rfl,by omega,by omega,c7.out,bt.out⟩
       ·go_wp2_with fail
        go_meet;case rel=>exact⟨p,h,O,rfl,rfl,a8,E,a'.out,L.out⟩
      case rest=>
       obtain⟨p,h,I,rfl,rfl,a8,E,O,J⟩:=hcut;have bb:=Lib.hid O;have bt:=Lib.hid J;have b4:Hid (I.size=len):=Lib.hid (O.1.trans K.out);clear O J;go_upto_region 15 with fail
       go_cut [68] (fun J X=>∃c:Bool,J=.bool c∧aA w X q cap I)
       case first=>
        cases wb<;>cases wp<;>by_cases W:h=1 <;>
         (go_wp2_with fail
          go_meet
          exact⟨_,rfl,bt.out⟩)
       case rest=>
        obtain⟨c,rfl,J⟩:=hcut;have be:=Lib.hid J;clear J;go_upto_if 68 with fail
        go_cut [] (fun X=>∃s:Array Int,PermIn j b' A s∧aA w X q cap s)
        case first=>
         cases c
         ·go_wp2_with fail
          go_meet;case rel=>exact⟨I,bb.out,be.out⟩
         ·have b1:=Lib.hid (yO q cap len j b' I wc be.out.row b4.out (by omega) z am);have t:=Lib.hid (partialInsertionSort_holds swo_ltInt I j b' (by omega) (by rw[b4.out];exact z) (Below.perm cg.out (by rw[K.out];exact z) bb.out));obtain⟨R,cj⟩:∃R,R=partialInsertionSort ltInt I j b':=⟨_,rfl⟩;rw[←cj]at b1 t;clear cj;obtain⟨s,f⟩:=R;cases f
          ·go_wp2_with fail
           refine b1.out.mono ?_;rintro e cy ⟨rfl,ad⟩;have N:=Lib.hid (be.out.trans ad);clear ad;go_wp2_with fail
           go_meet;case rel=>exact⟨s,permIn_trans _ _ _ _ _ bb.out t.out.1,N.out⟩
          ·go_wp2_with fail
           refine b1.out.mono ?_;rintro e cy ⟨rfl,ad⟩;have N:=Lib.hid (be.out.trans ad);clear ad;have ch:=Lib.hid (a6.out s (permIn_trans _ _ _ _ _ bb.out t.out.1) (t.out.2 (by trivial)));go_wp2
           first|go_end0|refine bodyPost_ret (results_none rfl _ _ _) rfl ?_
           exact⟨rfl,s,ch.out.1,ch.out.2,N.out⟩
        case rest=>
         obtain⟨s,A,ad⟩:=hcut;have I:=Lib.hid A;have N:=Lib.hid ad;have Z:Hid (s.size=len):=Lib.hid (A.1.trans K.out);have cf:Hid (Go.Sort.Below ltInt j b' s):=Lib.hid (Below.perm cg.out (by rw[K.out];exact z) A);have b6:Hid (Leaves a b j b' d s):=Lib.hid (a6.out.perm A);clear A ad a' bb b8 L bt be b3 b4 Y ab;obtain⟨g,cn⟩:∃g:Nat→Int,∀A,g A=s[A]!:=⟨fun A=>s[A]!,fun _=>rfl⟩;have bs:=Lib.hid cn;clear cn;go_upto_region 17 with fail
         go_cut [87] (fun A X=>∃B:Bool,A=.bool B∧(B=true→0<j∧ltInt (g (j-1)) (g p)=false)∧aA w X q cap s)
         case first=>
          have A:wc.cell? ⟨q,p,none⟩=some (.int .u32 (g p)):=(by rw[bs.out];exact N.out.row.cell p (by rw[Z.out];omega));have A:(p:Int)<(len:Int):=(by omega);rcases Nat.eq_zero_or_pos j with bx|bx
          ·subst bx;go_big_quiet (first|(go_at_call 222;exact Calls.quiet_of_same (aO _ _ _)))
           go_wp2_with fail
           go_meet;case rel=>exact⟨false,rfl,(fun h=>by cases h),N.out.drewN nq⟩
          ·have A:(j:Int) > 0:=(by omega);have A:((j:Int)-1).toNat=j-1:=(by omega);have A:(0:Int)≤(j:Int)-1:=(by omega);have A:(j:Int)-1<(len:Int):=(by omega);have A:wc.cell? ⟨q,j-1,none⟩=some (.int .u32 (g (j-1))):=(by rw[bs.out];exact N.out.row.cell (j-1) (by rw[Z.out];omega));rcases dV (ltInt (g (j-1)) (g p))with cl|cl
           ·go_big_quiet (first|(go_at_call 222;exact Calls.quiet_of_same (aO _ _ _)))
            go_wp2_with fail
            go_meet;case rel=>exact⟨true,rfl,(fun _=>⟨by omega,cl⟩),N.out.drewN nq⟩
           ·go_big_quiet (first|(go_at_call 222;exact Calls.quiet_of_same (aO _ _ _)))
            go_wp2_with fail
            go_meet;case rel=>exact⟨false,rfl,(fun h=>by cases h),N.out.drewN nq⟩
         case rest=>
          obtain⟨B,rfl,A,I⟩:=hcut;have bv:=Lib.hid I;have c2:=Lib.hid A;clear I A N;cases B
          ·obtain⟨mid,a2⟩:∃x,x=(partition ltInt s j b' p).1:=⟨_,rfl⟩;obtain⟨ap,cb⟩:∃x,x=(partition ltInt s j b' p).2.1:=⟨_,rfl⟩;obtain⟨d4,a1⟩:∃x,x=(partition ltInt s j b' p).2.2:=⟨_,rfl⟩;have t:=round_part (d4:=d4) (mid:=mid) (ap:=ap) swo_ltInt (partition_holds ltInt) a8 E (by rw[Z.out];exact z) cf.out (by rw[a2,cb,a1]);obtain⟨dr,cx,bq,A,I,J,K⟩:=t;have T:=yw q cap len j b' p s wc bv.out.row Z.out a8 E z am;rw[←a2,←cb,←a1]at T;have T:=Lib.hid T;have a5:Hid (d4.size=len):=Lib.hid (bq.trans Z.out);have c0:=Lib.hid A;have c1:=Lib.hid I;have c6:=Lib.hid J;have c9:=Lib.hid K;clear a2 cb a1 bq A I J K;go_upto_if 113 with fail
           refine T.out.mono ?_;rintro e ce ⟨rfl,bg⟩;have a7:=Lib.hid (bv.out.trans bg);clear bg;go_upto_if 113 with fail
           by_cases A:mid-j<b'-mid
           ·have c':(mid:Int)-(j:Int)<(b':Int)-(mid:Int):=(by omega);have b2:=Lib.hid (ci.out j mid av d4 ce (by omega) a7.out.row a5.out (by omega) (by omega) bn c0.out);go_wp2_with fail
            refine b2.out.mono ?_;rintro e dB ⟨rfl,U,a3,bp,bi⟩;have b5:Hid (U.size=len):=Lib.hid (a3.1.trans a5.out);have aw:=Lib.hid (c6.out U a3 bp);have b9:=Lib.hid (a7.out.trans bi);have b7:Hid (Leaves a b (mid+1) b' d U):=Lib.hid (fun R W S=>b6.out R (aw.out.2 R W S).1 (aw.out.2 R W S).2);clear a3 bp bi;go_wp2_with fail
            go_roundg (gk-1)
            case rel=>exact⟨mid+1,b',av,_,ap,U,rfl,rfl,rfl,rfl,rfl,by omega,z,by omega,by omega,bn,b5.out,aw.out.1,b9.out,b7.out⟩
            case measure=>omega
           ·have c':¬((mid:Int)-(j:Int)<(b':Int)-(mid:Int)):=(by omega);have b2:=Lib.hid (ci.out (mid+1) b' av d4 ce (by omega) a7.out.row a5.out (by omega) (by omega) bn c1.out);go_wp2_with fail
            refine b2.out.mono ?_;rintro e dB ⟨rfl,U,a3,bp,bi⟩;have b5:Hid (U.size=len):=Lib.hid (a3.1.trans a5.out);have aw:=Lib.hid (c9.out U a3 bp);have b9:=Lib.hid (a7.out.trans bi);have b7:Hid (Leaves a b j mid d U):=Lib.hid (fun R W S=>b6.out R (aw.out.2 R W S).1 (aw.out.2 R W S).2);clear a3 bp bi;go_wp2_with fail
            go_roundg (gk-1)
            case rel=>exact⟨j,mid,av,_,ap,U,rfl,rfl,rfl,rfl,rfl,by omega,by omega,by omega,by omega,bn,b5.out,aw.out.1,b9.out,b7.out⟩
            case measure=>omega
          ·obtain⟨bx,cp⟩:=c2.out rfl;obtain⟨mid,a2⟩:∃x,x=(partitionEqual ltInt s j b' p).1:=⟨_,rfl⟩;obtain⟨d4,a1⟩:∃x,x=(partitionEqual ltInt s j b' p).2:=⟨_,rfl⟩;have t:=round_eq (d4:=d4) (mid:=mid) swo_ltInt (partitionEqual_holds ltInt) bx a8 E (by rw[Z.out];exact z) cf.out (by rw[←bs.out,←bs.out];exact cp) (by rw[a2,a1]);obtain⟨dr,cx,bq,I,A⟩:=t;have T:=yF q cap len j b' p s wc bv.out.row Z.out a8 E z am;rw[←a2,←a1]at T;have T:=Lib.hid T;have a5:Hid (d4.size=len):=Lib.hid (bq.trans Z.out);have cS:=Lib.hid I;have c5:Hid (Leaves a b mid b' d d4):=Lib.hid (fun R W S=>b6.out R (A R W S).1 (A R W S).2);clear a2 a1 bq I A cp;go_wp2_with fail
           refine T.out.mono ?_;rintro e ce ⟨rfl,bg⟩;have a7:=Lib.hid (bv.out.trans bg);clear bg;go_wp2_with fail
           go_roundg (gk-1)
           case rel=>exact⟨mid,b',av,wb,wp,d4,rfl,rfl,rfl,rfl,rfl,cx,z,by omega,by omega,bn,a5.out,cS.out,a7.out,c5.out⟩
           case measure=>omega

theorem wH (w:World):Calls Tryz.prog 216 #[.slice none 0 0,.int .i64 0,.int .i64 0] w fun e w'=>e=.returned (.tuple #[])∧w'=w:=by
 go_enter Tryz.func216,Tryz.ntmps216
 go_wp2
 refine wp_loop_rounds 1 ?_;rw[rounds_succ];go_wp2
 first|go_end0|refine bodyPost_ret (results_none rfl _ _ _) rfl ?_
 exact⟨rfl,rfl⟩

theorem yD (j:Int)(w:World):Calls Tryz.prog 178 #[.slice none 0 0,.int .i64 0,.int .i64 0,.int .i64 j] w fun e w'=>e=.returned (.tuple #[])∧w'=w:=by
 go_enter Tryz.func178,Tryz.ntmps178
 go_wp2
 refine wp_loop_rounds 1 ?_;rw[rounds_succ];go_wp2_with (go_at_call 216;refine(wH _).mono ?_;rintro e w' ⟨rfl,rfl⟩)
 first|go_end0|refine bodyPost_ret (results_none rfl _ _ _) rfl ?_
 exact⟨rfl,rfl⟩

theorem xz (w:World):Calls Tryz.prog 179 #[.int .u64 0] w fun e w'=>∃n:Nat,n≤64∧e=.returned (.int .i64 n)∧w'=w:=by
 have j:=Lib.hid (pW 0 w (by omega) (by omega));go_enter Tryz.func179,Tryz.ntmps179
 go_wp2_with (go_at_call 226;refine j.out.mono ?_;rintro e w' ⟨rfl,rfl⟩)
 go_ret
 exact⟨_,by decide,rfl,rfl⟩

theorem rm (w:World):Calls Tryz.prog 112 #[.slice none 0 0] w fun e w'=>e=.returned (.tuple #[])∧w'=w:=by
 go_enter Tryz.func112,Tryz.ntmps112
 go_wp2_with (first|(go_at_call 179;refine(xz _).mono ?_;rintro e w' ⟨n,j,rfl,rfl⟩)|(go_at_call 178;refine(yD _ _).mono ?_;rintro e w' ⟨rfl,rfl⟩))
 first|go_end0|refine bodyPost_ret (results_none rfl _ _ _) rfl ?_
 exact⟨rfl,rfl⟩

theorem AF (j cap len:Nat)(d:Array Int)(w:World)(q:bh w j cap d)(J:d.size=len)(I:0<len)(K:len≤1048576) :
  Calls Tryz.prog 112 #[.slice (some ⟨j,0,none⟩) len cap] w fun e w'=>
   e=.returned (.tuple #[])∧∃d',PermIn 0 len d d'∧SortedIn ltInt 0 len d'∧aA w w' j cap d':=by
 have s:=Lib.hid (mI (len:Int) w (by omega) (by omega))
 have I:=mH (len:Int) (by omega) (by omega)
 have t:=Lib.hid (yC j cap len K (len+1) 0 len (Lib.bitLen (len:Int).toNat) d w (by omega) q J (by omega) (by omega) (by have:=I.1;omega) (.inl rfl))
 clear q
 go_enter Tryz.func112,Tryz.ntmps112
 go_wp2_with fail
 refine s.out.mono ?_
 rintro e w1 ⟨rfl,rfl⟩
 go_wp2_with fail
 refine t.out.mono ?_
 rintro e j ⟨rfl,d',z,A,E⟩
 go_wp2
 first|go_end0|refine bodyPost_ret (results_none rfl _ _ _) rfl ?_
 exact⟨rfl,d',z,A,E⟩

theorem yE (j cap len:Nat)(E:Int)(d:Array Int)(w:World)(t:bh w j cap d)(s:d.size=len)(I:len≤12) :
  Calls Tryz.prog 178 #[.slice (some ⟨j,0,none⟩) len cap,.int .i64 0,.int .i64 (len:Int),.int .i64 E] w fun e w'=>e=.returned (.tuple #[])∧∃d',PermIn 0 len d d'∧SortedIn ltInt 0 len d'∧aA w w' j cap d':=by
 have z:=Lib.hid (pM j cap len 0 len d w t s (Nat.zero_le _) (Nat.le_refl _) (by omega))
 have q:=Lib.hid (insertionSort_holds swo_ltInt d 0 len (Nat.zero_le _) (by omega))
 clear t s
 go_enter Tryz.func178,Tryz.ntmps178
 go_wp2
 refine wp_loop_rounds 1 ?_
 rw[rounds_succ]
 go_wp2_with (go_at_call 216;refine z.out.mono ?_;rintro e w' ⟨rfl,A⟩)
 first|go_end0|refine bodyPost_ret (results_none rfl _ _ _) rfl ?_
 exact⟨rfl,_,q.out.1,q.out.2,A⟩

theorem AG (j cap len:Nat)(d:Array Int)(w:World)(q:bh w j cap d)(J:d.size=len)(K:0<len)(A:len≤12) :
  Calls Tryz.prog 112 #[.slice (some ⟨j,0,none⟩) len cap] w fun e w'=>
   e=.returned (.tuple #[])∧∃d',PermIn 0 len d d'∧SortedIn ltInt 0 len d'∧aA w w' j cap d':=by
 have s:=Lib.hid (mI (len:Int) w (by omega) (by omega))
 have t:=Lib.hid (fun K:Int=>yE j cap len K d w q J A)
 clear q
 go_enter Tryz.func112,Tryz.ntmps112
 go_wp2_with fail
 refine s.out.mono ?_
 rintro e w1 ⟨rfl,rfl⟩
 go_wp2_with fail
 refine(t.out _).mono ?_
 rintro e j ⟨rfl,d',z,E,I⟩
 go_wp2
 first|go_end0|refine bodyPost_ret (results_none rfl _ _ _) rfl ?_
 exact⟨rfl,d',z,E,I⟩

end Go.Proofs.YtafkamlhimkbmaaGreat
