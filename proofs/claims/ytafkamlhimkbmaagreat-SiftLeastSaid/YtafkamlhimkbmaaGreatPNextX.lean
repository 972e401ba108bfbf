/-
  ramageref02.Next.
-/
import Derived.Test.YtafkamlhimkbmaaGreatPSiftF
import Derived.Test.YtafkamlhimkbmaaGreatPSiftGS
namespace Go.Proofs.YtafkamlhimkbmaaGreat
set_option maxRecDepth 1000000
set_option maxHeartbeats 8000000
set_option linter.unusedSimpArgs false
set_option linter.unusedVariables false
open Go.RowKit

theorem gK {ps:List Int}{i:Nat}{x:Int}(h:ps[i]?=some x):ps.getD i 0=x:=by rw[List.getD_eq_getElem?_getD,h];rfl

def lp (ps:List Int)(w:World)(e:Ending)(j:World):Prop:=
 aa w j∧(cJ ps (ps.length-1)=0∧e=.returned (.tuple #[.slice none 0 0,.bool false])∨cJ ps (ps.length-1)≠0∧∃a c,e=.returned (.tuple #[.slice a (fw ps).length c,.bool true])∧aL j a (fw ps)∧(fw ps).length≤c)

theorem y9 (a:Option Addr)(cap:Nat)(ps:List Int)(w:World)(h:aL w a ps)(dl:ps.length≤16)(da:ps.length≤cap)(aw:cJ ps (ps.length-1)≠0→0≤gl ps) :
  Calls Tryz.prog 56 #[.slice a ps.length cap] w (lp ps w):=by
 by_cases b7:ps.length=0
 ·have bx:ps=[]:=List.eq_nil_of_length_eq_zero b7;subst bx;clear h aw dl b7 da;go_enter Tryz.func56,Tryz.ntmps56
  go_wp2
  go_loopg [4] 0 (fun gk cp wr=>cp=.int .i64 (-2)∧w=wr)
  case atStart=>exact⟨rfl,rfl⟩
  case round=>
   obtain⟨rfl,rfl⟩:=hrel;go_wp2_with fail
   go_quiet (fail)
   go_wp2
   go_ret2
   exact⟨by(exact kp),.inl ⟨rfl,rfl⟩⟩
 ·obtain⟨m,O⟩:∃m,ps.length=m+1:=⟨ps.length-1,by omega⟩;obtain⟨bt,hi,cn,bs,co⟩:=info_parts gM;have dj:∀i,i<m+1→∃x,ps[i]?=some x:=fun i hi=>⟨_,List.getElem?_eq_getElem (by rw[O];exact hi)⟩
  have d0:∀e bx,aa w bx∧(cJ ps m=0∧e=.returned (.tuple #[.slice none 0 0,.bool false])∨cJ ps m≠0∧∃a c,e=.returned (.tuple #[.slice a (fw ps).length c,.bool true])∧aL bx a (fw ps)∧(fw ps).length≤c)→lp ps w e bx:=fun e bx e5=>by
   unfold lp;rw[O];exact e5
  have dB:fw ps=ei (ps.take (cJ ps m-1)++[ps.getD (gl ps).toNat 0]) (m+1):=by unfold fw;rw[O];rfl
  have ds:gl ps=dY ps (cJ ps m-1) (m+1-cJ ps m):=by unfold gl;rw[O];rfl
  rw[O]at aw dl da ⊢;rw[show m+1-1=m by omega]at aw;have H:=Lib.hid h;have eg:=Lib.hid O;have ad:=Lib.hid dj;have ea:=Lib.hid aw;have cD:=Lib.hid d0;have em:=Lib.hid dB;have ek:=Lib.hid ds;clear h O dj aw b7 d0 dB ds;go_enter Tryz.func56,Tryz.ntmps56
  go_wp2
  go_loopg [4] m (fun gk cp wr=>∃av:Int,cp=.int .i64 av∧av=(gk:Int)-1∧gk≤m∧cJ ps gk=cJ ps m∧aa w wr)
  case atStart=>exact⟨_,rfl,by push_cast;omega,Nat.le_refl _,rfl,by(exact kp)⟩
  case round=>
   obtain⟨av,rfl,be,j,K,cf⟩:=hrel;have b4:=Lib.hid K;clear K;rcases gk with _|k
   ·have e0:av=-1:=(by simp at be;omega);subst e0;clear be;go_wp2_with fail
    go_quiet (fail)
    go_wp2
    go_ret2
    exact cD.out _ _ ⟨by(exact kp),.inl ⟨b4.out.symm,rfl⟩⟩
   ·have e1:av=(k:Int):=(by push_cast at be;omega);subst e1;clear be;obtain⟨x,ci⟩:=ad.out k (by omega);obtain⟨y,cj⟩:=ad.out (k+1) (by omega);obtain⟨b,off,rfl,X⟩:=H.out k x ci;obtain⟨b',a7,E,bb⟩:=H.out (k+1) y cj;cases E;replace X:=cf.cell X;replace bb:=cf.cell bb;have et:wr.cell? ⟨b,off+k+1,none⟩=some (.int .i64 y):=(by rw[Nat.add_assoc];exact bb);have a8:=Lib.hid ci;have c2:=Lib.hid cj;clear ci cj;have c7:(0:Int)≤(k:Int):=(by omega);have c8:(k:Int)<(m:Int)+1:=(by omega);have c9:(0:Int)≤(k:Int)+1:=(by omega);have c':(k:Int)+1<(m:Int)+1:=(by omega);have O:IntKind.i64.wrap ((k:Int)+1)=((k+1:Nat):Int):=(IntWalk.i64_in _ ⟨by omega,by omega⟩).trans (by push_cast;rfl);have ew:k<m:=(by omega);have eR:(k:Int)<(m:Int):=(by omega);have ev:((k:Int)+1).toNat=k+1:=(by omega);by_cases cb:y<x
    ·have K:cJ ps k=cJ ps m:=by
      rw[←b4.out];show _=cJ ps (k+1);conv=>rhs;unfold cJ
      rw[if_pos (by rw[gK a8.out,gK c2.out];exact cb)]
     have T:=Lib.hid K;clear K;go_wp2_with fail
     go_quiet (fail)
     go_wp2
     go_roundg k
     case rel=>exact⟨_,rfl,by omega,by omega,T.out,by(exact kp)⟩
     case measure=>omega
    ·have K:k+1=cJ ps m:=by
      rw[←b4.out];conv=>rhs;unfold cJ
      rw[if_neg (by rw[gK a8.out,gK c2.out];exact cb)]
     have T:=Lib.hid K;clear K;go_wp2_with fail
     go_quiet (fail)
     have ce:aa w (wr.drewN nq):=(by(exact kp));obtain⟨K,d7⟩:∃K,K=wr.drewN nq:=⟨_,rfl⟩;rw[←d7]at ce ⊢;have ed:=Lib.hid ce;clear d7 cf ce X bb et c7 c8 c9 c' ev;have K:k+1≤m:=j;clear j;go_wp2_with fail
     clear cb;go_loopg [5,6] (m-k) (fun gk K O wr=>∃(q t:Nat) (B:Int),K=.int .i64 B∧O=.int .i64 (t:Int)∧t=k+1+q∧q+gk=m-k∧B=dY ps k q∧aa w wr)
     case atStart=>exact⟨0,k+1,-1,rfl,by simp,rfl,by omega,rfl,ed.out⟩
     case round=>
      obtain⟨q,t,B,rfl,rfl,a4,Y,K,a1⟩:=hrel;have a5:=sG ps k q;rw[←K]at a5;have cx:=Lib.hid K;clear K;by_cases e8:q<m-k
      ·obtain⟨L,cl⟩:=ad.out t (by omega);obtain⟨b',a7,E,c5⟩:=H.out t L cl;cases E;obtain⟨b',a7,E,X⟩:=H.out k x a8.out;cases E;replace X:=a1.cell X;replace c5:=a1.cell c5
       have d3:dY ps k (q+1)=if x<L&&(decide (B<0)||decide (L<ps.getD B.toNat 0))then(t:Int)else B:=by
        rw[a4,cx.out];conv=>lhs;unfold dY
        rw[gK a8.out,←a4,gK cl]
       have b6:=Lib.hid d3;have N:=Lib.hid a4;clear cl d3;have c8:(k:Int)<(m:Int)+1:=(by omega);have c7:(0:Int)≤(k:Int):=(by omega);have c9:(0:Int)≤(t:Int):=(by omega);have c':(t:Int)<(m:Int)+1:=(by omega);have ew:k<m+1:=(by omega);have eR:t<m+1:=(by omega);clear a4;by_cases br:x<L
       ·rcases a5 with rfl|⟨s,rfl,cd⟩
        ·have a6:dY ps k (q+1)=(t:Int):=(by rw[b6.out,if_pos (by simp[br])]);have W:=Lib.hid a6;clear a6;go_wp2_with fail
         go_quiet (fail)
         go_wp2
         go_roundg (gk-1)
         case rel=>exact⟨q+1,t+1,_,rfl,by simp,by have:=N.out;omega,by omega,W.out.symm,by(exact kp)⟩
         case measure=>omega
        ·have e':=N.out;obtain⟨u,z⟩:=ad.out s (by omega);obtain⟨b',a7,E,I⟩:=H.out s u z;cases E;replace I:=a1.cell I;have K:¬(s:Int)<0:=(by omega);have fb:(0:Int)≤(s:Int):=(by omega);have fg:(s:Int)<(m:Int)+1:=(by omega);have K:s<m+1:=by omega
         have d5:dY ps k (q+1)=if L<u then(t:Int)else(s:Int):=by
          rw[b6.out,Int.toNat_natCast,gK z];by_cases ab:L<u;·rw[if_pos ab,if_pos (by simp[br,ab])]
          ·rw[if_neg ab,if_neg (by simp[ab])]
         have W:=Lib.hid d5;clear d5 z e' cd;by_cases ab:L<u
         ·go_wp2_with fail
          go_quiet (fail)
          go_wp2
          go_roundg (gk-1)
          case rel=>exact⟨q+1,t+1,_,rfl,by simp,by have:=N.out;omega,by omega,by rw[W.out,if_pos ab],by(exact kp)⟩
          case measure=>omega
         ·go_wp2_with fail
          go_quiet (fail)
          go_wp2
          go_roundg (gk-1)
          case rel=>exact⟨q+1,t+1,_,rfl,by simp,by have:=N.out;omega,by omega,by rw[W.out,if_neg (by omega)],by(exact kp)⟩
          case measure=>omega
       ·have a6:dY ps k (q+1)=B:=(by rw[b6.out,if_neg (by simp[br])]);have W:=Lib.hid a6;have K:decide (x<L)=false:=decide_eq_false br;clear a6 a5;go_wp2_with fail
        go_quiet (fail)
        go_wp2
        go_roundg (gk-1)
        case rel=>exact⟨q+1,t+1,_,rfl,by simp,by have:=N.out;omega,by omega,W.out.symm,by(exact kp)⟩
        case measure=>omega
      ·have dk:q=m-k:=by omega
       have b9:B=gl ps:=by
        rw[ek.out,←T.out,cx.out,dk,Nat.add_sub_cancel,Nat.add_sub_add_right]
       have eS:0≤B:=by rw[b9];exact ea.out (by rw[←T.out];omega)
       obtain⟨s,e7,cd⟩:∃s:Nat,B=(s:Int)∧s<m+1:=by
        rcases a5 with h|⟨s,K,L⟩;·omega
        ·exact⟨s,K,by omega⟩
       subst e7;obtain⟨u,z⟩:=ad.out s cd;have el:Hid ((gl ps).toNat=s):=Lib.hid (by rw[←b9];omega);obtain⟨b',a7,E,I⟩:=H.out s u z;cases E;have er:=Lib.hid z;have eb:=Lib.hid I;have fb:(0:Int)≤(s:Int):=(by omega);have fg:(s:Int)<(m:Int)+1:=(by omega);have s:¬t<m+1:=(by omega);have s:¬(t:Int)<(m:Int)+1:=(by omega);have s:k≤cap:=(by omega);have b2:=Lib.hid a1;have ch:=a1.size;have c1:=Lib.hid (show(ps.take k).length=k by rw[List.length_take,eg.out];omega);clear dk b9 eS a5 z I a4 Y;go_upto_region 12 with fail
       go_cut [7] (fun cq s=>∃a c,cq=.slice a k c∧s.ownsRow w.heap.size 3 1 (.slice a k c) k ((ps.take k).map (Value.int .i64))∧aa w s)
       have cy:=Lib.hid (fun(a':World) (g:Nat) (e3:w.heap.size≤g) (h:a'.heap[g]?=some (.cells #[] 3 (0,0)))=>(⟨rfl,.inr ⟨g,0,#[],rfl,e3,h,Nat.le_refl _,Nat.zero_le _,rfl,rfl⟩⟩:a'.ownsRow w.heap.size 3 1 (.slice (some ⟨g,0,none⟩) 0 0) 0 []))
       case first=>
        by_cases e6:k=0
        ·subst e6
         go_wp2_with (first
          |(at_builtin;refine wpList_append_fits_any _ rfl _ _ 22 rfl w.heap.size 3 bt 1 Tryz.underlying22 hi bs wr.heap.size 0 0 [] rfl (cy.out _ _ ch (by show(wr.heap.push _)[wr.heap.size]?=_;simp)) (some ⟨b,off,none⟩) 0 cap [] rfl rfl (fun h=>by cases h) (fun _ _ q u h=>by simp at h) (fun u h=>by simp at h) (Nat.le_refl _) ?_;intro cv bp ca)
          |fail)
         go_meet;have z:ae (fun k=>some wr.heap.size=some k) wr cv:=ae.ca (by(exact up)) ca (fun k j=>.inl j);exact⟨_,_,rfl,bp,b2.out.new z (fun k j=>by cases j;exact ch)⟩
        ·go_wp2_with (first
          |(at_builtin;refine wpList_append_lies _ rfl _ _ 22 rfl w.heap.size 3 bt (.int .i64 0) 1 8 Tryz.underlying22 hi cn bs co rfl (by decide) (.slice (some ⟨wr.heap.size,0,none⟩) 0 0) 0 [] rfl (cy.out _ _ ch (by show(wr.heap.push _)[wr.heap.size]?=_;simp)) ⟨b,off,none⟩ k cap ((ps.take k).map (Value.int .i64)) rfl (by rw[List.length_map,c1.out,Nat.mul_one]) (fun q u Y=>?_) (fun u z=>?_) (by omega) (by unfold maxLen;omega) (by omega) (by simp;omega) (wr.heap.size+1) (by simp) ?_;rotate_left 2;intro g I cv bp ca s t)
          |fail)
         ·rw[Nat.zero_add,List.nil_append]at bp;go_meet;have z:ae (fun k=>(Value.slice (some ⟨wr.heap.size,0,none⟩) 0 0).ownBlock=some k) wr cv:=ae.ca (by(exact up)) ca (fun k j=>.inl j);exact⟨_,_,rfl,bp,b2.out.new z (fun k j=>by simp[Value.ownBlock]at j;omega)⟩
         ·rw[List.getElem?_map]at Y;obtain⟨d9,bq,rfl⟩:=Option.map_eq_some_iff.1 Y;rw[List.getElem?_take]at bq;split at bq
          ·obtain⟨b',a7,E,eu⟩:=H.out q d9 bq;cases E;exact((aa.refl wr).alloc _).cell (b2.out.cell eu)
          ·cases bq
         ·obtain⟨d9,_,rfl⟩:=List.mem_map.1 z;rfl
       case rest=>
        obtain⟨c3,rfl⟩:∃a',a'=wc:=⟨_,rfl⟩;obtain⟨c4,c6,rfl,d1,bn⟩:=hcut;have I:=bn.cell eb.out;have s:=bn.size;have cS:=Lib.hid d1;have fi:k+1≤maxLen:=(by unfold maxLen;omega);have fj:(k+1)*8≤140737488355328:=(by omega);clear d1
        go_wp2_with (first
         |(at_builtin;refine wpList_append_own _ rfl _ _ 22 rfl w.heap.size 3 bt (.int .i64 0) 1 8 Tryz.underlying22 hi cn bs co rfl (by decide) (.slice c4 k c6) k ((ps.take k).map (Value.int .i64)) rfl (cS.out.alloc _) ⟨c3.heap.size,0,none⟩ 1 1 [.int .i64 u] rfl rfl (dZ _ _ _ _ rfl) (by simp[Value.oneCell']) (by exact fi) (by exact fj) (by simp;omega) ?_;intro d8 b0 d2 db _)
         |fail)
        obtain⟨A,bg⟩:∃A,A=ps.take k++[u]:=⟨_,rfl⟩;have b8:A.length=k+1:=(by rw[bg,List.length_append,c1.out];rfl);have E:ae (fun q=>(Value.slice c4 k c6).ownBlock=some q) c3 b0:=ae.ca (by(exact up)) db (fun k j=>.inl j);have s:aa w b0:=bn.new E (fun q Y=>gT cS.out Y);have q:fw ps=ei A (m+1):=by rw[em.out,el.out,gK er.out,←T.out,Nat.add_sub_cancel,bg]
        have t:b0.ownsRow w.heap.size 3 1 d8 (ei A 0).length ((ei A 0).map (Value.int .i64)):=by
         show b0.ownsRow _ _ _ _ A.length (A.map _);rw[b8,bg,List.map_append];exact d2
        have en:=Lib.hid q;have ep:=Lib.hid t;have ec:=Lib.hid s;have ee:=Lib.hid b8;clear bg b8 E s q t d2 db bn I;go_loopg [7,8] (m+1) (fun gk cq q wr=>∃(d:Nat) (v:Value),cq=v∧q=.int .i64 (d:Int)∧d+gk=m+1∧wr.ownsRow w.heap.size 3 1 v (ei A d).length ((ei A d).map (Value.int .i64))∧aa w wr)
        case atStart=>exact⟨0,d8,rfl,rfl,by omega,ep.out,ec.out⟩
        case round=>
         obtain⟨d,v,rfl,rfl,q,a2,j⟩:=hrel;obtain⟨bv,bw,rfl,fa⟩:=ej a2;have dr:=xw A d;have q:=ee.out;obtain⟨Q,bi⟩:∃Q,Q=ei A d:=⟨_,rfl⟩;have d6:ei A (d+1)=if(d:Int)∈Q then Q else Q++[(d:Int)]:=(by rw[bi];rfl);rw[←bi]at a2 dr ⊢;have J:=yY bv bw Q (d:Int) wr (ks a2 rfl) (by omega);have c0:=Lib.hid d6;have U:=Lib.hid a2;have N:=Lib.hid bi;have q:=j.size;obtain⟨S,cg⟩:∃S,S=Q.length:=⟨_,rfl⟩;have am:=Lib.hid cg;rw[←cg]at J U dr ⊢;clear a2 fa d6 bi cg;by_cases e8:d<m+1
         ·by_cases Z:(d:Int)∈Q
          ·have a3:ir Q (d:Int)=((Q.idxOf (d:Int):Nat):Int):=(by unfold ir;rw[if_pos Z]);rw[a3]at J;have b1:=Lib.hid J;have b5:=Lib.hid (c0.out.trans (if_pos Z));clear J a3 Z;go_wp2_with (first|(go_at_call 59;refine b1.out.mono ?_;rintro e fv ⟨rfl,rfl⟩)|fail)
           go_roundg (gk-1)
           case rel=>exact⟨d+1,_,rfl,by simp,by omega,by rw[b5.out,←am.out];exact U.out,j⟩
           case measure=>omega
          ·have a3:ir Q (d:Int)=-1:=(by unfold ir;rw[if_neg Z]);rw[a3]at J;have b1:=Lib.hid J;have b5:=Lib.hid (c0.out.trans (if_neg Z));have fl:S+1≤maxLen:=(by unfold maxLen;omega);have fp:(S+1)*8≤140737488355328:=(by omega);clear J a3 Z
           go_wp2_with (first
            |(go_at_call 59;refine b1.out.mono ?_;rintro e fv ⟨rfl,rfl⟩)
            |(at_builtin;refine wpList_append_own _ rfl _ _ 22 rfl w.heap.size 3 bt (.int .i64 0) 1 8 Tryz.underlying22 hi cn bs co rfl (by decide) (.slice bv S bw) S (Q.map (Value.int .i64)) rfl (U.out.alloc _) ⟨wr.heap.size,0,none⟩ 1 1 [.int .i64 (d:Int)] rfl rfl (dZ _ _ _ _ rfl) (by simp[Value.oneCell']) (by exact fl) (by exact fp) (by simp;omega) ?_;intro fs ft e9 e4 _)
            |fail)
           go_roundg (gk-1)
           case rel=>
            have z:ae (fun k=>(Value.slice bv S bw).ownBlock=some k) wr ft:=ae.ca (by(exact up)) e4 (fun k j=>.inl j);exact⟨d+1,fs,rfl,by simp,by omega,by rw[b5.out,List.length_append,List.map_append,←am.out];exact e9,j.new z (fun k j=>gT U.out j)⟩
           case measure=>omega
         ·have e2:d=m+1:=(by omega);subst e2;have q:fw ps=Q:=en.out.trans N.out.symm;have b3:=Lib.hid q;clear q J;go_wp2_with fail
          go_ret2
          exact cD.out _ _ ⟨j,.inr ⟨by rw[←T.out];omega,bv,bw,by rw[b3.out,←am.out];rfl,by rw[b3.out];exact ks U.out am.out,by rw[b3.out,←am.out];exact pX U.out⟩⟩

end Go.Proofs.YtafkamlhimkbmaaGreat
