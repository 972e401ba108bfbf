/-
  The document's permutations: ramageref02.Right, Same, Step; ramageref26.Moved.
-/
import Derived.Test.YtafkamlhimkbmaaGreatPViewC
namespace Go.Proofs.YtafkamlhimkbmaaGreat
set_option maxRecDepth 1000000
set_option maxHeartbeats 8000000
set_option linter.unusedSimpArgs false
set_option linter.unusedVariables false
open Go.RowKit

theorem zu (a b:Option Addr)(cap cap2:Nat)(ps qs:List Int)(w:World)(A:aG w a ps)(E:aG w b qs)(Z:ps.length≤1048576)(ab:qs.length≤1048576) :
  Calls Tryz.prog 13 #[.slice a ps.length cap,.slice b qs.length cap2] w fun e w'=>e=.returned (.bool (decide (ps=qs)))∧aa w w':=by
 by_cases s:ps.length=qs.length
 ·obtain⟨j,q⟩:∃j,j=ps.length:=⟨_,rfl⟩;have I:j=qs.length:=q.trans s;rw[←I,←q];rw[←q]at Z;have am:=Lib.hid A;have av:=Lib.hid E;have S:=Lib.hid q;have O:=Lib.hid I;clear A E q I s ab;go_enter Tryz.func13,Tryz.ntmps13
  go_wp2
  go_loopg [5] j (fun gk I wr=>∃d:Nat,I=.int .i64 (d:Int)∧d+gk=j∧(∀i,i<d→ps[i]?=qs[i]?)∧aa w wr)
  case atStart=>exact⟨0,rfl,by omega,fun i hi=>by omega,by(exact kp)⟩
  case round=>
   obtain⟨d,rfl,a3,I,K⟩:=hrel;have T:=Lib.hid I;clear I;by_cases ad:d<j
   ·obtain⟨x,L⟩:∃b,ps[d]?=some b:=⟨_,List.getElem?_eq_getElem (by rw[←S.out];exact ad)⟩;obtain⟨y,N⟩:∃b,qs[d]?=some b:=⟨_,List.getElem?_eq_getElem (by rw[←O.out];exact ad)⟩;obtain⟨a1,a4,rfl,X⟩:=am.out d x L;obtain⟨a2,a5,rfl,I⟩:=av.out d y N;replace X:=K.cell X;replace I:=K.cell I;have U:=Lib.hid L;have W:=Lib.hid N;have I:(0:Int)≤(d:Int):=(by omega);have I:(d:Int)<(j:Int):=(by omega);clear L N;by_cases J:x=y
    ·subst J;go_wp2_with fail
     go_quiet (fail)
     go_wp2
     go_roundg (gk-1)
     case rel=>
      refine⟨d+1,by simp,by omega,fun i hi=>?_,by(exact kp)⟩;by_cases e:i=d;·subst e;rw[U.out,W.out]
      ·exact T.out i (by omega)
     case measure=>omega
    ·have I:(x != y)=true:=(by simp[J]);have t:Hid (¬ps=qs):=Lib.hid (fun e=>by have:=U.out;rw[e,W.out]at this;exact J (Option.some.inj this).symm);go_wp2_with fail
     go_quiet (fail)
     go_wp2
     go_ret
     exact⟨by rw[decide_eq_false t.out];rfl,by(exact kp)⟩
   ·have J:d=j:=by omega
    have I:ps=qs:=by
     apply List.ext_getElem?;intro i;by_cases hi:i<d;·exact T.out i hi
     ·rw[List.getElem?_eq_none (by rw[←S.out];omega),List.getElem?_eq_none (by rw[←O.out];omega)]
    have aw:=Lib.hid I;clear J I;go_wp2_with fail
    go_ret
    exact⟨by rw[decide_eq_true aw.out];rfl,K⟩
 ·have t:decide (ps=qs)=false:=decide_eq_false (fun e=>s (by rw[e]));obtain⟨j,q⟩:∃j,j=ps.length:=⟨_,rfl⟩;obtain⟨z,Y⟩:∃z,z=qs.length:=⟨_,rfl⟩;rw[t];rw[←q,←Y]at s ⊢;have I:((j:Int) !=(z:Int))=true:=by simp;omega
  clear A E Z ab q Y t s;go_enter Tryz.func13,Tryz.ntmps13
  go_wp2
  go_ret
  exact⟨rfl,by(exact kp)⟩

theorem zw (a:Option Addr)(cap:Nat)(ps:List Int)(w:World)(h:aG w a ps)(bs:ps.length≤16)(lv:Nat)(bb:lv+1<ps.length) :
  Calls Tryz.prog 61 #[.slice a ps.length cap,.int .i64 (lv:Int)] w fun e w'=>∃a8 a',e=.returned (.slice a8 ps.length a')∧iH w.heap.size w' a8 (aq ps lv)∧aa w w':=by
 have av:=fun a8=>eG bb a8
 have W:=ck ps lv
 obtain⟨qs,be⟩:∃qs,qs=aq ps lv:=⟨_,rfl⟩
 obtain⟨A,ad⟩:∃A,A=ps.length:=⟨_,rfl⟩
 rw[←be]at av W ⊢
 rw[←ad]at bs bb W ⊢
 have H:=Lib.hid h
 have a8:=Lib.hid ad
 have bi:=Lib.hid av
 have Z:=Lib.hid W
 obtain⟨a5,hi,a2,a3,a4⟩:=info_parts ij
 clear h ad av W be
 go_enter Tryz.func61,Tryz.ntmps61
 go_wp2
 go_loopg [5,6] A (fun gk W ad wr=>∃(d:Nat) (v:Value),W=v∧ad=.int .i64 (d:Int)∧d+gk=A∧wr.ownsRow w.heap.size 3 1 v d ((qs.take d).map (Value.int .i64))∧aa w wr)
 case atStart=>exact⟨0,_,rfl,rfl,by omega,World.ownsRow_nil _ _ _ _,by(exact kp)⟩
 case round=>
  obtain⟨d,v,rfl,rfl,W,a1,z⟩:=hrel;obtain⟨E,I,rfl,W⟩:=eO a1;have J:=Lib.hid a1;have bq:=Lib.hid W;clear a1 W;by_cases bt:d<A
  ·obtain⟨y,X⟩:∃b,qs[d]?=some b:=⟨_,List.getElem?_eq_getElem (by rw[Z.out];exact bt)⟩;have bg:=fJ X;have bn:=Lib.hid bg;have W:=z.size;have a6:d+1≤maxLen:=(by unfold maxLen;omega);have a7:(d+1)*8≤140737488355328:=(by omega);have j:=bi.out d;rw[X]at j;have W:=Lib.hid X;clear bg X
   have fin:∀(W:Value) (q:World) (o:Obj),q.ownsRow w.heap.size 3 1 W (d+1) ((qs.take d).map (Value.int .i64)++[Value.int .i64 y])→(wr.alloc o).grownBy q (Value.slice E d I).ownBlock →
     q.ownsRow w.heap.size 3 1 W (d+1) ((qs.take (d+1)).map (Value.int .i64))∧aa w q:=fun W q o T s=>by
    refine⟨by rw[bn.out,List.map_append];exact T,?_⟩
    have W:ae (fun k=>(Value.slice E d I).ownBlock=some k) (wr.alloc o) q:=⟨s.os,s.tape,s.output,s.size,fun k z aw=>s.block k z (fun e=>aw e.symm)⟩
    refine(z.alloc o).new W (fun k U=>?_)
    rcases J.out.2 with⟨ab,_⟩|⟨X,a',W,ab,ad,_⟩
    ·rw[ab]at U;simp[Value.ownBlock]at U
    ·rw[ab]at U;simp[Value.ownBlock]at U;omega
   have Y:=Lib.hid fin;clear fin;by_cases T:d=lv
   ·subst T;rw[if_pos rfl]at j;obtain⟨b,off,rfl,t⟩:=H.out (d+1) y j.symm;have am:=z.cell t;clear j t;have U:wr.cell? ⟨b,off+d+1,none⟩=some (.int .i64 y):=(by rw[Nat.add_assoc];exact am);have U:((d:Int)+1).toNat=d+1:=by omega
    go_wp2_with (first
     |(at_builtin;refine wpList_append_own _ rfl _ _ 22 rfl w.heap.size 3 a5 (.int .i64 0) 1 8 Tryz.underlying22 hi a2 a3 a4 rfl (by decide) (.slice E d I) d ((qs.take d).map (Value.int .i64)) rfl (J.out.alloc _) ⟨wr.heap.size,0,none⟩ 1 1 [.int .i64 y] rfl rfl (ez _ _ _ _ rfl) (by simp[Value.oneCell']) (by exact a6) (by exact a7) (by simp;omega) ?_;intro S q O N _;obtain⟨K,L⟩:=Y.out _ _ _ O N)
     |fail)
    go_roundg (gk-1)
    case rel=>exact⟨d+1,S,rfl,by simp,by omega,K,L⟩
    case measure=>omega
   ·rw[if_neg T]at j;by_cases s:d=lv+1
    ·subst s;rw[if_pos rfl]at j;obtain⟨b,off,rfl,t⟩:=H.out lv y j.symm;have am:=z.cell t;clear j t
     go_wp2_with (first
      |(at_builtin;refine wpList_append_own _ rfl _ _ 22 rfl w.heap.size 3 a5 (.int .i64 0) 1 8 Tryz.underlying22 hi a2 a3 a4 rfl (by decide) (.slice E (lv+1) I) (lv+1) ((qs.take (lv+1)).map (Value.int .i64)) rfl (J.out.alloc _) ⟨wr.heap.size,0,none⟩ 1 1 [.int .i64 y] rfl rfl (ez _ _ _ _ rfl) (by simp[Value.oneCell']) (by exact a6) (by exact a7) (by simp;omega) ?_;intro S q O N _;obtain⟨K,L⟩:=Y.out _ _ _ O N)
      |fail)
     go_roundg (gk-1)
     case rel=>exact⟨lv+1+1,S,rfl,by simp,by omega,K,L⟩
     case measure=>omega
    ·rw[if_neg s]at j;obtain⟨b,off,rfl,t⟩:=H.out d y j.symm;have am:=z.cell t;have s:¬(d:Int)=(lv:Int):=(by omega);have s:¬(d:Int)=(lv:Int)+1:=(by omega);clear j t
     go_wp2_with (first
      |(at_builtin;refine wpList_append_own _ rfl _ _ 22 rfl w.heap.size 3 a5 (.int .i64 0) 1 8 Tryz.underlying22 hi a2 a3 a4 rfl (by decide) (.slice E d I) d ((qs.take d).map (Value.int .i64)) rfl (J.out.alloc _) ⟨wr.heap.size,0,none⟩ 1 1 [.int .i64 y] rfl rfl (ez _ _ _ _ rfl) (by simp[Value.oneCell']) (by exact a6) (by exact a7) (by simp;omega) ?_;intro S q O N _;obtain⟨K,L⟩:=Y.out _ _ _ O N)
      |fail)
     go_roundg (gk-1)
     case rel=>exact⟨d+1,S,rfl,by simp,by omega,K,L⟩
     case measure=>omega
  ·have br:d=A:=(by omega);subst br;have j:qs.take d=qs:=List.take_of_length_le (by rw[Z.out];omega);have bp:=Lib.hid j;clear j;go_wp2_with fail
   go_ret
   refine⟨E,I,rfl,fun aw=>?_,z⟩;obtain⟨g,rfl⟩:=bq.out (by rw[←Z.out];intro e;exact aw (List.length_eq_zero_iff.1 e));have:=J.out;rw[bp.out]at this;obtain⟨bv,bw⟩:=nN this;exact⟨g,rfl,bw,bv⟩

end Go.Proofs.YtafkamlhimkbmaaGreat
