/-
  sift.bed's permute.
-/
import Derived.Test.YtafkamlhimkbmaaGreatPSiftB
namespace Go.Proofs.YtafkamlhimkbmaaGreat
set_option maxRecDepth 1000000
set_option maxHeartbeats 8000000
set_option linter.unusedSimpArgs false
set_option linter.unusedVariables false
open Go.RowKit

theorem ks {w:World}{t j cap:Nat}{a:Option Addr}{xs:List Int}(h:w.ownsRow t 3 1 (.slice a j cap) j (xs.map (Value.int .i64)))(A:j=xs.length):aL w a xs:=fun i x s=>by
 have hi:=(List.getElem?_eq_some_iff.1 s).1;rcases h.2 with⟨q,A⟩|⟨z,cap2,j,q,t,_⟩
 ·omega
 ·cases q;refine⟨z,0,rfl,?_⟩;rw[Nat.zero_add,h.cellAt i (by omega),List.getElem?_map,s];rfl

theorem oq {F Fo:Nat→Prop}{w:World}{J lb cap W U cap2:Nat}{T ab:Option Addr}{M:St}{ps qs:List Int}{N:List (Int×List Bool)}{rs:List (Int×Edge)}(h:fQ F Fo w J lb T cap W U M ps N rs)(bp:aL w ab qs)(b2:aA qs=true)(a2:ps.length=qs.length) :
  Calls Tryz.prog 52 #[.pointer (some ⟨J,0,none⟩),.slice ab qs.length cap2] w fun e E=>e=.returned (.bool true)∧cF F Fo (fun _=>False) w E J lb T cap W U qs N:=by
 have b0:=h.perm
 have am:=h.n6
 have b1:=fun(E:World) (L:aa w E)=>kN (h.bw.cd.U L)
 have b4:=fun(E:World) (a:Option Addr) (c:Nat) (L:aa w E) (cl:aL E a ps)=>Ap a ab c cap2 ps qs E cl (bp.U L) b0 b2 a2
 have ab:=h.cells.c1
 have be:=fun(E:World) (L:aa w E)=>cF.start (h.U L) (fun _=>False)
 have bn:∀k,(F k∨Fo k∨k=lb∨False)→k<w.heap.size:=fun k j=>by
  rcases j with q|q|q|q;·exact h.bw.a5.lt k q
  ·exact h.bw.cd.lt k q
  ·subst q;exact h.fx.2
  ·exact q.elim
 have Z:=Lib.hid b1
 have I:=Lib.hid b4
 have b5:=Lib.hid be
 have Y:=Lib.hid bn
 obtain⟨n,O⟩:∃n,n=ps.length:=⟨_,rfl⟩
 rw[←a2,←O]at I ⊢
 rw[←O]at Z am
 have ca:=Lib.hid O
 clear b1 b4 be bn bp h a2 O b0 b2
 go_enter Tryz.func52,Tryz.ntmps52
 go_wp2_with fail
 refine(Z.out _ (by(exact kp))).mono ?_
 rintro e w1 ⟨cf,cg,rfl,L,E⟩
 have a8:=Lib.hid (I.out w1 cf cg E L.eg)
 have a4:=Lib.hid E
 clear L E
 go_wp2_with fail
 refine a8.out.mono ?_
 rintro e X ⟨ss,ad,a',rfl,t,b3,bt,bs,bv⟩
 have a1:=a4.out.trans bv
 have bg:=b5.out X a1
 have bw:∀k,(Value.slice ad ss.length a').ownBlock=some k→k<X.heap.size:=fun k j=>by
  rcases t.2 with⟨s,_⟩|⟨ci,ch,bb,s,br,cn,_⟩
  ·rw[s]at j;simp[Value.ownBlock]at j
  ·rw[s]at j;simp[Value.ownBlock]at j;subst j;exact aK cn
 have a5:=Lib.hid bw
 have a7:=Lib.hid t
 have b6:=Lib.hid bg
 have ce:=Lib.hid b3
 have b8:=Lib.hid bt
 have E:=a4.out.size
 have b9:=Lib.hid a1
 obtain⟨A,av⟩:∃A,A=ss.length:=⟨_,rfl⟩
 rw[←av]at bs a7 a5 ⊢
 have a3:=Lib.hid av
 have E:A≤36:=by
  have:n*n≤6*6:=Nat.mul_le_mul am am;omega
 clear t bg b3 bt bv a1 av bs a8 I Z bw
 go_wp2_with fail
 go_loopg [21] A (fun gk E wr=>∃d:Nat,E=.int .i64 (d:Int)∧d+gk=A∧cF F Fo (fun _=>False) X wr J lb T cap W U (bk ps (ss.take d)) N∧wr.ownsRow w1.heap.size 3 1 (.slice ad A a') A (ss.map (fun z:Nat=>Value.int .i64 (z:Int))))
 case atStart=>exact⟨0,rfl,by omega,b6.out,a7.out⟩
 case round=>
  obtain⟨d,rfl,E,K,t⟩:=hrel;by_cases co:d<A
  ·obtain⟨z,S⟩:∃z,ss[d]?=some z:=⟨_,List.getElem?_eq_getElem (by rw[←a3.out];exact co)⟩
   obtain⟨g,rfl,A⟩:∃g,ad=some ⟨g,0,none⟩∧wr.cell? ⟨g,d,none⟩=some (.int .i64 (z:Int)):=by
    rcases t.2 with⟨s,A⟩|⟨cj,cap2,bb,s,br,_⟩
    ·omega
    ·cases s;refine⟨cj,rfl,?_⟩;rw[t.cellAt d (by omega),List.getElem?_map,S];rfl
   have L:z+1<(bk ps (ss.take d)).length:=(by rw[eX,←ca.out];exact b8.out z (List.mem_of_getElem? S));have A:=sD K z L;have E:bG (bk ps (ss.take d)) z=bk ps (ss.take (d+1)):=(by rw[fO S,iX]);rw[E]at A;have I:=Lib.hid A;have a6:=Lib.hid t;clear A E L S t K;go_wp2_with fail
   refine I.out.mono ?_;rintro e z ⟨rfl,bi,bq⟩
   have bx:=bq.bq (fun k j aw=>by
    have z:w1.heap.size≤k:=by
     rcases a6.out.2 with⟨s,_⟩|⟨ci,ch,bb,s,br,_⟩
     ·rw[s]at j;simp[Value.ownBlock]at j
     ·rw[s]at j;simp[Value.ownBlock]at j;omega
    have s:k<X.heap.size:=a5.out k j;rcases aw with q|q|q|q;·have:=Y.out k (.inl q);omega
    ·have:=Y.out k (.inr (.inl q));omega
    ·have:=Y.out k (.inr (.inr (.inl q)));omega
    ·omega) a6.out
   have b7:=Lib.hid bi;have cd:=Lib.hid bx;clear bi bq bx;go_wp2_with fail
   go_roundg (gk-1)
   case rel=>exact⟨d+1,by simp,by omega,b7.out,cd.out⟩
   case measure=>omega
  ·have j:cF F Fo (fun _=>False) w wr J lb T cap W U qs N:=by
    have:ss.take d=ss:=List.take_of_length_le (by rw[←a3.out];omega);rw[this,ce.out]at K;exact cF.next (fun s s=>.inl s) (b9.out.av _) (fun _ aw=>aw.elim) K
   have cb:=Lib.hid j;clear j K t;go_wp2_with fail
   go_ret
   exact⟨rfl,cb.out⟩

theorem cF.size {q Fo s:Nat→Prop}{w0 w:World}{t lb cap E A:Nat}{z:Option Addr}{ps:List Int}{j:List (Int×List Bool)}(h:cF q Fo s w0 w t lb z cap E A ps j):aI j ps≤508:=by
 obtain⟨F,M,rs,j,-⟩:=h;have q:=j.bw.a5.wf.c6;have q:=j.bw.room;have q:=j.b0;have q:=(j.cp.size j.bw.a5 j.perm j.bw.n j.n6 (by have:=j.bx;omega)).2;omega

theorem sB {t Fo z:Nat→Prop}{w0 w:World}{A lb cap s J:Nat}{I:Option Addr}{ps:List Int}{q:List (Int×List Bool)}(h:cF t Fo z w0 w A lb I cap s J ps q)(j:World)(E:aa w j) :
  Calls Tryz.prog 21 #[.pointer (some ⟨s,0,none⟩)] j fun e K=>e=.returned (.int .i64 (aI q ps:Int))∧j=K:=by
 obtain⟨F,M,rs,j,-⟩:=h
 have:=nc (j.bw.a5.U E)
 rw[j.len]at this
 exact this

theorem zZ {F:Nat→Prop}{w:World}{X:Nat}{M:St}(h:ag F w X M)(a:Option Addr)(cap:Nat)(rs:List (Int×Edge))(s:dJ w a rs)(q:rs.length≤1048576)(T:eF M rs=0)(K:(aN M.cs ((rs.map Prod.snd).map Edge.to)).length≤12) :
  Calls Tryz.prog 19 #[.pointer (some ⟨X,0,none⟩),.slice a rs.length cap] w fun e aw=>e=.returned (.tuple #[.int .i64 ((aN M.cs ((rs.map Prod.snd).map Edge.to)).length:Int),.int .u8 0])∧aa w aw:=by
 have E:=qB h a cap rs s q
 rw[T]at E
 have U:∀e∈rs.map Prod.snd,e.ok:=fun e A=>by
  obtain⟨r,ad,rfl⟩:=List.mem_map.1 A;obtain⟨i,hi⟩:=List.mem_iff_getElem?.1 ad;exact(s i r hi).2.1
 have O:=fun(j:World) (X:Nat) (z:aa w j) (ad:j.cell? ⟨X,2,none⟩=some (.slice a rs.length cap))=>lE ad (s.U z) rfl q
 have W:=fun(j:World) (g:Nat) (z:aa w j) (S:bL j g (rs.map Prod.snd))=>yW (h.U z) (some ⟨g,0,none⟩) rs.length rs.length (rs.map Prod.snd) ⟨by rw[List.length_map],fun i e A=>(S.at U) i e A⟩ q K
 have J:=Lib.hid E
 have I:=Lib.hid O
 have t:=Lib.hid W
 obtain⟨j,N⟩:∃j,j=rs.length:=⟨_,rfl⟩
 rw[←N]at J I t q ⊢
 obtain⟨j,L⟩:∃j,j=aN M.cs ((rs.map Prod.snd).map Edge.to):=⟨_,rfl⟩
 rw[←L]at t ⊢
 clear h s T E U O W N L K
 go_enter Tryz.func19,Tryz.ntmps19
 go_wp2_with (first|(go_at_call 49;refine J.out.mono ?_;rintro e w1 ⟨rfl,am⟩)|fail)
 refine(I.out _ _ (by(exact kp)) (by simp[go_sem])).mono ?_
 rintro e Y ⟨g,rfl,S,q,s⟩
 have j:aa w Y:=(show aa w _ from am.alloc _).trans s
 have ab:=Lib.hid (t.out Y g j q)
 have Z:=Lib.hid j
 clear q s j
 go_wp2_with fail
 refine ab.out.mono ?_
 rintro e j ⟨v,rfl,⟨a1,a2,rfl,-⟩,av,-⟩
 go_wp2_with fail
 go_ret2
 exact⟨rfl,Z.out.trans av⟩

theorem zG {n:Nat}{ts:List Bool}(j:ts.length=2 ^ n):eY n (bu ts)=ts:=by
 apply List.ext_getElem?;intro x;by_cases j:x<2 ^ n
 ·rw[qy j,vq (by omega),List.getD_eq_getElem?_getD,List.getElem?_eq_getElem (by omega)];rfl
 ·rw[List.getElem?_eq_none (by rw[qz];omega),List.getElem?_eq_none (by omega)]

theorem ou {w:World}{B n:Nat}{j:List Bool}(h:bm w B j)(s:j.length=2 ^ n):gW w (some ⟨B,0,none⟩) (eY n (bu j)):=by
 rw[zG s];exact fun i b q=>⟨B,0,rfl,by rw[Nat.zero_add];exact h.cell q⟩

theorem vU {F:Nat→Prop}{w:World}{a1:Nat}{M:St}{ps ws:List Int}{x:Edge}(h:ag F w a1 M)(a0:Option Addr)(cap0:Nat)(W:aL w a0 ps)(ab:aA ps=true)(U:ps.length≤6)(a':M.n=(ps.length:Int))(f:Int)(L:1≤f∧f≤5)(aw:x.ok)(N:M.leads f x 0=true)(am:bE M f x 0)(a2:ar f M (ps.length+1) x=bd f ps.length (bO (hasB ws) ps 0) 0)(J:Option Addr)(T:Nat)(X:gW w J (eY ps.length ws)) :
  Calls Tryz.prog 57 #[.pointer (some ⟨a1,0,none⟩),.slice a0 ps.length cap0,.int .u8 f,.agg #[.int .u8 x.tag,.int .u32 x.to],.slice J (2 ^ ps.length) T] w fun r bb=>r=.returned (.bool true)∧aa w bb:=by
 have a8:(0:Int)+(ps.length:Int)=M.n:=by omega
 have O:=fun(j:World) (q:aa w j)=>oA (h.U q) f x 0 aw
 rw[ph L N am]at O
 have A:=fun(j:World) (q:aa w j)=>BM (h.U q) (by omega) f L (ps.length+1) (by omega) x aw (mh N (by omega))
 rw[show((ps.length+1:Nat):Int)-1=(ps.length:Int) by omega]at A
 have s:=fun(j:World) (q:aa w j)=>qX a0 cap0 ps ws J T f L j (W.U q) ab U (X.U q)
 rw[←a2]at s
 obtain⟨J,av⟩:∃J,J=ar f M (ps.length+1) x:=⟨_,rfl⟩
 rw[←av]at A s
 obtain⟨p,ad⟩:∃p,p=2 ^ ps.length:=⟨_,rfl⟩
 rw[←ad]at s ⊢
 obtain⟨n,Z⟩:∃n,n=ps.length:=⟨_,rfl⟩
 rw[←Z]at A s U ⊢
 have I:(w.alloc (.cells #[.int .u8 x.tag,.int .u32 x.to] 52)).cell? ⟨w.heap.size,0,none⟩=some (.int .u8 x.tag):=by simp[go_sem]
 have S:(w.alloc (.cells #[.int .u8 x.tag,.int .u32 x.to] 52)).cell? ⟨w.heap.size,1,none⟩=some (.int .u32 x.to):=by simp[go_sem]
 have E:aa w (w.alloc (.cells #[.int .u8 x.tag,.int .u32 x.to] 52)):=(aa.refl _).alloc _
 obtain⟨t,K⟩:∃t,t=w.alloc (.cells #[.int .u8 x.tag,.int .u32 x.to] 52):=⟨_,rfl⟩
 rw[←K]at I S E
 have a3:=Lib.hid (fun(j:World) (q:aa t j)=>O j (E.trans q))
 have a5:=Lib.hid (fun(j:World) (q:aa t j)=>A j (E.trans q))
 have a4:=Lib.hid (fun(j:World) (q:aa t j)=>s j (E.trans q))
 have a6:=Lib.hid K
 clear h W ab a' am X N O A s a2 av ad Z a8 K
 go_enter Tryz.func57,Tryz.ntmps57
 go_wp2_with fail
 rw[←a6.out]
 refine(a3.out _ (aa.refl _)).mono ?_
 rintro e be ⟨rfl,z⟩
 replace I:=z.cell I
 replace S:=z.cell S
 have j:w.heap.size<be.heap.size:=by have:=aD I;exact this
 go_wp2_with fail
 refine(a5.out _ z).mono ?_
 rintro e j ⟨rfl,Y⟩
 go_wp2_with fail
 refine(a4.out _ (z.trans Y)).mono ?_
 rintro e j ⟨rfl,a7⟩
 go_wp2_with fail
 go_ret
 exact⟨by simp,E.trans ((z.trans Y).trans a7)⟩

theorem pX {w:World}{j n cap k:Nat}{s:TypeId}{a:Option Addr}{xs:List Value}(h:w.ownsRow j s k (.slice a n cap) n xs):n≤cap:=by
 rcases h.2 with⟨e,s⟩|⟨g,c,j,e,_,_,q,_⟩
 ·omega
 ·cases e;exact q

theorem xK (n:Nat):cC (n+1)=cC n++[(n:Int)]:=by unfold cC;rw[List.range_succ,List.map_append];rfl

theorem vF {ps:List Int}{x:Int}:∀{d:Nat},ps[d]?=some x→x∉ps.take d→ps.idxOf x=d:=by
 induction ps with
 |nil=>intro d h;simp at h
 |cons p ps t=>
  intro d h j;cases d with
  |zero=>cases h;simp
  |succ d=>
   rw[List.take_succ_cons,List.mem_cons]at j;have s:¬p=x:=fun e=>j (.inl e.symm);have q:(p==x)=false:=(by simpa using s);rw[List.idxOf_cons,q];show ps.idxOf x+1=d+1;rw[t (by simpa using h) (fun q=>j (.inr q))]

theorem yY (a:Option Addr)(cap:Nat)(ps:List Int)(x:Int)(w:World)(h:aL w a ps)(N:ps.length≤1048576) :
  Calls Tryz.prog 59 #[.slice a ps.length cap,.int .i64 x] w fun e T=>e=.returned (.int .i64 (ir ps x))∧w=T:=by
 obtain⟨j,E⟩:∃j,j=ps.length:=⟨_,rfl⟩
 rw[←E]at N ⊢
 have H:=Lib.hid h
 have J:=Lib.hid E
 clear h E
 go_enter Tryz.func59,Tryz.ntmps59
 go_wp2
 go_loopg [5] j (fun gk E wr=>∃d:Nat,E=.int .i64 (d:Int)∧d+gk=j∧x∉ps.take d∧w=wr)
 case atStart=>exact⟨0,rfl,by omega,by simp,rfl⟩
 case round=>
  obtain⟨d,rfl,U,s,rfl⟩:=hrel;have z:=Lib.hid s;clear s;by_cases O:d<j
  ·obtain⟨y,I⟩:∃b,ps[d]?=some b:=⟨_,List.getElem?_eq_getElem (by rw[←J.out];exact O)⟩;obtain⟨b,off,rfl,j⟩:=H.out d y I;have A:=Lib.hid I;clear I;by_cases K:y=x
   ·subst K;go_wp2_with fail
    go_ret
    have S:y∈ps:=List.mem_of_getElem? A.out;exact⟨by unfold ir;rw[if_pos S,vF A.out z.out];rfl,rfl⟩
   ·go_wp2_with fail
    go_roundg (gk-1)
    case rel=>
     refine⟨d+1,by simp,by omega,fun t=>?_,rfl⟩;rw[fO A.out,List.mem_append]at t;rcases t with q|q;·exact z.out q
     ·simp at q;exact K q.symm
    case measure=>omega
  ·have s:x∉ps:=fun t=>z.out (by rw[List.take_of_length_le (by rw[←J.out];omega)];exact t);have L:=Lib.hid s;clear s;go_wp2_with fail
   go_ret
   exact⟨by unfold ir;rw[if_neg L.out];rfl,rfl⟩

theorem za (n:Nat)(W:n≤16)(w:World) :
  Calls Tryz.prog 55 #[.int .i64 (n:Int)] w fun e A=>∃a c,e=.returned (.slice a n c)∧aL A a (cC n)∧n≤c∧aa w A:=by
 obtain⟨S,hi,L,N,O⟩:=info_parts gM
 go_enter Tryz.func55,Tryz.ntmps55
 go_wp2
 go_loopg [3,4] n (fun gk A W wr=>∃(d:Nat) (v:Value),A=v∧W=.int .i64 (d:Int)∧d+gk=n∧wr.ownsRow w.heap.size 3 1 v d ((cC d).map (Value.int .i64))∧aa w wr)
 case atStart=>exact⟨0,_,rfl,rfl,by omega,World.ownsRow_nil _ _ _ _,by(exact kp)⟩
 case round=>
  obtain⟨d,v,rfl,rfl,A,s,j⟩:=hrel;obtain⟨t,z,rfl,A⟩:=ej s;have q:=Lib.hid s;have W:=j.size;clear s A;by_cases s:d<n
  ·have T:d+1≤maxLen:=(by unfold maxLen;omega);have U:(d+1)*8≤140737488355328:=by omega
   go_wp2_with (first
    |(at_builtin;refine wpList_append_own _ rfl _ _ 22 rfl w.heap.size 3 S (.int .i64 0) 1 8 Tryz.underlying22 hi L N O rfl (by decide) (.slice t d z) d ((cC d).map (Value.int .i64)) rfl (q.out.alloc _) ⟨wr.heap.size,0,none⟩ 1 1 [.int .i64 (d:Int)] rfl rfl (dZ _ _ _ _ rfl) (by simp[Value.oneCell']) (by exact T) (by exact U) (by simp;omega) ?_;intro X Y J I _)
    |fail)
   go_roundg (gk-1)
   case rel=>
    have K:ae (fun k=>(Value.slice t d z).ownBlock=some k) wr Y:=ae.ca (by(exact up)) I (fun k j=>.inl j);exact⟨d+1,X,rfl,by simp,by omega,by rw[xK,List.map_append];exact J,j.new K (fun k j=>gT q.out j)⟩
   case measure=>omega
  ·have E:d=n:=(by omega);subst E;go_wp2_with fail
   go_ret
   exact⟨t,z,rfl,ks q.out (iU d).symm,pX q.out,j⟩

end Go.Proofs.YtafkamlhimkbmaaGreat
