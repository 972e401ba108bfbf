/-
  order.Order: Vars, Perm, Var, Level, Swap.
-/
import Derived.Test.YtafkamlhimkbmaaGreatPOrderB
import Derived.BigRegion
namespace Go.Proofs.YtafkamlhimkbmaaGreat
set_option maxRecDepth 1000000
set_option maxHeartbeats 8000000
set_option linter.unusedSimpArgs false
set_option linter.unusedVariables false
open Go.RowKit

theorem bz.ne {w:World}{g q:Nat}{ps:List Int}{cs:Array Value}{t:Nat×Nat}(h:bz w g ps)(j:w.heap[q]?=some (.cells cs 117 t)):g≠q:=by
 obtain⟨q,s,_⟩:=h;intro e;subst e;rw[s]at j;have:=Option.some.inj j;injection this with _ j _;exact absurd j (by decide)

theorem bA.cells {F:Nat→Prop}{w:World}{j:Nat}{ps:List Int}(h:bA F w j ps):∃q A z t,w.cell? ⟨j,0,none⟩=some (.slice q ps.length A)∧w.cell? ⟨j,1,none⟩=some (.slice (some ⟨z,0,none⟩) ps.length t)∧aL w q ps:=by
 obtain⟨⟨q,A,z,t,qs,E,L,I,N,O⟩,_⟩:=h;refine⟨q,A,z,t,by rw[cell_of_row w j 0 _ _ _ E];rfl,by rw[cell_of_row w j 1 _ _ _ E];rfl,fun i x s=>?_⟩;obtain⟨j,J,K,_⟩:=I (fun e=>by rw[e]at s;simp at s);rw[J];exact K.eg i x s

theorem bA.le {F:Nat→Prop}{w:World}{j:Nat}{ps:List Int}(h:bA F w j ps):ps.length≤16:=(dp.1 h.perm).1

theorem mE {F:Nat→Prop}{w:World}{s:Nat}{ps:List Int}(h:bA F w s ps) :
  Calls Tryz.prog 99 #[.pointer (some ⟨s,0,none⟩)] w fun e A=>e=.returned (.int .i64 (ps.length:Int))∧w=A:=by
 obtain⟨E,I,A,s,t,j,_⟩:=h.cells
 have z:=h.le
 obtain⟨n,q⟩:∃n,n=ps.length:=⟨_,rfl⟩
 rw[←q]at t j z ⊢
 clear h j q
 go_enter Tryz.func99,Tryz.ntmps99
 go_wp2
 go_ret
 exact⟨rfl,rfl⟩

theorem kN {F:Nat→Prop}{w:World}{q:Nat}{ps:List Int}(h:bA F w q ps) :
  Calls Tryz.prog 14 #[.pointer (some ⟨q,0,none⟩)] w fun e z=>∃a cap,e=.returned (.slice a ps.length cap)∧jh w.heap.size z a ps∧aa w z:=by
 obtain⟨L,N,z,q,E,s,hi⟩:=h.cells
 have J:=h.le
 have j:=fun q (z:aa w q)=>lK L N ps q (hi.U z) (by omega)
 obtain⟨n,t⟩:∃n,n=ps.length:=⟨_,rfl⟩
 rw[←t]at E s j ⊢
 have A:=Lib.hid j
 clear h s hi j J t
 go_enter Tryz.func14,Tryz.ntmps14
 go_wp2_with (first|(go_at_call 54;refine(A.out _ (by(exact kp))).mono ?_;rintro e w1 ⟨a,cap,rfl,K,I⟩)|fail)
 go_ret
 exact⟨a,cap,rfl,K,I⟩

def bG (ps:List Int)(i:Nat):List Int:=(ps.set i (ps.getD (i+1) 0)).set (i+1) (ps.getD i 0)

theorem gV (ps:List Int)(i:Nat):(bG ps i).length=ps.length:=by unfold bG;simp

theorem gq {ps:List Int}{i:Nat}(h:i+1<ps.length)(j:Nat):(bG ps i)[j]?=if j=i then ps[i+1]? else if j=i+1 then ps[i]? else ps[j]?:=by
 unfold bG;rw[List.getElem?_set,List.getElem?_set];have t:ps[i+1]?=some (ps.getD (i+1) 0):=by simp[List.getD,h]
 have z:ps[i]?=some (ps.getD i 0):=by simp[List.getD,show i<ps.length by omega]
 by_cases q:j=i
 ·subst q;rw[if_neg (by omega),if_pos rfl,if_pos (by omega),if_pos rfl,t]
 ·by_cases s:j=i+1
  ·subst s;rw[if_pos rfl,if_pos (by simpa using h),if_neg q,if_pos rfl,z]
  ·rw[if_neg (by omega),if_neg (by omega),if_neg q,if_neg s]

theorem An {ps:List Int}{i:Nat}(h:i+1<ps.length)(x:Int):x∈bG ps i↔x∈ps:=by
 rw[List.mem_iff_getElem?,List.mem_iff_getElem?];constructor
 ·rintro⟨q,j⟩;rw[gq h]at j;split at j;·exact⟨_,j⟩
  ·split at j;·exact⟨_,j⟩
   ·exact⟨_,j⟩
 ·rintro⟨q,j⟩;by_cases s:q=i
  ·refine⟨i+1,?_⟩;rw[gq h,if_neg (by omega),if_pos rfl,←s];exact j
  ·by_cases t:q=i+1
   ·refine⟨i,?_⟩;rw[gq h,if_pos rfl,←t];exact j
   ·refine⟨q,?_⟩;rw[gq h,if_neg s,if_neg t];exact j

theorem iT {ps:List Int}(h:ps.Nodup){i j:Nat}{x:Int}(hi:ps[i]?=some x)(s:ps[j]?=some x):i=j:=by
 obtain⟨j,q⟩:=List.getElem?_eq_some_iff.1 hi;obtain⟨t,j⟩:=List.getElem?_eq_some_iff.1 s;exact(List.getElem_inj h).1 (q.trans j.symm)

theorem na {ps:List Int}{i:Nat}(h:i+1<ps.length)(s:aA ps=true):aA (bG ps i)=true:=by
 obtain⟨t,z,A⟩:=dp.1 s;refine dp.2 ⟨by rw[gV];exact t,fun x E=>by rw[gV];exact z x ((An h x).1 E),?_⟩;refine List.pairwise_iff_getElem.2 fun a b t z E e=>?_;have q:(bG ps i)[a]?=some (bG ps i)[a]:=List.getElem?_eq_getElem t;have j:(bG ps i)[b]?=some (bG ps i)[a]:=by rw[e];exact List.getElem?_eq_getElem z
 rw[gq h]at q j;have key:∀{p t:Nat},ps[p]?=some (bG ps i)[a]→ps[t]?=some (bG ps i)[a]→p=t:=fun s t=>iT A s t;split at q
 ·split at j;·omega
  ·split at j;·have:=key q j;omega
   ·have:=key q j;omega
 ·split at q
  ·split at j;·have:=key q j;omega
   ·split at j;·omega
    ·have:=key q j;omega
  ·split at j;·have:=key q j;omega
   ·split at j;·have:=key q j;omega
    ·have:=key q j;omega

theorem Am {ps qs:List Int}{i:Nat}{a b:Int}(h:i+1<ps.length)(J:aA ps=true)(K:jf ps qs)(q:ps[i]?=some a)(s:ps[i+1]?=some b) :
  jf (bG ps i) ((qs.set a.toNat ((i:Int)+1)).set b.toNat (i:Int)):=by
 obtain⟨O,t,z⟩:=dp.1 J
 obtain⟨I,N⟩:=K
 have J:=t a (List.mem_of_getElem? q)
 have J:=t b (List.mem_of_getElem? s)
 have J:a≠b:=fun e=>by subst e;have:=iT z q s;omega
 refine⟨by rw[List.length_set,List.length_set,gV,I],fun L x j=>?_⟩
 rw[gq h]at j
 rw[List.getElem?_set,List.getElem?_set]
 split at j
 ·rename_i A;rw[s]at j;cases j;rw[if_pos rfl,if_pos (by rw[List.length_set,I];omega),A]
 ·rename_i A;split at j
  ·rename_i E;rw[q]at j;cases j;rw[if_neg (by omega),if_pos rfl,if_pos (by rw[I];omega),E];push_cast;rfl
  ·rename_i E;have rx:=t x (List.mem_of_getElem? j);have t:x≠a:=fun e=>(by subst e;exact A (iT z j q));have q:x≠b:=fun e=>(by subst e;exact E (iT z j s));rw[if_neg (by omega),if_neg (by omega)];exact N L x j

theorem xU {F:Nat→Prop}{w:World}{t:Nat}{ps:List Int}(h:bA F w t ps)(lv:Nat)(I:lv+1<ps.length) :
  Calls Tryz.prog 250 #[.pointer (some ⟨t,0,none⟩),.int .i64 (lv:Int)] w fun e bg=>e=.returned (.int .u8 0)∧ae F w bg∧bA F bg t (bG ps lv):=by
 have H:=Lib.hid h
 have bt:=h.le
 obtain⟨⟨bg,be,j,a4,qs,z,K,ab,A,W⟩,ad,am,U⟩:=h
 obtain⟨s,rfl,E,Z,O⟩:=ab (fun e=>by rw[e]at I;simp at I)
 obtain⟨bx,X,a7⟩:=dp.1 U
 obtain⟨a,L⟩:∃b,ps[lv]?=some b:=⟨_,List.getElem?_eq_getElem (by omega)⟩
 obtain⟨b,N⟩:∃b,ps[lv+1]?=some b:=⟨_,List.getElem?_eq_getElem I⟩
 have a8:=X a (List.mem_of_getElem? L)
 have a':=X b (List.mem_of_getElem? N)
 have bv:a≠b:=fun e=>by subst e;have:=iT a7 L N;omega
 have a5:=E.ne z
 have a6:=A.ne z
 have bn:w.cell? ⟨t,0,none⟩=some (.slice (some ⟨s,0,none⟩) ps.length be):=by rw[cell_of_row w t 0 _ _ _ z];rfl
 have bp:w.cell? ⟨t,1,none⟩=some (.slice (some ⟨j,0,none⟩) ps.length a4):=by rw[cell_of_row w t 1 _ _ _ z];rfl
 have bg:=E.cell L
 have bg:=E.cell N
 have bg:=E.frozen lv
 have bg:=E.frozen (lv+1)
 obtain⟨q,rfl⟩:∃q:Nat,a=(q:Int):=⟨a.toNat,by omega⟩
 obtain⟨B,rfl⟩:∃B:Nat,b=(B:Int):=⟨b.toNat,by omega⟩
 obtain⟨bg,a1⟩:∃b,qs[q]?=some b:=⟨_,List.getElem?_eq_getElem (by rw[K.1];omega)⟩
 obtain⟨bg,a2⟩:∃b,qs[B]?=some b:=⟨_,List.getElem?_eq_getElem (by rw[K.1];omega)⟩
 have bg:=A.cell a1
 have bg:=A.cell a2
 have bg:=A.frozen q
 have bg:=A.frozen B
 have bg:q≠B:=by omega
 have av:∀d W',W'=(((((w.drewN d).setCell ⟨s,lv,none⟩ (.int .i64 (B:Int))).setCell ⟨s,lv+1,none⟩ (.int .i64 (q:Int))).setCell ⟨j,q,none⟩ (.int .i64 ((lv:Int)+1))).setCell ⟨j,B,none⟩ (.int .i64 (lv:Int))).drew→ae F w W'∧bA F W' t (bG ps lv):=by
  rintro d W' rfl;have S:aa w (w.drewN d):=(aa.refl w).drewN d;obtain⟨w0,bw⟩:∃w0,w0=w.drewN d:=⟨_,rfl⟩;rw[←bw]at S ⊢;replace E:=E.U S;replace A:=A.U S;replace z:=S.heap z;have T:ae (fun k=>k=s) w0 ((w0.setCell ⟨s,lv,none⟩ (.int .i64 (B:Int))).setCell ⟨s,lv+1,none⟩ (.int .i64 (q:Int))):=ae.setCell (F:=fun k=>k=s) (p:=⟨s,lv+1,none⟩) (ae.setCell (F:=fun k=>k=s) (p:=⟨s,lv,none⟩) (ae.refl _ _) (.inl rfl) _) (.inl rfl) _;obtain⟨J,a3⟩:∃J,J=(w0.setCell ⟨s,lv,none⟩ (.int .i64 (B:Int))).setCell ⟨s,lv+1,none⟩ (.int .i64 (q:Int)):=⟨_,rfl⟩
  have b0:bz J s (bG ps lv):=by
   rw[a3];unfold bG;have bq:ps.getD (lv+1) 0=(B:Int):=(by simp[List.getD,N]);have br:ps.getD lv 0=(q:Int):=(by simp[List.getD,L]);rw[bq,br];exact(E.set lv (B:Int) (by omega)).set (lv+1) (q:Int) (by simpa using I)
  rw[←a3]at T ⊢
  have b1:bz ((J.setCell ⟨j,q,none⟩ (.int .i64 ((lv:Int)+1))).setCell ⟨j,B,none⟩ (.int .i64 (lv:Int))) j ((qs.set q ((lv:Int)+1)).set B (lv:Int)):=
   ((A.a4 T (fun e=>O e.symm)).set q _ (by rw[K.1];omega)).set B _ (by rw[List.length_set,K.1];omega)
  have Y:ae (fun k=>k=j) J ((J.setCell ⟨j,q,none⟩ (.int .i64 ((lv:Int)+1))).setCell ⟨j,B,none⟩ (.int .i64 (lv:Int))):=ae.setCell (F:=fun k=>k=j) (p:=⟨j,B,none⟩) (ae.setCell (F:=fun k=>k=j) (p:=⟨j,q,none⟩) (ae.refl _ _) (.inl rfl) _) (.inl rfl) _;have bb:=(S.av F).a' ((T.mono (G:=F) (fun k _ e=>by subst e;exact Z)).a' (Y.mono (G:=F) (fun k _ e=>by subst e;exact W)))
  have bs:bA F ((J.setCell ⟨j,q,none⟩ (.int .i64 ((lv:Int)+1))).setCell ⟨j,B,none⟩ (.int .i64 (lv:Int))) t (bG ps lv):=by
   refine⟨⟨some ⟨s,0,none⟩,be,j,a4,_,?_,Am I U K L N,fun _=>⟨s,rfl,b0.a4 Y O,Z,O⟩,b1,W⟩,ad,fun k J=>by have:=am k J;have:=bb.size;omega,na I U⟩;rw[gV];have J:=T.block t (aK z) (fun e=>a5 e.symm);have S:=Y.block t (by have:=T.size;have:=aK z;omega) (fun e=>a6 e.symm);rw[S,J];exact z
  exact⟨bb.drew,bs.U (aa.refl _).drew⟩
 have bi:=Lib.hid av
 obtain⟨n,aw⟩:∃n,n=ps.length:=⟨_,rfl⟩
 rw[←aw]at bn bp bt I a8 a'
 have I:q<n:=by omega
 have q:B<n:=by omega
 have q:s≠j:=O
 have q:j≠s:=fun e=>O e.symm
 have q:t≠s:=fun e=>a5 e.symm
 have q:t≠j:=fun e=>a6 e.symm
 clear H z K ab A W ad am U E Z O bx X a7 L N a8 a' bv a1 a2 av aw
 go_enter Tryz.func250,Tryz.ntmps250
 go_wp2_with fail
 go_quiet (fail)
 go_wp2_with fail
 go_region
 go_wp2_with fail
 go_region
 go_wp2_with fail
 go_ret
 exact⟨rfl,bi.out _ _ rfl⟩

theorem mI:∀(R ps:List Int),R.Nodup→(∀x∈R,x∈ps)→ps.length≤R.length→ps.Perm R:=by
 intro R;induction R with
 |nil=>
  intro ps _ _ j;rw[List.length_nil,Nat.le_zero,List.length_eq_zero_iff]at j;rw[j]
 |cons x R E=>
  intro ps q t j;rw[List.nodup_cons]at q;have A:=t x (by simp);have s:=List.perm_cons_erase A;refine s.trans (List.Perm.cons x (E _ q.2 (fun y z=>?_) ?_))
  ·have A:y≠x:=fun e=>q.1 (e ▸ z);exact(List.mem_erase_of_ne A).2 (t y (by simp[z]))
  ·have:=s.length_eq;simp at this j;omega

def cC (n:Nat):List Int:=(List.range n).map (fun i:Nat=>(i:Int))

theorem iU (n:Nat):(cC n).length=n:=by unfold cC;simp

theorem gi {n:Nat}{x:Int}:x∈cC n↔0≤x∧x<(n:Int):=by
 unfold cC;rw[List.mem_map];constructor
 ·rintro⟨a,j,rfl⟩;rw[List.mem_range]at j;omega
 ·intro h;exact⟨x.toNat,by rw[List.mem_range];omega,by omega⟩

theorem mz (n:Nat):(cC n).Nodup:=by
 unfold cC;exact List.Pairwise.map _ (fun a b (h:a≠b) e=>h (by omega)) List.nodup_range

theorem kP {ps:List Int}:aA ps=true↔(ps.length≤16∧ps.Perm (cC ps.length)):=by
 rw[dp];constructor
 ·rintro⟨q,j,t⟩;exact⟨q,(mI ps (cC ps.length) t (fun x s=>gi.2 (j x s)) (by rw[iU];omega)).symm⟩
 ·rintro⟨q,j⟩;exact⟨q,fun x s=>gi.1 (j.mem_iff.1 s),j.nodup_iff.2 (mz _)⟩

theorem yn {ps:List Int}(j:ps.length≤16):aA ps=true↔∀i:Nat,i<ps.length→ps.count (i:Int)=1:=by
 rw[kP];constructor
 ·rintro⟨_,h⟩ i hi;rw[h.count_eq,(mz _).count,if_pos (gi.2 (by omega))]
 ·intro h;refine⟨j,mI _ _ (mz _) (fun x q=>?_) (by rw[iU];omega)⟩;obtain⟨j,s⟩:=gi.1 q;have:=h x.toNat (by omega);rw[show((x.toNat:Nat):Int)=x by omega]at this;exact List.count_pos_iff.1 (by omega)

theorem qi (a:Option Addr)(cap:Nat)(ps:List Int)(w:World)(h:aL w a ps)(X:ps.length≤16) :
  Calls Tryz.prog 9 #[.slice a ps.length cap] w fun e a4=>e=.returned (.bool (aA ps))∧w=a4:=by
 have I:=yn X
 obtain⟨q,E⟩:∃q,q=ps.length:=⟨_,rfl⟩
 rw[←E]at X I ⊢
 have H:=Lib.hid h
 have S:=Lib.hid E
 have L:=Lib.hid I
 clear h E I
 go_enter Tryz.func9,Tryz.ntmps9
 go_wp2
 go_loopg [3,4,5] q (fun gk E Z ab wr=>∃(d:Nat),E=.int .i64 (d:Int)∧d+gk=q∧(∀i:Nat,i<d→ps.count (i:Int)=1)∧w=wr)
 case atStart=>exact⟨0,rfl,by omega,fun i hi=>by omega,rfl⟩
 case round=>
  obtain⟨d,rfl,a6,s,rfl⟩:=hrel;have K:=Lib.hid s;obtain⟨av,W⟩:∃g,g=gk:=⟨_,rfl⟩;have O:=Lib.hid W;clear s W;by_cases a3:d<q
  ·go_wp2_with fail
   go_loopg [4,5] q (fun gk Z ab E=>∃(j c:Nat),ab=.int .i64 (j:Int)∧Z=.int .i64 (c:Int)∧j+gk=q∧c=(ps.take j).count (d:Int)∧c≤j∧w=E)
   case atStart=>exact⟨0,0,rfl,rfl,by omega,by simp,by omega,rfl⟩
   case round=>
    obtain⟨j,c,rfl,rfl,a7,T,a5,rfl⟩:=hrel;have A:=Lib.hid T;clear T;by_cases a2:j<q
    ·obtain⟨x,J⟩:∃b,ps[j]?=some b:=⟨_,List.getElem?_eq_getElem (by rw[←S.out];exact a2)⟩;obtain⟨b,off,rfl,q⟩:=H.out j x J;have t:=fO J;have z:=Lib.hid t;clear J t;by_cases Y:x=(d:Int)
     ·subst Y;go_wp2_with fail
      go_roundg (gk-1)
      case rel=>exact⟨j+1,c+1,by simp,by simp,by omega,by rw[z.out,List.count_append,A.out];simp,by omega,rfl⟩
      case measure=>omega
     ·go_wp2_with fail
      go_roundg (gk-1)
      case rel=>exact⟨j+1,c,by simp,rfl,by omega,by rw[z.out,List.count_append,A.out];simp[Y],by omega,rfl⟩
      case measure=>omega
    ·have j:c=ps.count (d:Int):=by
      rw[A.out,List.take_of_length_le (by rw[←S.out];omega)]
     have N:=Lib.hid j;clear j;by_cases aw:c=1
     ·subst aw
      have s:∀i:Nat,i<d+1→ps.count (i:Int)=1:=fun i hi=>by
       by_cases e:i=d;·subst e;exact N.out.symm
       ·exact K.out i (by omega)
      have ad:=Lib.hid s;clear s;go_wp2_with fail
      go_roundg (av-1)
      case rel=>exact⟨d+1,by simp,by have:=O.out;omega,ad.out,rfl⟩
      case measure=>have:=O.out;omega
     ·have U:aA ps=false:=by
       cases a1:aA ps with
       |false=>rfl
       |true=>have:=L.out.1 a1 d a3;have:=N.out;omega
      have am:=Lib.hid U;have j:((c:Int) != 1)=true:=(by simp;omega);clear U;go_wp2_with fail
      go_ret
      exact⟨by rw[am.out];rfl,rfl⟩
  ·have t:aA ps=true:=L.out.2 (fun i hi=>K.out i (by omega));have z:=Lib.hid t;clear t;go_wp2_with fail
   go_ret
   exact⟨by rw[z.out];simp;omega,rfl⟩

theorem y' (a b:Option Addr)(cap cap2:Nat)(ps qs:List Int)(w:World)(A:aL w a ps)(E:aL w b qs)(Z:ps.length≤1048576)(ab:qs.length≤1048576) :
  Calls Tryz.prog 13 #[.slice a ps.length cap,.slice b qs.length cap2] w fun e I=>e=.returned (.bool (decide (ps=qs)))∧aa w I:=by
 by_cases s:ps.length=qs.length
 ·obtain⟨j,q⟩:∃j,j=ps.length:=⟨_,rfl⟩;have I:j=qs.length:=q.trans s;rw[←I,←q];rw[←q]at Z;have am:=Lib.hid A;have av:=Lib.hid E;have S:=Lib.hid q;have O:=Lib.hid I;clear A E q I s ab;go_enter Tryz.func13,Tryz.ntmps13
  go_wp2
  go_loopg [5] j (fun gk I wr=>∃d:Nat,I=.int .i64 (d:Int)∧d+gk=j∧(∀i,i<d→ps[i]?=qs[i]?)∧aa w wr)
  case atStart=>exact⟨0,rfl,by omega,fun i hi=>by omega,by(exact kp)⟩
  case round=>
   obtain⟨d,rfl,a3,I,K⟩:=hrel;have T:=Lib.hid I;clear I;by_cases ad:d<j
   ·obtain⟨x,L⟩:∃b,ps[d]?=some b:=⟨_,List.getElem?_eq_getElem (by rw[←S.out];exact ad)⟩;obtain⟨y,N⟩:∃b,qs[d]?=some b:=⟨_,List.getElem?_eq_getElem (by rw[←O.out];exact ad)⟩;obtain⟨a1,a4,rfl,X⟩:=am.out d x L;obtain⟨a2,a5,rfl,I⟩:=av.out d y N;replace X:=K.cell X;replace I:=K.cell I;have U:=Lib.hid L;have W:=Lib.hid N;have I:(0:Int)≤(d:Int):=(by omega);have I:(d:Int)<(j:Int):=(by omega);clear L N;by_cases J:x=y
    ·subst J;go_wp2_with fail
     go_quiet (fail)
     go_wp2
     go_roundg (gk-1)
     case rel=>
      refine⟨d+1,by simp,by omega,fun i hi=>?_,by(exact kp)⟩;by_cases e:i=d;·subst e;rw[U.out,W.out]
      ·exact T.out i (by omega)
     case measure=>omega
    ·have I:(x != y)=true:=(by simp[J]);have t:Hid (¬ps=qs):=Lib.hid (fun e=>by have:=U.out;rw[e,W.out]at this;exact J (Option.some.inj this).symm);go_wp2_with fail
     go_quiet (fail)
     go_wp2
     go_ret
     exact⟨by rw[decide_eq_false t.out];rfl,by(exact kp)⟩
   ·have J:d=j:=by omega
    have I:ps=qs:=by
     apply List.ext_getElem?;intro i;by_cases hi:i<d;·exact T.out i hi
     ·rw[List.getElem?_eq_none (by rw[←S.out];omega),List.getElem?_eq_none (by rw[←O.out];omega)]
    have aw:=Lib.hid I;clear J I;go_wp2_with fail
    go_ret
    exact⟨by rw[decide_eq_true aw.out];rfl,K⟩
 ·have t:decide (ps=qs)=false:=decide_eq_false (fun e=>s (by rw[e]));obtain⟨j,q⟩:∃j,j=ps.length:=⟨_,rfl⟩;obtain⟨z,Y⟩:∃z,z=qs.length:=⟨_,rfl⟩;rw[t];rw[←q,←Y]at s ⊢;have I:((j:Int) !=(z:Int))=true:=by simp;omega
  clear A E Z ab q Y t s;go_enter Tryz.func13,Tryz.ntmps13
  go_wp2
  go_ret
  exact⟨rfl,by(exact kp)⟩

theorem yQ (s:Nat)(l n:Int)(v:Edge)(w:World)(E:n≤16)(I:s<w.heap.size)
  (t:∀q,aa w q→Calls Tryz.prog 48 #[.pointer (some ⟨s,0,none⟩)] q fun e j=>e=.returned (.int .i64 n)∧q=j)
  (A:l<0)
  : Calls Tryz.prog 270 #[.pointer (some ⟨s,0,none⟩),.agg #[.int .u8 v.tag,.int .u32 v.to],.int .i64 l] w fun e j=>e=.returned (.tuple #[.agg #[.int .u8 0,.int .u32 0],.agg #[.int .u8 0,.int .u32 0],.int .u8 3])∧aa w j:=by
 have z:=Lib.hid t
 clear t
 go_enter Tryz.func270,Tryz.ntmps270
 go_wp2_with (first|(go_at_call 48;refine(z.out _ (by(exact kp))).mono ?_;rintro e j ⟨rfl,rfl⟩)|fail)
 go_region
 all_goals go_wp2
 all_goals refine bodyPost_ret (v:=.tuple #[.agg #[.int .u8 0,.int .u32 0],.agg #[.int .u8 0,.int .u32 0],.int .u8 3]) (by simp[results,Tryz.results270,go_sem]) rfl ⟨rfl,by(exact kp)⟩

theorem yN (s:Nat)(l n:Int)(v:Edge)(w:World)(I:n≤16)(J:s<w.heap.size)
  (t:∀q,aa w q→Calls Tryz.prog 48 #[.pointer (some ⟨s,0,none⟩)] q fun e j=>e=.returned (.int .i64 n)∧q=j)
  (A:0≤l) (E:n≤l)
  : Calls Tryz.prog 270 #[.pointer (some ⟨s,0,none⟩),.agg #[.int .u8 v.tag,.int .u32 v.to],.int .i64 l] w fun e j=>e=.returned (.tuple #[.agg #[.int .u8 0,.int .u32 0],.agg #[.int .u8 0,.int .u32 0],.int .u8 3])∧aa w j:=by
 have z:=Lib.hid t
 clear t
 go_enter Tryz.func270,Tryz.ntmps270
 go_wp2_with (first|(go_at_call 48;refine(z.out _ (by(exact kp))).mono ?_;rintro e j ⟨rfl,rfl⟩)|fail)
 go_region
 all_goals go_wp2
 all_goals refine bodyPost_ret (v:=.tuple #[.agg #[.int .u8 0,.int .u32 0],.agg #[.int .u8 0,.int .u32 0],.int .u8 3]) (by simp[results,Tryz.results270,go_sem]) rfl ⟨rfl,by(exact kp)⟩

theorem yR (t:Nat)(l n:Int)(v:Edge)(w:World)(X:n≤16)(Y:t<w.heap.size)
  (A:∀q,aa w q→Calls Tryz.prog 48 #[.pointer (some ⟨t,0,none⟩)] q fun e s=>e=.returned (.int .i64 n)∧q=s)
  (U:0≤l) (W:l<n)
  (z:∀q,aa w q→Calls Tryz.prog 134 #[.pointer (some ⟨t,0,none⟩),.int .u8 4,.agg #[.int .u8 v.tag,.int .u32 v.to],.int .i64 l] q fun e s=>e=.returned (.bool false)∧aa q s)
  : Calls Tryz.prog 270 #[.pointer (some ⟨t,0,none⟩),.agg #[.int .u8 v.tag,.int .u32 v.to],.int .i64 l] w fun e s=>e=.returned (.tuple #[.agg #[.int .u8 0,.int .u32 0],.agg #[.int .u8 0,.int .u32 0],.int .u8 1])∧aa w s:=by
 have I:=Lib.hid A
 clear A
 have E:=Lib.hid z
 clear z
 go_enter Tryz.func270,Tryz.ntmps270
 go_wp2_with (first|(go_at_call 48;refine(I.out _ (by(exact kp))).mono ?_;rintro e s ⟨rfl,rfl⟩)|fail)
 (go_at_call 134;refine(E.out _ (by(exact kp))).mono ?_;rintro e w1 ⟨rfl,j⟩;have J:=j.size;simp only[World.size_alloc]at J;have q:w.heap.size<w1.heap.size:=(by omega);have K:w.heap.size+1<w1.heap.size:=(by omega);have L:w.heap.size+2<w1.heap.size:=(by omega);have q:=j.cell (a:=⟨w.heap.size,0,none⟩) (v:=.int .u8 v.tag) (by simp[go_sem]);have q:=j.cell (a:=⟨w.heap.size,1,none⟩) (v:=.int .u32 v.to) (by simp[go_sem]);have N:=j.cell (a:=⟨w.heap.size+1,0,none⟩) (v:=.int .u8 0) (by simp[go_sem]);have O:=j.cell (a:=⟨w.heap.size+1,1,none⟩) (v:=.int .u32 0) (by simp[go_sem]);have S:=j.cell (a:=⟨w.heap.size+2,0,none⟩) (v:=.int .u8 0) (by simp[go_sem]);have T:=j.cell (a:=⟨w.heap.size+2,1,none⟩) (v:=.int .u32 0) (by simp[go_sem]);have q:=fun o:Nat=>j.a2 (a:=⟨w.heap.size+1,o,none⟩) (by simp[go_sem]) (by simp[go_sem]);have q:=fun o:Nat=>j.a2 (a:=⟨w.heap.size+2,o,none⟩) (by simp[go_sem]) (by simp[go_sem]);have j:aa w w1:=(by(exact kp)))
 go_wp2_with fail
 go_region
 all_goals go_wp2
 all_goals refine bodyPost_ret (v:=.tuple #[.agg #[.int .u8 0,.int .u32 0],.agg #[.int .u8 0,.int .u32 0],.int .u8 1]) (by simp[results,Tryz.results270,go_sem,K,L,N,O,S,T]) rfl ⟨rfl,by(exact kp)⟩

theorem yS (z:Nat)(l n:Int)(v:Edge)(x:Rec)(w:World)(a3:n≤16)(a4:z<w.heap.size)
  (O:∀j,aa w j→Calls Tryz.prog 48 #[.pointer (some ⟨z,0,none⟩)] j fun e t=>e=.returned (.int .i64 n)∧j=t)
  (a1:0≤l) (a2:l<n)
  (N:∀j,aa w j→Calls Tryz.prog 134 #[.pointer (some ⟨z,0,none⟩),.int .u8 4,.agg #[.int .u8 v.tag,.int .u32 v.to],.int .i64 l] j fun e t=>e=.returned (.bool true)∧aa j t)
  (L:∀j,aa w j→Calls Tryz.prog 78 #[.pointer (some ⟨z,0,none⟩),.int .u32 v.to] j fun e t=>e=.returned (.tuple #[.agg #[.int .u8 x.ad,.int .u8 x.I,.int .u8 x.J,.int .u8 x.lo.tag,.int .u32 x.lo.to,.int .u8 x.hi.tag,.int .u32 x.hi.to],.bool false])∧aa j t)
  : Calls Tryz.prog 270 #[.pointer (some ⟨z,0,none⟩),.agg #[.int .u8 v.tag,.int .u32 v.to],.int .i64 l] w fun e t=>e=.returned (.tuple #[.agg #[.int .u8 v.tag,.int .u32 v.to],.agg #[.int .u8 0,.int .u32 0],.int .u8 0])∧aa w t:=by
 have ad:=Lib.hid O
 clear O
 have ab:=Lib.hid N
 clear N
 have Z:=Lib.hid L
 clear L
 go_enter Tryz.func270,Tryz.ntmps270
 go_wp2_with (first|(go_at_call 48;refine(ad.out _ (by(exact kp))).mono ?_;rintro e t ⟨rfl,rfl⟩)|fail)
 (go_at_call 134;refine(ab.out _ (by(exact kp))).mono ?_;rintro e w1 ⟨rfl,s⟩;have av:=s.size;simp only[World.size_alloc]at av;have aw:w.heap.size<w1.heap.size:=(by omega);have S:w.heap.size+1<w1.heap.size:=(by omega);have T:w.heap.size+2<w1.heap.size:=(by omega);have W:=s.cell (a:=⟨w.heap.size,0,none⟩) (v:=.int .u8 v.tag) (by simp[go_sem]);have X:=s.cell (a:=⟨w.heap.size,1,none⟩) (v:=.int .u32 v.to) (by simp[go_sem]);have E:=s.cell (a:=⟨w.heap.size+1,0,none⟩) (v:=.int .u8 0) (by simp[go_sem]);have I:=s.cell (a:=⟨w.heap.size+1,1,none⟩) (v:=.int .u32 0) (by simp[go_sem]);have J:=s.cell (a:=⟨w.heap.size+2,0,none⟩) (v:=.int .u8 0) (by simp[go_sem]);have K:=s.cell (a:=⟨w.heap.size+2,1,none⟩) (v:=.int .u32 0) (by simp[go_sem]);have U:=fun o:Nat=>s.a2 (a:=⟨w.heap.size+1,o,none⟩) (by simp[go_sem]) (by simp[go_sem]);have Y:=fun o:Nat=>s.a2 (a:=⟨w.heap.size+2,o,none⟩) (by simp[go_sem]) (by simp[go_sem]);have am:aa w w1:=(by(exact kp)))
 go_wp2_with fail
 (go_at_call 78;refine(Z.out _ (by(exact kp))).mono ?_;rintro e A ⟨rfl,q⟩;have j:=q.size;have U:=fun o:Nat=>q.a2 (a:=⟨w.heap.size+1,o,none⟩) (by dsimp only;omega) (U o);have Y:=fun o:Nat=>q.a2 (a:=⟨w.heap.size+2,o,none⟩) (by dsimp only;omega) (Y o);have W:=q.cell W;have X:=q.cell X;have E:=q.cell E;have I:=q.cell I;have J:=q.cell J;have K:=q.cell K;have aw:w.heap.size<A.heap.size:=(by omega);have S:w.heap.size+1<A.heap.size:=(by omega);have T:w.heap.size+2<A.heap.size:=(by omega);have j:aa w A:=am.trans q)
 go_wp2_with fail
 all_goals refine bodyPost_ret (v:=.tuple #[.agg #[.int .u8 v.tag,.int .u32 v.to],.agg #[.int .u8 0,.int .u32 0],.int .u8 0]) (by simp[results,Tryz.results270,go_sem,S,T,E,I,J,K]) rfl ⟨rfl,by(exact kp)⟩

theorem yT (z:Nat)(l n:Int)(v:Edge)(x:Rec)(w:World)(a3:n≤16)(a4:z<w.heap.size)
  (O:∀j,aa w j→Calls Tryz.prog 48 #[.pointer (some ⟨z,0,none⟩)] j fun e t=>e=.returned (.int .i64 n)∧j=t)
  (a1:0≤l) (a2:l<n)
  (N:∀j,aa w j→Calls Tryz.prog 134 #[.pointer (some ⟨z,0,none⟩),.int .u8 4,.agg #[.int .u8 v.tag,.int .u32 v.to],.int .i64 l] j fun e t=>e=.returned (.bool true)∧aa j t)
  (a5:l<x.I) (a6:0≤x.I) (a7:x.I≤255) (a8:0≤x.J) (a':x.J≤255)
  (L:∀j,aa w j→Calls Tryz.prog 78 #[.pointer (some ⟨z,0,none⟩),.int .u32 v.to] j fun e t=>e=.returned (.tuple #[.agg #[.int .u8 x.ad,.int .u8 x.I,.int .u8 x.J,.int .u8 x.lo.tag,.int .u32 x.lo.to,.int .u8 x.hi.tag,.int .u32 x.hi.to],.bool true])∧aa j t)
  : Calls Tryz.prog 270 #[.pointer (some ⟨z,0,none⟩),.agg #[.int .u8 v.tag,.int .u32 v.to],.int .i64 l] w fun e t=>e=.returned (.tuple #[.agg #[.int .u8 v.tag,.int .u32 v.to],.agg #[.int .u8 0,.int .u32 0],.int .u8 0])∧aa w t:=by
 have ad:=Lib.hid O
 clear O
 have ab:=Lib.hid N
 clear N
 have Z:=Lib.hid L
 clear L
 go_enter Tryz.func270,Tryz.ntmps270
 go_wp2_with (first|(go_at_call 48;refine(ad.out _ (by(exact kp))).mono ?_;rintro e t ⟨rfl,rfl⟩)|fail)
 (go_at_call 134;refine(ab.out _ (by(exact kp))).mono ?_;rintro e w1 ⟨rfl,s⟩;have av:=s.size;simp only[World.size_alloc]at av;have aw:w.heap.size<w1.heap.size:=(by omega);have S:w.heap.size+1<w1.heap.size:=(by omega);have T:w.heap.size+2<w1.heap.size:=(by omega);have W:=s.cell (a:=⟨w.heap.size,0,none⟩) (v:=.int .u8 v.tag) (by simp[go_sem]);have X:=s.cell (a:=⟨w.heap.size,1,none⟩) (v:=.int .u32 v.to) (by simp[go_sem]);have E:=s.cell (a:=⟨w.heap.size+1,0,none⟩) (v:=.int .u8 0) (by simp[go_sem]);have I:=s.cell (a:=⟨w.heap.size+1,1,none⟩) (v:=.int .u32 0) (by simp[go_sem]);have J:=s.cell (a:=⟨w.heap.size+2,0,none⟩) (v:=.int .u8 0) (by simp[go_sem]);have K:=s.cell (a:=⟨w.heap.size+2,1,none⟩) (v:=.int .u32 0) (by simp[go_sem]);have U:=fun o:Nat=>s.a2 (a:=⟨w.heap.size+1,o,none⟩) (by simp[go_sem]) (by simp[go_sem]);have Y:=fun o:Nat=>s.a2 (a:=⟨w.heap.size+2,o,none⟩) (by simp[go_sem]) (by simp[go_sem]);have am:aa w w1:=(by(exact kp)))
 go_wp2_with fail
 (go_at_call 78;refine(Z.out _ (by(exact kp))).mono ?_;rintro e A ⟨rfl,q⟩;have j:=q.size;have U:=fun o:Nat=>q.a2 (a:=⟨w.heap.size+1,o,none⟩) (by dsimp only;omega) (U o);have Y:=fun o:Nat=>q.a2 (a:=⟨w.heap.size+2,o,none⟩) (by dsimp only;omega) (Y o);have W:=q.cell W;have X:=q.cell X;have E:=q.cell E;have I:=q.cell I;have J:=q.cell J;have K:=q.cell K;have aw:w.heap.size<A.heap.size:=(by omega);have S:w.heap.size+1<A.heap.size:=(by omega);have T:w.heap.size+2<A.heap.size:=(by omega);have j:aa w A:=am.trans q)
 go_wp2_with fail
 all_goals refine bodyPost_ret (v:=.tuple #[.agg #[.int .u8 v.tag,.int .u32 v.to],.agg #[.int .u8 0,.int .u32 0],.int .u8 0]) (by simp[results,Tryz.results270,go_sem,S,T,E,I,J,K]) rfl ⟨rfl,by(exact kp)⟩

theorem yM (z:Nat)(l n:Int)(v:Edge)(x:Rec)(w:World)(a3:n≤16)(a4:z<w.heap.size)
  (O:∀j,aa w j→Calls Tryz.prog 48 #[.pointer (some ⟨z,0,none⟩)] j fun e t=>e=.returned (.int .i64 n)∧j=t)
  (a1:0≤l) (a2:l<n)
  (N:∀j,aa w j→Calls Tryz.prog 134 #[.pointer (some ⟨z,0,none⟩),.int .u8 4,.agg #[.int .u8 v.tag,.int .u32 v.to],.int .i64 l] j fun e t=>e=.returned (.bool true)∧aa j t)
   (a5:0≤x.I) (a6:x.I≤255) (a7:0≤x.J) (a8:x.J≤255)
  (L:∀j,aa w j→Calls Tryz.prog 78 #[.pointer (some ⟨z,0,none⟩),.int .u32 v.to] j fun e t=>e=.returned (.tuple #[.agg #[.int .u8 x.ad,.int .u8 l,.int .u8 l,.int .u8 x.lo.tag,.int .u32 x.lo.to,.int .u8 x.hi.tag,.int .u32 x.hi.to],.bool true])∧aa j t)
  : Calls Tryz.prog 270 #[.pointer (some ⟨z,0,none⟩),.agg #[.int .u8 v.tag,.int .u32 v.to],.int .i64 l] w fun e t=>e=.returned (.tuple #[.agg #[.int .u8 x.lo.tag,.int .u32 x.lo.to],.agg #[.int .u8 x.hi.tag,.int .u32 x.hi.to],.int .u8 0])∧aa w t:=by
 have ad:=Lib.hid O
 clear O
 have ab:=Lib.hid N
 clear N
 have Z:=Lib.hid L
 clear L
 go_enter Tryz.func270,Tryz.ntmps270
 go_wp2_with (first|(go_at_call 48;refine(ad.out _ (by(exact kp))).mono ?_;rintro e t ⟨rfl,rfl⟩)|fail)
 (go_at_call 134;refine(ab.out _ (by(exact kp))).mono ?_;rintro e w1 ⟨rfl,s⟩;have av:=s.size;simp only[World.size_alloc]at av;have aw:w.heap.size<w1.heap.size:=(by omega);have S:w.heap.size+1<w1.heap.size:=(by omega);have T:w.heap.size+2<w1.heap.size:=(by omega);have W:=s.cell (a:=⟨w.heap.size,0,none⟩) (v:=.int .u8 v.tag) (by simp[go_sem]);have X:=s.cell (a:=⟨w.heap.size,1,none⟩) (v:=.int .u32 v.to) (by simp[go_sem]);have E:=s.cell (a:=⟨w.heap.size+1,0,none⟩) (v:=.int .u8 0) (by simp[go_sem]);have I:=s.cell (a:=⟨w.heap.size+1,1,none⟩) (v:=.int .u32 0) (by simp[go_sem]);have J:=s.cell (a:=⟨w.heap.size+2,0,none⟩) (v:=.int .u8 0) (by simp[go_sem]);have K:=s.cell (a:=⟨w.heap.size+2,1,none⟩) (v:=.int .u32 0) (by simp[go_sem]);have U:=fun o:Nat=>s.a2 (a:=⟨w.heap.size+1,o,none⟩) (by simp[go_sem]) (by simp[go_sem]);have Y:=fun o:Nat=>s.a2 (a:=⟨w.heap.size+2,o,none⟩) (by simp[go_sem]) (by simp[go_sem]);have am:aa w w1:=(by(exact kp)))
 go_wp2_with fail
 (go_at_call 78;refine(Z.out _ (by(exact kp))).mono ?_;rintro e A ⟨rfl,q⟩;have j:=q.size;have U:=fun o:Nat=>q.a2 (a:=⟨w.heap.size+1,o,none⟩) (by dsimp only;omega) (U o);have Y:=fun o:Nat=>q.a2 (a:=⟨w.heap.size+2,o,none⟩) (by dsimp only;omega) (Y o);have W:=q.cell W;have X:=q.cell X;have E:=q.cell E;have I:=q.cell I;have J:=q.cell J;have K:=q.cell K;have aw:w.heap.size<A.heap.size:=(by omega);have S:w.heap.size+1<A.heap.size:=(by omega);have T:w.heap.size+2<A.heap.size:=(by omega);have j:aa w A:=am.trans q)
 go_wp2_with fail
 go_region
 all_goals go_wp2
 all_goals refine bodyPost_ret (v:=.tuple #[.agg #[.int .u8 x.lo.tag,.int .u32 x.lo.to],.agg #[.int .u8 x.hi.tag,.int .u32 x.hi.to],.int .u8 0]) (by simp[results,Tryz.results270,go_sem,S,T,E,I,J,K]) rfl ⟨rfl,by(exact kp)⟩

theorem yO {F:Nat→Prop}(R:World→World→Prop)(S:Nat)(l n:Int)(v:Edge)(x:Rec)(a b:Int)(w:World)(b0:n≤16)(b1:S<w.heap.size)
  (a2:∀j,aa w j→Calls Tryz.prog 48 #[.pointer (some ⟨S,0,none⟩)] j fun e s=>e=.returned (.int .i64 n)∧j=s)
  (bw:0≤l) (bx:l<n)
  (aw:∀j,aa w j→Calls Tryz.prog 134 #[.pointer (some ⟨S,0,none⟩),.int .u8 4,.agg #[.int .u8 v.tag,.int .u32 v.to],.int .i64 l] j fun e s=>e=.returned (.bool true)∧aa j s)
  (b6:¬x.J=l) (b2:0≤x.I) (b3:x.I≤255) (b4:0≤x.J) (b5:x.J≤255)
  (av:∀j,aa w j→Calls Tryz.prog 78 #[.pointer (some ⟨S,0,none⟩),.int .u32 v.to] j fun e s=>e=.returned (.tuple #[.agg #[.int .u8 4,.int .u8 l,.int .u8 x.J,.int .u8 x.lo.tag,.int .u32 x.lo.to,.int .u8 x.hi.tag,.int .u32 x.hi.to],.bool true])∧aa j s)
  (a1:∀k,F k→k<w.heap.size) (am:∀j,aa w j→Calls Tryz.prog 189 #[.pointer (some ⟨S,0,none⟩),.agg #[.int .u8 4,.int .u8 (l+1),.int .u8 x.J,.int .u8 x.lo.tag,.int .u32 x.lo.to,.int .u8 x.hi.tag,.int .u32 x.hi.to]] j fun e s=>e=.returned (.tuple #[.agg #[.int .u8 a,.int .u32 b],.int .u8 0])∧ae F j s∧R j s)
  : Calls Tryz.prog 270 #[.pointer (some ⟨S,0,none⟩),.agg #[.int .u8 v.tag,.int .u32 v.to],.int .i64 l] w fun e s=>e=.returned (.tuple #[.agg #[.int .u8 a,.int .u32 b],.agg #[.int .u8 a,.int .u32 b],.int .u8 0]) ∧ 
   ∃j Z,aa w j∧ae F j Z∧R j Z∧ae (fun k=>w.heap.size≤k∧k<j.heap.size) Z s:=by
 have a8:=Lib.hid a2
 clear a2
 have a7:=Lib.hid aw
 clear aw
 have a5:=Lib.hid am
 have j:∀k,w.heap.size≤k→¬F k:=fun k X h=>by have:=a1 k h;omega
 have ab:=j (w.heap.size+1) (by omega)
 have ad:=j (w.heap.size+2) (by omega)
 have S:=Lib.hid j
 clear am a1 j
 have a6:=Lib.hid av
 clear av
 go_enter Tryz.func270,Tryz.ntmps270
 go_wp2_with (first|(go_at_call 48;refine(a8.out _ (by(exact kp))).mono ?_;rintro e s ⟨rfl,rfl⟩)|fail)
 (go_at_call 134;refine(a7.out _ (by(exact kp))).mono ?_;rintro e w1 ⟨rfl,A⟩;have bg:=A.size;simp only[World.size_alloc]at bg;have bq:w.heap.size<w1.heap.size:=(by omega);have I:w.heap.size+1<w1.heap.size:=(by omega);have J:w.heap.size+2<w1.heap.size:=(by omega);have a3:=A.cell (a:=⟨w.heap.size,0,none⟩) (v:=.int .u8 v.tag) (by simp[go_sem]);have a4:=A.cell (a:=⟨w.heap.size,1,none⟩) (v:=.int .u32 v.to) (by simp[go_sem]);have K:=A.cell (a:=⟨w.heap.size+1,0,none⟩) (v:=.int .u8 0) (by simp[go_sem]);have L:=A.cell (a:=⟨w.heap.size+1,1,none⟩) (v:=.int .u32 0) (by simp[go_sem]);have N:=A.cell (a:=⟨w.heap.size+2,0,none⟩) (v:=.int .u8 0) (by simp[go_sem]);have O:=A.cell (a:=⟨w.heap.size+2,1,none⟩) (v:=.int .u32 0) (by simp[go_sem]);have U:=fun o:Nat=>A.a2 (a:=⟨w.heap.size+1,o,none⟩) (by simp[go_sem]) (by simp[go_sem]);have W:=fun o:Nat=>A.a2 (a:=⟨w.heap.size+2,o,none⟩) (by simp[go_sem]) (by simp[go_sem]);have X:aa w w1:=(by(exact kp)))
 go_wp2_with fail
 (go_at_call 78;refine(a6.out _ (by(exact kp))).mono ?_;rintro e Y ⟨rfl,t⟩;have j:=t.size;have U:=fun o:Nat=>t.a2 (a:=⟨w.heap.size+1,o,none⟩) (by dsimp only;omega) (U o);have W:=fun o:Nat=>t.a2 (a:=⟨w.heap.size+2,o,none⟩) (by dsimp only;omega) (W o);have a3:=t.cell a3;have a4:=t.cell a4;have K:=t.cell K;have L:=t.cell L;have N:=t.cell N;have O:=t.cell O;have bq:w.heap.size<Y.heap.size:=(by omega);have I:w.heap.size+1<Y.heap.size:=(by omega);have J:w.heap.size+2<Y.heap.size:=(by omega);have j:aa w Y:=X.trans t)
 go_wp2_with fail
 (go_at_call 189;refine(a5.out _ (by(exact kp))).mono ?_;rintro e T ⟨rfl,E,a'⟩;have bb:=E.size;(try simp only[World.size_alloc,World.size_setCell,World.a3]at bb);have K:=E.cell (a:=⟨w.heap.size+1,0,none⟩) ab (v:=.int .u8 0) (by simp[go_sem,I,J,K,L]);have L:=E.cell (a:=⟨w.heap.size+1,1,none⟩) ab (v:=.int .u32 0) (by simp[go_sem,I,J,K,L]);have N:=E.cell (a:=⟨w.heap.size+2,0,none⟩) ad (v:=.int .u8 0) (by simp[go_sem,I,J,N,O]);have O:=E.cell (a:=⟨w.heap.size+2,1,none⟩) ad (v:=.int .u32 0) (by simp[go_sem,I,J,N,O]);have U:=fun o:Nat=>E.frozen (a:=⟨w.heap.size+1,o,none⟩) (by(try simp only[World.size_alloc,World.size_setCell,World.a3]);omega) ab (by(try simp only[World.frozen?_setCell,frozen?_alloc_cells]);exact U o);have W:=fun o:Nat=>E.frozen (a:=⟨w.heap.size+2,o,none⟩) (by(try simp only[World.size_alloc,World.size_setCell,World.a3]);omega) ad (by(try simp only[World.frozen?_setCell,frozen?_alloc_cells]);exact W o);have I:w.heap.size+1<T.heap.size:=(by omega);have J:w.heap.size+2<T.heap.size:=(by omega))
 go_wp2_with fail
 obtain⟨q,z⟩:∃q,q=((T.setCell ⟨w.heap.size+1,0,none⟩ (.int .u8 a)).setCell ⟨w.heap.size+1,1,none⟩ (.int .u32 b)):=⟨_,rfl⟩
 have br:q.cell? ⟨w.heap.size+1,0,none⟩=some (.int .u8 a):=by rw[z];simp[go_sem,K,L,I]
 have bs:q.cell? ⟨w.heap.size+1,1,none⟩=some (.int .u32 b):=by rw[z];simp[go_sem,K,L,I]
 have bt:q.cell? ⟨w.heap.size+2,0,none⟩=some (.int .u8 0):=by rw[z];simp[go_sem,N,O,J]
 have bv:q.cell? ⟨w.heap.size+2,1,none⟩=some (.int .u32 0):=by rw[z];simp[go_sem,N,O,J]
 have j:∀o,q.frozen? ⟨w.heap.size+1,o,none⟩=false:=by intro o;rw[z];simp only[World.frozen?_setCell];exact U o
 have j:∀o,q.frozen? ⟨w.heap.size+2,o,none⟩=false:=by intro o;rw[z];simp only[World.frozen?_setCell];exact W o
 have be:q.heap.size=T.heap.size:=by rw[z];simp only[World.size_setCell]
 have bi:ae (fun k=>w.heap.size≤k∧k<w.heap.size+3) T q:=by rw[z];exact((ae.refl _ _).setCell (Or.inl (by dsimp only;omega)) _).setCell (Or.inl (by dsimp only;omega)) _
 rw[←z]
 have bn:w.heap.size+1<q.heap.size:=by omega
 have bp:w.heap.size+2<q.heap.size:=by omega
 clear z K L N O U W be
 all_goals refine bodyPost_ret (v:=.tuple #[.agg #[.int .u8 a,.int .u32 b],.agg #[.int .u8 a,.int .u32 b],.int .u8 0]) (by simp[results,Tryz.results270,go_sem,bn,bp,br,bs,bt,bv]) rfl ⟨rfl,_,T,by(exact kp),E,a',?_⟩
 all_goals(try simp only[World.size_alloc,World.size_setCell,World.a3])
 all_goals(repeat (first|with_reducible exact ae.refl _ _|exact ae.mono bi (fun k _ X=>⟨X.1,by(try simp only[World.size_alloc,World.size_setCell,World.a3]);have:=X.2;omega⟩)|refine ae.setCell ?_ (Or.inl (by dsimp only;omega)) _|refine ae.setCell ?_ (Or.inr (by dsimp only;omega)) _|with_reducible refine ae.drewN ?_ _|with_reducible refine ae.drew ?_|with_reducible refine ae.alloc ?_ _))

theorem yP {F:Nat→Prop}(R:World→World→Prop)(S:Nat)(l n:Int)(v:Edge)(x:Rec)(a b Y:Int)(b1:Y≠0)(w:World)(b2:n≤16)(b3:S<w.heap.size)
  (a3:∀j,aa w j→Calls Tryz.prog 48 #[.pointer (some ⟨S,0,none⟩)] j fun e s=>e=.returned (.int .i64 n)∧j=s)
  (bx:0≤l) (b0:l<n)
  (a1:∀j,aa w j→Calls Tryz.prog 134 #[.pointer (some ⟨S,0,none⟩),.int .u8 4,.agg #[.int .u8 v.tag,.int .u32 v.to],.int .i64 l] j fun e s=>e=.returned (.bool true)∧aa j s)
  (b8:¬x.J=l) (b4:0≤x.I) (b5:x.I≤255) (b6:0≤x.J) (b7:x.J≤255)
  (aw:∀j,aa w j→Calls Tryz.prog 78 #[.pointer (some ⟨S,0,none⟩),.int .u32 v.to] j fun e s=>e=.returned (.tuple #[.agg #[.int .u8 4,.int .u8 l,.int .u8 x.J,.int .u8 x.lo.tag,.int .u32 x.lo.to,.int .u8 x.hi.tag,.int .u32 x.hi.to],.bool true])∧aa j s)
  (a2:∀k,F k→k<w.heap.size) (av:∀j,aa w j→Calls Tryz.prog 189 #[.pointer (some ⟨S,0,none⟩),.agg #[.int .u8 4,.int .u8 (l+1),.int .u8 x.J,.int .u8 x.lo.tag,.int .u32 x.lo.to,.int .u8 x.hi.tag,.int .u32 x.hi.to]] j fun e s=>e=.returned (.tuple #[.agg #[.int .u8 a,.int .u32 b],.int .u8 Y])∧ae F j s∧R j s)
  : Calls Tryz.prog 270 #[.pointer (some ⟨S,0,none⟩),.agg #[.int .u8 v.tag,.int .u32 v.to],.int .i64 l] w fun e s=>e=.returned (.tuple #[.agg #[.int .u8 0,.int .u32 0],.agg #[.int .u8 0,.int .u32 0],.int .u8 Y]) ∧ 
   ∃j ab,aa w j∧ae F j ab∧R j ab∧ae (fun k=>w.heap.size≤k∧k<j.heap.size) ab s:=by
 have a':=Lib.hid a3
 clear a3
 have a8:=Lib.hid a1
 clear a1
 have a6:=Lib.hid av
 have j:∀k,w.heap.size≤k→¬F k:=fun k X h=>by have:=a2 k h;omega
 have ad:=j (w.heap.size+1) (by omega)
 have am:=j (w.heap.size+2) (by omega)
 have S:=Lib.hid j
 clear av a2 j
 have a7:=Lib.hid aw
 clear aw
 go_enter Tryz.func270,Tryz.ntmps270
 go_wp2_with (first|(go_at_call 48;refine(a'.out _ (by(exact kp))).mono ?_;rintro e s ⟨rfl,rfl⟩)|fail)
 (go_at_call 134;refine(a8.out _ (by(exact kp))).mono ?_;rintro e w1 ⟨rfl,A⟩;have bi:=A.size;simp only[World.size_alloc]at bi;have br:w.heap.size<w1.heap.size:=(by omega);have I:w.heap.size+1<w1.heap.size:=(by omega);have J:w.heap.size+2<w1.heap.size:=(by omega);have a4:=A.cell (a:=⟨w.heap.size,0,none⟩) (v:=.int .u8 v.tag) (by simp[go_sem]);have a5:=A.cell (a:=⟨w.heap.size,1,none⟩) (v:=.int .u32 v.to) (by simp[go_sem]);have K:=A.cell (a:=⟨w.heap.size+1,0,none⟩) (v:=.int .u8 0) (by simp[go_sem]);have L:=A.cell (a:=⟨w.heap.size+1,1,none⟩) (v:=.int .u32 0) (by simp[go_sem]);have N:=A.cell (a:=⟨w.heap.size+2,0,none⟩) (v:=.int .u8 0) (by simp[go_sem]);have O:=A.cell (a:=⟨w.heap.size+2,1,none⟩) (v:=.int .u32 0) (by simp[go_sem]);have U:=fun o:Nat=>A.a2 (a:=⟨w.heap.size+1,o,none⟩) (by simp[go_sem]) (by simp[go_sem]);have W:=fun o:Nat=>A.a2 (a:=⟨w.heap.size+2,o,none⟩) (by simp[go_sem]) (by simp[go_sem]);have X:aa w w1:=(by(exact kp)))
 go_wp2_with fail
 (go_at_call 78;refine(a7.out _ (by(exact kp))).mono ?_;rintro e Z ⟨rfl,t⟩;have j:=t.size;have U:=fun o:Nat=>t.a2 (a:=⟨w.heap.size+1,o,none⟩) (by dsimp only;omega) (U o);have W:=fun o:Nat=>t.a2 (a:=⟨w.heap.size+2,o,none⟩) (by dsimp only;omega) (W o);have a4:=t.cell a4;have a5:=t.cell a5;have K:=t.cell K;have L:=t.cell L;have N:=t.cell N;have O:=t.cell O;have br:w.heap.size<Z.heap.size:=(by omega);have I:w.heap.size+1<Z.heap.size:=(by omega);have J:w.heap.size+2<Z.heap.size:=(by omega);have j:aa w Z:=X.trans t)
 go_wp2_with fail
 (go_at_call 189;refine(a6.out _ (by(exact kp))).mono ?_;rintro e T ⟨rfl,E,bb⟩;have be:=E.size;(try simp only[World.size_alloc,World.size_setCell,World.a3]at be);have K:=E.cell (a:=⟨w.heap.size+1,0,none⟩) ad (v:=.int .u8 0) (by simp[go_sem,I,J,K,L]);have L:=E.cell (a:=⟨w.heap.size+1,1,none⟩) ad (v:=.int .u32 0) (by simp[go_sem,I,J,K,L]);have N:=E.cell (a:=⟨w.heap.size+2,0,none⟩) am (v:=.int .u8 0) (by simp[go_sem,I,J,N,O]);have O:=E.cell (a:=⟨w.heap.size+2,1,none⟩) am (v:=.int .u32 0) (by simp[go_sem,I,J,N,O]);have U:=fun o:Nat=>E.frozen (a:=⟨w.heap.size+1,o,none⟩) (by(try simp only[World.size_alloc,World.size_setCell,World.a3]);omega) ad (by(try simp only[World.frozen?_setCell,frozen?_alloc_cells]);exact U o);have W:=fun o:Nat=>E.frozen (a:=⟨w.heap.size+2,o,none⟩) (by(try simp only[World.size_alloc,World.size_setCell,World.a3]);omega) am (by(try simp only[World.frozen?_setCell,frozen?_alloc_cells]);exact W o);have I:w.heap.size+1<T.heap.size:=(by omega);have J:w.heap.size+2<T.heap.size:=(by omega))
 go_wp2_with fail
 obtain⟨q,z⟩:∃q,q=((T.setCell ⟨w.heap.size+1,0,none⟩ (.int .u8 a)).setCell ⟨w.heap.size+1,1,none⟩ (.int .u32 b)):=⟨_,rfl⟩
 have bs:q.cell? ⟨w.heap.size+1,0,none⟩=some (.int .u8 a):=by rw[z];simp[go_sem,K,L,I]
 have bt:q.cell? ⟨w.heap.size+1,1,none⟩=some (.int .u32 b):=by rw[z];simp[go_sem,K,L,I]
 have bv:q.cell? ⟨w.heap.size+2,0,none⟩=some (.int .u8 0):=by rw[z];simp[go_sem,N,O,J]
 have bw:q.cell? ⟨w.heap.size+2,1,none⟩=some (.int .u32 0):=by rw[z];simp[go_sem,N,O,J]
 have j:∀o,q.frozen? ⟨w.heap.size+1,o,none⟩=false:=by intro o;rw[z];simp only[World.frozen?_setCell];exact U o
 have j:∀o,q.frozen? ⟨w.heap.size+2,o,none⟩=false:=by intro o;rw[z];simp only[World.frozen?_setCell];exact W o
 have bg:q.heap.size=T.heap.size:=by rw[z];simp only[World.size_setCell]
 have bn:ae (fun k=>w.heap.size≤k∧k<w.heap.size+3) T q:=by rw[z];exact((ae.refl _ _).setCell (Or.inl (by dsimp only;omega)) _).setCell (Or.inl (by dsimp only;omega)) _
 rw[←z]
 have bp:w.heap.size+1<q.heap.size:=by omega
 have bq:w.heap.size+2<q.heap.size:=by omega
 clear z K L N O U W bg
 all_goals refine bodyPost_ret (v:=.tuple #[.agg #[.int .u8 0,.int .u32 0],.agg #[.int .u8 0,.int .u32 0],.int .u8 Y]) (by simp[results,Tryz.results270,go_sem,bp,bq,bs,bt,bv,bw]) rfl ⟨rfl,_,T,by(exact kp),E,bb,?_⟩
 all_goals(try simp only[World.size_alloc,World.size_setCell,World.a3])
 all_goals(repeat (first|with_reducible exact ae.refl _ _|exact ae.mono bn (fun k _ X=>⟨X.1,by(try simp only[World.size_alloc,World.size_setCell,World.a3]);have:=X.2;omega⟩)|refine ae.setCell ?_ (Or.inl (by dsimp only;omega)) _|refine ae.setCell ?_ (Or.inr (by dsimp only;omega)) _|with_reducible refine ae.drewN ?_ _|with_reducible refine ae.drew ?_|with_reducible refine ae.alloc ?_ _))

theorem p' (n:Nat)(h:n≤16)(w:World) :
  Calls Tryz.prog 102 #[.int .i64 (n:Int)] w fun e T=>e=.returned (.tuple #[.slice (some ⟨w.heap.size,0,none⟩) n n,.bool true])∧bz T w.heap.size (cC n)∧aa w T:=by
 obtain⟨Z,z,ab,ad,am⟩:=info_parts gM
 go_enter Tryz.func102,Tryz.ntmps102
 go_wp2_with (first
  |(at_make;refine wpList_make_full _ rfl _ _ 22 rfl w.heap.size 3 Z (.int .i64 0) 1 Tryz.underlying22 z ab ad .i64 .i64 (n:Int) (n:Int) n rfl rfl rfl rfl (by rw[am];omega) (by unfold maxLen;omega) (by simp) ?_;intro w1 S t)
  |fail)
 have U:=Lib.hid (qn S)
 have O:aa w w1:=⟨t.os,t.tape,t.output,t.size,fun i hi=>t.block i hi (by simp)⟩
 have W:=Lib.hid O
 clear S t O
 go_loopg [5,16] n (fun gk t t wr=>∃(d:Nat) (q:List Int),d+gk=n∧t=.int .i64 (d:Int)∧q.length=n∧(∀(j:Nat) (x:Int),j<d→q[j]?=some x→x=(j:Int))∧bz wr w.heap.size q∧ae (fun k=>k=w.heap.size) w1 wr)
 case atStart=>exact⟨0,_,by omega,rfl,by simp,fun j x z=>by omega,U.out,ae.refl _ _⟩
 case round=>
  obtain⟨d,q,av,rfl,S,T,t,O⟩:=hrel;have E:=Lib.hid t;have K:=Lib.hid O;have s:=Lib.hid S;have L:=Lib.hid T;clear t O S T;by_cases J:d<n
  ·obtain⟨y,A⟩:∃b,q[d]?=some b:=⟨_,List.getElem?_eq_getElem (by rw[s.out];exact J)⟩;have t:=E.out.cell A;have t:=E.out.frozen d;clear A;go_wp2_with fail
   go_roundg (gk-1)
   case rel=>
    refine⟨d+1,q.set d (d:Int),by omega,by simp,by rw[List.length_set,s.out],fun j x z I=>?_,E.out.set d _ (by rw[s.out];exact J),K.out.setCell (p:=⟨w.heap.size,d,none⟩) (.inl rfl) _⟩;by_cases e:j=d
    ·subst e;rw[List.getElem?_set_self (by rw[s.out];exact J)]at I;exact(Option.some.inj I).symm
    ·rw[List.getElem?_set_ne (fun h=>e h.symm)]at I;exact L.out j x (by omega) I
   case measure=>omega
  ·have N:q=cC n:=by
    apply List.ext_getElem?;intro j;by_cases z:j<n
    ·obtain⟨y,A⟩:∃b,q[j]?=some b:=⟨_,List.getElem?_eq_getElem (by rw[s.out];exact z)⟩;have:=L.out j y (by omega) A;rw[A,this];unfold cC;rw[List.getElem?_map,List.getElem?_range z];rfl
    ·rw[List.getElem?_eq_none (by rw[s.out];omega),List.getElem?_eq_none (by rw[iU];omega)]
   have q:=W.out.new K.out (fun k j=>by omega);have j:=E.out;rw[N]at j;have Y:=Lib.hid j;have X:=Lib.hid q;clear j q N;go_wp2_with fail
   go_ret2
   exact⟨rfl,Y.out,X.out⟩

def aZ:Nat→Nat
 |0=>1
 |n+1=>(n+1)*aZ n

theorem jr (n:Nat):0<aZ n:=by
 induction n with
 |zero=>decide
 |succ n j=>exact Nat.mul_pos (by omega) j

def gS:Nat→List Int→Nat→List Int
 |0,_,_=>[]
 |k+1,left,r=>left.getD (r / aZ k) 0::gS k (left.eraseIdx (r / aZ k)) (r%aZ k)

def bo (n r:Nat):List Int:=gS n (cC n) r

theorem xM:∀(k:Nat) (left:List Int) (r:Nat),(gS k left r).length=k:=by
 intro k;induction k with
 |zero=>intro left r;rfl
 |succ k j=>intro left r;show(gS k _ _).length+1=_;rw[j]

theorem gm (n r:Nat):(bo n r).length=n:=xM n _ r

theorem xO:((List.range 6).all fun n=>(List.range (aZ n)).all fun r=>aA (bo n r))=true:=by kernel_rfl

theorem kL {n r:Nat}(j:n≤5)(q:r<aZ n):aA (bo n r)=true:=by
 have h:=xO;rw[List.all_eq_true]at h;have j:=h n (List.mem_range.2 (by omega));rw[List.all_eq_true]at j;exact j r (List.mem_range.2 q)

def bY (j:List Int→Nat)(n:Nat):Nat→List Int
 |0=>bo n 0
 |r+1=>if j (bo n (r+1))<j (bY j n r)then bo n (r+1)else bY j n r

def eE (j:List Int→Nat)(n:Nat):List Int:=bY j n (aZ n-1)

theorem ky (s:List Int→Nat)(n:Nat):∀r,∃k,k≤r∧bY s n r=bo n k:=by
 intro r;induction r with
 |zero=>exact⟨0,Nat.le_refl _,rfl⟩
 |succ r q=>
  obtain⟨k,s,j⟩:=q;unfold bY;split;·exact⟨r+1,Nat.le_refl _,rfl⟩
  ·exact⟨k,by omega,j⟩

theorem wU (j:List Int→Nat)(n:Nat):∀r k,k≤r→j (bY j n r)≤j (bo n k):=by
 intro r;induction r with
 |zero=>intro k j;rw[show k=0 by omega];exact Nat.le_refl _
 |succ r s=>
  intro k j;unfold bY;by_cases q:k=r+1
  ·subst q;split;·exact Nat.le_refl _
   ·omega
  ·have:=s k (by omega);split<;>omega

theorem pn (j:List Int→Nat){n:Nat}(s:n≤5):aA (eE j n)=true∧(eE j n).length=n:=by
 obtain⟨k,t,q⟩:=ky j n (aZ n-1);have:=jr n;unfold eE;rw[q];exact⟨kL s (by omega),gm n k⟩

end Go.Proofs.YtafkamlhimkbmaaGreat
