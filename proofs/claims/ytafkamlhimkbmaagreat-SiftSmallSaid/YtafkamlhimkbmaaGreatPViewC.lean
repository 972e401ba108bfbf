/-
  order.Order: Vars, Perm, Var, Level, Swap.
-/
import Derived.Test.YtafkamlhimkbmaaGreatPOrderB
import Derived.BigRegion
namespace Go.Proofs.YtafkamlhimkbmaaGreat
set_option maxRecDepth 1000000
set_option maxHeartbeats 8000000
set_option linter.unusedSimpArgs false
set_option linter.unusedVariables false
open Go.RowKit

theorem bD.ne {w:World}{g q:Nat}{ps:List Int}{cs:Array Value}{t:Nat×Nat}(h:bD w g ps)(j:w.heap[q]?=some (.cells cs 117 t)):g≠q:=by
 obtain⟨q,s,_⟩:=h;intro e;subst e;rw[s]at j;have:=Option.some.inj j;injection this with _ j _;exact absurd j (by decide)

theorem bC.cells {F:Nat→Prop}{w:World}{j:Nat}{ps:List Int}(h:bC F w j ps):∃q A z t,w.cell? ⟨j,0,none⟩=some (.slice q ps.length A)∧w.cell? ⟨j,1,none⟩=some (.slice (some ⟨z,0,none⟩) ps.length t)∧aG w q ps:=by
 obtain⟨⟨q,A,z,t,qs,E,L,I,N,O⟩,_⟩:=h;refine⟨q,A,z,t,by rw[cell_of_row w j 0 _ _ _ E];rfl,by rw[cell_of_row w j 1 _ _ _ E];rfl,fun i x s=>?_⟩;obtain⟨j,J,K,_⟩:=I (fun e=>by rw[e]at s;simp at s);rw[J];exact K.ea i x s

theorem bC.le {F:Nat→Prop}{w:World}{j:Nat}{ps:List Int}(h:bC F w j ps):ps.length≤16:=(dm.1 h.perm).1

theorem kW {F:Nat→Prop}{w:World}{s:Nat}{ps:List Int}(h:bC F w s ps) :
  Calls Tryz.prog 99 #[.pointer (some ⟨s,0,none⟩)] w fun e w'=>e=.returned (.int .i64 (ps.length:Int))∧w=w':=by
 obtain⟨E,I,A,s,t,j,_⟩:=h.cells
 have z:=h.le
 obtain⟨n,q⟩:∃n,n=ps.length:=⟨_,rfl⟩
 rw[←q]at t j z ⊢
 clear h j q
 go_enter Tryz.func99,Tryz.ntmps99
 go_wp2
 go_ret
 exact⟨rfl,rfl⟩

theorem kV {F:Nat→Prop}{w:World}{q:Nat}{ps:List Int}(h:bC F w q ps) :
  Calls Tryz.prog 14 #[.pointer (some ⟨q,0,none⟩)] w fun e w'=>∃a cap,e=.returned (.slice a ps.length cap)∧iH w.heap.size w' a ps∧aa w w':=by
 obtain⟨L,N,E,q,A,s,hi⟩:=h.cells
 have J:=h.le
 have j:=fun q (E:aa w q)=>mc L N ps q (hi.U E) (by omega)
 obtain⟨n,t⟩:∃n,n=ps.length:=⟨_,rfl⟩
 rw[←t]at A s j ⊢
 have z:=Lib.hid j
 clear h s hi j J t
 go_enter Tryz.func14,Tryz.ntmps14
 go_wp2_with (first|(go_at_call 54;refine(z.out _ (by(exact kp))).mono ?_;rintro e w1 ⟨a,cap,rfl,K,I⟩)|fail)
 go_ret
 exact⟨a,cap,rfl,K,I⟩

def aq (ps:List Int)(i:Nat):List Int:=(ps.set i (ps.getD (i+1) 0)).set (i+1) (ps.getD i 0)

theorem ck (ps:List Int)(i:Nat):(aq ps i).length=ps.length:=by unfold aq;simp

theorem eG {ps:List Int}{i:Nat}(h:i+1<ps.length)(j:Nat):(aq ps i)[j]?=if j=i then ps[i+1]? else if j=i+1 then ps[i]? else ps[j]?:=by
 unfold aq;rw[List.getElem?_set,List.getElem?_set];have t:ps[i+1]?=some (ps.getD (i+1) 0):=by simp[List.getD,h]
 have z:ps[i]?=some (ps.getD i 0):=by simp[List.getD,show i<ps.length by omega]
 by_cases q:j=i
 ·subst q;rw[if_neg (by omega),if_pos rfl,if_pos (by omega),if_pos rfl,t]
 ·by_cases s:j=i+1
  ·subst s;rw[if_pos rfl,if_pos (by simpa using h),if_neg q,if_pos rfl,z]
  ·rw[if_neg (by omega),if_neg (by omega),if_neg q,if_neg s]

theorem AL {ps:List Int}{i:Nat}(h:i+1<ps.length)(x:Int):x∈aq ps i↔x∈ps:=by
 rw[List.mem_iff_getElem?,List.mem_iff_getElem?];constructor
 ·rintro⟨q,j⟩;rw[eG h]at j;split at j;·exact⟨_,j⟩
  ·split at j;·exact⟨_,j⟩
   ·exact⟨_,j⟩
 ·rintro⟨q,j⟩;by_cases s:q=i
  ·refine⟨i+1,?_⟩;rw[eG h,if_neg (by omega),if_pos rfl,←s];exact j
  ·by_cases t:q=i+1
   ·refine⟨i,?_⟩;rw[eG h,if_pos rfl,←t];exact j
   ·refine⟨q,?_⟩;rw[eG h,if_neg s,if_neg t];exact j

theorem iU {ps:List Int}(h:ps.Nodup){i j:Nat}{x:Int}(hi:ps[i]?=some x)(s:ps[j]?=some x):i=j:=by
 obtain⟨j,q⟩:=List.getElem?_eq_some_iff.1 hi;obtain⟨t,j⟩:=List.getElem?_eq_some_iff.1 s;exact(List.getElem_inj h).1 (q.trans j.symm)

theorem gy {ps:List Int}{i:Nat}(h:i+1<ps.length)(s:ar ps=true):ar (aq ps i)=true:=by
 obtain⟨t,z,A⟩:=dm.1 s;refine dm.2 ⟨by rw[ck];exact t,fun x E=>by rw[ck];exact z x ((AL h x).1 E),?_⟩;refine List.pairwise_iff_getElem.2 fun a b t z E e=>?_;have q:(aq ps i)[a]?=some (aq ps i)[a]:=List.getElem?_eq_getElem t;have j:(aq ps i)[b]?=some (aq ps i)[a]:=by rw[e];exact List.getElem?_eq_getElem z
 rw[eG h]at q j;have key:∀{p t:Nat},ps[p]?=some (aq ps i)[a]→ps[t]?=some (aq ps i)[a]→p=t:=fun s t=>iU A s t;split at q
 ·split at j;·omega
  ·split at j;·have:=key q j;omega
   ·have:=key q j;omega
 ·split at q
  ·split at j;·have:=key q j;omega
   ·split at j;·omega
    ·have:=key q j;omega
  ·split at j;·have:=key q j;omega
   ·split at j;·have:=key q j;omega
    ·have:=key q j;omega

theorem AK {ps qs:List Int}{i:Nat}{a b:Int}(h:i+1<ps.length)(J:ar ps=true)(K:ji ps qs)(q:ps[i]?=some a)(s:ps[i+1]?=some b) :
  ji (aq ps i) ((qs.set a.toNat ((i:Int)+1)).set b.toNat (i:Int)):=by
 obtain⟨O,t,z⟩:=dm.1 J
 obtain⟨I,N⟩:=K
 have J:=t a (List.mem_of_getElem? q)
 have J:=t b (List.mem_of_getElem? s)
 have J:a≠b:=fun e=>by subst e;have:=iU z q s;omega
 refine⟨by rw[List.length_set,List.length_set,ck,I],fun L x j=>?_⟩
 rw[eG h]at j
 rw[List.getElem?_set,List.getElem?_set]
 split at j
 ·rename_i A;rw[s]at j;cases j;rw[if_pos rfl,if_pos (by rw[List.length_set,I];omega),A]
 ·rename_i A;split at j
  ·rename_i E;rw[q]at j;cases j;rw[if_neg (by omega),if_pos rfl,if_pos (by rw[I];omega),E];push_cast;rfl
  ·rename_i E;have rx:=t x (List.mem_of_getElem? j);have t:x≠a:=fun e=>(by subst e;exact A (iU z j q));have q:x≠b:=fun e=>(by subst e;exact E (iU z j s));rw[if_neg (by omega),if_neg (by omega)];exact N L x j

theorem yo {F:Nat→Prop}{w:World}{t:Nat}{ps:List Int}(h:bC F w t ps)(lv:Nat)(I:lv+1<ps.length) :
  Calls Tryz.prog 250 #[.pointer (some ⟨t,0,none⟩),.int .i64 (lv:Int)] w fun e w'=>e=.returned (.int .u8 0)∧ae F w w'∧bC F w' t (aq ps lv):=by
 have H:=Lib.hid h
 have bs:=h.le
 obtain⟨⟨b1,be,j,a4,qs,z,K,ab,A,W⟩,ad,am,U⟩:=h
 obtain⟨s,rfl,E,Z,O⟩:=ab (fun e=>by rw[e]at I;simp at I)
 obtain⟨bw,X,a7⟩:=dm.1 U
 obtain⟨a,L⟩:∃b,ps[lv]?=some b:=⟨_,List.getElem?_eq_getElem (by omega)⟩
 obtain⟨b,N⟩:∃b,ps[lv+1]?=some b:=⟨_,List.getElem?_eq_getElem I⟩
 have a8:=X a (List.mem_of_getElem? L)
 have a':=X b (List.mem_of_getElem? N)
 have bt:a≠b:=fun e=>by subst e;have:=iU a7 L N;omega
 have a5:=E.ne z
 have a6:=A.ne z
 have bi:w.cell? ⟨t,0,none⟩=some (.slice (some ⟨s,0,none⟩) ps.length be):=by rw[cell_of_row w t 0 _ _ _ z];rfl
 have bn:w.cell? ⟨t,1,none⟩=some (.slice (some ⟨j,0,none⟩) ps.length a4):=by rw[cell_of_row w t 1 _ _ _ z];rfl
 have b1:=E.cell L
 have b1:=E.cell N
 have b1:=E.frozen lv
 have b1:=E.frozen (lv+1)
 obtain⟨q,rfl⟩:∃q:Nat,a=(q:Int):=⟨a.toNat,by omega⟩
 obtain⟨B,rfl⟩:∃B:Nat,b=(B:Int):=⟨b.toNat,by omega⟩
 obtain⟨b1,a1⟩:∃b,qs[q]?=some b:=⟨_,List.getElem?_eq_getElem (by rw[K.1];omega)⟩
 obtain⟨b1,a2⟩:∃b,qs[B]?=some b:=⟨_,List.getElem?_eq_getElem (by rw[K.1];omega)⟩
 have b1:=A.cell a1
 have b1:=A.cell a2
 have b1:=A.frozen q
 have b1:=A.frozen B
 have b1:q≠B:=by omega
 have av:∀d W',W'=(((((w.drewN d).setCell ⟨s,lv,none⟩ (.int .i64 (B:Int))).setCell ⟨s,lv+1,none⟩ (.int .i64 (q:Int))).setCell ⟨j,q,none⟩ (.int .i64 ((lv:Int)+1))).setCell ⟨j,B,none⟩ (.int .i64 (lv:Int))).drew→ae F w W'∧bC F W' t (aq ps lv):=by
  rintro d W' rfl;have S:aa w (w.drewN d):=(aa.refl w).drewN d;obtain⟨w0,bv⟩:∃w0,w0=w.drewN d:=⟨_,rfl⟩;rw[←bv]at S ⊢;replace E:=E.U S;replace A:=A.U S;replace z:=S.heap z;have T:ae (fun k=>k=s) w0 ((w0.setCell ⟨s,lv,none⟩ (.int .i64 (B:Int))).setCell ⟨s,lv+1,none⟩ (.int .i64 (q:Int))):=ae.setCell (F:=fun k=>k=s) (p:=⟨s,lv+1,none⟩) (ae.setCell (F:=fun k=>k=s) (p:=⟨s,lv,none⟩) (ae.refl _ _) (.inl rfl) _) (.inl rfl) _;obtain⟨J,a3⟩:∃J,J=(w0.setCell ⟨s,lv,none⟩ (.int .i64 (B:Int))).setCell ⟨s,lv+1,none⟩ (.int .i64 (q:Int)):=⟨_,rfl⟩
  have bx:bD J s (aq ps lv):=by
   rw[a3];unfold aq;have bp:ps.getD (lv+1) 0=(B:Int):=(by simp[List.getD,N]);have bq:ps.getD lv 0=(q:Int):=(by simp[List.getD,L]);rw[bp,bq];exact(E.set lv (B:Int) (by omega)).set (lv+1) (q:Int) (by simpa using I)
  rw[←a3]at T ⊢
  have b0:bD ((J.setCell ⟨j,q,none⟩ (.int .i64 ((lv:Int)+1))).setCell ⟨j,B,none⟩ (.int .i64 (lv:Int))) j ((qs.set q ((lv:Int)+1)).set B (lv:Int)):=
   ((A.a5 T (fun e=>O e.symm)).set q _ (by rw[K.1];omega)).set B _ (by rw[List.length_set,K.1];omega)
  have Y:ae (fun k=>k=j) J ((J.setCell ⟨j,q,none⟩ (.int .i64 ((lv:Int)+1))).setCell ⟨j,B,none⟩ (.int .i64 (lv:Int))):=ae.setCell (F:=fun k=>k=j) (p:=⟨j,B,none⟩) (ae.setCell (F:=fun k=>k=j) (p:=⟨j,q,none⟩) (ae.refl _ _) (.inl rfl) _) (.inl rfl) _;have bb:=(S.av F).a' ((T.mono (G:=F) (fun k _ e=>by subst e;exact Z)).a' (Y.mono (G:=F) (fun k _ e=>by subst e;exact W)))
  have br:bC F ((J.setCell ⟨j,q,none⟩ (.int .i64 ((lv:Int)+1))).setCell ⟨j,B,none⟩ (.int .i64 (lv:Int))) t (aq ps lv):=by
   refine⟨⟨some ⟨s,0,none⟩,be,j,a4,_,?_,AK I U K L N,fun _=>⟨s,rfl,bx.a5 Y O,Z,O⟩,b0,W⟩,ad,fun k J=>by have:=am k J;have:=bb.size;omega,gy I U⟩;rw[ck];have J:=T.block t (aN z) (fun e=>a5 e.symm);have S:=Y.block t (by have:=T.size;have:=aN z;omega) (fun e=>a6 e.symm);rw[S,J];exact z
  exact⟨bb.drew,br.U (aa.refl _).drew⟩
 have bg:=Lib.hid av
 obtain⟨n,aw⟩:∃n,n=ps.length:=⟨_,rfl⟩
 rw[←aw]at bi bn bs I a8 a'
 have I:q<n:=by omega
 have q:B<n:=by omega
 have q:s≠j:=O
 have q:j≠s:=fun e=>O e.symm
 have q:t≠s:=fun e=>a5 e.symm
 have q:t≠j:=fun e=>a6 e.symm
 clear H z K ab A W ad am U E Z O bw X a7 L N a8 a' bt a1 a2 av aw
 go_enter Tryz.func250,Tryz.ntmps250
 go_wp2_with fail
 go_quiet (fail)
 go_wp2_with fail
 go_region
 go_wp2_with fail
 go_region
 go_wp2_with fail
 go_ret
 exact⟨rfl,bg.out _ _ rfl⟩

theorem k7:∀(R ps:List Int),R.Nodup→(∀x∈R,x∈ps)→ps.length≤R.length→ps.Perm R:=by
 intro R;induction R with
 |nil=>
  intro ps _ _ j;rw[List.length_nil,Nat.le_zero,List.length_eq_zero_iff]at j;rw[j]
 |cons x R E=>
  intro ps q t j;rw[List.nodup_cons]at q;have A:=t x (by simp);have s:=List.perm_cons_erase A;refine s.trans (List.Perm.cons x (E _ q.2 (fun y z=>?_) ?_))
  ·have A:y≠x:=fun e=>q.1 (e ▸ z);exact(List.mem_erase_of_ne A).2 (t y (by simp[z]))
  ·have:=s.length_eq;simp at this j;omega

def du (n:Nat):List Int:=(List.range n).map (fun i:Nat=>(i:Int))

theorem iV (n:Nat):(du n).length=n:=by unfold du;simp

theorem fG {n:Nat}{x:Int}:x∈du n↔0≤x∧x<(n:Int):=by
 unfold du;rw[List.mem_map];constructor
 ·rintro⟨a,j,rfl⟩;rw[List.mem_range]at j;omega
 ·intro h;exact⟨x.toNat,by rw[List.mem_range];omega,by omega⟩

theorem mU (n:Nat):(du n).Nodup:=by
 unfold du;exact List.Pairwise.map _ (fun a b (h:a≠b) e=>h (by omega)) List.nodup_range

theorem kY {ps:List Int}:ar ps=true↔(ps.length≤16∧ps.Perm (du ps.length)):=by
 rw[dm];constructor
 ·rintro⟨q,j,t⟩;exact⟨q,(k7 ps (du ps.length) t (fun x s=>fG.2 (j x s)) (by rw[iV];omega)).symm⟩
 ·rintro⟨q,j⟩;exact⟨q,fun x s=>fG.1 (j.mem_iff.1 s),j.nodup_iff.2 (mU _)⟩

theorem yH {ps:List Int}(j:ps.length≤16):ar ps=true↔∀i:Nat,i<ps.length→ps.count (i:Int)=1:=by
 rw[kY];constructor
 ·rintro⟨_,h⟩ i hi;rw[h.count_eq,(mU _).count,if_pos (fG.2 (by omega))]
 ·intro h;refine⟨j,k7 _ _ (mU _) (fun x q=>?_) (by rw[iV];omega)⟩;obtain⟨j,s⟩:=fG.1 q;have:=h x.toNat (by omega);rw[show((x.toNat:Nat):Int)=x by omega]at this;exact List.count_pos_iff.1 (by omega)

theorem nn (a:Option Addr)(cap:Nat)(ps:List Int)(w:World)(h:aG w a ps)(X:ps.length≤16) :
  Calls Tryz.prog 9 #[.slice a ps.length cap] w fun e w'=>e=.returned (.bool (ar ps))∧w=w':=by
 have I:=yH X
 obtain⟨q,E⟩:∃q,q=ps.length:=⟨_,rfl⟩
 rw[←E]at X I ⊢
 have H:=Lib.hid h
 have S:=Lib.hid E
 have L:=Lib.hid I
 clear h E I
 go_enter Tryz.func9,Tryz.ntmps9
 go_wp2
 go_loopg [3,4,5] q (fun gk E Z ab wr=>∃(d:Nat),E=.int .i64 (d:Int)∧d+gk=q∧(∀i:Nat,i<d→ps.count (i:Int)=1)∧w=wr)
 case atStart=>exact⟨0,rfl,by omega,fun i hi=>by omega,rfl⟩
 case round=>
  obtain⟨d,rfl,a5,s,rfl⟩:=hrel;have K:=Lib.hid s;obtain⟨av,W⟩:∃g,g=gk:=⟨_,rfl⟩;have O:=Lib.hid W;clear s W;by_cases a3:d<q
  ·go_wp2_with fail
   go_loopg [4,5] q (fun gk Z ab E=>∃(j c:Nat),ab=.int .i64 (j:Int)∧Z=.int .i64 (c:Int)∧j+gk=q∧c=(ps.take j).count (d:Int)∧c≤j∧w=E)
   case atStart=>exact⟨0,0,rfl,rfl,by omega,by simp,by omega,rfl⟩
   case round=>
    obtain⟨j,c,rfl,rfl,a6,T,a4,rfl⟩:=hrel;have A:=Lib.hid T;clear T;by_cases a2:j<q
    ·obtain⟨x,J⟩:∃b,ps[j]?=some b:=⟨_,List.getElem?_eq_getElem (by rw[←S.out];exact a2)⟩;obtain⟨b,off,rfl,q⟩:=H.out j x J;have t:=fJ J;have z:=Lib.hid t;clear J t;by_cases Y:x=(d:Int)
     ·subst Y;go_wp2_with fail
      go_roundg (gk-1)
      case rel=>exact⟨j+1,c+1,by simp,by simp,by omega,by rw[z.out,List.count_append,A.out];simp,by omega,rfl⟩
      case measure=>omega
     ·go_wp2_with fail
      go_roundg (gk-1)
      case rel=>exact⟨j+1,c,by simp,rfl,by omega,by rw[z.out,List.count_append,A.out];simp[Y],by omega,rfl⟩
      case measure=>omega
    ·have j:c=ps.count (d:Int):=by
      rw[A.out,List.take_of_length_le (by rw[←S.out];omega)]
     have N:=Lib.hid j;clear j;by_cases aw:c=1
     ·subst aw
      have s:∀i:Nat,i<d+1→ps.count (i:Int)=1:=fun i hi=>by
       by_cases e:i=d;·subst e;exact N.out.symm
       ·exact K.out i (by omega)
      have ad:=Lib.hid s;clear s;go_wp2_with fail
      go_roundg (av-1)
      case rel=>exact⟨d+1,by simp,by have:=O.out;omega,ad.out,rfl⟩
      case measure=>have:=O.out;omega
     ·have U:ar ps=false:=by
       cases a1:ar ps with
       |false=>rfl
       |true=>have:=L.out.1 a1 d a3;have:=N.out;omega
      have am:=Lib.hid U;have j:((c:Int) != 1)=true:=(by simp;omega);clear U;go_wp2_with fail
      go_ret
      exact⟨by rw[am.out];rfl,rfl⟩
  ·have t:ar ps=true:=L.out.2 (fun i hi=>K.out i (by omega));have z:=Lib.hid t;clear t;go_wp2_with fail
   go_ret
   exact⟨by rw[z.out];simp;omega,rfl⟩

theorem uL (q:Nat)(l n:Int)(v:Edge)(w:World)(A:n≤16)(E:q<w.heap.size)
  (s:∀j,aa w j→Calls Tryz.prog 48 #[.pointer (some ⟨q,0,none⟩)] j fun e w'=>e=.returned (.int .i64 n)∧j=w')
  (z:l<0)
  : Calls Tryz.prog 269 #[.pointer (some ⟨q,0,none⟩),.agg #[.int .u8 v.tag,.int .u32 v.to],.int .i64 l] w fun e w'=>e=.returned (.tuple #[.agg #[.int .u8 0,.int .u32 0],.agg #[.int .u8 0,.int .u32 0],.int .u8 3])∧aa w w':=by
 have t:=Lib.hid s
 clear s
 go_enter Tryz.func269,Tryz.ntmps269
 go_wp2_with (first|(go_at_call 48;refine(t.out _ (by(exact kp))).mono ?_;rintro e w' ⟨rfl,rfl⟩)|fail)
 go_region
 all_goals go_wp2
 all_goals refine bodyPost_ret (v:=.tuple #[.agg #[.int .u8 0,.int .u32 0],.agg #[.int .u8 0,.int .u32 0],.int .u8 3]) (by simp[results,Tryz.results269,go_sem]) rfl ⟨rfl,by(exact kp)⟩

theorem uI (q:Nat)(l n:Int)(v:Edge)(w:World)(E:n≤16)(I:q<w.heap.size)
  (s:∀j,aa w j→Calls Tryz.prog 48 #[.pointer (some ⟨q,0,none⟩)] j fun e w'=>e=.returned (.int .i64 n)∧j=w')
  (z:0≤l) (A:n≤l)
  : Calls Tryz.prog 269 #[.pointer (some ⟨q,0,none⟩),.agg #[.int .u8 v.tag,.int .u32 v.to],.int .i64 l] w fun e w'=>e=.returned (.tuple #[.agg #[.int .u8 0,.int .u32 0],.agg #[.int .u8 0,.int .u32 0],.int .u8 3])∧aa w w':=by
 have t:=Lib.hid s
 clear s
 go_enter Tryz.func269,Tryz.ntmps269
 go_wp2_with (first|(go_at_call 48;refine(t.out _ (by(exact kp))).mono ?_;rintro e w' ⟨rfl,rfl⟩)|fail)
 go_region
 all_goals go_wp2
 all_goals refine bodyPost_ret (v:=.tuple #[.agg #[.int .u8 0,.int .u32 0],.agg #[.int .u8 0,.int .u32 0],.int .u8 3]) (by simp[results,Tryz.results269,go_sem]) rfl ⟨rfl,by(exact kp)⟩

theorem uM (s:Nat)(l n:Int)(v:Edge)(w:World)(W:n≤16)(X:s<w.heap.size)
  (z:∀q,aa w q→Calls Tryz.prog 48 #[.pointer (some ⟨s,0,none⟩)] q fun e w'=>e=.returned (.int .i64 n)∧q=w')
  (T:0≤l) (U:l<n)
  (t:∀q,aa w q→Calls Tryz.prog 134 #[.pointer (some ⟨s,0,none⟩),.int .u8 3,.agg #[.int .u8 v.tag,.int .u32 v.to],.int .i64 l] q fun e w'=>e=.returned (.bool false)∧aa q w')
  : Calls Tryz.prog 269 #[.pointer (some ⟨s,0,none⟩),.agg #[.int .u8 v.tag,.int .u32 v.to],.int .i64 l] w fun e w'=>e=.returned (.tuple #[.agg #[.int .u8 0,.int .u32 0],.agg #[.int .u8 0,.int .u32 0],.int .u8 1])∧aa w w':=by
 have E:=Lib.hid z
 clear z
 have A:=Lib.hid t
 clear t
 go_enter Tryz.func269,Tryz.ntmps269
 go_wp2_with (first|(go_at_call 48;refine(E.out _ (by(exact kp))).mono ?_;rintro e w' ⟨rfl,rfl⟩)|fail)
 (go_at_call 134;refine(A.out _ (by(exact kp))).mono ?_;rintro e w1 ⟨rfl,j⟩;have I:=j.size;simp only[World.size_alloc]at I;have q:w.heap.size<w1.heap.size:=(by omega);have J:w.heap.size+1<w1.heap.size:=(by omega);have K:w.heap.size+2<w1.heap.size:=(by omega);have q:=j.cell (a:=⟨w.heap.size,0,none⟩) (v:=.int .u8 v.tag) (by simp[go_sem]);have q:=j.cell (a:=⟨w.heap.size,1,none⟩) (v:=.int .u32 v.to) (by simp[go_sem]);have L:=j.cell (a:=⟨w.heap.size+1,0,none⟩) (v:=.int .u8 0) (by simp[go_sem]);have N:=j.cell (a:=⟨w.heap.size+1,1,none⟩) (v:=.int .u32 0) (by simp[go_sem]);have O:=j.cell (a:=⟨w.heap.size+2,0,none⟩) (v:=.int .u8 0) (by simp[go_sem]);have S:=j.cell (a:=⟨w.heap.size+2,1,none⟩) (v:=.int .u32 0) (by simp[go_sem]);have q:=fun o:Nat=>j.a2 (a:=⟨w.heap.size+1,o,none⟩) (by simp[go_sem]) (by simp[go_sem]);have q:=fun o:Nat=>j.a2 (a:=⟨w.heap.size+2,o,none⟩) (by simp[go_sem]) (by simp[go_sem]);have j:aa w w1:=(by(exact kp)))
 go_wp2_with fail
 go_region
 all_goals go_wp2
 all_goals refine bodyPost_ret (v:=.tuple #[.agg #[.int .u8 0,.int .u32 0],.agg #[.int .u8 0,.int .u32 0],.int .u8 1]) (by simp[results,Tryz.results269,go_sem,J,K,L,N,O,S]) rfl ⟨rfl,by(exact kp)⟩

theorem uN (t:Nat)(l n:Int)(v:Edge)(x:Rec)(w:World)(a2:n≤16)(a3:t<w.heap.size)
  (N:∀j,aa w j→Calls Tryz.prog 48 #[.pointer (some ⟨t,0,none⟩)] j fun e w'=>e=.returned (.int .i64 n)∧j=w')
  (aw:0≤l) (a1:l<n)
  (L:∀j,aa w j→Calls Tryz.prog 134 #[.pointer (some ⟨t,0,none⟩),.int .u8 3,.agg #[.int .u8 v.tag,.int .u32 v.to],.int .i64 l] j fun e w'=>e=.returned (.bool true)∧aa j w')
  (K:∀j,aa w j→Calls Tryz.prog 78 #[.pointer (some ⟨t,0,none⟩),.int .u32 v.to] j fun e w'=>e=.returned (.tuple #[.agg #[.int .u8 x.ad,.int .u8 x.I,.int .u8 x.J,.int .u8 x.lo.tag,.int .u32 x.lo.to,.int .u8 x.hi.tag,.int .u32 x.hi.to],.bool false])∧aa j w')
  : Calls Tryz.prog 269 #[.pointer (some ⟨t,0,none⟩),.agg #[.int .u8 v.tag,.int .u32 v.to],.int .i64 l] w fun e w'=>e=.returned (.tuple #[.agg #[.int .u8 v.tag,.int .u32 v.to],.agg #[.int .u8 v.tag,.int .u32 v.to],.int .u8 0])∧aa w w':=by
 have ab:=Lib.hid N
 clear N
 have Z:=Lib.hid L
 clear L
 have Y:=Lib.hid K
 clear K
 go_enter Tryz.func269,Tryz.ntmps269
 go_wp2_with (first|(go_at_call 48;refine(ab.out _ (by(exact kp))).mono ?_;rintro e w' ⟨rfl,rfl⟩)|fail)
 (go_at_call 134;refine(Z.out _ (by(exact kp))).mono ?_;rintro e w1 ⟨rfl,s⟩;have am:=s.size;simp only[World.size_alloc]at am;have av:w.heap.size<w1.heap.size:=(by omega);have O:w.heap.size+1<w1.heap.size:=(by omega);have S:w.heap.size+2<w1.heap.size:=(by omega);have U:=s.cell (a:=⟨w.heap.size,0,none⟩) (v:=.int .u8 v.tag) (by simp[go_sem]);have W:=s.cell (a:=⟨w.heap.size,1,none⟩) (v:=.int .u32 v.to) (by simp[go_sem]);have A:=s.cell (a:=⟨w.heap.size+1,0,none⟩) (v:=.int .u8 0) (by simp[go_sem]);have E:=s.cell (a:=⟨w.heap.size+1,1,none⟩) (v:=.int .u32 0) (by simp[go_sem]);have I:=s.cell (a:=⟨w.heap.size+2,0,none⟩) (v:=.int .u8 0) (by simp[go_sem]);have J:=s.cell (a:=⟨w.heap.size+2,1,none⟩) (v:=.int .u32 0) (by simp[go_sem]);have T:=fun o:Nat=>s.a2 (a:=⟨w.heap.size+1,o,none⟩) (by simp[go_sem]) (by simp[go_sem]);have X:=fun o:Nat=>s.a2 (a:=⟨w.heap.size+2,o,none⟩) (by simp[go_sem]) (by simp[go_sem]);have ad:aa w w1:=(by(exact kp)))
 go_wp2_with fail
 (go_at_call 78;refine(Y.out _ (by(exact kp))).mono ?_;rintro e z ⟨rfl,q⟩;have j:=q.size;have T:=fun o:Nat=>q.a2 (a:=⟨w.heap.size+1,o,none⟩) (by dsimp only;omega) (T o);have X:=fun o:Nat=>q.a2 (a:=⟨w.heap.size+2,o,none⟩) (by dsimp only;omega) (X o);have U:=q.cell U;have W:=q.cell W;have A:=q.cell A;have E:=q.cell E;have I:=q.cell I;have J:=q.cell J;have av:w.heap.size<z.heap.size:=(by omega);have O:w.heap.size+1<z.heap.size:=(by omega);have S:w.heap.size+2<z.heap.size:=(by omega);have j:aa w z:=ad.trans q)
 go_wp2_with fail
 go_region
 all_goals go_wp2
 all_goals refine bodyPost_ret (v:=.tuple #[.agg #[.int .u8 v.tag,.int .u32 v.to],.agg #[.int .u8 v.tag,.int .u32 v.to],.int .u8 0]) (by simp[results,Tryz.results269,go_sem,O,S,A,E,I,J]) rfl ⟨rfl,by(exact kp)⟩

theorem uO (t:Nat)(l n:Int)(v:Edge)(x:Rec)(w:World)(a2:n≤16)(a3:t<w.heap.size)
  (N:∀j,aa w j→Calls Tryz.prog 48 #[.pointer (some ⟨t,0,none⟩)] j fun e w'=>e=.returned (.int .i64 n)∧j=w')
  (aw:0≤l) (a1:l<n)
  (L:∀j,aa w j→Calls Tryz.prog 134 #[.pointer (some ⟨t,0,none⟩),.int .u8 3,.agg #[.int .u8 v.tag,.int .u32 v.to],.int .i64 l] j fun e w'=>e=.returned (.bool true)∧aa j w')
  (a4:l<x.I) (a5:0≤x.I) (a6:x.I≤255) (a7:0≤x.J) (a8:x.J≤255)
  (K:∀j,aa w j→Calls Tryz.prog 78 #[.pointer (some ⟨t,0,none⟩),.int .u32 v.to] j fun e w'=>e=.returned (.tuple #[.agg #[.int .u8 x.ad,.int .u8 x.I,.int .u8 x.J,.int .u8 x.lo.tag,.int .u32 x.lo.to,.int .u8 x.hi.tag,.int .u32 x.hi.to],.bool true])∧aa j w')
  : Calls Tryz.prog 269 #[.pointer (some ⟨t,0,none⟩),.agg #[.int .u8 v.tag,.int .u32 v.to],.int .i64 l] w fun e w'=>e=.returned (.tuple #[.agg #[.int .u8 v.tag,.int .u32 v.to],.agg #[.int .u8 v.tag,.int .u32 v.to],.int .u8 0])∧aa w w':=by
 have ab:=Lib.hid N
 clear N
 have Z:=Lib.hid L
 clear L
 have Y:=Lib.hid K
 clear K
 go_enter Tryz.func269,Tryz.ntmps269
 go_wp2_with (first|(go_at_call 48;refine(ab.out _ (by(exact kp))).mono ?_;rintro e w' ⟨rfl,rfl⟩)|fail)
 (go_at_call 134;refine(Z.out _ (by(exact kp))).mono ?_;rintro e w1 ⟨rfl,s⟩;have am:=s.size;simp only[World.size_alloc]at am;have av:w.heap.size<w1.heap.size:=(by omega);have O:w.heap.size+1<w1.heap.size:=(by omega);have S:w.heap.size+2<w1.heap.size:=(by omega);have U:=s.cell (a:=⟨w.heap.size,0,none⟩) (v:=.int .u8 v.tag) (by simp[go_sem]);have W:=s.cell (a:=⟨w.heap.size,1,none⟩) (v:=.int .u32 v.to) (by simp[go_sem]);have A:=s.cell (a:=⟨w.heap.size+1,0,none⟩) (v:=.int .u8 0) (by simp[go_sem]);have E:=s.cell (a:=⟨w.heap.size+1,1,none⟩) (v:=.int .u32 0) (by simp[go_sem]);have I:=s.cell (a:=⟨w.heap.size+2,0,none⟩) (v:=.int .u8 0) (by simp[go_sem]);have J:=s.cell (a:=⟨w.heap.size+2,1,none⟩) (v:=.int .u32 0) (by simp[go_sem]);have T:=fun o:Nat=>s.a2 (a:=⟨w.heap.size+1,o,none⟩) (by simp[go_sem]) (by simp[go_sem]);have X:=fun o:Nat=>s.a2 (a:=⟨w.heap.size+2,o,none⟩) (by simp[go_sem]) (by simp[go_sem]);have ad:aa w w1:=(by(exact kp)))
 go_wp2_with fail
 (go_at_call 78;refine(Y.out _ (by(exact kp))).mono ?_;rintro e z ⟨rfl,q⟩;have j:=q.size;have T:=fun o:Nat=>q.a2 (a:=⟨w.heap.size+1,o,none⟩) (by dsimp only;omega) (T o);have X:=fun o:Nat=>q.a2 (a:=⟨w.heap.size+2,o,none⟩) (by dsimp only;omega) (X o);have U:=q.cell U;have W:=q.cell W;have A:=q.cell A;have E:=q.cell E;have I:=q.cell I;have J:=q.cell J;have av:w.heap.size<z.heap.size:=(by omega);have O:w.heap.size+1<z.heap.size:=(by omega);have S:w.heap.size+2<z.heap.size:=(by omega);have j:aa w z:=ad.trans q)
 go_wp2_with fail
 go_region
 all_goals go_wp2
 all_goals refine bodyPost_ret (v:=.tuple #[.agg #[.int .u8 v.tag,.int .u32 v.to],.agg #[.int .u8 v.tag,.int .u32 v.to],.int .u8 0]) (by simp[results,Tryz.results269,go_sem,O,S,A,E,I,J]) rfl ⟨rfl,by(exact kp)⟩

theorem uH (t:Nat)(l n:Int)(v:Edge)(x:Rec)(w:World)(a2:n≤16)(a3:t<w.heap.size)
  (N:∀j,aa w j→Calls Tryz.prog 48 #[.pointer (some ⟨t,0,none⟩)] j fun e w'=>e=.returned (.int .i64 n)∧j=w')
  (aw:0≤l) (a1:l<n)
  (L:∀j,aa w j→Calls Tryz.prog 134 #[.pointer (some ⟨t,0,none⟩),.int .u8 3,.agg #[.int .u8 v.tag,.int .u32 v.to],.int .i64 l] j fun e w'=>e=.returned (.bool true)∧aa j w')
   (a4:0≤x.I) (a5:x.I≤255) (a6:0≤x.J) (a7:x.J≤255)
  (K:∀j,aa w j→Calls Tryz.prog 78 #[.pointer (some ⟨t,0,none⟩),.int .u32 v.to] j fun e w'=>e=.returned (.tuple #[.agg #[.int .u8 x.ad,.int .u8 l,.int .u8 l,.int .u8 x.lo.tag,.int .u32 x.lo.to,.int .u8 x.hi.tag,.int .u32 x.hi.to],.bool true])∧aa j w')
  : Calls Tryz.prog 269 #[.pointer (some ⟨t,0,none⟩),.agg #[.int .u8 v.tag,.int .u32 v.to],.int .i64 l] w fun e w'=>e=.returned (.tuple #[.agg #[.int .u8 x.lo.tag,.int .u32 x.lo.to],.agg #[.int .u8 x.hi.tag,.int .u32 x.hi.to],.int .u8 0])∧aa w w':=by
 have ab:=Lib.hid N
 clear N
 have Z:=Lib.hid L
 clear L
 have Y:=Lib.hid K
 clear K
 go_enter Tryz.func269,Tryz.ntmps269
 go_wp2_with (first|(go_at_call 48;refine(ab.out _ (by(exact kp))).mono ?_;rintro e w' ⟨rfl,rfl⟩)|fail)
 (go_at_call 134;refine(Z.out _ (by(exact kp))).mono ?_;rintro e w1 ⟨rfl,s⟩;have am:=s.size;simp only[World.size_alloc]at am;have av:w.heap.size<w1.heap.size:=(by omega);have O:w.heap.size+1<w1.heap.size:=(by omega);have S:w.heap.size+2<w1.heap.size:=(by omega);have U:=s.cell (a:=⟨w.heap.size,0,none⟩) (v:=.int .u8 v.tag) (by simp[go_sem]);have W:=s.cell (a:=⟨w.heap.size,1,none⟩) (v:=.int .u32 v.to) (by simp[go_sem]);have A:=s.cell (a:=⟨w.heap.size+1,0,none⟩) (v:=.int .u8 0) (by simp[go_sem]);have E:=s.cell (a:=⟨w.heap.size+1,1,none⟩) (v:=.int .u32 0) (by simp[go_sem]);have I:=s.cell (a:=⟨w.heap.size+2,0,none⟩) (v:=.int .u8 0) (by simp[go_sem]);have J:=s.cell (a:=⟨w.heap.size+2,1,none⟩) (v:=.int .u32 0) (by simp[go_sem]);have T:=fun o:Nat=>s.a2 (a:=⟨w.heap.size+1,o,none⟩) (by simp[go_sem]) (by simp[go_sem]);have X:=fun o:Nat=>s.a2 (a:=⟨w.heap.size+2,o,none⟩) (by simp[go_sem]) (by simp[go_sem]);have ad:aa w w1:=(by(exact kp)))
 go_wp2_with fail
 (go_at_call 78;refine(Y.out _ (by(exact kp))).mono ?_;rintro e z ⟨rfl,q⟩;have j:=q.size;have T:=fun o:Nat=>q.a2 (a:=⟨w.heap.size+1,o,none⟩) (by dsimp only;omega) (T o);have X:=fun o:Nat=>q.a2 (a:=⟨w.heap.size+2,o,none⟩) (by dsimp only;omega) (X o);have U:=q.cell U;have W:=q.cell W;have A:=q.cell A;have E:=q.cell E;have I:=q.cell I;have J:=q.cell J;have av:w.heap.size<z.heap.size:=(by omega);have O:w.heap.size+1<z.heap.size:=(by omega);have S:w.heap.size+2<z.heap.size:=(by omega);have j:aa w z:=ad.trans q)
 go_wp2_with fail
 go_region
 all_goals go_wp2
 all_goals refine bodyPost_ret (v:=.tuple #[.agg #[.int .u8 x.lo.tag,.int .u32 x.lo.to],.agg #[.int .u8 x.hi.tag,.int .u32 x.hi.to],.int .u8 0]) (by simp[results,Tryz.results269,go_sem,O,S,A,E,I,J]) rfl ⟨rfl,by(exact kp)⟩

theorem uJ {F:Nat→Prop}(R:World→World→Prop)(O:Nat)(l n:Int)(v:Edge)(x:Rec)(a b:Int)(w:World)(bx:n≤16)(b0:O<w.heap.size)
  (a1:∀j,aa w j→Calls Tryz.prog 48 #[.pointer (some ⟨O,0,none⟩)] j fun e w'=>e=.returned (.int .i64 n)∧j=w')
  (bv:0≤l) (bw:l<n)
  (av:∀j,aa w j→Calls Tryz.prog 134 #[.pointer (some ⟨O,0,none⟩),.int .u8 3,.agg #[.int .u8 v.tag,.int .u32 v.to],.int .i64 l] j fun e w'=>e=.returned (.bool true)∧aa j w')
  (b5:¬x.J=l) (b1:0≤x.I) (b2:x.I≤255) (b3:0≤x.J) (b4:x.J≤255)
  (am:∀j,aa w j→Calls Tryz.prog 78 #[.pointer (some ⟨O,0,none⟩),.int .u32 v.to] j fun e w'=>e=.returned (.tuple #[.agg #[.int .u8 3,.int .u8 l,.int .u8 x.J,.int .u8 x.lo.tag,.int .u32 x.lo.to,.int .u8 x.hi.tag,.int .u32 x.hi.to],.bool true])∧aa j w')
  (aw:∀k,F k→k<w.heap.size) (ad:∀j,aa w j→Calls Tryz.prog 188 #[.pointer (some ⟨O,0,none⟩),.agg #[.int .u8 3,.int .u8 (l+1),.int .u8 x.J,.int .u8 x.lo.tag,.int .u32 x.lo.to,.int .u8 x.hi.tag,.int .u32 x.hi.to]] j fun e w'=>e=.returned (.tuple #[.agg #[.int .u8 a,.int .u32 b],.int .u8 0])∧ae F j w'∧R j w')
  : Calls Tryz.prog 269 #[.pointer (some ⟨O,0,none⟩),.agg #[.int .u8 v.tag,.int .u32 v.to],.int .i64 l] w fun e w'=>e=.returned (.tuple #[.agg #[.int .u8 a,.int .u32 b],.agg #[.int .u8 x.hi.tag,.int .u32 x.hi.to],.int .u8 0]) ∧ 
   ∃j Y,aa w j∧ae F j Y∧R j Y∧ae (fun k=>w.heap.size≤k∧k<j.heap.size) Y w':=by
 have a7:=Lib.hid a1
 clear a1
 have a6:=Lib.hid av
 clear av
 have a4:=Lib.hid ad
 have j:∀k,w.heap.size≤k→¬F k:=fun k W h=>by have:=aw k h;omega
 have Z:=j (w.heap.size+1) (by omega)
 have ab:=j (w.heap.size+2) (by omega)
 have O:=Lib.hid j
 clear ad aw j
 have a5:=Lib.hid am
 clear am
 go_enter Tryz.func269,Tryz.ntmps269
 go_wp2_with (first|(go_at_call 48;refine(a7.out _ (by(exact kp))).mono ?_;rintro e w' ⟨rfl,rfl⟩)|fail)
 (go_at_call 134;refine(a6.out _ (by(exact kp))).mono ?_;rintro e w1 ⟨rfl,z⟩;have be:=z.size;simp only[World.size_alloc]at be;have bp:w.heap.size<w1.heap.size:=(by omega);have E:w.heap.size+1<w1.heap.size:=(by omega);have I:w.heap.size+2<w1.heap.size:=(by omega);have a2:=z.cell (a:=⟨w.heap.size,0,none⟩) (v:=.int .u8 v.tag) (by simp[go_sem]);have a3:=z.cell (a:=⟨w.heap.size,1,none⟩) (v:=.int .u32 v.to) (by simp[go_sem]);have J:=z.cell (a:=⟨w.heap.size+1,0,none⟩) (v:=.int .u8 0) (by simp[go_sem]);have K:=z.cell (a:=⟨w.heap.size+1,1,none⟩) (v:=.int .u32 0) (by simp[go_sem]);have L:=z.cell (a:=⟨w.heap.size+2,0,none⟩) (v:=.int .u8 0) (by simp[go_sem]);have N:=z.cell (a:=⟨w.heap.size+2,1,none⟩) (v:=.int .u32 0) (by simp[go_sem]);have T:=fun o:Nat=>z.a2 (a:=⟨w.heap.size+1,o,none⟩) (by simp[go_sem]) (by simp[go_sem]);have U:=fun o:Nat=>z.a2 (a:=⟨w.heap.size+2,o,none⟩) (by simp[go_sem]) (by simp[go_sem]);have W:aa w w1:=(by(exact kp)))
 go_wp2_with fail
 (go_at_call 78;refine(a5.out _ (by(exact kp))).mono ?_;rintro e X ⟨rfl,s⟩;have j:=s.size;have T:=fun o:Nat=>s.a2 (a:=⟨w.heap.size+1,o,none⟩) (by dsimp only;omega) (T o);have U:=fun o:Nat=>s.a2 (a:=⟨w.heap.size+2,o,none⟩) (by dsimp only;omega) (U o);have a2:=s.cell a2;have a3:=s.cell a3;have J:=s.cell J;have K:=s.cell K;have L:=s.cell L;have N:=s.cell N;have bp:w.heap.size<X.heap.size:=(by omega);have E:w.heap.size+1<X.heap.size:=(by omega);have I:w.heap.size+2<X.heap.size:=(by omega);have j:aa w X:=W.trans s)
 go_wp2_with fail
 (go_at_call 188;refine(a4.out _ (by(exact kp))).mono ?_;rintro e S ⟨rfl,A,a8⟩;have a':=A.size;(try simp only[World.size_alloc,World.size_setCell,World.a3]at a');have J:=A.cell (a:=⟨w.heap.size+1,0,none⟩) Z (v:=.int .u8 0) (by simp[go_sem,E,I,J,K]);have K:=A.cell (a:=⟨w.heap.size+1,1,none⟩) Z (v:=.int .u32 0) (by simp[go_sem,E,I,J,K]);have L:=A.cell (a:=⟨w.heap.size+2,0,none⟩) ab (v:=.int .u8 x.hi.tag) (by simp[go_sem,E,I,L,N]);have N:=A.cell (a:=⟨w.heap.size+2,1,none⟩) ab (v:=.int .u32 x.hi.to) (by simp[go_sem,E,I,L,N]);have T:=fun o:Nat=>A.frozen (a:=⟨w.heap.size+1,o,none⟩) (by(try simp only[World.size_alloc,World.size_setCell,World.a3]);omega) Z (by(try simp only[World.frozen?_setCell,frozen?_alloc_cells]);exact T o);have U:=fun o:Nat=>A.frozen (a:=⟨w.heap.size+2,o,none⟩) (by(try simp only[World.size_alloc,World.size_setCell,World.a3]);omega) ab (by(try simp only[World.frozen?_setCell,frozen?_alloc_cells]);exact U o);have E:w.heap.size+1<S.heap.size:=(by omega);have I:w.heap.size+2<S.heap.size:=(by omega))
 go_wp2_with fail
 obtain⟨q,t⟩:∃q,q=((S.setCell ⟨w.heap.size+1,0,none⟩ (.int .u8 a)).setCell ⟨w.heap.size+1,1,none⟩ (.int .u32 b)):=⟨_,rfl⟩
 have bq:q.cell? ⟨w.heap.size+1,0,none⟩=some (.int .u8 a):=by rw[t];simp[go_sem,J,K,E]
 have br:q.cell? ⟨w.heap.size+1,1,none⟩=some (.int .u32 b):=by rw[t];simp[go_sem,J,K,E]
 have bs:q.cell? ⟨w.heap.size+2,0,none⟩=some (.int .u8 x.hi.tag):=by rw[t];simp[go_sem,L,N,I]
 have bt:q.cell? ⟨w.heap.size+2,1,none⟩=some (.int .u32 x.hi.to):=by rw[t];simp[go_sem,L,N,I]
 have j:∀o,q.frozen? ⟨w.heap.size+1,o,none⟩=false:=by intro o;rw[t];simp only[World.frozen?_setCell];exact T o
 have j:∀o,q.frozen? ⟨w.heap.size+2,o,none⟩=false:=by intro o;rw[t];simp only[World.frozen?_setCell];exact U o
 have bb:q.heap.size=S.heap.size:=by rw[t];simp only[World.size_setCell]
 have bg:ae (fun k=>w.heap.size≤k∧k<w.heap.size+3) S q:=by rw[t];exact((ae.refl _ _).setCell (Or.inl (by dsimp only;omega)) _).setCell (Or.inl (by dsimp only;omega)) _
 rw[←t]
 have bi:w.heap.size+1<q.heap.size:=by omega
 have bn:w.heap.size+2<q.heap.size:=by omega
 clear t J K L N T U bb
 go_region
 all_goals go_wp2
 all_goals refine bodyPost_ret (v:=.tuple #[.agg #[.int .u8 a,.int .u32 b],.agg #[.int .u8 x.hi.tag,.int .u32 x.hi.to],.int .u8 0]) (by simp[results,Tryz.results269,go_sem,bi,bn,bq,br,bs,bt]) rfl ⟨rfl,_,S,by(exact kp),A,a8,?_⟩
 all_goals(try simp only[World.size_alloc,World.size_setCell,World.a3])
 all_goals(repeat (first|with_reducible exact ae.refl _ _|exact ae.mono bg (fun k _ W=>⟨W.1,by(try simp only[World.size_alloc,World.size_setCell,World.a3]);have:=W.2;omega⟩)|refine ae.setCell ?_ (Or.inl (by dsimp only;omega)) _|refine ae.setCell ?_ (Or.inr (by dsimp only;omega)) _|with_reducible refine ae.drewN ?_ _|with_reducible refine ae.drew ?_|with_reducible refine ae.alloc ?_ _))

theorem uK {F:Nat→Prop}(R:World→World→Prop)(O:Nat)(l n:Int)(v:Edge)(x:Rec)(a b X:Int)(b0:X≠0)(w:World)(b1:n≤16)(b2:O<w.heap.size)
  (a2:∀j,aa w j→Calls Tryz.prog 48 #[.pointer (some ⟨O,0,none⟩)] j fun e w'=>e=.returned (.int .i64 n)∧j=w')
  (bw:0≤l) (bx:l<n)
  (aw:∀j,aa w j→Calls Tryz.prog 134 #[.pointer (some ⟨O,0,none⟩),.int .u8 3,.agg #[.int .u8 v.tag,.int .u32 v.to],.int .i64 l] j fun e w'=>e=.returned (.bool true)∧aa j w')
  (b7:¬x.J=l) (b3:0≤x.I) (b4:x.I≤255) (b5:0≤x.J) (b6:x.J≤255)
  (av:∀j,aa w j→Calls Tryz.prog 78 #[.pointer (some ⟨O,0,none⟩),.int .u32 v.to] j fun e w'=>e=.returned (.tuple #[.agg #[.int .u8 3,.int .u8 l,.int .u8 x.J,.int .u8 x.lo.tag,.int .u32 x.lo.to,.int .u8 x.hi.tag,.int .u32 x.hi.to],.bool true])∧aa j w')
  (a1:∀k,F k→k<w.heap.size) (am:∀j,aa w j→Calls Tryz.prog 188 #[.pointer (some ⟨O,0,none⟩),.agg #[.int .u8 3,.int .u8 (l+1),.int .u8 x.J,.int .u8 x.lo.tag,.int .u32 x.lo.to,.int .u8 x.hi.tag,.int .u32 x.hi.to]] j fun e w'=>e=.returned (.tuple #[.agg #[.int .u8 a,.int .u32 b],.int .u8 X])∧ae F j w'∧R j w')
  : Calls Tryz.prog 269 #[.pointer (some ⟨O,0,none⟩),.agg #[.int .u8 v.tag,.int .u32 v.to],.int .i64 l] w fun e w'=>e=.returned (.tuple #[.agg #[.int .u8 0,.int .u32 0],.agg #[.int .u8 0,.int .u32 0],.int .u8 X]) ∧ 
   ∃j Z,aa w j∧ae F j Z∧R j Z∧ae (fun k=>w.heap.size≤k∧k<j.heap.size) Z w':=by
 have a8:=Lib.hid a2
 clear a2
 have a7:=Lib.hid aw
 clear aw
 have a5:=Lib.hid am
 have j:∀k,w.heap.size≤k→¬F k:=fun k W h=>by have:=a1 k h;omega
 have ab:=j (w.heap.size+1) (by omega)
 have ad:=j (w.heap.size+2) (by omega)
 have O:=Lib.hid j
 clear am a1 j
 have a6:=Lib.hid av
 clear av
 go_enter Tryz.func269,Tryz.ntmps269
 go_wp2_with (first|(go_at_call 48;refine(a8.out _ (by(exact kp))).mono ?_;rintro e w' ⟨rfl,rfl⟩)|fail)
 (go_at_call 134;refine(a7.out _ (by(exact kp))).mono ?_;rintro e w1 ⟨rfl,z⟩;have bg:=z.size;simp only[World.size_alloc]at bg;have bq:w.heap.size<w1.heap.size:=(by omega);have E:w.heap.size+1<w1.heap.size:=(by omega);have I:w.heap.size+2<w1.heap.size:=(by omega);have a3:=z.cell (a:=⟨w.heap.size,0,none⟩) (v:=.int .u8 v.tag) (by simp[go_sem]);have a4:=z.cell (a:=⟨w.heap.size,1,none⟩) (v:=.int .u32 v.to) (by simp[go_sem]);have J:=z.cell (a:=⟨w.heap.size+1,0,none⟩) (v:=.int .u8 0) (by simp[go_sem]);have K:=z.cell (a:=⟨w.heap.size+1,1,none⟩) (v:=.int .u32 0) (by simp[go_sem]);have L:=z.cell (a:=⟨w.heap.size+2,0,none⟩) (v:=.int .u8 0) (by simp[go_sem]);have N:=z.cell (a:=⟨w.heap.size+2,1,none⟩) (v:=.int .u32 0) (by simp[go_sem]);have T:=fun o:Nat=>z.a2 (a:=⟨w.heap.size+1,o,none⟩) (by simp[go_sem]) (by simp[go_sem]);have U:=fun o:Nat=>z.a2 (a:=⟨w.heap.size+2,o,none⟩) (by simp[go_sem]) (by simp[go_sem]);have W:aa w w1:=(by(exact kp)))
 go_wp2_with fail
 (go_at_call 78;refine(a6.out _ (by(exact kp))).mono ?_;rintro e Y ⟨rfl,s⟩;have j:=s.size;have T:=fun o:Nat=>s.a2 (a:=⟨w.heap.size+1,o,none⟩) (by dsimp only;omega) (T o);have U:=fun o:Nat=>s.a2 (a:=⟨w.heap.size+2,o,none⟩) (by dsimp only;omega) (U o);have a3:=s.cell a3;have a4:=s.cell a4;have J:=s.cell J;have K:=s.cell K;have L:=s.cell L;have N:=s.cell N;have bq:w.heap.size<Y.heap.size:=(by omega);have E:w.heap.size+1<Y.heap.size:=(by omega);have I:w.heap.size+2<Y.heap.size:=(by omega);have j:aa w Y:=W.trans s)
 go_wp2_with fail
 (go_at_call 188;refine(a5.out _ (by(exact kp))).mono ?_;rintro e S ⟨rfl,A,a'⟩;have bb:=A.size;(try simp only[World.size_alloc,World.size_setCell,World.a3]at bb);have J:=A.cell (a:=⟨w.heap.size+1,0,none⟩) ab (v:=.int .u8 0) (by simp[go_sem,E,I,J,K]);have K:=A.cell (a:=⟨w.heap.size+1,1,none⟩) ab (v:=.int .u32 0) (by simp[go_sem,E,I,J,K]);have L:=A.cell (a:=⟨w.heap.size+2,0,none⟩) ad (v:=.int .u8 x.hi.tag) (by simp[go_sem,E,I,L,N]);have N:=A.cell (a:=⟨w.heap.size+2,1,none⟩) ad (v:=.int .u32 x.hi.to) (by simp[go_sem,E,I,L,N]);have T:=fun o:Nat=>A.frozen (a:=⟨w.heap.size+1,o,none⟩) (by(try simp only[World.size_alloc,World.size_setCell,World.a3]);omega) ab (by(try simp only[World.frozen?_setCell,frozen?_alloc_cells]);exact T o);have U:=fun o:Nat=>A.frozen (a:=⟨w.heap.size+2,o,none⟩) (by(try simp only[World.size_alloc,World.size_setCell,World.a3]);omega) ad (by(try simp only[World.frozen?_setCell,frozen?_alloc_cells]);exact U o);have E:w.heap.size+1<S.heap.size:=(by omega);have I:w.heap.size+2<S.heap.size:=(by omega))
 go_wp2_with fail
 obtain⟨q,t⟩:∃q,q=((S.setCell ⟨w.heap.size+1,0,none⟩ (.int .u8 a)).setCell ⟨w.heap.size+1,1,none⟩ (.int .u32 b)):=⟨_,rfl⟩
 have br:q.cell? ⟨w.heap.size+1,0,none⟩=some (.int .u8 a):=by rw[t];simp[go_sem,J,K,E]
 have bs:q.cell? ⟨w.heap.size+1,1,none⟩=some (.int .u32 b):=by rw[t];simp[go_sem,J,K,E]
 have bt:q.cell? ⟨w.heap.size+2,0,none⟩=some (.int .u8 x.hi.tag):=by rw[t];simp[go_sem,L,N,I]
 have bv:q.cell? ⟨w.heap.size+2,1,none⟩=some (.int .u32 x.hi.to):=by rw[t];simp[go_sem,L,N,I]
 have j:∀o,q.frozen? ⟨w.heap.size+1,o,none⟩=false:=by intro o;rw[t];simp only[World.frozen?_setCell];exact T o
 have j:∀o,q.frozen? ⟨w.heap.size+2,o,none⟩=false:=by intro o;rw[t];simp only[World.frozen?_setCell];exact U o
 have be:q.heap.size=S.heap.size:=by rw[t];simp only[World.size_setCell]
 have bi:ae (fun k=>w.heap.size≤k∧k<w.heap.size+3) S q:=by rw[t];exact((ae.refl _ _).setCell (Or.inl (by dsimp only;omega)) _).setCell (Or.inl (by dsimp only;omega)) _
 rw[←t]
 have bn:w.heap.size+1<q.heap.size:=by omega
 have bp:w.heap.size+2<q.heap.size:=by omega
 clear t J K L N T U be
 all_goals refine bodyPost_ret (v:=.tuple #[.agg #[.int .u8 0,.int .u32 0],.agg #[.int .u8 0,.int .u32 0],.int .u8 X]) (by simp[results,Tryz.results269,go_sem,bn,bp,br,bs,bt,bv]) rfl ⟨rfl,_,S,by(exact kp),A,a',?_⟩
 all_goals(try simp only[World.size_alloc,World.size_setCell,World.a3])
 all_goals(repeat (first|with_reducible exact ae.refl _ _|exact ae.mono bi (fun k _ W=>⟨W.1,by(try simp only[World.size_alloc,World.size_setCell,World.a3]);have:=W.2;omega⟩)|refine ae.setCell ?_ (Or.inl (by dsimp only;omega)) _|refine ae.setCell ?_ (Or.inr (by dsimp only;omega)) _|with_reducible refine ae.drewN ?_ _|with_reducible refine ae.drew ?_|with_reducible refine ae.alloc ?_ _))

theorem qE (n:Nat)(h:n≤16)(w:World) :
  Calls Tryz.prog 102 #[.int .i64 (n:Int)] w fun e w'=>e=.returned (.tuple #[.slice (some ⟨w.heap.size,0,none⟩) n n,.bool true])∧bD w' w.heap.size (du n)∧aa w w':=by
 obtain⟨Y,z,Z,ab,ad⟩:=info_parts ij
 go_enter Tryz.func102,Tryz.ntmps102
 go_wp2_with (first
  |(at_make;refine wpList_make_full _ rfl _ _ 22 rfl w.heap.size 3 Y (.int .i64 0) 1 Tryz.underlying22 z Z ab .i64 .i64 (n:Int) (n:Int) n rfl rfl rfl rfl (by rw[ad];omega) (by unfold maxLen;omega) (by simp) ?_;intro w1 S t)
  |fail)
 have T:=Lib.hid (qP S)
 have O:aa w w1:=⟨t.os,t.tape,t.output,t.size,fun i hi=>t.block i hi (by simp)⟩
 have U:=Lib.hid O
 clear S t O
 go_loopg [5,16] n (fun gk t t wr=>∃(d:Nat) (q:List Int),d+gk=n∧t=.int .i64 (d:Int)∧q.length=n∧(∀(j:Nat) (x:Int),j<d→q[j]?=some x→x=(j:Int))∧bD wr w.heap.size q∧ae (fun k=>k=w.heap.size) w1 wr)
 case atStart=>exact⟨0,_,by omega,rfl,by simp,fun j x z=>by omega,T.out,ae.refl _ _⟩
 case round=>
  obtain⟨d,q,am,rfl,S,T,t,O⟩:=hrel;have E:=Lib.hid t;have K:=Lib.hid O;have s:=Lib.hid S;have L:=Lib.hid T;clear t O S T;by_cases J:d<n
  ·obtain⟨y,A⟩:∃b,q[d]?=some b:=⟨_,List.getElem?_eq_getElem (by rw[s.out];exact J)⟩;have t:=E.out.cell A;have t:=E.out.frozen d;clear A;go_wp2_with fail
   go_roundg (gk-1)
   case rel=>
    refine⟨d+1,q.set d (d:Int),by omega,by simp,by rw[List.length_set,s.out],fun j x z I=>?_,E.out.set d _ (by rw[s.out];exact J),K.out.setCell (p:=⟨w.heap.size,d,none⟩) (.inl rfl) _⟩;by_cases e:j=d
    ·subst e;rw[List.getElem?_set_self (by rw[s.out];exact J)]at I;exact(Option.some.inj I).symm
    ·rw[List.getElem?_set_ne (fun h=>e h.symm)]at I;exact L.out j x (by omega) I
   case measure=>omega
  ·have N:q=du n:=by
    apply List.ext_getElem?;intro j;by_cases z:j<n
    ·obtain⟨y,A⟩:∃b,q[j]?=some b:=⟨_,List.getElem?_eq_getElem (by rw[s.out];exact z)⟩;have:=L.out j y (by omega) A;rw[A,this];unfold du;rw[List.getElem?_map,List.getElem?_range z];rfl
    ·rw[List.getElem?_eq_none (by rw[s.out];omega),List.getElem?_eq_none (by rw[iV];omega)]
   have q:=U.out.new K.out (fun k j=>by omega);have j:=E.out;rw[N]at j;have X:=Lib.hid j;have W:=Lib.hid q;clear j q N;go_wp2_with fail
   go_ret2
   exact⟨rfl,X.out,W.out⟩

def bz:Nat→Nat
 |0=>1
 |n+1=>(n+1)*bz n

theorem ku (n:Nat):0<bz n:=by
 induction n with
 |zero=>decide
 |succ n j=>exact Nat.mul_pos (by omega) j

def gT:Nat→List Int→Nat→List Int
 |0,_,_=>[]
 |k+1,left,r=>left.getD (r / bz k) 0::gT k (left.eraseIdx (r / bz k)) (r%bz k)

def dF (n r:Nat):List Int:=gT n (du n) r

theorem yh:∀(k:Nat) (left:List Int) (r:Nat),(gT k left r).length=k:=by
 intro k;induction k with
 |zero=>intro left r;rfl
 |succ k j=>intro left r;show(gT k _ _).length+1=_;rw[j]

theorem jI (n r:Nat):(dF n r).length=n:=yh n _ r

theorem yj:((List.range 6).all fun n=>(List.range (bz n)).all fun r=>ar (dF n r))=true:=by kernel_rfl

theorem qt {n r:Nat}(j:n≤5)(q:r<bz n):ar (dF n r)=true:=by
 have h:=yj;rw[List.all_eq_true]at h;have j:=h n (List.mem_range.2 (by omega));rw[List.all_eq_true]at j;exact j r (List.mem_range.2 q)

def dM (j:List Int→Nat)(n:Nat):Nat→List Int
 |0=>dF n 0
 |r+1=>if j (dF n (r+1))<j (dM j n r)then dF n (r+1)else dM j n r

def fE (j:List Int→Nat)(n:Nat):List Int:=dM j n (bz n-1)

theorem pT (s:List Int→Nat)(n:Nat):∀r,∃k,k≤r∧dM s n r=dF n k:=by
 intro r;induction r with
 |zero=>exact⟨0,Nat.le_refl _,rfl⟩
 |succ r q=>
  obtain⟨k,s,j⟩:=q;unfold dM;split;·exact⟨r+1,Nat.le_refl _,rfl⟩
  ·exact⟨k,by omega,j⟩

theorem pU (j:List Int→Nat)(n:Nat):∀r k,k≤r→j (dM j n r)≤j (dF n k):=by
 intro r;induction r with
 |zero=>intro k j;rw[show k=0 by omega];exact Nat.le_refl _
 |succ r s=>
  intro k j;unfold dM;by_cases q:k=r+1
  ·subst q;split;·exact Nat.le_refl _
   ·omega
  ·have:=s k (by omega);split<;>omega

theorem pS (j:List Int→Nat){n:Nat}(s:n≤5):ar (fE j n)=true∧(fE j n).length=n:=by
 obtain⟨k,t,q⟩:=pT j n (bz n-1);have:=ku n;unfold fE;rw[q];exact⟨qt s (by omega),jI n k⟩

theorem kZ {ps:List Int}(z:ar ps=true){v:Int}(s:0≤v)(t:v<(ps.length:Int)):v∈ps:=by
 obtain⟨A,j,q⟩:=dm.1 z;have h:=k7 ps (du ps.length) q (fun x q=>fG.2 (j x q)) (by rw[iV];exact Nat.le_refl _);exact h.mem_iff.1 (fG.2 ⟨s,t⟩)

end Go.Proofs.YtafkamlhimkbmaaGreat
