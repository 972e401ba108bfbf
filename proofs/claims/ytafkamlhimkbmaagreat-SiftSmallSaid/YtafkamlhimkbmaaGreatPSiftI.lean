/-
  sift.bed's permute.
-/
import Derived.Test.YtafkamlhimkbmaaGreatPSiftB
import Derived.Deep.AppendLies
namespace Go.Proofs.YtafkamlhimkbmaaGreat
set_option maxRecDepth 1000000
set_option maxHeartbeats 8000000
set_option linter.unusedSimpArgs false
set_option linter.unusedVariables false
open Go.RowKit

theorem wI {w:World}{t j cap:Nat}{a:Option Addr}{xs:List Int}(h:w.ownsRow t 3 1 (.slice a j cap) j (xs.map (Value.int .i64)))(A:j=xs.length):aG w a xs:=fun i x s=>by
 have hi:=(List.getElem?_eq_some_iff.1 s).1;rcases h.2 with⟨q,A⟩|⟨z,cap2,j,q,t,_⟩
 ·omega
 ·cases q;refine⟨z,0,rfl,?_⟩;rw[Nat.zero_add,h.cellAt i (by omega),List.getElem?_map,s];rfl

theorem oP {F Fo:Nat→Prop}{w:World}{J lb cap U T cap2:Nat}{S Z:Option Addr}{M:St}{ps qs:List Int}{fs:List (Int×List Bool)}{rs:List (Int×Edge)}(h:fm F Fo w J lb S cap U T M ps fs rs)(bn:aG w Z qs)(b1:ar qs=true)(a1:ps.length=qs.length) :
  Calls Tryz.prog 52 #[.pointer (some ⟨J,0,none⟩),.slice Z qs.length cap2] w fun e w'=>e=.returned (.bool true)∧aL F Fo (fun _=>False) w w' J lb S cap U T qs fs:=by
 have bx:=h.perm
 have ad:=h.n6
 have b0:=fun(E:World) (L:aa w E)=>kV (h.bp.b7.U L)
 have b3:=fun(E:World) (a:Option Addr) (c:Nat) (L:aa w E) (cj:aG E a ps)=>AN a Z c cap2 ps qs E cj (bn.U L) bx b1 a1
 have Z:=h.cells.c1
 have bb:=fun(E:World) (L:aa w E)=>aL.start (h.U L) (fun _=>False)
 have bi:∀k,(F k∨Fo k∨k=lb∨False)→k<w.heap.size:=fun k j=>by
  rcases j with q|q|q|q;·exact h.bp.a4.lt k q
  ·exact h.bp.b7.lt k q
  ·subst q;exact h.ew.2
  ·exact q.elim
 have Y:=Lib.hid b0
 have I:=Lib.hid b3
 have b4:=Lib.hid bb
 have X:=Lib.hid bi
 obtain⟨n,N⟩:∃n,n=ps.length:=⟨_,rfl⟩
 rw[←a1,←N]at I ⊢
 rw[←N]at Y ad
 have b9:=Lib.hid N
 clear b0 b3 bb bi bn h a1 N bx b1
 go_enter Tryz.func52,Tryz.ntmps52
 go_wp2_with fail
 refine(Y.out _ (by(exact kp))).mono ?_
 rintro e w1 ⟨ce,cf,rfl,L,E⟩
 have a7:=Lib.hid (I.out w1 ce cf E L.ea)
 have a3:=Lib.hid E
 clear L E
 go_wp2_with fail
 refine a7.out.mono ?_
 rintro e W ⟨ss,ab,a8,rfl,t,b2,bs,br,bt⟩
 have aw:=a3.out.trans bt
 have be:=b4.out W aw
 have bv:∀k,(Value.slice ab ss.length a8).ownBlock=some k→k<W.heap.size:=fun k j=>by
  rcases t.2 with⟨s,_⟩|⟨ch,cg,a',s,bq,cl,_⟩
  ·rw[s]at j;simp[Value.ownBlock]at j
  ·rw[s]at j;simp[Value.ownBlock]at j;subst j;exact aN cl
 have a4:=Lib.hid bv
 have a6:=Lib.hid t
 have b5:=Lib.hid be
 have cd:=Lib.hid b2
 have b7:=Lib.hid bs
 have E:=a3.out.size
 have b8:=Lib.hid aw
 obtain⟨A,am⟩:∃A,A=ss.length:=⟨_,rfl⟩
 rw[←am]at br a6 a4 ⊢
 have a2:=Lib.hid am
 have E:A≤36:=by
  have:n*n≤6*6:=Nat.mul_le_mul ad ad;omega
 clear t be b2 bs bt aw am br a7 I Y bv
 go_wp2_with fail
 go_loopg [21] A (fun gk E wr=>∃d:Nat,E=.int .i64 (d:Int)∧d+gk=A∧aL F Fo (fun _=>False) W wr J lb S cap U T (aJ ps (ss.take d)) fs∧wr.ownsRow w1.heap.size 3 1 (.slice ab A a8) A (ss.map (fun z:Nat=>Value.int .i64 (z:Int))))
 case atStart=>exact⟨0,rfl,by omega,b5.out,a6.out⟩
 case round=>
  obtain⟨d,rfl,E,K,t⟩:=hrel;by_cases cn:d<A
  ·obtain⟨z,O⟩:∃z,ss[d]?=some z:=⟨_,List.getElem?_eq_getElem (by rw[←a2.out];exact cn)⟩
   obtain⟨g,rfl,A⟩:∃g,ab=some ⟨g,0,none⟩∧wr.cell? ⟨g,d,none⟩=some (.int .i64 (z:Int)):=by
    rcases t.2 with⟨s,A⟩|⟨ci,cap2,a',s,bq,_⟩
    ·omega
    ·cases s;refine⟨ci,rfl,?_⟩;rw[t.cellAt d (by omega),List.getElem?_map,O];rfl
   have L:z+1<(aJ ps (ss.take d)).length:=(by rw[eP,←b9.out];exact b7.out z (List.mem_of_getElem? O));have A:=jk K z L;have E:aq (aJ ps (ss.take d)) z=aJ ps (ss.take (d+1)):=(by rw[fJ O,iZ]);rw[E]at A;have I:=Lib.hid A;have a5:=Lib.hid t;clear A E L O t K;go_wp2_with fail
   refine I.out.mono ?_;rintro e z ⟨rfl,bg,bp⟩
   have bw:=bp.br (fun k j av=>by
    have z:w1.heap.size≤k:=by
     rcases a5.out.2 with⟨s,_⟩|⟨ch,cg,a',s,bq,_⟩
     ·rw[s]at j;simp[Value.ownBlock]at j
     ·rw[s]at j;simp[Value.ownBlock]at j;omega
    have s:k<W.heap.size:=a4.out k j;rcases av with q|q|q|q;·have:=X.out k (.inl q);omega
    ·have:=X.out k (.inr (.inl q));omega
    ·have:=X.out k (.inr (.inr (.inl q)));omega
    ·omega) a5.out
   have b6:=Lib.hid bg;have cb:=Lib.hid bw;clear bg bp bw;go_wp2_with fail
   go_roundg (gk-1)
   case rel=>exact⟨d+1,by simp,by omega,b6.out,cb.out⟩
   case measure=>omega
  ·have j:aL F Fo (fun _=>False) w wr J lb S cap U T qs fs:=by
    have:ss.take d=ss:=List.take_of_length_le (by rw[←a2.out];omega);rw[this,cd.out]at K;exact aL.next (fun s s=>.inl s) (b8.out.av _) (fun _ av=>av.elim) K
   have ca:=Lib.hid j;clear j K t;go_wp2_with fail
   go_ret
   exact⟨rfl,ca.out⟩

theorem nO {w:World}{A g q cap:Nat}{rs:List (Int×Edge)}(h:w.ownsRow A 55 3 (.slice (some ⟨g,0,none⟩) q cap) q (rs.flatMap dO))(K:q=rs.length):bW w (some ⟨g,0,none⟩) g rs:=fun q=>by
 refine⟨rfl,?_⟩;rcases h.2 with⟨s,_⟩|⟨A,q,t,s,K,E,_,_,_,I⟩
 ·cases s
 ·cases s;refine⟨t,E,fun i r z=>?_⟩;have hi:=(List.getElem?_eq_some_iff.1 z).1
  have key:∀j,j<3→t[i*3+j]?=(dO r)[j]?:=fun j J=>by
   rw[←eA dO 3 (fun _=>rfl) rs i j r z J,←I,List.getElem?_take,if_pos (by omega),Array.getElem?_toList]
  exact⟨key 0 (by omega),key 1 (by omega),key 2 (by omega)⟩

theorem zF {w:World}{b off:Nat}{rs:List (Int×Edge)}(t:dz w (some ⟨b,off,none⟩) rs)(j:Nat)(u:Value)(h:(rs.flatMap dO)[j]?=some u):w.cell? ⟨b,off+j,none⟩=some u:=by
 have K:(rs.flatMap dO).length=rs.length*3:=by
  clear t h;induction rs with
  |nil=>rfl
  |cons r rs J=>rw[List.flatMap_cons,List.length_append,J,List.length_cons];show 3+_=_;omega
 have J:=(List.getElem?_eq_some_iff.1 h).1;rw[K]at J;have hi:j / 3<rs.length:=by omega
 have z:rs[j / 3]?=some rs[j / 3]:=List.getElem?_eq_getElem hi;obtain⟨J,K,b',N,e,A,E,I⟩:=t _ _ z;cases e;have s:=eA dO 3 (fun _=>rfl) rs (j / 3) (j%3) _ z (by omega);rw[show j / 3*3+j%3=j by omega,h]at s;have L:j%3=0∨j%3=1∨j%3=2:=by omega
 rcases L with q|q|q
 ·rw[q]at s;rw[show off+j=off+j / 3*3 by omega,A];exact s.symm
 ·rw[q]at s;rw[show off+j=off+j / 3*3+1 by omega,E];exact s.symm
 ·rw[q]at s;rw[show off+j=off+j / 3*3+2 by omega,I];exact s.symm

theorem xC {F Fo:Nat→Prop}{w E j w':World}{K W s lb cap:Nat}{T:Option Addr}{M:St}{ps:List Int}{fs:List (Int×List Bool)}{rs:List (Int×Edge)}(hS:eo F Fo w K W M ps)(am:ar ps=true)(X:ps.length≤6)(a3:fs.length≤4)(a6:(fs.length:Int)*300<M.room)(a':M.room≤1000000)(av:ct M ps fs rs)
  (J:aa w E) (a7:bW E T lb rs) (ab:ej j s T fs.length cap K W) (A:aa E j) (bb:E.heap.size≤s) (O:w.heap.size≤lb) (be:lb<E.heap.size)
  (t:ae F j w') (Z:ag (au F j w') w' K (cM M ((rs.map Prod.snd).map Edge.to))):aL F Fo (fun _=>False) w w' s lb T cap K W ps fs:=by
 have S:=hS.a4
 have E:=S.lt
 have ad:=hS.b7.lt
 have K:=J.size
 have K:=A.size
 have K:=t.size
 have a4:s<j.heap.size:=aD ab.c0
 have U:∀k,w.heap.size≤k→¬F k:=fun k N z=>by have:=E k z;omega
 have aw:∀k,w.heap.size≤k→¬Fo k:=fun k N z=>by have:=ad k z;omega
 have a1:∀k,w.heap.size≤k→k<j.heap.size→¬au F j w' k:=fun k a2 E z=>by
  rcases z with q|q;·exact U k a2 q
  ·omega
 have Y:=S.U (J.trans A)
 have a8:=av.size Y am hS.n X (by have:=S.wf.cx;omega)
 refine⟨au F j w',cM M ((rs.map Prod.snd).map Edge.to),rs,⟨⟨Z,((hS.b7.U J).U A).a5 t (fun k L I=>hS.c' k I L),fun k L I=>?_,hS.n,hS.room⟩,am,X,a3,?_,a6,a',av.e3 Z.wf,(a7.U A).a5 t (U lb O),ab.a5 t (U s (by omega)),⟨a1 s (by omega) a4,aw s (by omega),by omega⟩,⟨a1 lb O (by omega),aw lb O⟩,by omega⟩,fun j a5=>?_,?_⟩
 ·rcases L with q|q;·exact hS.c' k q I
  ·have:=ad k I;omega
 ·rw[rE Y];exact_mod_cast a8.1
 ·rcases a5 with q|q;·exact .inl q
  ·exact .inr (by omega)
 ·exact((J.trans A).av _).a' (t.mono (fun k _ N=>.inl N))

theorem rh {F Fo:Nat→Prop}{w:World}{E K cap3:Nat}{am:Option Addr}{M:St}{ps:List Int}{fs:List (Int×List Bool)}{rs:List (Int×Edge)}(hS:eo F Fo w E K M ps)(ci:ar ps=true)(cq:ps.length≤6)(b7:fs.length≤4)(cj:(fs.length:Int)*300<M.room)(cl:M.room≤1000000)(a5:ct M ps fs rs)(b9:dz w am rs)(a8:am=none→cap3=0) :
  Calls Tryz.prog 50 #[.pointer (some ⟨E,0,none⟩),.pointer (some ⟨K,0,none⟩),.slice am fs.length cap3] w fun e w'=>∃(J lb cap:Nat) (U:Option Addr),e=.returned (.pointer (some ⟨J,0,none⟩))∧aL F Fo (fun _=>False) w w' J lb U cap E K ps fs∧w.heap.size≤J∧w.heap.size≤lb:=by
 obtain⟨co,hi,c5,cn,c6⟩:=info_parts pH
 have bs:=fun(j s w':World) (J lb cap:Nat) (U:Option Addr) (A:aa w j) (X:bW j U lb rs) (cD:ej s J U fs.length cap E K) (c7:aa j s) (cy:j.heap.size≤J) (c0:w.heap.size≤lb) (c1:lb<j.heap.size) (cx:ae F s w') (cv:ag (au F s w') w' E (cM M ((rs.map Prod.snd).map Edge.to)))=>xC hS ci cq b7 cj cl a5 A X cD c7 cy c0 c1 cx cv
 have b0:∀r∈rs,(0≤r.1∧r.1≤255)∧r.2.ok:=fun r T=>⟨by have:=(a5.leads r T).1;omega,a5.e' r T⟩
 have a4:=a5.1
 have z:=fun(s:World) (g:Nat) (cq:aa w s) (cv:bJ s g (rs.map Prod.snd))=>rz (hS.a4.U cq) (some ⟨g,0,none⟩) fs.length fs.length (rs.map Prod.snd) ⟨by rw[List.length_map,a4],fun i e bt=>(cv.at (fun e bt=>by obtain⟨r,T,rfl⟩:=List.mem_map.1 bt;exact(b0 r T).2)) i e bt⟩ (by omega)
 have bv:=fun(s:World) (J lb cap:Nat) (U:Option Addr) (X:bW s U lb rs) (bt:s.cell? ⟨J,2,none⟩=some (.slice U fs.length cap))=>ke bt (X.roots b0) a4 (by omega)
 obtain⟨I,b8⟩:∃I,I=fs.length:=⟨_,rfl⟩
 rw[←b8]at b7 bs z bv a4 ⊢
 have be:=Lib.hid bs
 have bp:=Lib.hid z
 have bg:=Lib.hid bv
 have Z:=Lib.hid b9
 have ab:=Lib.hid a4
 have ce:∀(s:World),s.heap[w.heap.size]?=some (.cells #[] 55 (0,0))→s.ownsRow w.heap.size 55 3 (.slice (some ⟨w.heap.size,0,none⟩) 0 0) 0 []:=fun s h=>⟨rfl,.inr ⟨w.heap.size,0,#[],rfl,Nat.le_refl _,h,Nat.le_refl _,by decide,rfl,rfl⟩⟩
 have a6:=Lib.hid ce
 have cf:(w.alloc (.cells #[] 55 (0,0))).heap[w.heap.size]?=some (.cells #[] 55 (0,0)):=by show(w.heap.push _)[w.heap.size]?=_;simp
 have a7:=Lib.hid cf
 clear bs z bv b9 hS ci a5 cj cl b0 b8 a4 ce cf
 by_cases b6:I=0
 ·subst b6;have c2:rs=[]:=List.eq_nil_of_length_eq_zero ab.out;have cg:am=none→(0:Nat)=0∧cap3=0:=fun h=>⟨rfl,a8 h⟩;subst c2;clear a8 Z;go_enter Tryz.func50,Tryz.ntmps50
  go_wp2_with (first
   |(at_builtin;go_loud (refine wpList_append_fits_any _ rfl _ _ 31 rfl w.heap.size 55 co 3 Tryz.underlying31 hi cn w.heap.size 0 0 [] rfl (a6.out _ a7.out) am 0 cap3 [] rfl rfl cg (fun _ _ cp u h=>by simp at h) (fun u h=>by simp at h) (Nat.le_refl _) ?_);intro j a3 t)
   |fail)
  have bw:w.heap.size<j.heap.size:=by have:=t.size;simp at this;omega
  have A:aa w j:=aa.new (F:=fun k=>some w.heap.size=some k) ((aa.refl w).alloc _) ⟨t.os,t.tape,t.output,t.size,fun k N bx=>t.block k N (fun e=>bx e.symm)⟩ (fun k N=>by cases N;exact Nat.le_refl _);have ad:Hid (bW j (some ⟨w.heap.size,0,none⟩) w.heap.size []):=Lib.hid (fun h=>absurd rfl h);have Y:=Lib.hid A;have b2:=A.size;clear a3 t A a6 a7 cg;have L:ej (j.alloc (.cells #[.pointer (some ⟨E,0,none⟩),.pointer (some ⟨K,0,none⟩),.slice (some ⟨w.heap.size,0,none⟩) 0 0,.int .u8 0] 115 (0,0))) j.heap.size (some ⟨w.heap.size,0,none⟩) 0 0 E K:=⟨by simp[go_sem],by simp[go_sem],by simp[go_sem],by simp[go_sem]⟩;have bb:=Lib.hid L;refine(bg.out _ _ _ _ _ (ad.out.U ((aa.refl _).alloc _)) L.c2).mono ?_;clear L;rintro e W ⟨br,rfl,cS,aw,S⟩;have bn:=Lib.hid S;have O:aa j W:=((aa.refl _).alloc _).trans S;have z:=bp.out W br (Y.out.trans O) aw;have bq:=Lib.hid z;have bi:=Lib.hid O;clear z S O aw;go_wp2_with fail
  refine bq.out.mono ?_;rintro e b3 ⟨rfl,a2,a1⟩;have av:=be.out j W b3 j.heap.size w.heap.size 0 (some ⟨w.heap.size,0,none⟩) Y.out ad.out (bb.out.U bn.out) bi.out (Nat.le_refl _) (Nat.le_refl _) bw a2 a1;have a':=Lib.hid av;clear a2 a1 av;go_wp2_with fail
  go_ret
  exact⟨_,_,_,_,rfl,a'.out,b2,Nat.le_refl _⟩

 ·obtain⟨c8,b1⟩:∃r,rs[0]?=some r:=⟨_,List.getElem?_eq_getElem (by rw[ab.out];omega)⟩;obtain⟨_,_,b,off,rfl,_⟩:=Z.out 0 c8 b1
  have cd:(rs.flatMap dO).length=I*3:=by
   rw[←ab.out];clear be bp bg Z ab b1 a8;induction rs with
   |nil=>rfl
   |cons r rs s=>rw[List.flatMap_cons,List.length_append,s,List.length_cons];show 3+_=_;omega
  have ch:∀u∈rs.flatMap dO,u.oneCell'=true:=fun u c4=>by
   obtain⟨r,_,T⟩:=List.mem_flatMap.1 c4;simp only[dO,List.mem_cons,List.not_mem_nil,or_false]at T;rcases T with rfl|rfl|rfl<;>rfl
  have b4:=Lib.hid cd;have b5:=Lib.hid ch;have c3:0<I:=by omega
  clear b1 cd ch b6 a8;go_enter Tryz.func50,Tryz.ntmps50
  go_wp2_with (first
   |(at_builtin;go_loud (refine wpList_append_lies _ rfl _ _ 31 rfl w.heap.size 55 co (.agg #[.int .u8 0,.int .u8 0,.int .u32 0]) 3 12 Tryz.underlying31 hi c5 cn c6 rfl (by decide) (.slice (some ⟨w.heap.size,0,none⟩) 0 0) 0 [] rfl (a6.out _ a7.out) ⟨b,off,none⟩ I cap3 (rs.flatMap dO) rfl b4.out (fun cp u h=>by rw[Addr.add_lit];exact zF (Z.out.U ((aa.refl w).alloc _)) cp u h) b5.out c3 (by unfold maxLen;omega) (by omega) (by simp) (w.heap.size+1) (by simp) ?_);intro g cap j a3 t cb bw)
   |fail)
  rw[Nat.zero_add,List.nil_append]at a3
  have ca:w.heap.size≤g:=by
   rcases cb with q|q;·simp[Value.ownBlock]at q;omega
   ·omega
  have X:=nO a3 ab.out.symm;have A:aa w j:=aa.new (F:=fun k=>Value.ownBlock (.slice (some ⟨w.heap.size,0,none⟩) 0 0)=some k) ((aa.refl w).alloc _) ⟨t.os,t.tape,t.output,t.size,fun k N bx=>t.block k N (fun e=>bx e.symm)⟩ (fun k N=>by simp[Value.ownBlock]at N;omega);have ad:=Lib.hid X;have Y:=Lib.hid A;have b2:=A.size;clear a3 t cb X A b4 b5 a6 a7 Z;have L:ej (j.alloc (.cells #[.pointer (some ⟨E,0,none⟩),.pointer (some ⟨K,0,none⟩),.slice (some ⟨g,0,none⟩) I cap,.int .u8 0] 115 (0,0))) j.heap.size (some ⟨g,0,none⟩) I cap E K:=⟨by simp[go_sem],by simp[go_sem],by simp[go_sem],by simp[go_sem]⟩;have bb:=Lib.hid L;refine(bg.out _ _ _ _ _ (ad.out.U ((aa.refl _).alloc _)) L.c2).mono ?_;clear L;rintro e W ⟨br,rfl,cS,aw,S⟩;have bn:=Lib.hid S;have O:aa j W:=((aa.refl _).alloc _).trans S;have z:=bp.out W br (Y.out.trans O) aw;have bq:=Lib.hid z;have bi:=Lib.hid O;clear z S O aw;go_wp2_with fail
  refine bq.out.mono ?_;rintro e b3 ⟨rfl,a2,a1⟩;have av:=be.out j W b3 j.heap.size g cap (some ⟨g,0,none⟩) Y.out ad.out (bb.out.U bn.out) bi.out (Nat.le_refl _) ca bw a2 a1;have a':=Lib.hid av;clear a2 a1 av;go_wp2_with fail
  go_ret
  exact⟨_,_,_,_,rfl,a'.out,b2,ca⟩

theorem kN {M:St}{ps:List Int}{fs:List (Int×List Bool)}{rs:List (Int×Edge)}(h:ct M ps fs rs):dX M rs=0:=by
 have key:∀r∈rs,bG r.1=true∧gP M r.1 r.2 0=true:=fun r t=>by
  obtain⟨i,hi⟩:=List.mem_iff_getElem?.1 t;have t:=(List.getElem?_eq_some_iff.1 hi).1;obtain⟨t,q,j⟩:=h.2 i (fs[i]'(by have:=h.1;omega)) r (List.getElem?_eq_getElem (by have:=h.1;omega)) hi;exact⟨by simp[bG];omega,pO q j.lead j.right⟩
 clear h;induction rs with
 |nil=>rfl
 |cons r rs z=>
  obtain⟨A,E⟩:=key r (by simp);rw[qi,if_neg (by rw[A];simp),if_neg (by rw[E];simp)];exact z (fun j s=>key j (by simp[s]))

def eT (w:World)(F Fo:Nat→Prop)(lb:Nat)(a:Option Addr)(xs:List Int):Prop:=aG w a xs∧∀b off,a=some ⟨b,off,none⟩→b<w.heap.size∧¬F b∧¬Fo b∧b≠lb

theorem eT.U {w w':World}{F Fo:Nat→Prop}{lb:Nat}{a:Option Addr}{xs:List Int}(h:eT w F Fo lb a xs)(j:aa w w'):eT w' F Fo lb a xs:=
 ⟨h.1.U j,fun b off e=>by
  obtain⟨z,q,s,t⟩:=h.2 b off e;have:=j.size
  exact⟨by omega,q,s,t⟩⟩

theorem eT.step {w w':World}{F F' Fo:Nat→Prop}{lb:Nat}{a:Option Addr}{xs:List Int}(h:eT w F Fo lb a xs)(J:∀j,F' j→F j∨w.heap.size≤j)(E:ae (fun j=>F j∨Fo j∨j=lb∨False) w w'):eT w' F' Fo lb a xs:=by
 refine⟨fun i x K=>?_,fun b off e=>?_⟩
 ·obtain⟨b,off,e,c⟩:=h.1 i x K;obtain⟨I,s,t,z⟩:=h.2 b off e;exact⟨b,off,e,E.cellAt (fun A=>by rcases A with q|q|q|q;exact s q;exact t q;exact z q;exact q) c⟩
 ·obtain⟨I,s,t,z⟩:=h.2 b off e;have:=E.size;refine⟨by omega,fun A=>?_,t,z⟩;rcases J b A with q|q;·exact s q
  ·omega

theorem sX {w:World}{F Fo:Nat→Prop}{q n cap lb:Nat}{a:Option Addr}{xs:List Int}(h:w.ownsRow q 3 1 (.slice a n cap) n (xs.map (Value.int .i64)))(t:n=xs.length)(hF:∀k,F k∨Fo k∨k=lb→k<q):eT w F Fo lb a xs:=by
 refine⟨wI h t,fun b off e=>?_⟩;rcases h.2 with⟨j,A⟩|⟨t,cap2,q,j,z,s,_⟩
 ·cases j;cases e
 ·cases j;cases e;exact⟨aN s,fun j=>by have:=hF b (.inl j);omega,fun j=>by have:=hF b (.inr (.inl j));omega,fun j=>by have:=hF b (.inr (.inr j));omega⟩

theorem nQ {F s t Fo:Nat→Prop}{w wr w1 I:World}{lb:Nat}(A:∀j,s j→F j∨w.heap.size≤j)(E:ae (fun j=>F j∨Fo j) w wr)(O:w.heap.size≤lb)(z:aa wr w1)(L:∀j,t j→s j∨w1.heap.size≤j)(N:ae (fun j=>s j∨Fo j∨j=lb∨False) w1 I) :
  (∀j,t j→F j∨w.heap.size≤j)∧ae (fun j=>F j∨Fo j) w I:=by
 have s:=E.size
 have s:=z.size
 refine⟨fun j K=>?_,(E.a' (z.av _)).b9 N (fun i hi J=>?_)⟩
 ·rcases L j K with q|q;·exact A j q
  ·exact .inr (by omega)
 ·rcases J with q|q|q|q
  ·rcases A i q with j|j;·exact .inl j
   ·omega
  ·exact .inr q
  ·omega
  ·exact q.elim

theorem qS {F s Fo:Nat→Prop}{w w1:World}{lb:Nat}(E:w.heap.size≤lb)(z:∀j,s j→F j∨w.heap.size≤j)(A:ae (fun j=>F j∨Fo j∨j=lb∨False) w w1):(∀j,s j→F j∨w.heap.size≤j)∧ae (fun j=>F j∨Fo j) w w1:=
 ⟨z,A.mono (fun k j t=>by
  rcases t with q|q|q|q;·exact .inl q
  ·exact .inr q
  ·omega
  ·exact q.elim)⟩

def lQ (F Fo:Nat→Prop)(w:World)(s q:Nat)(fs:List (Int×List Bool))(qs:List Int)(r:Ending)(w':World):Prop:=
 ∃(g:Nat) (F':Nat→Prop) (M':St) (j:List (Int×Edge)),r=.returned (.tuple #[.slice (some ⟨g,0,none⟩) fs.length fs.length,.int .u8 0])∧eo F' Fo w' s q M' qs∧ar qs=true∧ct M' qs fs j∧M'.len=(ai fs qs:Int)∧((fs.length:Int)*300<M'.room∧M'.room≤1000000) ∧
  bJ w' g (j.map Prod.snd)∧(¬F' g∧¬Fo g∧w.heap.size≤g)∧(∀j,F' j→F j∨w.heap.size≤j)∧ae (fun j=>F j∨Fo j) w w'

theorem oQ {F s Fo:Nat→Prop}{w wr:World}{E lb cap K J:Nat}{O:Option Addr}{M:St}{qs:List Int}{fs:List (Int×List Bool)}{rs:List (Int×Edge)}(h:fm s Fo wr E lb O cap K J M qs fs rs)(N:∀q,s q→F q∨w.heap.size≤q)(I:ae (fun q=>F q∨Fo q) w wr)(t:World)(j:aa wr t) :
  Calls Tryz.prog 53 #[.pointer (some ⟨E,0,none⟩)] t fun e w'=>(∃g,e=.returned (.slice (some ⟨g,0,none⟩) fs.length fs.length)∧∀W',aa w' W'→lQ F Fo w K J fs qs (.returned (.tuple #[.slice (some ⟨g,0,none⟩) fs.length fs.length,.int .u8 0])) W')∧aa t w':=by
 have t:∀r∈rs,(0≤r.1∧r.1≤255)∧r.2.ok:=fun r q=>⟨by have:=(h.ch.leads r q).1;omega,h.ch.e' r q⟩
 have q:=h.bx
 refine(ke (h.cells.U j).c2 ((h.row.U j).roots t) h.ch.1 (by omega)).mono ?_
 rintro e w' ⟨g,rfl,q,L,A⟩
 refine⟨⟨g,rfl,fun W' z=>⟨g,s,M,rs,rfl,((h.bp.U j).U A).U z,h.perm,h.ch,h.len,⟨h.room,h.b0⟩,L.U z,⟨fun q=>?_,fun q=>?_,?_⟩,N,((I.a' (j.av _)).a' (A.av _)).a' (z.av _)⟩⟩,A⟩
 ·have:=h.bp.a4.lt g q;have:=j.size;omega
 ·have:=h.bp.b7.lt g q;have:=j.size;omega
 ·have:=I.size;have:=j.size;omega

end Go.Proofs.YtafkamlhimkbmaaGreat
