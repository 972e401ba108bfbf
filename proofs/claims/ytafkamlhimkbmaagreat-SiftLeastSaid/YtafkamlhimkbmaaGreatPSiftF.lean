/-
  sift.made.
-/
import Derived.Test.YtafkamlhimkbmaaGreatPSiftB
import Derived.Deep.AppendLies
namespace Go.Proofs.YtafkamlhimkbmaaGreat
set_option maxRecDepth 1000000
set_option maxHeartbeats 8000000
set_option linter.unusedSimpArgs false
set_option linter.unusedVariables false
open Go.RowKit

theorem qp {w:World}{A g q cap:Nat}{rs:List (Int×Edge)}(h:w.ownsRow A 55 3 (.slice (some ⟨g,0,none⟩) q cap) q (rs.flatMap dI))(K:q=rs.length):cA w (some ⟨g,0,none⟩) g rs:=fun q=>by
 refine⟨rfl,?_⟩;rcases h.2 with⟨s,_⟩|⟨A,q,t,s,K,E,_,_,_,I⟩
 ·cases s
 ·cases s;refine⟨t,E,fun i r z=>?_⟩;have hi:=(List.getElem?_eq_some_iff.1 z).1
  have key:∀j,j<3→t[i*3+j]?=(dI r)[j]?:=fun j J=>by
   rw[←ef dI 3 (fun _=>rfl) rs i j r z J,←I,List.getElem?_take,if_pos (by omega),Array.getElem?_toList]
  exact⟨key 0 (by omega),key 1 (by omega),key 2 (by omega)⟩

theorem zj {w:World}{b off:Nat}{rs:List (Int×Edge)}(t:dJ w (some ⟨b,off,none⟩) rs)(j:Nat)(u:Value)(h:(rs.flatMap dI)[j]?=some u):w.cell? ⟨b,off+j,none⟩=some u:=by
 have K:(rs.flatMap dI).length=rs.length*3:=by
  clear t h;induction rs with
  |nil=>rfl
  |cons r rs J=>rw[List.flatMap_cons,List.length_append,J,List.length_cons];show 3+_=_;omega
 have J:=(List.getElem?_eq_some_iff.1 h).1;rw[K]at J;have hi:j / 3<rs.length:=by omega
 have z:rs[j / 3]?=some rs[j / 3]:=List.getElem?_eq_getElem hi;obtain⟨J,K,b',N,e,A,E,I⟩:=t _ _ z;cases e;have s:=ef dI 3 (fun _=>rfl) rs (j / 3) (j%3) _ z (by omega);rw[show j / 3*3+j%3=j by omega,h]at s;have L:j%3=0∨j%3=1∨j%3=2:=by omega
 rcases L with q|q|q
 ·rw[q]at s;rw[show off+j=off+j / 3*3 by omega,A];exact s.symm
 ·rw[q]at s;rw[show off+j=off+j / 3*3+1 by omega,E];exact s.symm
 ·rw[q]at s;rw[show off+j=off+j / 3*3+2 by omega,I];exact s.symm

theorem xd {F Fo:Nat→Prop}{w J j t:World}{N Y s lb cap:Nat}{W:Option Addr}{M:St}{ps:List Int}{z:List (Int×List Bool)}{rs:List (Int×Edge)}(hS:eO F Fo w N Y M ps)(aw:aA ps=true)(Z:ps.length≤6)(a5:z.length≤4)(a8:(z.length:Int)*300<M.room)(be:M.room≤1000000)(a1:ct M ps z rs)
  (L:aa w J) (a':cA J W lb rs) (am:eB j s W z.length cap N Y) (I:aa J j) (bg:J.heap.size≤s) (T:w.heap.size≤lb) (bi:lb<J.heap.size)
  (A:ae F j t) (ad:ag (ao F j t) t N (cK M ((rs.map Prod.snd).map Edge.to))):cF F Fo (fun _=>False) w t s lb W cap N Y ps z:=by
 have U:=hS.a5
 have z:=U.lt
 have av:=hS.cd.lt
 have J:=L.size
 have J:=I.size
 have J:=A.size
 have a6:s<j.heap.size:=aD am.c0
 have X:∀k,w.heap.size≤k→¬F k:=fun k S E=>by have:=z k E;omega
 have a2:∀k,w.heap.size≤k→¬Fo k:=fun k S E=>by have:=av k E;omega
 have a3:∀k,w.heap.size≤k→k<j.heap.size→¬ao F j t k:=fun k a4 z E=>by
  rcases E with q|q;·exact X k a4 q
  ·omega
 have ab:=U.U (L.trans I)
 have bb:=a1.size ab aw hS.n Z (by have:=U.wf.c6;omega)
 refine⟨ao F j t,cK M ((rs.map Prod.snd).map Edge.to),rs,⟨⟨ad,((hS.cd.U L).U I).a4 A (fun k O K=>hS.dr k K O),fun k O K=>?_,hS.n,hS.room⟩,aw,Z,a5,?_,a8,be,a1.eu ad.wf,(a'.U I).a4 A (X lb T),am.a4 A (X s (by omega)),⟨a3 s (by omega) a6,a2 s (by omega),by omega⟩,⟨a3 lb T (by omega),a2 lb T⟩,by omega⟩,fun j a7=>?_,?_⟩
 ·rcases O with q|q;·exact hS.dr k q K
  ·have:=av k K;omega
 ·rw[qP ab];exact_mod_cast bb.1
 ·rcases a7 with q|q;·exact .inl q
  ·exact .inr (by omega)
 ·exact((L.trans I).av _).a' (A.mono (fun k _ S=>.inl S))

theorem zY {F Fo:Nat→Prop}{w:World}{I L cap3:Nat}{av:Option Addr}{M:St}{ps:List Int}{z:List (Int×List Bool)}{rs:List (Int×Edge)}(hS:eO F Fo w I L M ps)(cl:aA ps=true)(cx:ps.length≤6)(b9:z.length≤4)(cn:(z.length:Int)*300<M.room)(co:M.room≤1000000)(a6:ct M ps z rs)(cb:dJ w av rs)(bb:av=none→cap3=0) :
  Calls Tryz.prog 50 #[.pointer (some ⟨I,0,none⟩),.pointer (some ⟨L,0,none⟩),.slice av z.length cap3] w fun e a7=>∃(K lb cap:Nat) (W:Option Addr),e=.returned (.pointer (some ⟨K,0,none⟩))∧cF F Fo (fun _=>False) w a7 K lb W cap I L ps z∧w.heap.size≤K∧w.heap.size≤lb:=by
 obtain⟨cq,hi,c7,cp,c8⟩:=info_parts o8
 have bv:=fun(j s a7:World) (K lb cap:Nat) (W:Option Addr) (E:aa w j) (Y:cA j W lb rs) (c0:eB s K W z.length cap I L) (c9:aa j s) (cS:j.heap.size≤K) (c2:w.heap.size≤lb) (c3:lb<j.heap.size) (cD:ae F s a7) (cy:ag (ao F s a7) a7 I (cK M ((rs.map Prod.snd).map Edge.to)))=>xd hS cl cx b9 cn co a6 E Y c0 c9 cS c2 c3 cD cy
 have b2:∀r∈rs,(0≤r.1∧r.1≤255)∧r.2.ok:=fun r U=>⟨by have:=(a6.leads r U).1;omega,a6.fa r U⟩
 have a5:=a6.1
 have A:=fun(s:World) (g:Nat) (a7:aa w s) (cx:bL s g (rs.map Prod.snd))=>qK (hS.a5.U a7) (some ⟨g,0,none⟩) z.length z.length (rs.map Prod.snd) ⟨by rw[List.length_map,a5],fun i e bw=>(cx.at (fun e bw=>by obtain⟨r,U,rfl⟩:=List.mem_map.1 bw;exact(b2 r U).2)) i e bw⟩ (by omega)
 have bx:=fun(s:World) (K lb cap:Nat) (W:Option Addr) (Y:cA s W lb rs) (a7:s.cell? ⟨K,2,none⟩=some (.slice W z.length cap))=>lE a7 (Y.roots b2) a5 (by omega)
 obtain⟨J,ca⟩:∃J,J=z.length:=⟨_,rfl⟩
 rw[←ca]at b9 bv A bx a5 ⊢
 have bi:=Lib.hid bv
 have br:=Lib.hid A
 have bn:=Lib.hid bx
 have ab:=Lib.hid cb
 have ad:=Lib.hid a5
 have cg:∀(s:World),s.heap[w.heap.size]?=some (.cells #[] 55 (0,0))→s.ownsRow w.heap.size 55 3 (.slice (some ⟨w.heap.size,0,none⟩) 0 0) 0 []:=fun s h=>⟨rfl,.inr ⟨w.heap.size,0,#[],rfl,Nat.le_refl _,h,Nat.le_refl _,by decide,rfl,rfl⟩⟩
 have a8:=Lib.hid cg
 have ch:(w.alloc (.cells #[] 55 (0,0))).heap[w.heap.size]?=some (.cells #[] 55 (0,0)):=by show(w.heap.push _)[w.heap.size]?=_;simp
 have a':=Lib.hid ch
 clear bv A bx cb hS cl a6 cn co b2 ca a5 cg ch
 by_cases b8:J=0
 ·subst b8;have c4:rs=[]:=List.eq_nil_of_length_eq_zero ad.out;have ci:av=none→(0:Nat)=0∧cap3=0:=fun h=>⟨rfl,bb h⟩;subst c4;clear bb ab;go_enter Tryz.func50,Tryz.ntmps50
  go_wp2_with (first
   |(at_builtin;go_loud (refine wpList_append_fits_any _ rfl _ _ 31 rfl w.heap.size 55 cq 3 Tryz.underlying31 hi cp w.heap.size 0 0 [] rfl (a8.out _ a'.out) av 0 cap3 [] rfl rfl ci (fun _ _ cv u h=>by simp at h) (fun u h=>by simp at h) (Nat.le_refl _) ?_);intro j a4 t)
   |fail)
  have b0:w.heap.size<j.heap.size:=by have:=t.size;simp at this;omega
  have E:aa w j:=aa.new (F:=fun k=>some w.heap.size=some k) ((aa.refl w).alloc _) ⟨t.os,t.tape,t.output,t.size,fun k O b1=>t.block k O (fun e=>b1 e.symm)⟩ (fun k O=>by cases O;exact Nat.le_refl _);have am:Hid (cA j (some ⟨w.heap.size,0,none⟩) w.heap.size []):=Lib.hid (fun h=>absurd rfl h);have Z:=Lib.hid E;have b4:=E.size;clear a4 t E a8 a' ci;have N:eB (j.alloc (.cells #[.pointer (some ⟨I,0,none⟩),.pointer (some ⟨L,0,none⟩),.slice (some ⟨w.heap.size,0,none⟩) 0 0,.int .u8 0] 115 (0,0))) j.heap.size (some ⟨w.heap.size,0,none⟩) 0 0 I L:=⟨by simp[go_sem],by simp[go_sem],by simp[go_sem],by simp[go_sem]⟩;have bg:=Lib.hid N;refine(bn.out _ _ _ _ _ (am.out.U ((aa.refl _).alloc _)) N.c2).mono ?_;clear N;rintro e X ⟨bt,rfl,c1,a1,T⟩;have bq:=Lib.hid T;have S:aa j X:=((aa.refl _).alloc _).trans T;have A:=br.out X bt (Z.out.trans S) a1;have bs:=Lib.hid A;have bp:=Lib.hid S;clear A T S a1;go_wp2_with fail
  refine bs.out.mono ?_;rintro e b5 ⟨rfl,a3,a2⟩;have aw:=bi.out j X b5 j.heap.size w.heap.size 0 (some ⟨w.heap.size,0,none⟩) Z.out am.out (bg.out.U bq.out) bp.out (Nat.le_refl _) (Nat.le_refl _) b0 a3 a2;have be:=Lib.hid aw;clear a3 a2 aw;go_wp2_with fail
  go_ret
  exact⟨_,_,_,_,rfl,be.out,b4,Nat.le_refl _⟩

 ·obtain⟨c',b3⟩:∃r,rs[0]?=some r:=⟨_,List.getElem?_eq_getElem (by rw[ad.out];omega)⟩;obtain⟨_,_,b,off,rfl,_⟩:=ab.out 0 c' b3
  have cf:(rs.flatMap dI).length=J*3:=by
   rw[←ad.out];clear bi br bn ab ad b3 bb;induction rs with
   |nil=>rfl
   |cons r rs s=>rw[List.flatMap_cons,List.length_append,s,List.length_cons];show 3+_=_;omega
  have cj:∀u∈rs.flatMap dI,u.oneCell'=true:=fun u c6=>by
   obtain⟨r,_,U⟩:=List.mem_flatMap.1 c6;simp only[dI,List.mem_cons,List.not_mem_nil,or_false]at U;rcases U with rfl|rfl|rfl<;>rfl
  have b6:=Lib.hid cf;have b7:=Lib.hid cj;have c5:0<J:=by omega
  clear b3 cf cj b8 bb;go_enter Tryz.func50,Tryz.ntmps50
  go_wp2_with (first
   |(at_builtin;go_loud (refine wpList_append_lies _ rfl _ _ 31 rfl w.heap.size 55 cq (.agg #[.int .u8 0,.int .u8 0,.int .u32 0]) 3 12 Tryz.underlying31 hi c7 cp c8 rfl (by decide) (.slice (some ⟨w.heap.size,0,none⟩) 0 0) 0 [] rfl (a8.out _ a'.out) ⟨b,off,none⟩ J cap3 (rs.flatMap dI) rfl b6.out (fun cv u h=>by rw[Addr.add_lit];exact zj (ab.out.U ((aa.refl w).alloc _)) cv u h) b7.out c5 (by unfold maxLen;omega) (by omega) (by simp) (w.heap.size+1) (by simp) ?_);intro g cap j a4 t ce b0)
   |fail)
  rw[Nat.zero_add,List.nil_append]at a4
  have cd:w.heap.size≤g:=by
   rcases ce with q|q;·simp[Value.ownBlock]at q;omega
   ·omega
  have Y:=qp a4 ad.out.symm;have E:aa w j:=aa.new (F:=fun k=>Value.ownBlock (.slice (some ⟨w.heap.size,0,none⟩) 0 0)=some k) ((aa.refl w).alloc _) ⟨t.os,t.tape,t.output,t.size,fun k O b1=>t.block k O (fun e=>b1 e.symm)⟩ (fun k O=>by simp[Value.ownBlock]at O;omega);have am:=Lib.hid Y;have Z:=Lib.hid E;have b4:=E.size;clear a4 t ce Y E b6 b7 a8 a' ab;have N:eB (j.alloc (.cells #[.pointer (some ⟨I,0,none⟩),.pointer (some ⟨L,0,none⟩),.slice (some ⟨g,0,none⟩) J cap,.int .u8 0] 115 (0,0))) j.heap.size (some ⟨g,0,none⟩) J cap I L:=⟨by simp[go_sem],by simp[go_sem],by simp[go_sem],by simp[go_sem]⟩;have bg:=Lib.hid N;refine(bn.out _ _ _ _ _ (am.out.U ((aa.refl _).alloc _)) N.c2).mono ?_;clear N;rintro e X ⟨bt,rfl,c1,a1,T⟩;have bq:=Lib.hid T;have S:aa j X:=((aa.refl _).alloc _).trans T;have A:=br.out X bt (Z.out.trans S) a1;have bs:=Lib.hid A;have bp:=Lib.hid S;clear A T S a1;go_wp2_with fail
  refine bs.out.mono ?_;rintro e b5 ⟨rfl,a3,a2⟩;have aw:=bi.out j X b5 j.heap.size g cap (some ⟨g,0,none⟩) Z.out am.out (bg.out.U bq.out) bp.out (Nat.le_refl _) cd b0 a3 a2;have be:=Lib.hid aw;clear a3 a2 aw;go_wp2_with fail
  go_ret
  exact⟨_,_,_,_,rfl,be.out,b4,cd⟩

end Go.Proofs.YtafkamlhimkbmaaGreat
