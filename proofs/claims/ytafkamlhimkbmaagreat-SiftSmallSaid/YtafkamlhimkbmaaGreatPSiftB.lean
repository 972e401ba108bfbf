/-
  sift.bed's step.
-/
import Derived.Test.YtafkamlhimkbmaaGreatPSiftA
import Derived.Test.YtafkamlhimkbmaaGreatPSiftO
namespace Go.Proofs.YtafkamlhimkbmaaGreat
set_option maxRecDepth 1000000
set_option maxHeartbeats 8000000
set_option linter.unusedSimpArgs false
set_option linter.unusedVariables false
open Go.RowKit

theorem uE {n:Int}(s:n≤6):∀j:Nat,(j:Int)+1<n→dh (j:Int) 0≤126:=fun j s=>by
 have q:j=0∨j=1∨j=2∨j=3∨j=4:=by omega
 rcases q with rfl|rfl|rfl|rfl|rfl<;>decide

theorem tj {F Fo:Nat→Prop}{w:World}{A lb cap U T:Nat}{S:Option Addr}{M:St}{ps:List Int}{fs:List (Int×List Bool)}{rs:List (Int×Edge)}(h:fm F Fo w A lb S cap U T M ps fs rs)(lv:Nat)(cj:lv+1<ps.length) :
  Calls Tryz.prog 106 #[.pointer (some ⟨A,0,none⟩),.int .i64 (lv:Int)] w fun e w'=>e=.returned (.bool true)∧aL F Fo (fun _=>False) w w' A lb S cap U T (aq ps lv) fs:=by
 have K:rs.length=fs.length:=h.ch.1
 obtain⟨b3,b4,a7⟩:=h.nb
 obtain⟨a8,aw⟩:=h.nl
 obtain⟨bw,cv⟩:=h.ew
 have a2:=h.n6
 have bp:=h.bx
 have av:=h.bp.n
 have cp:=(h.ch.size h.bp.a4 h.perm av a2 (by have:=h.bp.a4.wf.cx;have:=h.b0;omega)).2
 have ci:=h.len
 have bx:=h.room
 have b0:∀z,ae (fun I=>F I∨Fo I) w z→dz z S rs:=fun z s=>(h.row.a5 s (fun j=>by rcases j with q|q;exact a8 q;exact aw q)).roots (fun r bw=>⟨by have:=(h.ch.leads r bw).1;omega,h.ch.e' r bw⟩)
 have bi:jS M ps.length (lv:Int) rs=0:=by unfold jS;rw[if_pos av,if_neg (by omega)];exact xN h.bp.a4.wf h.ch.leads
 have b2:=fun(z:World) (s:aa w z)=>by
  have:=AY (c:=126) (h.bp.a4.U s) (h.bp.b7.U s) h.bp.c' (lv:Int) S cap (fun W' bw=>b0 W' ((s.av _).a' bw)) (by omega) (fun _ bw=>uE (n:=M.n) (by omega) lv bw) (by decide) (by rw[K];omega) h.bp.room;rw[bi,Int.toNat_natCast,K]at this
  exact this.mono (fun r w1 j=>(by
   rcases j with⟨a4,_⟩|⟨b9,j⟩
   ·exact absurd rfl a4
   ·exact .inr ⟨b9,j.gu s⟩:gd F Fo w U T M ps [lv] rs 126 0 r w1))
 -- what swap makes, and what take makes of it
 have bt:∀r w1,gd F Fo w U T M ps [lv] rs 126 0 r w1→∃g,r=.returned (.tuple #[.slice (some ⟨g,0,none⟩) fs.length fs.length,.int .u8 0])∧ej w1 A S fs.length cap U T ∧
   ∀z,aa w1 z→Calls Tryz.prog 170 #[.pointer (some ⟨A,0,none⟩),.slice (some ⟨g,0,none⟩) fs.length fs.length] z fun e w'=>e=.returned (.tuple #[])∧aL F Fo (fun _=>False) w w' A lb S cap U T (aq ps lv) fs:=by
  intro r w1 j
  rcases j with⟨a4,_⟩|⟨_,g,es,M',F',rfl,cd,S,ab,a3,J,cg,cb,ad,L⟩
  ·exact absurd rfl a4
  ·have cq:∀e∈es,e.ok:=fun e cf=>by
    obtain⟨k,Y⟩:=List.mem_iff_getElem?.1 cf;have S:=(List.getElem?_eq_some_iff.1 Y).1;exact(ab.2 k _ e (List.getElem?_eq_getElem (by rw[←ab.1];exact S)) Y).ok
   have S:=ad.size;have a6:¬F' A:=fun j=>(by rcases J A j with q|q;exact b3 q;omega);have b5:¬F' lb:=fun j=>(by rcases J lb j with q|q;exact a8 q;omega);have N:=h.cells.a5 ad (fun j=>by rcases j with q|q;exact b3 q;exact b4 q);have cl:=h.row.a5 ad (fun j=>by rcases j with q|q;exact a8 q;exact aw q);refine⟨g,by rw[K],N,fun z s=>?_⟩;have z:=s.size;have z:es.length=fs.length:=ab.1.trans K;refine(tk (N.U s) (cl.U s) (cd.U s) K z (by omega) cq (a3.U s) (by omega) a7 cg b5 a6 (by omega)).mono ?_;rintro e w' ⟨bb,a',rfl,a5,cn,br,Z,X⟩;refine⟨rfl,bb,cM M' (es.map Edge.to),a',?_,?_,?_⟩
   ·have z:ae (fun I=>F' I∨I=lb) w1 w':=(s.av _).a' X;have S:ct M' (aq ps lv) fs a':=h.ch.step (ss:=[lv]) ab a5.1 a5.2;have z:=a5.snd (by omega)
    have co:ct (cM M' (es.map Edge.to)) (aq ps lv) fs a':=by
     have:=S.e3 (by rw[z];exact br.wf);rwa[z]at this
    have bs:M'.n=(ps.length:Int):=(by rw[L.ext.n,av]);have bv:=gy cj h.perm;have am:=ck ps lv;have b1:=S.size a3 bv (by rw[am];exact bs) (by rw[am];exact a2) (by have:=L.wf.cx;have:=L.room;have:=h.b0;omega);rw[z]at b1
    have ce:∀k,bb k→¬Fo k:=fun k ca bn=>by
     have Y:=h.bp.b7.lt k bn;rcases Z k ca with q|q
     ·rcases J k q with t|t;·exact h.bp.c' k t bn
      ·omega
     ·omega
    refine⟨⟨br,(cb.U s).a5 X (fun k a1 b8=>?_),ce,?_,?_⟩,bv,by rw[am];exact a2,bp,?_,?_,by show M'.room≤_;rw[L.room];exact h.b0,co,cn,(N.U s).a5 X (fun j=>?_),⟨fun j=>?_,b4,a7⟩,⟨fun j=>?_,aw⟩,?_⟩
    ·rcases b8 with q|q
     ·rcases J k q with t|t;·exact h.bp.c' k t a1
      ·have:=h.bp.b7.lt k a1;omega
     ·subst q;exact aw a1
    ·show M'.n=_;rw[bs,am]
    ·show M'.room<_;rw[L.room];exact h.bp.room
    ·rw[rE a3];exact_mod_cast b1.1
    ·show _<M'.room;rw[L.room];exact bx
    ·rcases j with q|q;·exact a6 q
     ·exact a7 q
    ·rcases Z A j with q|q;·exact a6 q
     ·omega
    ·rcases Z lb j with q|q;·exact b5 q
     ·omega
    ·have:=X.size;omega
   ·intro I ch;rcases Z I ch with q|q
    ·rcases J I q with t|t;·exact .inl t
     ·exact .inr t
    ·exact .inr (by omega)
   ·refine(ad.mono (fun k _ Y=>?_)).b9 ((s.av _).a' X) (fun i hi j=>?_)
    ·rcases Y with q|q;·exact .inl q
     ·exact .inr (.inl q)
    ·rcases j with q|q
     ·rcases J i q with t|t;·exact .inl t
      ·omega
     ·exact .inr (.inr (.inl q))
 have O:=h.cells
 have bg:=Lib.hid b2
 have be:=Lib.hid bt
 obtain⟨s,bq⟩:∃s,s=fs.length:=⟨_,rfl⟩
 rw[←bq]at bg be O bp
 have s:=O.c0
 have s:=O.c1
 have s:=O.c2
 have s:=O.c3
 clear b2 bt bi b0 ci bx cp av h K bq O
 go_enter Tryz.func106,Tryz.ntmps106
 go_wp2_with fail
 refine jg 13 #[true,true,true,true,true,true,true,true,true,true,true,true,true,false,false,false,false,false,false] (by kernel_rfl) (by kernel_rfl) ?_
 simp only[List.take_succ_cons,List.take_zero,List.drop_succ_cons,List.drop_zero]
 repeat still_step
 refine wpStill_nil ?_
 refine wpAny_ready (fuel:=5) (rs:=[13]) (by kernel_rfl) (by decide) (AllReady.cons rfl (fun W E=>?_) AllReady.nil)
 go_simp
 refine(bg.out _ (by(exact kp))).mono ?_
 rintro r w1 j
 obtain⟨g,rfl,N,s⟩:=be.out _ _ j
 have b7:=Lib.hid s
 have t:=N.c3
 clear j s N
 refine E _ _ ?_
 clear E W
 refine wpAny_take (i:=14) (v:=?_) rfl (by kernel_rfl) (by kernel_rfl) (by kernel_rfl) (fun _ _ _ h=>h) (Or.inl ⟨by rfl,?_⟩) ?_
 rotate_left
 ·intro w;go_simp;try with_reducible rfl
 refine wpAny_take (i:=15) (v:=?_) rfl (by kernel_rfl) (by kernel_rfl) (by kernel_rfl) (fun _ _ _ h=>h) (Or.inl ⟨by rfl,?_⟩) ?_
 rotate_left
 ·intro w;go_simp;try with_reducible rfl
 refine wpAny_take (i:=16) (v:=?_) rfl (by kernel_rfl) (by kernel_rfl) (by kernel_rfl) (fun _ _ _ h=>h) (Or.inl ⟨by rfl,?_⟩) ?_
 rotate_left
 ·intro w;go_simp;try with_reducible rfl
 refine wpAny_ready (rs:=[17]) (by kernel_rfl) (by decide) (AllReady.cons rfl (fun W E=>?_) AllReady.nil)
 go_simp
 refine E _ _ ?_
 clear E W
 refine wpAny_ready (rs:=[18]) (by kernel_rfl) (by decide) (AllReady.cons rfl (fun W E=>?_) AllReady.nil)
 go_simp
 refine E _ _ ?_
 clear E W
 refine wpAny_done (by kernel_rfl) ?_ _
 go_wp2_with fail
 refine(b7.out _ (by(exact kp))).mono ?_
 rintro e j ⟨rfl,j⟩
 have b6:=Lib.hid j
 clear j
 go_wp2_with fail
 go_ret
 exact⟨rfl,b6.out⟩

theorem jk {F0 Fo t:Nat→Prop}{w0 w:World}{s lb cap J I:Nat}{E:Option Addr}{ps:List Int}{fs:List (Int×List Bool)}(h:aL F0 Fo t w0 w s lb E cap J I ps fs)(lv:Nat)(N:lv+1<ps.length) :
  Calls Tryz.prog 106 #[.pointer (some ⟨s,0,none⟩),.int .i64 (lv:Int)] w fun e w'=>e=.returned (.bool true)∧aL F0 Fo t w0 w' s lb E cap J I (aq ps lv) fs∧ae (fun j=>F0 j∨Fo j∨j=lb∨w0.heap.size≤j) w w':=by
 obtain⟨F,M,rs,j,z,K⟩:=h
 refine(tj j lv N).mono ?_
 rintro e w' ⟨rfl,A⟩
 refine⟨rfl,aL.next z K (fun _ j=>j.elim) A,?_⟩
 obtain⟨_,_,_,_,_,j⟩:=A
 refine j.mono (fun k _ L=>?_)
 rcases L with q|q|q|q
 ·rcases z k q with j|j;·exact .inl j
  ·exact .inr (.inr (.inr j))
 ·exact .inr (.inl q)
 ·exact .inr (.inr (.inl q))
 ·exact q.elim

end Go.Proofs.YtafkamlhimkbmaaGreat
