/-
  Proved: the statement SiftLeast, for every input.
-/
import Derived.Test.YtafkamlhimkbmaaGreatPLeastR
import Derived.Test.YtafkamlhimkbmaaGreatPRootsF
import Derived.Test.YtafkamlhimkbmaaGreatRows
namespace Go.Proofs.YtafkamlhimkbmaaGreat
set_option maxRecDepth 1000000
set_option maxHeartbeats 8000000
set_option linter.unusedSimpArgs false
set_option linter.unusedVariables false
open Go.ChangeShapes Go.WideShapes Go.ChangeAt Go.RowKit

theorem zX (a0:Option Addr)(s cap0:Nat)(ps:List Int)(ad:Option Addr)(bb bp:Nat)(ws:List (Int×Int))(w:World)(cd:nT w a0 s ps)(W:iF w ad bb ws) :
  Calls Tryz.prog 3 #[.slice a0 s cap0,.slice ad bb bp] w fun e ce=>e=.returned (.bool true)∧aa w ce:=by
 obtain⟨K,J,-⟩:=cd
 by_cases cd:4<s
 ·clear K J W;go_enter Tryz.func3,Tryz.ntmps3
  go_wp2_with (first|(go_at_call 8;refine(mf _).mono ?_;rintro e w1 ⟨rfl,a2⟩)|fail)
  go_ret
  exact⟨rfl,by(exact kp)⟩
 ·have A:=fun(j:World) (t:aa w j)=>qi a0 cap0 ps j (J.U t) (by omega);rw[K]at A;by_cases L:aA ps=true
  ·rw[L]at A;have ab:=Lib.hid A;have bw:=Lib.hid J;have E:=Lib.hid K;have Z:=Lib.hid L;have b4:=Lib.hid (fun(j:World) (t:aa w j)=>zi s (by omega) ad bb bp ws j (W.U t));clear A J K L W;go_enter Tryz.func3,Tryz.ntmps3
   go_wp2_with (first|(go_at_call 8;refine(mf _).mono ?_;rintro e w1 ⟨rfl,a2⟩)|(go_at_call 9;refine(ab.out _ (by(exact kp))).mono ?_;rintro e cf ⟨rfl,rfl⟩)|fail)
   refine(b4.out _ (by(exact kp))).mono ?_;rintro e be ⟨ca,rfl|⟨a,c,O,rfl,bs,av⟩⟩
   ·go_wp2_with fail
    go_ret
    exact⟨rfl,by(exact kp)⟩
   ·have a1:aa w be:=(by(exact kp));have T:=oo 3000 a0 a cap0 c ps O be (bw.out.U a1) Z.out (by have:=E.out;omega) (by rw[E.out];exact av) bs (by omega) (by omega);rw[E.out]at T;obtain⟨ad,am⟩:∃ad,ad=O.length:=⟨_,rfl⟩;rw[←am]at T bs ⊢;have bi:=Lib.hid T;have b6:=Lib.hid av;have q:=Lib.hid am;have bx:=Lib.hid a1;clear T av am ca a1 a2;go_wp2_with fail
    refine bi.out.mono ?_;rintro e cg ⟨cp,co,F,Fo,M,ch,b9,rs,rfl,U⟩;rw[q.out]at U;obtain⟨hS,av,a1,ad,am,N⟩:=U.go Z.out (by have:=E.out;omega) (by have:=q.out;omega) (by have:=q.out;omega) (by omega);have T:=qA (cap3:=b9) hS Z.out (by have:=E.out;omega) (by have:=q.out;omega) (by have:=q.out;omega) (by omega) av (ad cg (ae.refl _ _)) am;rw[←q.out,E.out]at T;have bn:=Lib.hid T;have Y:=Lib.hid U;clear T U hS av a1 ad am N bi;go_wp2_with fail
    refine bn.out.mono ?_;rintro e bg ⟨g,E,T,Z,br,I,a6,a',a5,⟨-,U⟩,bq,-,-,bv⟩;rw[←q.out]at br;subst br;have a3:aa be bg:=Y.out.U.new bv (fun k E=>Y.out.e4 k E);have bt:=bx.out.trans a3;obtain⟨n,cb⟩:∃n,n=s:=⟨_,rfl⟩;obtain⟨z,S⟩:∃z,z=eE (aI O) s:=⟨_,rfl⟩;have X:z.length=s:=(by rw[S];exact(pn _ (by omega)).2);rw[←S]at I a6 a' a5;have aw:=b6.out.U a3;have a7:=kN I.cd;rw[X]at a7;have N:=fun(j:World) (t:aa bg j)=>yZ s (by omega) a c O j (aw.U t) (by have:=q.out;omega);rw[←S,←q.out]at N;have a8:=fun(x y:Option Addr) (E O:Nat) (j:World) (T:aL j x z) (U:aL j y z)=>y' x y E O z z j T U (by omega) (by omega);simp only[X,decide_true]at a8;have a4:=fun(j:World) (t:aa bg j)=>vW (cap0:=c) (a0:=a) (n:=s) (p:=2 ^ s) (I.U t) a6 X rfl (by omega) a' a5 (by have:=I.a5.wf.c6;omega) (aw.U t) (by have:=q.out;omega) (bq.U t);rw[←q.out]at a4;have b2:=Lib.hid a7;have b3:=Lib.hid N;have b5:=Lib.hid a8;have b1:=Lib.hid a4;have b0:=Lib.hid bt;clear I a6 a' a5 bq bv a3 bt S X aw a7 N a8 a4 bn Y cb
    go_wp2_with (first
     |(go_at_call 14;refine b2.out.mono ?_;rintro e cq ⟨ci,cl,rfl,j,q⟩;have b7:=Lib.hid j.eg;clear j)
     |(go_at_call 15;refine(b3.out _ (by(exact kp))).mono ?_;rintro e cv ⟨cj,cn,rfl,j,q⟩;have b8:=Lib.hid j;clear j)
     |(go_at_call 13;refine(b5.out _ _ _ _ _ (b7.out.U (by(exact kp))) (b8.out.U (by(exact kp)))).mono ?_;rintro e cx ⟨rfl,j⟩)
     |(go_at_call 16;refine(b1.out _ (by(exact kp))).mono ?_;rintro e cy ⟨rfl,j⟩)
     |fail)
    go_ret
    exact⟨rfl,b0.out.trans (by(exact kp))⟩
  ·have j:aA ps=false:=(by simpa using L);rw[j]at A;have ab:=Lib.hid A;clear A j L J K W;go_enter Tryz.func3,Tryz.ntmps3
   go_wp2_with (first|(go_at_call 8;refine(mf _).mono ?_;rintro e w1 ⟨rfl,a2⟩)|(go_at_call 9;refine(ab.out _ (by(exact kp))).mono ?_;rintro e cf ⟨rfl,rfl⟩)|fail)
   go_ret
   exact⟨rfl,by(exact kp)⟩

theorem zV (os:Os)(I:os.Started)(H:Type)(enc:TypeId×Value→H) :
  ReturnsInHanded {} Tryz.checked os 3 .any (Rows.siftLeastSpec.pre6 enc Tryz.prog Tryz.f3 Rows.siftLeastRow.domain false) (Rows.siftLeastSpec.post enc Tryz.prog Tryz.f3 false true false false):=by
 refine returnsInHanded_of_change (C:=Tryz.checked) own I (by kernel_rfl) Tryz.func3
  (ChangeSpec.witness6 (enc:=enc) (C:=Tryz.checked) false ⟨#[],#[.slice none 0 0,.slice none 0 0],[]⟩ 12 (by kernel_rfl) (by kernel_rfl) (by kernel_rfl) (by kernel_rfl)) ?_
 intro j O args T gs before E A I _
 have s:∀(I:Nat) J v,Tryz.f3.params[I]?=some J→args[I]?=some v→Value.okWide Tryz.prog j .any O J v:=E
 have Z:=A
 obtain⟨p,a',z,Y,rfl,I,J⟩:=A
 have q:DataW.TrodAll enc Tryz.prog j 0 (fun _=>true) true Tryz.f3.params.toList args.toList T p:=z
 rw[Tryz.params3]at q s
 have X:=q
 obtain⟨K,bg,a2,a4,a7,bb,a6,rfl,rfl,U,av⟩:=trodAll_cons q
 obtain⟨L,bi,a3,a5,a8,be,rfl,rfl,rfl,W,aw⟩:=trodAll_cons av
 obtain⟨rfl,rfl,rfl⟩:=trodAll_nil aw
 obtain rfl:args=#[K,L]:=by cases args;simp_all
 obtain⟨rfl,rfl⟩:=trodVars_none Y
 obtain⟨a0,ad,cap0,rfl⟩:=okWide_slice Tryz.underlying22 (s 0 22 K rfl rfl)
 obtain⟨a1,w0⟩:=xR U
 obtain⟨N,am,S,rfl⟩:=okWide_slice Tryz.underlying23 (s 1 23 L rfl rfl)
 obtain⟨q,w1⟩:=xS W
 clear z E
 refine(zX a0 ad cap0 a1 N am S q j w0 w1).mono fun e W' ⟨ab,t⟩=>?_
 subst ab
 exact⟨_,rfl,_,_,_,[],_,[],Z,trodAll_mk1 (shut_bool Tryz.underlying4 _),re wR t _ _ _ _ (by kernel_rfl) X,rfl,Below.frame t _,fun h=>by cases h⟩

theorem zW:Rows.siftLeastRow.holds Tryz.pinned (OpenSpec.ofChange Rows.siftLeastSpec):=
 OpenClaim.holds_of_wide 3 Tryz.f3 rfl rfl rfl rfl rfl rfl rfl ⟨rfl,rfl,rfl,rfl,rfl⟩ rfl rfl rfl rfl rfl (by as_aux_lemma=>kernel_rfl) Tryz.func3 (by unfold joinedFacts;(repeat' with_reducible refine Bool.and_eq_true_iff.2 ⟨?_,?_⟩);all_goals as_aux_lemma=>kernel_rfl)
  (of_decide_eq_true (by as_aux_lemma=>kernel_rfl)) (by unfold Func.isWrapper;first|(rw[if_pos (by decide +kernel)];kernel_rfl)|(rw[if_neg (by decide +kernel)];exact⟨rfl,rfl⟩))
  (fun os j H enc _=>zV os j H enc)

theorem siftLeast_proved:Rows.SiftLeastSaid:=zW

end Go.Proofs.YtafkamlhimkbmaaGreat
