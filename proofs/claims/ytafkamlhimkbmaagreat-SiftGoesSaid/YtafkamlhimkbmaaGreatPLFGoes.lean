/-
  Proved: the statement SiftGoes, for every input.
-/
import Derived.Test.YtafkamlhimkbmaaGreatPSiftR
import Derived.Test.YtafkamlhimkbmaaGreatPSiftXxA
import Derived.Test.YtafkamlhimkbmaaGreatRows
namespace Go.Proofs.YtafkamlhimkbmaaGreat
set_option maxRecDepth 1000000
set_option maxHeartbeats 8000000
set_option linter.unusedSimpArgs false
set_option linter.unusedVariables false
open Go.ChangeShapes Go.WideShapes Go.ChangeAt Go.RowKit

theorem Ap (a0:Option Addr)(t cap0:Nat)(ps:List Int)(av:Option Addr)(bg cap1:Nat)(ws:List (Int×Int))(O:Int)(w:World)(ch:lL w a0 t ps)(S:gW w av bg ws)(ce:(Lit.int .i64 O).wf=true) :
  Calls Tryz.prog 4 #[.slice a0 t cap0,.slice av bg cap1,.int .i64 O] w fun e w'=>e=.returned (.bool true)∧aa w w':=by
 obtain⟨L,K,-⟩:=ch
 by_cases ch:5<t
 ·clear L K S;go_enter Tryz.func4,Tryz.ntmps4
  go_wp2_with (first|(go_at_call 8;refine(fS _).mono ?_;rintro e w1 ⟨rfl,W⟩)|fail)
  go_ret
  exact⟨rfl,by(exact kp)⟩
 ·have s:=fun(j:World) (z:aa w j)=>nn a0 cap0 ps j (K.U z) (by omega);rw[L]at s;by_cases N:ar ps=true
  ·rw[N]at s;by_cases cd:O<0
   ·have E:=Lib.hid s;clear s N K L S;go_enter Tryz.func4,Tryz.ntmps4
    go_wp2_with (first|(go_at_call 8;refine(fS _).mono ?_;rintro e w1 ⟨rfl,W⟩)|(go_at_call 9;refine(E.out _ (by(exact kp))).mono ?_;rintro e bi ⟨rfl,rfl⟩)|fail)
    go_ret
    exact⟨rfl,by(exact kp)⟩
   by_cases ch:1000<O
   ·have E:=Lib.hid s;clear s N K L S;go_enter Tryz.func4,Tryz.ntmps4
    go_wp2_with (first|(go_at_call 8;refine(fS _).mono ?_;rintro e w1 ⟨rfl,W⟩)|(go_at_call 9;refine(E.out _ (by(exact kp))).mono ?_;rintro e bi ⟨rfl,rfl⟩)|fail)
    go_ret
    exact⟨rfl,by(exact kp)⟩
   obtain⟨J,rfl⟩:∃J:Nat,O=(J:Int):=⟨O.toNat,by omega⟩;have bx:J≤1000:=(by omega);clear ce cd;have E:=Lib.hid s;have br:=Lib.hid K;have A:=Lib.hid L;have T:=Lib.hid N;have b6:=Lib.hid (fun(j:World) (z:aa w j)=>qN t (by omega) av bg cap1 ws j (S.U z));clear s K L N S;go_enter Tryz.func4,Tryz.ntmps4
   go_wp2_with (first|(go_at_call 8;refine(fS _).mono ?_;rintro e w1 ⟨rfl,W⟩)|(go_at_call 9;refine(E.out _ (by(exact kp))).mono ?_;rintro e bi ⟨rfl,rfl⟩)|fail)
   refine(b6.out _ (by(exact kp))).mono ?_;rintro e bn ⟨cf,rfl|⟨a,c,fs,rfl,bw,a1⟩⟩
   ·go_wp2_with fail
    go_ret
    exact⟨rfl,by(exact kp)⟩
   ·have a3:aa w bn:=(by(exact kp));have Z:=lX 3000 a0 a cap0 c ps fs bn (br.out.U a3) T.out (by have:=A.out;omega) (by rw[A.out];exact a1) bw (by omega) (by omega);rw[A.out]at Z;obtain⟨O,aw⟩:∃O,O=fs.length:=⟨_,rfl⟩;rw[←aw]at Z bw ⊢;have bq:=Lib.hid Z;have b8:=Lib.hid a1;have q:=Lib.hid aw;have b1:=Lib.hid a3;clear Z a1 aw cf a3 W;go_wp2_with fail
    refine bq.out.mono ?_;rintro e ci ⟨cv,cq,F,Fo,M,cj,cb,rs,rfl,ab⟩;rw[q.out]at ab;obtain⟨hS,aw,a1,Z,av,X⟩:=ab.go T.out (by have:=A.out;omega) (by have:=q.out;omega) (by have:=q.out;omega) (by omega);have O:=ri (cap3:=cb) (g:=J) hS T.out (by have:=A.out;omega) (by have:=q.out;omega) (by have:=q.out;omega) (by omega) aw (Z ci (ae.refl _ _)) av bx;rw[←q.out,A.out]at O;have bs:=Lib.hid O;have am:=Lib.hid ab;clear O ab hS aw a1 Z av X bq;go_wp2_with fail
    refine bs.out.mono ?_;rintro e bp ⟨g,O,Z,av,bv,U,a8,be,a7,⟨-,ab⟩,bt,-,-,b0⟩;rw[←q.out]at bv;subst bv;have a5:aa bn bp:=am.out.U.new b0 (fun k O=>am.out.ec k O);have a4:=b1.out.trans a5;obtain⟨n,cg⟩:∃n,n=t:=⟨_,rfl⟩;obtain⟨I,Y⟩:∃I,I=cH (ai fs) J ps t:=⟨_,rfl⟩;have ad:I.length=t:=(by rw[Y,(jO (ai fs) J T.out t (by have:=A.out;omega)).1,A.out]);rw[←Y]at U a8 be a7;have a2:=b8.out.U a5;have a':=kV U.b7;rw[ad]at a';have X:=fun(j:World) (z:aa bp j)=>zv t (by omega) a0 a cap0 c J ps fs j (br.out.U (a4.trans z)) T.out A.out (a2.U z) (by have:=q.out;omega) bx;rw[←Y,←q.out]at X;have bb:=fun(x y:Option Addr) (A J:Nat) (j:World) (O:aG j x I) (T:aG j y I)=>zu x y A J I I j O T (by omega) (by omega);simp only[ad,decide_true]at bb;have a6:=fun(j:World) (z:aa bp j)=>mB (cap0:=c) (a0:=a) (n:=t) (p:=2 ^ t) (U.U z) a8 ad rfl (by omega) be a7 (by have:=U.a4.wf.cx;omega) (a2.U z) (by have:=q.out;omega) (bt.U z);rw[←q.out]at a6;have b4:=Lib.hid a';have b5:=Lib.hid X;have b7:=Lib.hid bb;have b3:=Lib.hid a6;have b2:=Lib.hid a4;clear U a8 be a7 bt b0 a5 a4 Y ad a2 a' X bb a6 bs am cg
    go_wp2_with (first
     |(go_at_call 14;refine b4.out.mono ?_;rintro e cx ⟨cl,co,rfl,j,q⟩;have b9:=Lib.hid j.ea;clear j)
     |(go_at_call 18;refine(b5.out _ (by(exact kp))).mono ?_;rintro e cy ⟨cn,cp,rfl,j,q⟩;have ca:=Lib.hid j;clear j)
     |(go_at_call 13;refine(b7.out _ _ _ _ _ (b9.out.U (by(exact kp))) (ca.out.U (by(exact kp)))).mono ?_;rintro e cD ⟨rfl,j⟩)
     |(go_at_call 16;refine(b3.out _ (by(exact kp))).mono ?_;rintro e cS ⟨rfl,j⟩)
     |fail)
    go_ret
    exact⟨rfl,b2.out.trans (by(exact kp))⟩
  ·have j:ar ps=false:=(by simpa using N);rw[j]at s;have E:=Lib.hid s;clear s j N K L S;go_enter Tryz.func4,Tryz.ntmps4
   go_wp2_with (first|(go_at_call 8;refine(fS _).mono ?_;rintro e w1 ⟨rfl,W⟩)|(go_at_call 9;refine(E.out _ (by(exact kp))).mono ?_;rintro e bi ⟨rfl,rfl⟩)|fail)
   go_ret
   exact⟨rfl,by(exact kp)⟩

theorem An (os:Os)(I:os.Started)(H:Type)(enc:TypeId×Value→H) :
  ReturnsInHanded {} Tryz.checked os 4 .any (Rows.siftGoesSpec.pre6 enc Tryz.prog Tryz.f4 Rows.siftGoesRow.domain false) (Rows.siftGoesSpec.post enc Tryz.prog Tryz.f4 false true false false):=by
 refine returnsInHanded_of_change (C:=Tryz.checked) own I (by kernel_rfl) Tryz.func4
  (ChangeSpec.witness6 (enc:=enc) (C:=Tryz.checked) false ⟨#[],#[.slice none 0 0,.slice none 0 0,.int .i64 0],[]⟩ 12 (by kernel_rfl) (by kernel_rfl) (by kernel_rfl) (by kernel_rfl)) ?_
 intro q T args U gs before E A I _
 have j:∀(I:Nat) J v,Tryz.f4.params[I]?=some J→args[I]?=some v→Value.okWide Tryz.prog q .any T J v:=E
 have ad:=A
 obtain⟨p,br,z,ab,rfl,I,J⟩:=A
 have s:DataW.TrodAll enc Tryz.prog q 0 (fun _=>true) true Tryz.f4.params.toList args.toList U p:=z
 rw[Tryz.params4]at s j
 have Z:=s
 obtain⟨K,bw,a7,bb,bn,bs,bi,rfl,rfl,W,a1⟩:=trodAll_cons s
 obtain⟨L,bx,a8,be,bp,bt,rfl,rfl,rfl,X,a2⟩:=trodAll_cons a1
 obtain⟨N,b0,a',bg,bq,bv,rfl,rfl,rfl,Y,a3⟩:=trodAll_cons a2
 obtain⟨rfl,rfl,rfl⟩:=trodAll_nil a3
 obtain rfl:args=#[K,L,N]:=by cases args;simp_all
 obtain⟨rfl,rfl⟩:=trodVars_none ab
 obtain⟨a0,av,cap0,rfl⟩:=okWide_slice Tryz.underlying22 (j 0 22 K rfl rfl)
 obtain⟨a4,w0⟩:=qv W
 obtain⟨O,aw,cap1,rfl⟩:=okWide_slice Tryz.underlying23 (j 1 23 L rfl rfl)
 obtain⟨a5,w1⟩:=qx X
 obtain⟨S,rfl,rfl,rfl,a6⟩:=open_int Tryz.underlying3 (j 2 3 N rfl rfl) Y
 clear z E
 refine(Ap a0 av cap0 a4 O aw cap1 a5 S q w0 w1 a6).mono fun e W' ⟨am,t⟩=>?_
 subst am
 exact⟨_,rfl,_,_,_,[],_,[],ad,trodAll_mk1 (shut_bool Tryz.underlying4 _),ot pP t _ _ _ _ (by kernel_rfl) Z,rfl,Below.frame t _,fun h=>by cases h⟩

theorem Ao:Rows.siftGoesRow.holds Tryz.pinned (OpenSpec.ofChange Rows.siftGoesSpec):=
 OpenClaim.holds_of_wide 4 Tryz.f4 rfl rfl rfl rfl rfl rfl rfl ⟨rfl,rfl,rfl,rfl,rfl⟩ rfl rfl rfl rfl rfl (by as_aux_lemma=>kernel_rfl) Tryz.func4 (by unfold joinedFacts;(repeat' with_reducible refine Bool.and_eq_true_iff.2 ⟨?_,?_⟩);all_goals as_aux_lemma=>kernel_rfl)
  (of_decide_eq_true (by as_aux_lemma=>kernel_rfl)) (by unfold Func.isWrapper;first|(rw[if_pos (by decide +kernel)];kernel_rfl)|(rw[if_neg (by decide +kernel)];exact⟨rfl,rfl⟩))
  (fun os j H enc _=>An os j H enc)

theorem siftGoes_proved:Rows.SiftGoesSaid:=Ao

end Go.Proofs.YtafkamlhimkbmaaGreat
