/-
  law27.alive: the chapter's example.
-/
import Derived.Test.YtafkamlhimkbmaaGreatPSiftJ
import Derived.Test.YtafkamlhimkbmaaGreatPSiftX
namespace Go.Proofs.YtafkamlhimkbmaaGreat
set_option maxRecDepth 1000000
set_option maxHeartbeats 8000000
set_option linter.unusedSimpArgs false
set_option linter.unusedVariables false
open Go.RowKit

def jl (i:Nat):Bool:=(ao (i:Int) 0&&ao (i:Int) 2)||(ao (i:Int) 1&&ao (i:Int) 3)

def fW (d:Nat):List Bool:=(List.range 16).map (fun i=>if i<d then jl i else false)

def eK:List (Int×List Bool):=[(1,fW 16)]

theorem jL (d:Nat):(fW d).length=16:=by unfold fW;simp

theorem yv {d:Nat}(q:d<16):(fW d).set d (jl d)=fW (d+1):=by
 apply List.ext_getElem?;intro i;by_cases hi:i<16
 ·by_cases j:d=i
  ·subst j;rw[List.getElem?_set_self (by rw[jL];exact q)];unfold fW;rw[List.getElem?_map,List.getElem?_range hi];simp
  ·rw[List.getElem?_set_ne j];unfold fW;rw[List.getElem?_map,List.getElem?_map,List.getElem?_range hi];simp only[Option.map_some];by_cases j:i<d;·rw[if_pos j,if_pos (by omega)]
   ·rw[if_neg j,if_neg (by omega)]
 ·rw[List.getElem?_eq_none (by rw[List.length_set,jL];omega),List.getElem?_eq_none (by rw[jL];omega)]

theorem Ay:ai eK [0,1,2,3]=6:=by kernel_rfl

theorem Az:((List.range 24).all fun k=>decide (4≤ai eK (dF 4 k)))=true:=by kernel_rfl

theorem AB:((List.range 24).any fun k=>decide (ai eK (dF 4 k)=4))=true:=by kernel_rfl

theorem AA:ai eK (fE (ai eK) 4)=4:=by
 obtain⟨k,s,j⟩:=pT (ai eK) 4 23;have q:=List.all_eq_true.1 Az k (List.mem_range.2 (by omega));obtain⟨A,s,t⟩:=List.any_eq_true.1 AB;have z:=pU (ai eK) 4 23 A (by have:=List.mem_range.1 s;omega);have e:fE (ai eK) 4=dM (ai eK) 4 23:=rfl;rw[e];rw[j]at z ⊢;have j:=of_decide_eq_true q;have j:=of_decide_eq_true t;omega

theorem tI {w:World}{s q c:Nat}{a:Option Addr}{rs:List (Int×Edge)}(h:w.ownsRow s 55 3 (.slice a q c) q (rs.flatMap dO))(t:a=none):c=0:=by
 rcases h.2 with⟨j,_⟩|⟨z,q,s,j,_⟩
 ·cases j;rfl
 ·cases j;cases t

theorem iC.go {Fo:Nat→Prop}{w wr:World}{I E c:Nat}{a:Option Addr}{room:Int}{ps:List Int}{fs:List (Int×List Bool)}{F:Nat→Prop}{M:St}{rs:List (Int×Edge)}(h:iC Fo w wr I E room ps fs fs.length (.slice a fs.length c) F M rs)(W:ar ps=true)(U:ps.length≤5)(T:fs.length≤4)(X:(fs.length:Int)*300<room)(Y:room≤1000000) :
  eo F Fo wr I E M ps∧ct M ps fs rs∧M.room=room∧(∀t,ae (fun A=>F A∨Fo A) wr t→dz t a rs)∧(a=none→c=0)∧rs.length=fs.length:=by
 have j:=h.ch
 rw[List.take_length]at j
 have N:∀r∈rs,(0≤r.1∧r.1≤255)∧r.2.ok:=fun r s=>⟨by have:=(j.leads r s).1;omega,j.e' r s⟩
 refine⟨h.bp,j,h.room,fun t K i r s=>?_,tI h.row,j.1⟩
 have t:fs.length≠0:=by have:=(List.getElem?_eq_some_iff.1 s).1;have:=j.1;omega
 obtain⟨g,rfl⟩:∃g,a=some ⟨g,0,none⟩:=by
  rcases h.row.2 with⟨z,E⟩|⟨J,t,A,z,_⟩
  ·omega
  ·cases z;exact⟨J,rfl⟩
 obtain⟨O,S⟩:=h.apart g rfl
 exact((nO h.row j.1.symm).a5 K (fun L=>by rcases L with q|q;exact O q;exact S q)).roots N i r s

theorem fS (w:World):Calls Tryz.prog 8 #[] w fun e w'=>e=.returned (.bool true)∧aa w w':=by
 obtain⟨ci,cg,cj,cl,cn⟩:=info_parts pF;go_enter Tryz.func8,Tryz.ntmps8
 go_wp2_with (first
  |(at_make;refine wpList_make_full _ rfl _ _ 62 rfl w.heap.size 4 ci (.bool false) 1 Tryz.underlying62 cg cj cl .i64 .i64 16 16 16 rfl rfl rfl rfl (by rw[cn];omega) (by unfold maxLen;omega) (Nat.le_refl _) ?_;intro w1 bw s)
  |fail)
 have W:=lZ bw;have bs:aa w w1:=⟨s.os,s.tape,s.output,s.size,fun i hi=>s.block i hi (by simp)⟩;have T:=Lib.hid W;have a4:=Lib.hid bs;have co:=W.lt;clear bw s W bs;obtain⟨B,bp⟩:∃B,B=w.heap.size:=⟨_,rfl⟩;have ce:w.heap.size≤B:=by omega
 rw[←bp]at T co ⊢;clear bp;go_loopg [2] 16 (fun gk s wr=>∃d:Nat,s=.int .i64 (d:Int)∧d+gk=16∧bu wr B (fW d)∧ae (fun aw=>aw=B) w1 wr)
 case atStart=>exact⟨0,rfl,rfl,T.out,ae.refl _ _⟩
 case round=>
  obtain⟨d,rfl,W,A,s⟩:=hrel;have a2:=Lib.hid A;have U:=Lib.hid s;have W:=s.size;clear s T;by_cases bv:d<16
  ·obtain⟨x,z⟩:∃x,(fW d)[d]?=some x:=⟨_,List.getElem?_eq_getElem (by rw[jL];exact bv)⟩;have s:=A.cell z;have s:=A.frozen d;have ab:=fun(j:World)=>jV (d:Int) 0 j (by omega) (by omega) (by omega) (by omega);have ad:=fun(j:World)=>jV (d:Int) 1 j (by omega) (by omega) (by omega) (by omega);have am:=fun(j:World)=>jV (d:Int) 2 j (by omega) (by omega) (by omega) (by omega);have av:=fun(j:World)=>jV (d:Int) 3 j (by omega) (by omega) (by omega) (by omega);have q:jl d=((ao (d:Int) 0&&ao (d:Int) 2)||(ao (d:Int) 1&&ao (d:Int) 3)):=rfl;have S:=A.set d (jl d);rw[yv bv]at S;obtain⟨V,bq⟩:∃V,V=jl d:=⟨_,rfl⟩;rw[←bq]at q S;have b6:=Lib.hid S;obtain⟨b7,be⟩:∃b,b=ao (d:Int) 0:=⟨_,rfl⟩;obtain⟨b8,bg⟩:∃b,b=ao (d:Int) 1:=⟨_,rfl⟩;obtain⟨b9,bi⟩:∃b,b=ao (d:Int) 2:=⟨_,rfl⟩;obtain⟨ca,bn⟩:∃b,b=ao (d:Int) 3:=⟨_,rfl⟩;rw[←be]at ab q;rw[←bg]at ad q;rw[←bi]at am q;rw[←bn]at av q;clear be bg bi bn S A z bq;have J:=Lib.hid ab;have K:=Lib.hid ad;have L:=Lib.hid am;have bb:=Lib.hid av;clear ab ad am av;cases b7<;>cases b8<;>cases b9<;>cases ca<;>(simp only[Bool.and_true,Bool.and_false,Bool.or_true,Bool.or_false]at q;subst q;simp only[jn]at J K L bb)
   all_goals
    go_wp2_with (first
     |(go_at_call 43;have E:=J;clear E;refine(J.out _).mono ?_;rintro e w' ⟨rfl,rfl⟩;clear J)
     |(go_at_call 43;have E:=L;clear E;refine(L.out _).mono ?_;rintro e w' ⟨rfl,rfl⟩;clear L)
     |(go_at_call 43;have E:=K;clear E;refine(K.out _).mono ?_;rintro e w' ⟨rfl,rfl⟩;clear K)
     |(go_at_call 43;refine(bb.out _).mono ?_;rintro e w' ⟨rfl,rfl⟩)
     |fail)
    go_roundg (gk-1)
    case rel=>exact⟨d+1,by simp,by omega,b6.out,cI (P:=fun aw=>aw=B) rfl U.out _ _⟩
    case measure=>omega
  ·have cf:d=16:=(by omega);subst cf;have bt:aa w wr:=a4.out.new U.out (fun k X=>by subst X;exact ce);have a6:=Lib.hid bt;clear bt a4 U;obtain⟨I,t⟩:∃j,j=(wr.alloc (.cells #[.int .i64 0,.int .i64 1,.int .i64 2,.int .i64 3] 3)).alloc (.cells #[.int .u8 1,.slice (some ⟨B,0,none⟩) 16 16] 96):=⟨_,rfl⟩;have Y:aa wr I:=by rw[t];exact((aa.refl _).alloc _).alloc _
   have br:aG I (some ⟨wr.heap.size,0,none⟩) [0,1,2,3]:=fun i x z=>by
    rw[t];refine⟨wr.heap.size,0,rfl,?_⟩;have hi:=(List.getElem?_eq_some_iff.1 z).1;have cd:i=0∨i=1∨i=2∨i=3:=(by simp at hi;omega);rcases cd with rfl|rfl|rfl|rfl<;>(simp at z;subst z;simp[go_sem])
   have bx:eI I (some ⟨wr.heap.size+1,0,none⟩) (2 ^ [(0:Int),1,2,3].length) eK:=fun i r Z=>by
    have hi:=(List.getElem?_eq_some_iff.1 Z).1;have cb:i=0:=(by simp[eK]at hi;exact hi);subst cb;have ch:r=(1,fW 16):=(by simp[eK]at Z;exact Z.symm);subst ch;refine⟨⟨by decide,by decide⟩,jL 16,wr.heap.size+1,0,B,rfl,?_,?_,jo a2.out Y⟩;·rw[t];simp[go_sem]
    ·rw[t];simp[go_sem]
   have q:=lX 500 (some ⟨wr.heap.size,0,none⟩) (some ⟨wr.heap.size+1,0,none⟩) 4 1 [0,1,2,3] eK I br (by decide) (by decide) bx (by decide) (by decide) (by decide);have a3:=Lib.hid q;have a5:=Lib.hid (a6.out.trans Y);clear br bx q Y a2 a6;go_wp2_with fail
   rw[←t];clear t;refine a3.out.mono ?_;rintro e a1 ⟨cx,cq,F,Fo,M,a,c,rs,rfl,O⟩;obtain⟨hS,s,q,z,K,t⟩:=O.go (by decide) (by decide) (by decide) (by decide) (by decide);have J:=a5.out.trans O.U;have E:∀k,F k∨Fo k→I.heap.size≤k:=O.ec;have I:=(s.size hS.a4 (by decide) hS.n (by decide) (by have:=hS.a4.wf.cx;rw[q]at this;omega)).1;rw[Ay]at I;have A:=Ar hS.a4 a c rs (z a1 (ae.refl _ _)) (by rw[t];decide) (kN s) (by omega);rw[I,t]at A;have I:=fun(j:World) (N:aa a1 j)=>re (cap3:=c) (hS.U N) (by decide) (by decide) (by decide) (by rw[q];decide) (by rw[q];decide) s ((z a1 (ae.refl _ _)).U N) K;have a':=Lib.hid A;have a7:=Lib.hid I;have b2:=Lib.hid J;have b1:=Lib.hid E;have L:=a5.out.size;clear hS s q z K t O J E A I a3;go_wp2_with fail
   refine a'.out.mono ?_;rintro e cp ⟨rfl,q⟩;have a8:=Lib.hid (a7.out cp q);have b3:=Lib.hid q;clear a7 a' q;go_wp2_with fail
   refine a8.out.mono ?_;rintro e b0 ⟨g,F',M',cv,rfl,s,-,-,A,-,-,-,-,t⟩;have q:=fun(j:World) (N:aa b0 j)=>jR (s.a4.U N);have j:M'.len=4:=(by rw[A];exact_mod_cast AA);rw[j]at q;have b5:=Lib.hid q;have z:aa w b0:=(b2.out.trans b3.out).new t (fun k X=>by have:=b1.out k X;omega);have b4:=Lib.hid z;clear s A t q j z a8;go_wp2_with (first|(go_at_call 21;refine(b5.out _ (by(exact kp))).mono ?_;rintro e j ⟨rfl,rfl⟩)|fail)
   go_ret
   exact⟨rfl,b4.out⟩

def lP (F Fo:Nat→Prop)(w wr:World)(s lb:Nat)(t:Option Addr)(cap E z g:Nat)(ps:List Int)(fs:List (Int×List Bool))(v:Nat):Prop:=
 ∃(q:Nat→Prop) (j:St) (A:List (Int×Edge)),fm q Fo wr s lb t cap E z j (cH (ai fs) g ps v) fs A∧(∀j,q j→F j∨w.heap.size≤j)∧ae (fun j=>F j∨Fo j) w wr

theorem ri {F Fo:Nat→Prop}{w:World}{E A cap3 g:Nat}{J:Option Addr}{M:St}{ps:List Int}{fs:List (Int×List Bool)}{rs:List (Int×Edge)}(hS:eo F Fo w E A M ps)(Y:ar ps=true)(b6:ps.length≤6)(bb:fs.length≤4)(bp:(fs.length:Int)*300<M.room)(bs:M.room≤1000000)(z:ct M ps fs rs)(T:dz w J rs)(bn:J=none→cap3=0)(b9:g≤1000) :
  Calls Tryz.prog 17 #[.pointer (some ⟨E,0,none⟩),.pointer (some ⟨A,0,none⟩),.slice J fs.length cap3,.int .i64 (g:Int)] w (lQ F Fo w E A fs (cH (ai fs) g ps ps.length)):=by
 have U:=qZ hS.a4 hS.b7
 rw[if_pos hS.n]at U
 have L:=fun(O:World) (I:aa w O)=>lq (hS.a4.U I) J cap3 rs (T.U I) (by have:=z.1;omega)
 have W:=fun(O:World) (I:aa w O)=>rh (hS.U I) Y (by omega) bb bp bs z (T.U I) bn
 rw[kN z,z.1]at L
 obtain⟨n,X⟩:∃n,n=ps.length:=⟨_,rfl⟩
 have Z:=fun v (I:v≤n)=>jO (ai fs) g Y v (by omega)
 rw[←X]at b6 Z ⊢
 obtain⟨I,S⟩:∃I,I=fs.length:=⟨_,rfl⟩
 rw[←S]at L W bb ⊢
 have aw:=Lib.hid U
 have a4:=Lib.hid L
 have a2:=Lib.hid W
 have b1:=Lib.hid X
 have b0:=Lib.hid S
 have b4:=Lib.hid Z
 have I:¬(g:Int)<0:=by omega
 have I:¬1000<(g:Int):=by omega
 clear U L W hS Y bp bs z T bn X S Z
 go_enter Tryz.func17,Tryz.ntmps17
 go_wp2_with (first
  |(go_at_call 47;refine aw.out.mono ?_;rintro e w1 ⟨rfl,bg⟩)
  |(go_at_call 49;refine(a4.out _ (by(exact kp))).mono ?_;rintro e ch ⟨rfl,J⟩)
  |fail)
 have I:=bg.trans J
 have a1:=Lib.hid I
 have a3:=Lib.hid (a2.out ch I)
 clear a2 a4 aw bg J I
 refine a3.out.mono ?_
 rintro e bv ⟨K,lb,cap,ad,rfl,b7,I,cb⟩
 clear a3
 obtain⟨am,a8,bt,j,s,t⟩:=b7
 obtain⟨s,t⟩:=qS cb s t
 have ab:=dw j.bp.a4
 rw[j.bp.n,←b1.out]at ab
 have bi:ae (fun N=>F N∨Fo N) w bv:=(a1.out.av _).a' t
 have I:=a1.out.size
 have ce:w.heap.size≤lb:=by omega
 have z:lP F Fo w bv K lb ad cap E A g ps fs 0:=⟨am,a8,bt,j,(fun N ca=>by rcases s N ca with q|q;exact .inl q;exact .inr (by omega)),bi⟩
 have a7:=Lib.hid ab
 have a6:=Lib.hid z
 clear j s t ab bi z
 go_wp2_with (first
  |(go_at_call 48;refine a7.out.mono ?_;rintro e cn ⟨rfl,rfl⟩)
  |fail)
 go_loopg [13,38] n (fun gk z z wr=>∃(v:Nat),z=.int .i64 (v:Int)∧v+gk=n∧lP F Fo w wr K lb ad cap E A g ps fs v)
 case atStart=>exact⟨0,rfl,by omega,a6.out⟩
 case round=>
  obtain⟨v,rfl,z,b8⟩:=hrel;clear a6 a7;obtain⟨am,a8,bt,j,s,t⟩:=b8;by_cases cd:v<n
  ·obtain⟨z,-⟩:=b4.out v (by omega);have I:=ti j (n:=n) z cd b9;have a5:=Lib.hid I;have av:=Lib.hid (⟨j,s,t⟩:_∧_∧_);clear j s t I z;go_wp2_with fail
   refine a5.out.mono ?_;rintro e ci ⟨rfl,bw,b5,cg,be,bq,br⟩;obtain⟨j,s,t⟩:=av.out;obtain⟨I,J⟩:=nQ s t ce (aa.refl wr) bq br;have z:lP F Fo w ci K lb ad cap E A g ps fs (v+1):=⟨bw,b5,cg,be,I,J⟩;have b2:=Lib.hid z;clear j s t I J be bq br av a5 z;go_wp2_with fail
   go_roundg (gk-1)
   case rel=>exact⟨v+1,by simp,by omega,b2.out⟩
   case measure=>omega
  ·have cf:v=n:=(by omega);subst cf;have z:=oQ j s t;have a':=j.cells.c3;rw[←b0.out]at z;have bx:=Lib.hid z;clear j s t z;go_wp2_with fail
   go_region_held3 (fun w'=>w'.cell? ⟨K,3,none⟩=some (.int .u8 0)) (go_keep) ((first
    |(go_at_call 53;refine(bx.out _ (by(exact kp))).mono ?_;rintro cj co ⟨⟨cl,rfl,j⟩,s⟩;have b3:=Lib.hid j;have a':=s.cell a';clear j)))
   all_goals(try go_wp2_with fail)
   all_goals go_ret2
   all_goals exact b3.out _ (by(exact kp))

end Go.Proofs.YtafkamlhimkbmaaGreat
