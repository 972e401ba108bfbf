/-
  The walk of swap.at.
-/
import Derived.Test.YtafkamlhimkbmaaGreatPSwapU
import Derived.Test.YtafkamlhimkbmaaGreatPSwapX
namespace Go.Proofs.YtafkamlhimkbmaaGreat
set_option maxRecDepth 1000000
set_option maxHeartbeats 8000000
set_option linter.unusedSimpArgs false
set_option linter.unusedVariables false
open Go.RowKit
structure lS (F:Nat→Prop)(w W:World)(sb wb b:Nat)(lv f:Int)(M:St)(V:List (Int×Edge×Int))(e:Edge)(l:Int)(B8 B9:Nat)(F3:Nat→Prop)(M3:St)(x y:Edge)(er:Int):Prop where
 av:af (fun j=>F j∨j=b) w W
 sub:∀j,F3 j→F j∨w.heap.size≤j
 a8:ak F3 W sb M3
 p0:W.cell? ⟨w.heap.size,0,none⟩=some (.int .u8 f)
 p1:W.cell? ⟨w.heap.size,1,none⟩=some (.int .u8 e.tag)
 p2:W.cell? ⟨w.heap.size,2,none⟩=some (.int .u32 e.to)
 p3:W.cell? ⟨w.heap.size,3,none⟩=some (.int .i64 l)
 r0:W.cell? ⟨w.heap.size+1,0,none⟩=some (.int .u8 0)
 r1:W.cell? ⟨w.heap.size+1,1,none⟩=some (.int .u32 0)
 rf:∀o:Nat,W.frozen? ⟨w.heap.size+1,o,none⟩=false
 nP:¬F3 w.heap.size
 nR:¬F3 (w.heap.size+1)
 cS:er≠0→er=6∧fJ lv f M e l M3 ⟨0,0⟩ 6 (ej lv l)
 c5:er=0→x.ok∧y.ok∧M3.n=M.n∧M3.room=M.room∧¬F3 B8∧¬F3 B9 ∧
  (W.cell? ⟨B8,0,none⟩=some (.int .u8 x.tag)∧W.cell? ⟨B8,1,none⟩=some (.int .u32 x.to)∧W.cell? ⟨B9,0,none⟩=some (.int .u8 y.tag)∧W.cell? ⟨B9,1,none⟩=some (.int .u32 y.to)) ∧
  (∃V3 D3,bX F3 W sb wb b lv M3 V3 D3∧V3.length+2≤V.length+2 ^ ((lv-l).toNat+1)∧∀q∈V3,q∈V∨l<q.2.2) ∧
  ((aL f M3 (ay f M3 l x y)).ok→fJ lv f M e l (aX M3 (ay f M3 l x y)) (aL f M3 (ay f M3 l x y)) (cV M3 (ay f M3 l x y)) (ej lv l))
theorem bX.fa {F:Nat→Prop}{s W':World}{sb wb b:Nat}{lv:Int}{M:St}{V:List (Int×Edge×Int)}{D:DataW Unit}{P:Nat→Prop}(h:bX F s sb wb b lv M V D)(j:af P s W')(z:∀t,F t→¬P t)(A:¬P b)(q:¬P wb):bX F W' sb wb b lv M V D:=
 ⟨h.a8.a4 j z,j.cellAt q h.c0,j.cellAt q h.c1,j.cellAt q h.c2,h.nF,h.nW,jE h.own (j.block b h.lt.1 A),h.dr⟩
section
variable {F:Nat→Prop}{w:World}{sb wb b:Nat}{lv f:Int}{M:St}{V:List (Int×Edge×Int)}{D:DataW Unit}
def uA (sb wb b:Nat)(lv f:Int)(M:St)(l:Int)(cap:Nat):Prop:=
 ∀(h:Edge) (t:Nat→Prop) (j:St) (q:List (Int×Edge×Int)) (z:DataW Unit) (s:World),h.ok→j.n=M.n→j.room=M.room→j.leads f h (l+1)=true→q.length+2 ^ ((lv-(l+1)).toNat+1)≤cap→bX t s sb wb b lv j q z →
  Calls Tryz.prog 249 #[.pointer (some ⟨wb,0,none⟩),.agg #[.int .u8 f,.int .u8 h.tag,.int .u32 h.to,.int .i64 (l+1)]] s (iS t s sb wb b lv f j q h (l+1))
theorem qk (h:bX F w sb wb b lv M V D)(B:1≤f∧f≤5)(e:Edge)(l:Int)(A:e.ok)(T:0≤l)(W:l≤16)(I:(f,e,l)∈V) :
  Calls Tryz.prog 249 #[.pointer (some ⟨wb,0,none⟩),.agg #[.int .u8 f,.int .u8 e.tag,.int .u32 e.to,.int .i64 l]] w (iS F w sb wb b lv f M V e l):=by
 obtain⟨x,Y,E⟩:=h.fi B A T W
 obtain⟨s,O,a2⟩:=h.dr.c5 _ I
 have am:s=x:=qK (O.symm.trans Y)
 subst am
 have X:=(h.dr.gx f e l B A T W).2 I
 rw[X]at E
 have ab:=aa (fun(w':World) (T:ae w w')=>vu h a2 T)
 have N:=aa E
 have S:=h.c2
 obtain⟨ad,T⟩:=h.lt
 clear h Y E O a2 X I B A
 go_enter Tryz.func249,Tryz.ntmps249
 go_wp2_with fail
 obtain⟨j,q⟩:∃A,A=(w.alloc (.cells #[.int .u8 f,.int .u8 e.tag,.int .u32 e.to,.int .i64 l] 309)).alloc (.cells #[.int .u8 0,.int .u32 0] 52):=⟨_,rfl⟩
 have A:j.cell? ⟨w.heap.size,0,none⟩=some (.int .u8 f):=by rw[q];simp[go_sem]
 have A:j.cell? ⟨w.heap.size,1,none⟩=some (.int .u8 e.tag):=by rw[q];simp[go_sem]
 have A:j.cell? ⟨w.heap.size,2,none⟩=some (.int .u32 e.to):=by rw[q];simp[go_sem]
 have A:j.cell? ⟨w.heap.size,3,none⟩=some (.int .i64 l):=by rw[q];simp[go_sem]
 have J:j.cell? ⟨w.heap.size+1,0,none⟩=some (.int .u8 0):=by rw[q];simp[go_sem]
 have L:j.cell? ⟨w.heap.size+1,1,none⟩=some (.int .u32 0):=by rw[q];simp[go_sem]
 have Z:∀o:Nat,j.frozen? ⟨w.heap.size+1,o,none⟩=false:=fun o=>by rw[q];simp[go_sem]
 have U:ae w j:=by rw[q];exact((ae.refl _).alloc _).alloc _
 have al:j.heap.size=w.heap.size+2:=by rw[q];simp
 have A:=U.cell S
 rw[←q]
 clear q S
 obtain⟨q,A⟩:w.heap.size+2≤j.heap.size∧j.heap.size≤w.heap.size+2:=by omega
 clear al
 have z:=U.block b ad
 have av:=N.out j.drew z
 have aw:=N.out (j.alloc (.cells #[.int .u8 0,.int .u32 0] 52)).drew ((((ae.refl j).alloc _).drew.block b (by omega)).trans z)
 unfold jJ at av aw
 have q:j.heap.size≠wb:=by omega
 have q:j.heap.size≠w.heap.size:=by omega
 clear z
 go_cut [6,7] (fun z A q=>∃t,z=.pointer (some ⟨t,0,none⟩)∧A=.bool true∧q.cell? ⟨t,0,none⟩=some (.int .u8 s.tag)∧q.cell? ⟨t,1,none⟩=some (.int .u32 s.to)∧ae j q)
 case first=>
  go_region_held3 (fun w'=>w'.cell? ⟨wb,2,none⟩=some (.map (some b))∧w'.cell? ⟨w.heap.size,0,none⟩=some (.int .u8 f)∧w'.cell? ⟨w.heap.size,1,none⟩=some (.int .u8 e.tag)∧w'.cell? ⟨w.heap.size,2,none⟩=some (.int .u32 e.to)∧w'.cell? ⟨w.heap.size,3,none⟩=some (.int .i64 l)) (go_keep) (fail)
  all_goals(try go_wp2_with fail)
  all_goals go_meet
  all_goals exact⟨j.heap.size,rfl,rfl,by simp[go_sem],by simp[go_sem],kp⟩
 case rest=>
  obtain⟨t,rfl,rfl,q,z,j⟩:=hcut;replace J:=j.cell J;replace L:=j.cell L;have Z:=fun o:Nat=>j.a3 (a:=⟨w.heap.size+1,o,none⟩) (by show w.heap.size+1<_;omega) (Z o);go_wp2_with fail;refine aq (v:=.tuple #[.agg #[.int .u8 s.tag,.int .u32 s.to],.int .u8 0]) (by simp[results,Tryz.results249,go_sem,J,L]) rfl (ab.out _ kp)
theorem qi (h:bX F w sb wb b lv M V D)(fb:1≤f∧f≤5)(e:Edge)(l:Int)(fa:e.ok)(hV:M.leads f e l=true)(cb:0≤l)(g4:l≤lv)(hX:lv+1<M.n)(g7:(f,e,l)∉V)
  (h1:M.room<1048576) (e':V.length+2 ^ ((lv-l).toNat+1)≤1000000) (h7:l<lv→uA sb wb b lv f M l 1000000) :
  Calls Tryz.prog 249 #[.pointer (some ⟨wb,0,none⟩),.agg #[.int .u8 f,.int .u8 e.tag,.int .u32 e.to,.int .i64 l]] w (iS F w sb wb b lv f M V e l):=by
 have k0:=h.a8.wf.bw
 have a':=aa h
 have kk:=h.c0
 have kl:=h.c1
 have e2:=h.c2
 obtain⟨kt,g4⟩:=h.lt
 have g4:l≤14:=by omega
 have g4:lv≤14:=by omega
 obtain⟨x,B,g4⟩:=h.fi fb fa cb (by omega)
 rw[(h.dr.none fb fa cb (by omega) g7).1]at g4
 have hu:=aa g4
 have cj:=aa fb
 have et:=aa fa
 have c3:=aa hV
 have dj:=aa hX
 have j2:=aa g7
 have fE:=aa h1
 have hq:=aa e'
 have i':=aa h7
 have eS:=aa h.a8.lt
 clear h fb hV B g4 fa g7 h1 e' h7 hX k0
 go_enter Tryz.func249,Tryz.ntmps249
 go_wp2_with fail
 obtain⟨am,br⟩:∃fa,fa=(w.alloc (.cells #[.int .u8 f,.int .u8 e.tag,.int .u32 e.to,.int .i64 l] 309)).alloc (.cells #[.int .u8 0,.int .u32 0] 52):=⟨_,rfl⟩
 have W:am.cell? ⟨w.heap.size,0,none⟩=some (.int .u8 f):=by rw[br];simp[go_sem]
 have Y:am.cell? ⟨w.heap.size,1,none⟩=some (.int .u8 e.tag):=by rw[br];simp[go_sem]
 have Z:am.cell? ⟨w.heap.size,2,none⟩=some (.int .u32 e.to):=by rw[br];simp[go_sem]
 have ab:am.cell? ⟨w.heap.size,3,none⟩=some (.int .i64 l):=by rw[br];simp[go_sem]
 have L:am.cell? ⟨w.heap.size+1,0,none⟩=some (.int .u8 0):=by rw[br];simp[go_sem]
 have T:am.cell? ⟨w.heap.size+1,1,none⟩=some (.int .u32 0):=by rw[br];simp[go_sem]
 have ad:∀o:Nat,am.frozen? ⟨w.heap.size+1,o,none⟩=false:=fun o=>by rw[br];simp[go_sem]
 have fg:ae w am:=by rw[br];exact((ae.refl _).alloc _).alloc _
 have k1:am.heap.size=w.heap.size+2:=by rw[br];simp
 have kq:=fg.cell e2
 rw[←br]
 clear br kk kl e2
 obtain⟨br,fa⟩:w.heap.size+2≤am.heap.size∧am.heap.size≤w.heap.size+2:=by omega
 clear k1
 have f6:=fg.block b kt
 have h8:=hu.out am.drew f6
 have h9:=hu.out (am.alloc (.cells #[.int .u8 0,.int .u32 0] 52)).drew ((((ae.refl am).alloc _).drew.block b (by omega)).trans f6)
 unfold jJ at h8 h9
 have br:am.heap.size≠wb:=by omega
 have br:am.heap.size≠w.heap.size:=by omega
 clear f6
 go_cut [6,7] (fun hg ii J=>∃hk,hg=.pointer (some ⟨hk,0,none⟩)∧ii=.bool false∧ae am J)
 case first=>
  go_region_held3 (fun w'=>w'.cell? ⟨wb,2,none⟩=some (.map (some b))∧w'.cell? ⟨w.heap.size,0,none⟩=some (.int .u8 f)∧w'.cell? ⟨w.heap.size,1,none⟩=some (.int .u8 e.tag)∧w'.cell? ⟨w.heap.size,2,none⟩=some (.int .u32 e.to)∧w'.cell? ⟨w.heap.size,3,none⟩=some (.int .i64 l)) (go_keep) (fail)
  all_goals(try go_wp2_with fail)
  all_goals go_meet
  all_goals exact⟨am.heap.size,rfl,rfl,kp⟩
 case rest=>
  obtain⟨hk,rfl,rfl,am⟩:=hcut;have c7:=fg.trans am;have i0:=c7.size;have br:=am.size;replace W:=am.cell W;replace Y:=am.cell Y;replace Z:=am.cell Z;replace ab:=am.cell ab;replace L:=am.cell L;replace T:=am.cell T;replace ad:=fun o:Nat=>am.a3 (a:=⟨w.heap.size+1,o,none⟩) (by show w.heap.size+1<_;omega) (ad o);have f7:=c7.cell a'.out.c0;have d1:=c7.cell a'.out.c1;have hs:=aa c7;clear h8 h9 kq fg am;have fr:=fun(X:World) (cd:ae w X)=>nY (a'.out.a8.ad cd) f e l et.out;rw[oJ cj.out]at fr;obtain⟨d0,gj⟩:∃d0,d0=cH M (aj M f e l):=⟨_,rfl⟩;obtain⟨lo,g3⟩:∃lo,lo=cz M (aj M f e l):=⟨_,rfl⟩;obtain⟨hi,g0⟩:∃hi,hi=bL M f (aj M f e l):=⟨_,rfl⟩;obtain⟨cl,gB⟩:∃cl,cl=cK M (aj M f e l):=⟨_,rfl⟩;rw[←gj,←g3,←g0,←gB]at fr;have hB:=aa (fun(X:World) (cd:ae wc X)=>iu eS.out i0 (fr X (c7.trans cd)));have dk:=aa gj;have eR:=aa g3;have ev:=aa g0;have db:=aa gB;clear fr gj g3 g0 gB c7;have k':=a'.out.nW;have jv:=aa (fun k (S:F k)=>bI (eS.out k S) i0);have ch:¬F w.heap.size:=fun j=>by have:=eS.out _ j;omega
  have fx:¬F (w.heap.size+1):=fun j=>by have:=eS.out _ j;omega
  have k3:wc.heap.size≠wb:=by omega
  have k4:wc.heap.size≠w.heap.size:=by omega
  have k5:wc.heap.size+1≠wb:=by omega
  have k6:wc.heap.size+1≠w.heap.size:=by omega
  go_wp2_with fail;go_cut [8,9,10] (fun io am ed J=>∃t z b8,io=.pointer (some ⟨t,0,none⟩)∧am=.pointer (some ⟨z,0,none⟩)∧ed=.int .u8 cl∧gY F wc J sb d0 t z lo hi b8∧(∀o:Nat,J.frozen? ⟨t,o,none⟩=false)∧(∀o:Nat,J.frozen? ⟨z,o,none⟩=false)∧t≠z)
  case first=>
   go_region_held3 (fun w'=>w'.cell? ⟨wb,0,none⟩=some (.pointer (some ⟨sb,0,none⟩))∧w'.cell? ⟨w.heap.size,0,none⟩=some (.int .u8 f)∧w'.cell? ⟨w.heap.size,1,none⟩=some (.int .u8 e.tag)∧w'.cell? ⟨w.heap.size,2,none⟩=some (.int .u32 e.to)∧w'.cell? ⟨w.heap.size,3,none⟩=some (.int .i64 l)) (go_keep) ((go_at_call 258;refine(hB.out _ kp).mono ?_;rintro kr bt ⟨⟨rfl,E,c6⟩,d5,d6,g5,g8,g9⟩;have hb:=E.size;(try simp only[ai,World.a5,World.cx]at hb);have am:=E.cellAt (b:=wb) (o:=0) (v:=.pointer (some ⟨sb,0,none⟩)) k' (by go_keep);have am:=E.cellAt (b:=w.heap.size) (o:=0) (v:=.int .u8 f) ch (by go_keep);have am:=E.cellAt (b:=w.heap.size) (o:=1) (v:=.int .u8 e.tag) ch (by go_keep);have am:=E.cellAt (b:=w.heap.size) (o:=2) (v:=.int .u32 e.to) ch (by go_keep);have am:=E.cellAt (b:=w.heap.size) (o:=3) (v:=.int .i64 l) ch (by go_keep);have la:bt.heap.size≠wb:=(by omega);have am:bt.heap.size≠w.heap.size:=(by omega);have am:bt.heap.size+1≠wb:=(by omega);have am:bt.heap.size+1≠w.heap.size:=(by omega)))
   all_goals(try go_wp2_with fail)
   all_goals go_meet
   all_goals refine⟨_,_,_,rfl,rfl,rfl,jY jv.out kp E c6 ?_ ?_ ?_ ?_ ?_ ?_ ?_,fun o=>?_,fun o=>?_,?_⟩
   all_goals(try(simp[go_sem];done))
   all_goals(try(simp only[ai,World.a5,au];omega))
   all_goals(try(repeat (first|with_reducible exact af.refl _ _|with_reducible refine af.alloc ?_ _|with_reducible refine af.drew ?_|refine af.setCell ?_ (Or.inl (Or.inl rfl)) _|refine af.setCell ?_ (Or.inl (Or.inr rfl)) _)))
   all_goals(try(simp[go_sem,d5,d6,g5,g8,g9];done))
   all_goals(try(simp only[ai,World.a5,au]at *;omega))
   all_goals(try(
    have lg:bt.cell? ⟨wc.heap.size,0,none⟩=some (.int .u8 0):=(d5 _ _ (aE _) (by simp only[ai,World.a5];omega)).trans ((World.cell?_alloc_lt _ _ _ (by simp)).trans (by simp[go_sem]))
    have em:bt.cell? ⟨wc.heap.size,1,none⟩=some (.int .u32 0):=(d5 _ _ (aE _) (by simp only[ai,World.a5];omega)).trans ((World.cell?_alloc_lt _ _ _ (by simp)).trans (by simp[go_sem]))
    simp[go_sem,lg,em]
    done))
  case rest=>
   rename_i hK;obtain⟨t,z,b8,rfl,rfl,rfl,A,b1,bi,fv⟩:=hcut;have am:=A.av.size;replace W:=A.av.cellAt ch W;replace Y:=A.av.cellAt ch Y;replace Z:=A.av.cellAt ch Z;replace ab:=A.av.cellAt ch ab;replace L:=A.av.cellAt fx L;replace T:=A.av.cellAt fx T;replace ad:=fun o:Nat=>A.av.frozen (a:=⟨w.heap.size+1,o,none⟩) (by show w.heap.size+1<_;omega) fx (ad o);have hG:=a'.out.ad hs.out;have a3:=A.a0;have bg:=A.a1;have a0:=A.c0;have bb:=A.c1;have b3:=aB a3;have b4:=aB a0;dsimp only at b3 b4;have am:=A.gB;have am:=A.gC;have bs:=A.no ch (by omega);have b5:=A.no fx (by omega);have ce:=A.nB;have cf:=A.nC
   have iq:∀s,b8 s→F s∨w.heap.size≤s:=fun s av=>by
    rcases A.sub s av with q|q;·exact .inl q
    ·exact .inr (by omega)
   have f1:=aa ((ae.av hs.out F).bg A.av);have dr:=aa iq;have b9:=aa A;have hp:=aa hG;have am:w.heap.size+2≤t:=(by omega);have am:w.heap.size+2≤z:=(by omega);clear A iq hG f7 d1 hB;have c8:l<M.n:=(by have:=dj.out;omega);by_cases hS:cl=0
   case neg=>
    obtain⟨a7,bf,c2⟩:=Dp (lv:=lv) (c:=ej lv l) a'.out.a8.wf c3.out c8 (by have:=n8 (lv:=lv) (l:=l);omega) (db.out ▸ hS) dk.out;obtain rfl:cl=6:=db.out.trans a7;have am:=b9.out.a8;rw[bf]at am;have bq:=fun(w':World) (cD:af (fun s=>s=w.heap.size+1) wc w')=>nO (V:=V) (wb:=wb) (b:=b) c2 (f1.out.mono (fun k _ S=>.inl S)) dr.out am cD b5 (by omega);have cx:=aa bq;clear bq am a7 bf c2 c8;go_wp2_with fail;refine aq (v:=.tuple #[.agg #[.int .u8 (⟨0,0⟩:Edge).tag,.int .u32 (⟨0,0⟩:Edge).to],.int .u8 6]) (by simp[results,Tryz.results249,go_sem,L,T]) rfl (cx.out _ ?_)
    (repeat (first|with_reducible exact af.refl _ _|refine lM ?_ _ _|with_reducible refine af.alloc ?_ _|with_reducible refine af.drew ?_))
   case pos=>
    subst hS;have gb:cK M (aj M f e l)=0:=db.out.symm;have fp:=gV a'.out.a8.wf c3.out c8 gb;have hc:=jO a'.out.a8.wf c3.out c8 gb;obtain⟨ch,br⟩:=pT a'.out.a8.wf a'.out.a8.bx (fun id r am=>a'.out.a8.b0 am) (f:=f) et.out cb c8;rw[←dk.out,←eR.out,←ev.out]at fp;rw[←dk.out]at hc;rw[←eR.out]at ch;rw[←ev.out]at br;have am:bX b8 wc sb wb b lv d0 V D:=hp.out.store b9.out.av b9.out.a8 b9.out.sub fp.ext;have d1:=am.c1;have hm:=aa am;have a4:=aa fp;have f2:=aa hc;have e0:=aa (⟨ch,br⟩:lo.ok∧hi.ok);clear fp hc ch br am gb c8 hp;refine hK _ _ ?_;clear hK;apply wp_seq_k;intro kb hL;go_cut [5] (fun am J=>am=.int .u8 0∧J=wc)
    case first=>
     go_wp2_with fail;go_meet;exact⟨rfl,rfl⟩
    case rest=>
     obtain⟨rfl,rfl⟩:=hcut;refine hL _ _ ?_;clear hL kb;apply wp_seq_k;intro kd e9;go_cut [10] (fun ed J=>∃bx O x y cl,ed=.int .u8 cl∧lS F w J sb wb b lv f M V e l t z bx O x y cl)
     case first=>
      go_wp2_with fail;go_quiet (fail);obtain⟨cv,hd⟩:∃X,X=wc.drewN nq:=⟨_,rfl⟩;have am:ae wc cv:=(by rw[hd];exact(ae.refl _).drewN _);rw[←hd];clear hd;have br:=am.size;replace W:=am.cell W;replace Y:=am.cell Y;replace Z:=am.cell Z;replace ab:=am.cell ab;replace L:=am.cell L;replace T:=am.cell T;replace ad:=fun o:Nat=>am.a3 (a:=⟨w.heap.size+1,o,none⟩) (by show w.heap.size+1<_;omega) (ad o);replace a3:=am.cell a3;replace bg:=am.cell bg;replace a0:=am.cell a0;replace bb:=am.cell bb;replace b1:=fun o:Nat=>am.a3 (a:=⟨t,o,none⟩) b3 (b1 o);replace bi:=fun o:Nat=>am.a3 (a:=⟨z,o,none⟩) b4 (bi o);replace d1:=am.cell d1;have bD:=aa (hm.out.ad am);have hA:=aa (f1.out.bg (am.av F));have cy:=bD.out.cE a3;have ca:=bD.out.cE a0;have a5:=bD.out.cE W;have bd:=bD.out.cE L;replace b3:t<cv.heap.size:=(by omega);replace b4:z<cv.heap.size:=(by omega);have h':w.heap.size<cv.heap.size:=(by omega);have fs:w.heap.size+1<cv.heap.size:=(by omega);have eg:t≠wb:=(by omega);have hh:z≠wb:=(by omega);have e3:w.heap.size≠t:=(by omega);have e5:w.heap.size≠z:=(by omega);have f8:w.heap.size+1≠t:=(by omega);have f9:w.heap.size+1≠z:=(by omega);have e4:z≠t:=fun j=>fv j.symm;have ka:=aa br;clear am br;by_cases kE:l=lv
      ·subst kE;have am:=xb bD.out.a8 bD.out.c0 bD.out.c1 bD.out.nW cj.out (by have:=a4.out.room;have:=fE.out;omega) cb (by have:=a4.out.ext.n;have:=dj.out;omega) lo hi e0.out.1 e0.out.2 a4.out.cp a4.out.cf;have hr:=aa am;clear am;go_wp2_with fail;refine hr.out.mono ?_;rintro r bv ⟨b0,x,y,e6,a8,rfl,c0,c1,gC,U,eb,d6,hR⟩;have hg:=U.av.size;have hH:=bD.out.store U.av U.a8 U.sub eb.ext;replace W:=U.av.cellAt bs W;replace Y:=U.av.cellAt bs Y;replace Z:=U.av.cellAt bs Z;replace ab:=U.av.cellAt bs ab;replace L:=U.av.cellAt b5 L;replace T:=U.av.cellAt b5 T;replace ad:=fun o:Nat=>U.av.frozen (a:=⟨w.heap.size+1,o,none⟩) fs b5 (ad o);replace a3:=U.av.cellAt ce a3;replace bg:=U.av.cellAt ce bg;replace a0:=U.av.cellAt cf a0;replace bb:=U.av.cellAt cf bb;replace b1:=fun o:Nat=>U.av.frozen (a:=⟨t,o,none⟩) b3 ce (b1 o);replace bi:=fun o:Nat=>U.av.frozen (a:=⟨z,o,none⟩) b4 cf (bi o)
       have no:∀I,¬b8 I→I<cv.heap.size→¬a8 I:=fun I bn bp S=>by
        rcases U.sub I S with q|q;·exact bn q
        ·omega
       have cg:=no _ ce b3;have b6:=no _ cf b4;have co:=no _ bs h';have cE:=no _ b5 fs
       have ea:af (fun s=>F s∨s=b) w bv:=(hA.out.b9 U.av (fun i hi j=>by
        rcases dr.out i j with q|q;·exact q
        ·omega)).mono (fun k _ S=>.inl S)
       have ee:∀s,a8 s→F s∨w.heap.size≤s:=fun s av=>by
        rcases U.sub s av with q|q;·exact dr.out s q
        ·exact .inr (by omega)
       have d7:e6=0→(aL f b0 (ay f b0 l x y)).ok→fJ l f M e l (aX b0 (ay f b0 l x y)) (aL f b0 (ay f b0 l x y)) (cV b0 (ay f b0 l x y)) (ej l l):=fun bp g'=>by
        obtain⟨fp,fr,fx,a,b',c,d,em,hj,ep,er,c8,eS,fa,fb,fg,am,br,ch,cl,c7⟩:=hR bp;rw[qD];exact Dl a'.out.a8.wf fE.out cj.out c3.out cb dj.out db.out.symm dk.out eR.out ev.out em hj ep er c8 eS fa fb fg am br ch cl c7 g'
       have cn:∀J,af (fun s=>s=t∨s=z) bv J→J.cell? ⟨t,0,none⟩=some (.int .u8 x.tag)→J.cell? ⟨t,1,none⟩=some (.int .u32 x.to)→J.cell? ⟨z,0,none⟩=some (.int .u8 y.tag)→J.cell? ⟨z,1,none⟩=some (.int .u32 y.to)→lS F w J sb wb b l f M V e l t z a8 b0 x y e6:=fun J B em hj ep er=>by
        have ci:¬(w.heap.size=t∨w.heap.size=z):=fun j=>(by omega);have cS:¬(w.heap.size+1=t∨w.heap.size+1=z):=fun j=>(by omega);refine⟨ea.b9 B (fun i hi j=>by omega),ee,U.a8.a4 B (fun k S j=>by rcases j with rfl|rfl;exact cg S;exact b6 S),B.cellAt ci W,B.cellAt ci Y,B.cellAt ci Z,B.cellAt ci ab,B.cellAt cS L,B.cellAt cS T,fun o=>B.frozen (a:=⟨w.heap.size+1,o,none⟩) (by show w.heap.size+1<_;omega) cS (ad o),co,cE,fun d2=>?_,fun c5=>?_⟩
        ·rcases gC with q|q;·exact absurd q d2
         ·exact⟨q,lL (f2.out.trans eb) (by rw[qD];decide) (d6 q)⟩
        ·refine⟨c0,c1,eb.ext.n.trans a4.out.ext.n,eb.room.trans a4.out.room,cg,b6,⟨em,hj,ep,er⟩,⟨V,D,hH.fa B (fun s av j=>by rcases j with rfl|rfl;exact cg av;exact b6 av) (fun j=>by rcases j with j|j;exact cy j.symm;exact ca j.symm) (fun j=>by rcases j with j|j;exact eg j.symm;exact hh j.symm),?_,fun q b2=>.inl b2⟩,d7 c5⟩;rw[show(l-l).toNat+1=1 by omega];exact aE _
       have dl:=aa cn;clear cn d7 ea ee no hH U eb d6 hR hr;go_wp2_with fail;go_meet;refine⟨a8,b0,x,y,e6,rfl,dl.out _ ?_ ?_ ?_ ?_ ?_⟩;·(repeat (first|with_reducible exact af.refl _ _|refine dx (Or.inl rfl) ?_ _ _|refine dx (Or.inr rfl) ?_ _ _|with_reducible refine af.alloc ?_ _|with_reducible refine af.drew ?_))
       all_goals simp[go_sem,a3,bg,a0,bb,b1,bi,fv,e4]
      ·have d8:l<lv:=(by omega);have g1:=i'.out d8;have hC:(lv-l).toNat+1=((lv-(l+1)).toNat+1)+1:=(by omega);obtain⟨P,d3⟩:∃P,P=2 ^ ((lv-(l+1)).toNat+1):=⟨_,rfl⟩;have U:2 ^ ((lv-l).toNat+1)=P+P:=(by rw[hC,dd,←d3];omega);have e':=hq.out;rw[U]at e';have am:0<P:=(by rw[d3];exact eG (by decide));have am:=g1 lo b8 d0 V D cv e0.out.1 a4.out.ext.n a4.out.room a4.out.cp (by rw[←d3];omega) bD.out;have hn:=aa am;have jp:=aa g1;have hw:=aa d3;have i9:=aa U;clear am g1 d3 U hC;go_wp2_with fail;refine hn.out.mono ?_;rintro r bv ⟨f4,x,e6,a8,rfl,h3,c0,gC,E,gc,c6,hI⟩;have hg:=E.size;have N:∀I,¬b8 I→I≠b→¬(b8 I∨I=b):=fun I bn bp j=>(by rcases j with j|j;exact bn j;exact bp j);replace W:=E.cellAt (N _ bs a5) W;replace Y:=E.cellAt (N _ bs a5) Y;replace Z:=E.cellAt (N _ bs a5) Z;replace ab:=E.cellAt (N _ bs a5) ab;replace L:=E.cellAt (N _ b5 bd) L;replace T:=E.cellAt (N _ b5 bd) T;replace ad:=fun o:Nat=>E.frozen (a:=⟨w.heap.size+1,o,none⟩) fs (N _ b5 bd) (ad o);replace a3:=E.cellAt (N _ ce cy) a3;replace bg:=E.cellAt (N _ ce cy) bg;replace a0:=E.cellAt (N _ cf ca) a0;replace bb:=E.cellAt (N _ cf ca) bb;replace b1:=fun o:Nat=>E.frozen (a:=⟨t,o,none⟩) b3 (N _ ce cy) (b1 o);replace bi:=fun o:Nat=>E.frozen (a:=⟨z,o,none⟩) b4 (N _ cf ca) (bi o)
       have no:∀I,¬b8 I→I<cv.heap.size→¬a8 I:=fun I bn bp S=>by
        rcases gc I S with q|q;·exact bn q
        ·omega
       have cg:=no _ ce b3;have b6:=no _ cf b4;have co:=no _ bs h';have cE:=no _ b5 fs
       have ea:af (fun s=>F s∨s=b) w bv:=(hA.out.mono (fun k _ S=>.inl S)).b9 E (fun i hi j=>by
        rcases j with j|j
        ·rcases dr.out i j with q|q;·exact .inl q
         ·omega
        ·exact .inr j)
       have ee:∀s,a8 s→F s∨w.heap.size≤s:=fun s av=>by
        rcases gc s av with q|q;·exact dr.out s q
        ·exact .inr (by omega)
       have hy:=aa ea;have f0:=aa ee;have ds:=aa h3;have j':=aa c6;have i6:=aa hI;have j6:=aa c0;clear no ea ee h3 c6 hI c0 E gc hn ka;rcases gC with rfl|rfl
       ·obtain⟨kf,i4,f',g2,hY⟩:=i6.out rfl;have hD:=ds.out.c5 rfl;have ec:=ds.out.cc;have hP:=fun(X:World) (cd:af (fun s=>s=t∨s=z) bv X)=>jp.out hi a8 f4 kf i4 X e0.out.2 (ec.ext.n.trans a4.out.ext.n) (ec.room.trans a4.out.room) (ec.ext.leads a4.out.cf) (by rw[←hw.out]at g2 ⊢;omega) (f'.fa cd (fun s av j=>by rcases j with rfl|rfl;exact cg av;exact b6 av) (fun j=>by rcases j with j|j;exact cy j.symm;exact ca j.symm) (fun j=>by rcases j with j|j;exact eg j.symm;exact hh j.symm));have ho:=aa hP;have U:=aa f';have U:=aa hD;have f3:=aa ec;have j0:=aa g2;have j4:=aa hY;clear hP f' hD ec g2 hY;go_wp2_with fail;have aw:af (fun s=>s=t) bv ((bv.setCell ⟨t,0,none⟩ (.int .u8 x.tag)).setCell ⟨t,1,none⟩ (.int .u32 x.to)):=dx (P:=fun s=>s=t) rfl (dx (P:=fun s=>s=t) rfl (af.refl _ _) _ _) _ _;have ek:((bv.setCell ⟨t,0,none⟩ (.int .u8 x.tag)).setCell ⟨t,1,none⟩ (.int .u32 x.to)).cell? ⟨t,0,none⟩=some (.int .u8 x.tag):=(by simp[go_sem,a3,bg,b1]);have el:((bv.setCell ⟨t,0,none⟩ (.int .u8 x.tag)).setCell ⟨t,1,none⟩ (.int .u32 x.to)).cell? ⟨t,1,none⟩=some (.int .u32 x.to):=(by simp[go_sem,a3,bg,b1]);obtain⟨i3,h6⟩:∃X,X=(bv.setCell ⟨t,0,none⟩ (.int .u8 x.tag)).setCell ⟨t,1,none⟩ (.int .u32 x.to):=⟨_,rfl⟩;rw[←h6]at aw ek el ⊢;clear h6;have i1:=aw.mono (G:=fun s=>s=t∨s=z) (fun k _ S=>.inl S);refine(ho.out i3 i1).mono ?_;rintro r eg ⟨O,y,e7,bx,rfl,c9,c1,kw,a1,gh,hN,hJ⟩;have ii:=aw.size;have io:=a1.size;have N:∀I,¬a8 I→I≠b→¬(a8 I∨I=b):=fun I bn bp j=>(by rcases j with j|j;exact bn j;exact bp j);replace W:=a1.cellAt (N _ co a5) (aw.cellAt e3 W);replace Y:=a1.cellAt (N _ co a5) (aw.cellAt e3 Y);replace Z:=a1.cellAt (N _ co a5) (aw.cellAt e3 Z);replace ab:=a1.cellAt (N _ co a5) (aw.cellAt e3 ab);replace L:=a1.cellAt (N _ cE bd) (aw.cellAt f8 L);replace T:=a1.cellAt (N _ cE bd) (aw.cellAt f8 T);replace ad:=fun o:Nat=>a1.frozen (a:=⟨w.heap.size+1,o,none⟩) (by show w.heap.size+1<_;omega) (N _ cE bd) (aw.frozen (a:=⟨w.heap.size+1,o,none⟩) (by show w.heap.size+1<_;omega) f8 (ad o));replace ek:=a1.cellAt (N _ cg cy) ek;replace el:=a1.cellAt (N _ cg cy) el;replace a0:=a1.cellAt (N _ b6 ca) (aw.cellAt e4 a0);replace bb:=a1.cellAt (N _ b6 ca) (aw.cellAt e4 bb);replace bi:=fun o:Nat=>a1.frozen (a:=⟨z,o,none⟩) (by show z<_;omega) (N _ b6 ca) (aw.frozen (a:=⟨z,o,none⟩) (by show z<_;omega) e4 (bi o))
        have no:∀I,¬a8 I→I<i3.heap.size→¬bx I:=fun I bn bp S=>by
         rcases gh I S with q|q;·exact bn q
         ·omega
        have ft:=no _ cg (by omega);have c':=no _ b6 (by omega);have cp:=no _ co (by omega);have da:=no _ cE (by omega)
        have h4:af (fun s=>F s∨s=b) w eg:=(hy.out.b9 aw (fun i hi j=>by omega)).b9 a1 (fun i hi j=>by
         rcases j with j|j
         ·rcases f0.out i j with q|q;·exact .inl q
          ·omega
         ·exact .inr j)
        have is:∀s,bx s→F s∨w.heap.size≤s:=fun s av=>by
         rcases gh s av with q|q;·exact f0.out s q
         ·exact .inr (by omega)
        have cn:∀J,af (fun s=>s=z) eg J→J.cell? ⟨z,0,none⟩=some (.int .u8 y.tag)→J.cell? ⟨z,1,none⟩=some (.int .u32 y.to)→lS F w J sb wb b lv f M V e l t z bx O x y e7:=fun J B ep er=>by
         refine⟨h4.b9 B (fun i hi j=>by omega),is,hN.a4 B (fun k S j=>by subst j;exact c' S),B.cellAt e5 W,B.cellAt e5 Y,B.cellAt e5 Z,B.cellAt e5 ab,B.cellAt f9 L,B.cellAt f9 T,fun o=>B.frozen (a:=⟨w.heap.size+1,o,none⟩) (by show w.heap.size+1<_;omega) f9 (ad o),cp,da,fun d2=>?_,fun c5=>?_⟩
         ·rcases kw with q|q;·exact absurd q d2
          ·refine⟨q,lL ((f2.out.trans f3.out).trans c9.cc) ?_ (c9.cS d2).2.2⟩;rw[oe d8];omega
         ·obtain⟨c4,hl,be,fi,fj⟩:=hJ c5;refine⟨j6.out,c1,(c9.cc.ext.n.trans f3.out.ext.n).trans a4.out.ext.n,(c9.cc.room.trans f3.out.room).trans a4.out.room,ft,c',⟨B.cellAt fv ek,B.cellAt fv el,ep,er⟩,⟨c4,hl,be.fa B (fun s av j=>by subst j;exact c' av) (fun j=>ca j.symm) (fun j=>hh j.symm),?_,fun q b2=>?_⟩,fun g'=>?_⟩
          ·have bp:=j0.out;rw[←hw.out]at bp fi;rw[i9.out];omega
          ·rcases fj q b2 with a7|a7
           ·rcases j4.out q a7 with bf|bf;·exact .inl bf
            ·exact .inr (by omega)
           ·exact .inr (by omega)
          ·subst c5;rw[oe d8];exact Dm a'.out.a8.wf fE.out cj.out c3.out cb d8 dj.out db.out.symm dk.out eR.out ev.out ds.out c9 g'
        have dl:=aa cn;clear cn h4 is no c9 c1 a1 gh hN hJ ho aw i1 ek el;go_wp2_with fail;go_meet;refine⟨bx,O,x,y,e7,rfl,dl.out _ ?_ ?_ ?_⟩;·(repeat (first|with_reducible exact af.refl _ _|refine dx (P:=fun s=>s=z) rfl ?_ _ _|with_reducible refine af.alloc ?_ _|with_reducible refine af.drew ?_))
        all_goals simp[go_sem,a0,bb,bi]
       ·obtain⟨a7,bf,c2⟩:=ds.out.cS (by decide)
        have cn:∀J,af (fun s=>s=t∨s=z) bv J→lS F w J sb wb b lv f M V e l t z a8 f4 x x 6:=fun J B=>by
         have ci:¬(w.heap.size=t∨w.heap.size=z):=fun j=>(by omega);have cS:¬(w.heap.size+1=t∨w.heap.size+1=z):=fun j=>(by omega);refine⟨hy.out.b9 B (fun i hi j=>by omega),f0.out,j'.out.a4 B (fun k S j=>by rcases j with rfl|rfl;exact cg S;exact b6 S),B.cellAt ci W,B.cellAt ci Y,B.cellAt ci Z,B.cellAt ci ab,B.cellAt cS L,B.cellAt cS T,fun o=>B.frozen (a:=⟨w.heap.size+1,o,none⟩) (by show w.heap.size+1<_;omega) cS (ad o),co,cE,fun d2=>?_,fun c5=>by cases c5⟩;refine⟨rfl,lL (f2.out.trans ds.out.cc) ?_ c2⟩;rw[oe d8];have:=n8 (lv:=lv) (l:=l+1);omega
        have dl:=aa cn;clear cn a7 bf c2;go_wp2_with fail;go_meet;refine⟨a8,f4,x,x,6,rfl,dl.out _ ?_⟩
        (repeat (first|with_reducible exact af.refl _ _|refine dx (Or.inl rfl) ?_ _ _|refine dx (Or.inr rfl) ?_ _ _|with_reducible refine af.alloc ?_ _|with_reducible refine af.drew ?_))
     case rest=>
      obtain⟨bx,O,x,y,e7,rfl,al⟩:=hcut;clear W Y Z ab L T ad a3 bg a0 bb b1 bi d1 hm f1 b3 b4 ce cf bs b5;have B:=al.av.size;have L:=al.r0;have T:=al.r1;have ad:=al.rf;have hf:=aB L;dsimp only at hf;by_cases gv:e7=0
      case neg=>
       obtain⟨a7,bf⟩:=al.cS gv;subst a7;have bq:=fun(w':World) (cD:af (fun s=>s=w.heap.size+1) wc w')=>nO (V:=V) (wb:=wb) (b:=b) bf al.av al.sub al.a8 cD al.nR (by omega);have cx:=aa bq;clear bq bf al gv;refine e9 _ _ ?_;clear e9;go_wp2_with fail;refine aq (v:=.tuple #[.agg #[.int .u8 (⟨0,0⟩:Edge).tag,.int .u32 (⟨0,0⟩:Edge).to],.int .u8 6]) (by simp[results,Tryz.results249,go_sem,L,T]) rfl (cx.out _ ?_)
       (repeat (first|with_reducible exact af.refl _ _|refine lM ?_ _ _|with_reducible refine af.alloc ?_ _|with_reducible refine af.drew ?_))
      case pos=>
       subst gv;obtain⟨c0,c1,B,I,ft,c',⟨a3,bg,a0,bb⟩,⟨c4,hl,be,fi,fj⟩,d7⟩:=al.c5 rfl;have W:=al.p0;have Y:=al.p1;have Z:=al.p2;have ab:=al.p3;have cp:=al.nP;have da:=al.nR;have k9:=be.nW;have B:l<O.n:=(by have:=dj.out;omega);have fl:(aL f O (ay f O l x y)).ok:=mA be.a8.wf be.a8.bx c0 c1 cb (by omega) cj.out;have ha:=d7 fl;have d9:=fun(X:World) (cd:ae wc X)=>lX (be.a8.ad cd) f l x y c0 c1;rw[ml cj.out]at d9;change ∀X,ae wc X→Calls _ _ _ X fun r w'=>r=.returned (.tuple #[.agg #[.int .u8 (aL f O (ay f O l x y)).tag,.int .u32 (aL f O (ay f O l x y)).to],.int .u8 (cV O (ay f O l x y))])∧af bx X w'∧ak (aC bx X w') w' sb (aX O (ay f O l x y))at d9;have ga:aD O (aX O (ay f O l x y)):=uE be.a8.wf _;obtain⟨e1,gu⟩:∃e1,e1=aX O (ay f O l x y):=⟨_,rfl⟩;obtain⟨bw,he⟩:∃bw,bw=aL f O (ay f O l x y):=⟨_,rfl⟩;obtain⟨e8,hT⟩:∃e8,e8=cV O (ay f O l x y):=⟨_,rfl⟩;rw[←gu,←he,←hT]at d9 ha;rw[←he]at fl;rw[←gu]at ga;have g6:=be.a8.lt;have j3:=aa (fun(X:World) (cd:ae wc X)=>iu g6 (aE _) (d9 X cd));have dB:=aa ha;have j5:=aa fl;have i5:=aa be;have j1:=aa g6;have i7:=aa ga;have fD:=aa al;have ht:=aa fi;have hv:=aa fj;have f7:=be.c0;have b3:=aB a3;have b4:=aB a0;have B:=be.lt.2;dsimp only at b3 b4;clear d9 ha fl be g6 gu he hT d7 al ga fi fj;have k3:wc.heap.size≠wb:=(by omega);have k4:wc.heap.size≠w.heap.size:=(by omega);have k5:wc.heap.size≠t:=(by omega);have k6:wc.heap.size≠z:=(by omega);refine e9 _ _ ?_;clear e9 kd;go_wp2_with fail;go_cut [11,10] (fun B ed J=>∃b7 fz,B=.pointer (some ⟨b7,0,none⟩)∧ed=.int .u8 e8∧gY bx wc J sb e1 b7 b7 bw bw fz)
       case first=>
        go_region_held3 (fun w'=>w'.cell? ⟨wb,0,none⟩=some (.pointer (some ⟨sb,0,none⟩))∧w'.cell? ⟨w.heap.size,0,none⟩=some (.int .u8 f)∧w'.cell? ⟨w.heap.size,3,none⟩=some (.int .i64 l)∧w'.cell? ⟨t,0,none⟩=some (.int .u8 x.tag)∧w'.cell? ⟨t,1,none⟩=some (.int .u32 x.to)∧w'.cell? ⟨z,0,none⟩=some (.int .u8 y.tag)∧w'.cell? ⟨z,1,none⟩=some (.int .u32 y.to)) (go_keep) ((go_at_call 71;refine(j3.out _ kp).mono ?_;rintro kr bt ⟨⟨rfl,E,c6⟩,d5,d6,g5,g8,g9⟩;have hb:=E.size;(try simp only[ai,World.a5,World.cx]at hb);have B:=E.cellAt (b:=wb) (o:=0) (v:=.pointer (some ⟨sb,0,none⟩)) k9 (by go_keep);have B:=E.cellAt (b:=w.heap.size) (o:=0) (v:=.int .u8 f) cp (by go_keep);have B:=E.cellAt (b:=w.heap.size) (o:=3) (v:=.int .i64 l) cp (by go_keep);have B:=E.cellAt (b:=t) (o:=0) (v:=.int .u8 x.tag) ft (by go_keep);have B:=E.cellAt (b:=t) (o:=1) (v:=.int .u32 x.to) ft (by go_keep);have B:=E.cellAt (b:=z) (o:=0) (v:=.int .u8 y.tag) c' (by go_keep);have B:=E.cellAt (b:=z) (o:=1) (v:=.int .u32 y.to) c' (by go_keep);have la:bt.heap.size≠wb:=(by omega);have B:bt.heap.size≠w.heap.size:=(by omega);have B:bt.heap.size≠t:=(by omega);have t:bt.heap.size≠z:=(by omega)))
        all_goals(try go_wp2_with fail)
        all_goals go_meet
        all_goals refine⟨_,_,rfl,rfl,jY j1.out kp E c6 ?_ ?_ ?_ ?_ ?_ ?_ ?_⟩
        all_goals(try(simp[go_sem];done))
        all_goals(try(simp only[ai,World.a5,au];omega))
        all_goals(try(repeat (first|with_reducible exact af.refl _ _|with_reducible refine af.alloc ?_ _|with_reducible refine af.drew ?_|refine af.setCell ?_ (Or.inl (Or.inl rfl)) _)))
        all_goals(simp[go_sem,d5,g5,g8,g9];done)
       case rest=>
        obtain⟨b7,fz,rfl,rfl,A⟩:=hcut;have t:=A.av.size;replace L:=A.av.cellAt da L;replace T:=A.av.cellAt da T;replace ad:=fun o:Nat=>A.av.frozen (a:=⟨w.heap.size+1,o,none⟩) hf da (ad o);replace W:=A.av.cellAt cp W;replace Y:=A.av.cellAt cp Y;replace Z:=A.av.cellAt cp Z;replace ab:=A.av.cellAt cp ab;have f5:=A.a0;have ki:=A.a1;have t:=A.gB;have k2:=aB f5;dsimp only at k2;have ih:=A.no da hf
        have h5:af (fun s=>F s∨s=b) w wc:=fD.out.av.b9 A.av (fun i hi j=>by
         rcases fD.out.sub i j with q|q;·exact .inl q
         ·omega)
        have it:∀s,fz s→F s∨w.heap.size≤s:=fun s av=>by
         rcases A.sub s av with q|q;·exact fD.out.sub s q
         ·exact .inr (by omega)
        have t:w.heap.size+1≠b7:=(by omega);have b9:=aa A;have hz:=aa h5;have hx:=aa it;clear A h5 it a3 bg a0 bb f7;by_cases gx:e8=0
        ·subst gx;have cc:=i5.out.store b9.out.av b9.out.a8 b9.out.sub i7.out;have hW:e1.leads f e l=true:=dB.out.cc.ext.leads c3.out
         have h0:(f,e,l)∉c4:=fun j=>by
          rcases hv.out _ j with q|q;·exact j2.out q
          ·exact absurd q (Int.lt_irrefl _)
         have hQ:c4.length<maxLen:=by
          have bn:=ht.out;have bp:=hq.out;unfold maxLen;omega
         have hO:(c4++[(f,e,l)]).length+1≤V.length+2 ^ ((lv-l).toNat+1):=by
          have bn:=ht.out;simp only[di,dm,List.length_nil];omega
         have hM:∀q∈c4++[(f,e,l)],q∈V∨l≤q.2.2:=fun q b2=>by
          rcases List.mem_append.1 b2 with b2|b2
          ·rcases hv.out q b2 with a7|a7;·exact .inl a7
           ·exact .inr (by omega)
          ·rw[cF]at b2;subst b2;exact .inr (Int.le_refl _)
         obtain⟨i2,h2,hZ,hU⟩:=(jE (W':=wc.drew) cc.own rfl).update oK Tryz.underlying304 hQ (mm f e l cj.out et.out cb (by omega)) (qL bw);have a6:=af.fD hU;have hE:=(cc.ad (ae.refl wc).drew).put a6 hZ cj.out et.out cb (by omega) hW h0 (dB.out.c5 rfl);unfold jJ at h2;have e2:=cc.c2;have bd:=cc.cE L;have a5:=cc.cE W;have t:=cc.cE f5;have z:=cc.cE cc.c0;have lc:=a6.cellAt (b:=w.heap.size+1) (o:=0) (v:=.int .u8 0) bd L;have lf:=a6.cellAt (b:=w.heap.size+1) (o:=1) (v:=.int .u32 0) bd T;have A:=fun o:Nat=>a6.frozen (a:=⟨w.heap.size+1,o,none⟩) (by show w.heap.size+1<wc.heap.size;omega) bd (ad o);have A:=a6.cellAt (b:=w.heap.size) (o:=0) (v:=.int .u8 f) a5 W;have A:=a6.cellAt (b:=w.heap.size) (o:=1) (v:=.int .u8 e.tag) a5 Y;have A:=a6.cellAt (b:=w.heap.size) (o:=2) (v:=.int .u32 e.to) a5 Z;have A:=a6.cellAt (b:=w.heap.size) (o:=3) (v:=.int .i64 l) a5 ab;have A:=a6.cellAt (b:=b7) (o:=0) (v:=.int .u8 bw.tag) t f5;have aw:=a6.cellAt (b:=b7) (o:=1) (v:=.int .u32 bw.to) t ki;have u8:=a6.cellAt (b:=wb) (o:=2) (v:=.map (some b)) z e2;have A:=a6.size;have B:wc.heap.size≤i2.heap.size:=A;have bq:=fun(w':World) (cD:af (fun s=>s=w.heap.size+1) i2 w')=>vp (wb:=wb) dB.out j5.out (hz.out.drew.b9 a6 (fun i hi j=>.inr j)) hx.out hE hO hM cD ih (by omega) bd (by omega);have cx:=aa bq;have j:=aa h2;clear bq cc hW h0 hQ hZ hU a6 hE bd a5 t z hO hM;go_wp2_with fail;go_region_held3 (fun w'=>w'.cell? ⟨wb,2,none⟩=some (.map (some b))∧w'.cell? ⟨w.heap.size,0,none⟩=some (.int .u8 f)∧w'.cell? ⟨w.heap.size,1,none⟩=some (.int .u8 e.tag)∧w'.cell? ⟨w.heap.size,2,none⟩=some (.int .u32 e.to)∧w'.cell? ⟨w.heap.size,3,none⟩=some (.int .i64 l)∧w'.cell? ⟨b7,0,none⟩=some (.int .u8 bw.tag)∧w'.cell? ⟨b7,1,none⟩=some (.int .u32 bw.to)) (go_keep) (fail)
         go_wp2_with fail;refine aq (v:=.tuple #[.agg #[.int .u8 bw.tag,.int .u32 bw.to],.int .u8 0]) (by simp[results,Tryz.results249,go_sem,lc,lf]) rfl (cx.out _ ?_)
         (repeat (first|with_reducible exact af.refl _ _|refine lM ?_ _ _|with_reducible refine af.alloc ?_ _|with_reducible refine af.drew ?_))
        ·obtain⟨a7,bf,c2⟩:=dB.out.cS gx;subst a7 bf;have bq:=fun(w':World) (cD:af (fun s=>s=w.heap.size+1) wc w')=>nO (V:=V) (wb:=wb) dB.out hz.out hx.out b9.out.a8 cD ih (by omega);have cx:=aa bq;clear bq gx c2;go_wp2_with fail;refine aq (v:=.tuple #[.agg #[.int .u8 (⟨0,0⟩:Edge).tag,.int .u32 (⟨0,0⟩:Edge).to],.int .u8 6]) (by simp[results,Tryz.results249,go_sem,L,T]) rfl (cx.out _ ?_)
         (repeat (first|with_reducible exact af.refl _ _|refine lM ?_ _ _|with_reducible refine af.alloc ?_ _|with_reducible refine af.drew ?_))
end
theorem vn {sb wb b:Nat}{lv:Int}{n room:Int}(j:lv+1<n)(q:room<1048576):∀(K:Nat) (f:Int) (e:Edge) (l:Int) (F:Nat→Prop) (M:St) (V:List (Int×Edge×Int)) (D:DataW Unit) (w:World),lv-l=(K:Int)→0≤l→1≤f∧f≤5→e.ok→M.n=n→M.room=room→M.leads f e l=true→V.length+2 ^ (K+1)≤1000000→bX F w sb wb b lv M V D →
  Calls Tryz.prog 249 #[.pointer (some ⟨wb,0,none⟩),.agg #[.int .u8 f,.int .u8 e.tag,.int .u32 e.to,.int .i64 l]] w (iS F w sb wb b lv f M V e l):=by
 intro K
 induction K with
 |zero=>
  intro f e l F M V D w I s q t L O E A j;have N:=j.a8.wf.bw;have B:(lv-l).toNat=0:=by omega
  by_cases z:(f,e,l)∈V;·exact qk j q e l t s (by omega) z
  ·exact qi j q e l t E s (by omega) (by omega) z (by omega) (by rw[B];exact A) (fun J=>by omega)
 |succ K S=>
  intro f e l F M V D w I s q t L O E A j;have N:=j.a8.wf.bw;push_cast at I;have B:(lv-l).toNat=K+1:=by omega
  have I:(lv-(l+1)).toNat=K:=by omega
  by_cases z:(f,e,l)∈V;·exact qk j q e l t s (by omega) z
  ·refine qi j q e l t E s (by omega) (by omega) z (by omega) (by rw[B];exact A) (fun _ h t z A s B J j j L j E=>?_);rw[I]at j;exact S f h (l+1) t z A s B (by omega) (by omega) q J (by omega) (by omega) L j E
def jP (F Fo:Nat→Prop)(w:World)(sb q:Nat)(M:St)(ps:List Int)(ss:List Nat)(rs:List (Int×Edge))(c:Int)(r:Ending)(w':World):Prop:=
 ∃(g:Nat) (es:List Edge) (M':St) (F':Nat→Prop),r=.returned (.tuple #[.slice (some ⟨g,0,none⟩) rs.length rs.length,.int .u8 0])∧cB w' g es∧w.heap.size≤g∧jr ps.length ss M M' rs es ∧
  ak F' w' sb M'∧(∀j,F' j→F j∨w.heap.size≤j)∧¬F' g∧ba Fo w' q (bu ps ss)∧af (fun j=>F j∨Fo j) w w'∧cM M M' (((ss.length*rs.length:Nat):Int)*c)
structure pX (F:Nat→Prop)(w0 wy:World)(sb tb b:Nat)(lv f:Int)(M:St)(V:List (Int×Edge×Int))(e:Edge)(B:Nat)(M':St)(x:Edge)(er:Int)(F':Nat→Prop):Prop where
 swp:fJ lv f M e 0 M' x er (ej lv 0)
 ok:x.ok
 hP:er=0∨er=6
 a0:wy.cell? ⟨B,0,none⟩=some (.int .u8 x.tag)
 a1:wy.cell? ⟨B,1,none⟩=some (.int .u32 x.to)
 av:af (fun j=>F j∨j=b) w0 wy
 sub:∀j,F' j→F j∨w0.heap.size≤j
 gB:w0.heap.size≤B
 c5:er=0→∃V' D',bX F' wy sb tb b lv M' V' D'∧V'.length+1≤V.length+2 ^ ((lv-0).toNat+1)
theorem vm {F:Nat→Prop}{w0 I E J:World}{sb O b:Nat}{lv f:Int}{M:St}{V:List (Int×Edge×Int)}{e:Edge}{s:Nat}{M':St}{x:Edge}{B:Int}{F':Nat→Prop}(aw:∀k,F k→k<w0.heap.size)(a1:b<w0.heap.size)(a3:O<w0.heap.size)(U:ae w0 I)
  (Z:fJ lv f M e 0 M' x B (ej lv 0)) (ab:x.ok) (ad:B=0∨B=6) (al:af (fun j=>F j∨j=b) I E) (S:∀j,F' j→F j∨I.heap.size≤j) (av:∀j,F' j→j<E.heap.size)
  (am:B=0→∃A L,bX F' E sb O b lv M' A L∧A.length+1≤V.length+2 ^ ((lv-0).toNat+1)∧∀q∈A,q∈V∨0≤q.2.2)
  (T:af (fun k=>k=s) E J) (z:w0.heap.size≤s∧(s<I.heap.size∨E.heap.size≤s)) (W:J.cell? ⟨s,0,none⟩=some (.int .u8 x.tag)) (X:J.cell? ⟨s,1,none⟩=some (.int .u32 x.to)) :
  pX F w0 J sb O b lv f M V e s M' x B F':=by
 have B:=U.size
 have a0:¬F' s:=fun t=>by
  rcases z.2 with q|q
  ·rcases S s t with B|B;·have:=aw s B;have:=z.1;omega
   ·omega
  ·have:=av s t;omega
 refine⟨Z,ab,ad,W,X,((ae.av U _).bg al).b9 T (fun i hi t=>by have:=z.1;omega),fun j N=>?_,z.1,fun Y=>?_⟩
 ·rcases S j N with q|q;·exact .inl q
  ·exact .inr (by omega)
 ·obtain⟨A,L,s,B,_⟩:=am Y;exact⟨A,L,s.fa T (fun j N t=>a0 (t ▸ N)) (fun t=>by have:=z.1;omega) (fun t=>by have:=z.1;omega),B⟩
theorem AO {d i K j:Nat}{c:Int}(t:d<K)(hi:i<j)(s:0≤c):((d*j+i:Nat):Int)*c+c≤((K*j:Nat):Int)*c:=by
 have q:d*j+i+1≤K*j:=by
  have:(d+1)*j≤K*j:=Nat.mul_le_mul_right _ t;rw[Nat.add_mul]at this;omega
 have t:((d*j+i+1:Nat):Int)*c≤((K*j:Nat):Int)*c:=Int.mul_le_mul_of_nonneg_right (by exact_mod_cast q) s
 have q:((d*j+i+1:Nat):Int)*c=((d*j+i:Nat):Int)*c+c:=by
  rw[show((d*j+i+1:Nat):Int)=((d*j+i:Nat):Int)+1 by push_cast;rfl,Int.add_mul,Int.one_mul]
 omega
theorem Dh {F Fo:Nat→Prop}{w:World}{sb a0:Nat}{M:St}{ps:List Int}{ss:List Nat}{rs:List (Int×Edge)}{c:Int}(h:ak F w sb M)(e4:ba Fo w a0 ps)(cd:∀k,F k→¬Fo k)
  (a2 c4:Option Addr) (cap2 cap3:Nat) (hS:∀A,af (fun j=>F j∨Fo j) w A→bH A a2 (ss.map (fun z:Nat=>(z:Int)))) (cc:∀A,af (fun j=>F j∨Fo j) w A→cA A c4 rs) (hr:ss.length≤1000) (hq:rs.length≤16) (dl:cG M rs=0)
  (e1:M.n=(ps.length:Int)) (fa:∀z∈ss,z+1<ps.length) (ep:∀z∈ss,ej (z:Int) 0≤c) (g':0≤c) (e7:M.len+((ss.length*rs.length:Nat):Int)*c<M.room) (b1:M.room<1048576) :
  Calls Tryz.prog 213 #[.pointer (some ⟨sb,0,none⟩),.pointer (some ⟨a0,0,none⟩),.slice a2 ss.length cap2,.slice c4 rs.length cap3] w (jP F Fo w sb a0 M ps ss rs c):=by
 have ch:=fun(A:World) (bi:ae w A)=>tQ (h.ad bi) c4 cap3 rs (cc A (bi.av _)) (by omega)
 rw[dl]at ch
 have eS:=zH dl
 have bq:∀(i:Nat) (r:Int×Edge),rs[i]?=some r→r.2.ok:=fun i r c4=>(cc w (af.refl _ _) i r c4).2.1
 obtain⟨B,cb⟩:∃B,B=rs.length:=⟨_,rfl⟩
 obtain⟨K,ca⟩:∃K,K=ss.length:=⟨_,rfl⟩
 obtain⟨hx,I,hy,hz,hA⟩:=info_parts oH
 rw[←cb]at ch hq
 rw[←ca]at hr
 have d5:=aa ch
 have H:=aa h
 have a':=aa e4
 have d1:=aa cd
 have d9:=aa hS
 have d7:=aa cc
 have W:=aa cb
 have a8:=aa ca
 have d3:=aa eS
 have ga:=aa bq
 have f8:=aa e1
 have ea:=aa fa
 have f2:=aa ep
 have d8:=aa (⟨e7,b1⟩:_∧_)
 clear ch h e4 cd hS cc eS bq e1 fa ep e7 b1 dl
 rw[←cb,←ca]
 clear cb ca
 go_enter Tryz.func213,Tryz.ntmps213
 go_wp2_with (first
  |(go_at_call 248;refine(d5.out _ kp).mono ?_;rintro e w1 ⟨rfl,dj⟩)
  |(at_make;refine wpList_make_full _ rfl _ _ 34 rfl w1.heap.size 52 hx (.agg #[.int .u8 0,.int .u32 0]) 2 Tryz.underlying34 I hy hz .i64 .i64 (B:Int) (B:Int) B rfl rfl rfl rfl (by rw[hA];omega) (by unfold maxLen;omega) (by simp) ?_;intro bs e6 bn)
  |fail)
 have c6:=sY e6
 have fp:ae w1 bs:=⟨bn.os,bn.tape,bn.output,bn.size,fun i hi=>bn.block i hi (by simp)⟩
 have eR:ae w bs:=dj.trans fp
 have f6:=aa eR
 have cv:=aa c6
 have hB:=c6.lt
 have fv:=dj.size
 obtain⟨g,et⟩:∃g,g=w1.heap.size:=⟨_,rfl⟩
 rw[←et]at cv hB fv ⊢
 clear e6 bn fp eR c6 dj et d5
 go_loopg [34] B (fun gk bn wr=>∃(d:Nat) (es:List Edge),bn=.int .i64 (d:Int)∧d+gk=B∧es.length=B∧cB wr g es∧(∀i,i<d→∀r,rs[i]?=some r→es[i]?=some r.2)∧af (fun j=>j=g) bs wr)
 case atStart=>exact⟨0,_,rfl,by omega,by simp,cv.out,fun i hi=>by omega,af.refl _ _⟩
 case round=>
  obtain⟨d,es,rfl,cd,ca,T,bn,O⟩:=hrel;have a7:=aa ca;have J:=aa T;have cp:=aa bn;have U:=aa O;have cb:ae w wr:=f6.out.new O (fun j I=>by omega);have bv:=aa cb;have cj:=T.lt;clear ca T bn O cb;by_cases aw:d<B
  ·obtain⟨r,E⟩:∃b,rs[d]?=some b:=⟨_,ar (by rw[←W.out];exact aw)⟩;obtain⟨db,bq,b,off,c',b6,b7,b8⟩:=d7.out wr (bv.out.av _) d r E;obtain⟨y,a4⟩:∃b,es[d]?=some b:=⟨_,ar (by rw[a7.out];exact aw)⟩;obtain⟨cn,co⟩:=J.out.cell a4;have g4:=J.out.frozen (d*2);have g5:=J.out.frozen (d*2+1);have c1:=aa E;have bn:wr.heap.size≠g:=(by omega);have bn:g≠wr.heap.size:=(by omega);obtain⟨f,e⟩:=r;dsimp only at b6 b7 b8;subst c';clear E a4 bq db;go_wp2_with fail;go_roundg (gk-1)
   case rel=>
    refine⟨d+1,es.set d e,by simp,by omega,by rw[bZ,a7.out],?_,fun i hi q dr=>?_,?_⟩;·exact(J.out.set d e (by rw[a7.out];exact aw)).ad ((ae.refl _).alloc _)
    ·by_cases hid:i=d
     ·subst hid;rw[c1.out]at dr;cases dr;rw[gy (by rw[a7.out];exact aw)]
     ·rw[fK (fun e=>hid e.symm)];exact cp.out i (by omega) q dr
    ·exact(dx (P:=fun j=>j=g) rfl (dx (P:=fun j=>j=g) rfl U.out _ _) _ _).alloc _
   case measure=>omega
  ·have ce:d=B:=by omega
   have e8:jr ps.length [] M M rs es:=⟨by rw[a7.out,W.out],fun i r x ad b9=>by
    have:=cp.out i (by rw[ce,W.out];exact(List.getElem?_eq_some_iff.1 ad).1) r ad;rw[b9]at this;cases this
    exact gq.start (d3.out r (bB ad)).2 (ga.out i r ad)⟩
   have gj:=aa e8;have hG:¬F g:=fun s=>(by have:=H.out.lt _ s;omega);have gC:=aa (cM.refl H.out.wf);have gh:=aa (H.out.ad bv.out);have gb:=aa (a'.out.ad bv.out);clear ce e8 cp a7 cv;obtain⟨a7,bn⟩:∃a7,a7=wr:=⟨_,rfl⟩;have hg:w.heap.size≤g:=fv;go_wp2_with fail;go_loopg [47] K (fun gk a7 wr=>∃(d:Nat) (es:List Edge) (M':St) (F':Nat→Prop),a7=.int .i64 (d:Int)∧d+gk=K∧cB wr g es∧jr ps.length (ss.take d) M M' rs es∧ak F' wr sb M'∧(∀j,F' j→F j∨w.heap.size≤j)∧¬F' g∧ba Fo wr a0 ps∧af (fun j=>F j∨Fo j) w wr∧cM M M' (((d*B:Nat):Int)*c))
   case atStart=>exact⟨0,es,M,F,rfl,by omega,J.out,by simpa using gj.out,gh.out,fun j I=>.inl I,hG,gb.out,bv.out.av _,by simpa using gC.out⟩
   case round=>
    clear J U cj bv aw;obtain⟨d,es,c3,b4,rfl,cd,T,e9,el,b2,bp,bD,O,b3⟩:=hrel;have J:=aa T;have cD:=aa e9;have b5:=aa el;have Y:=aa b2;have bb:=aa bD;have U:=aa O;have Z:=aa b3;have cj:=T.lt;obtain⟨c5,ev⟩:∃c5,c5=gk:=⟨_,rfl⟩;have d2:=aa ev;have ds:=O.size;have a7:w.heap.size≤wr.heap.size:=ds;have a7:g<wr.heap.size:=T.lt;clear T e9 el b2 bD O b3 ev;obtain⟨t,hv⟩:∃A,A=wr:=⟨wr,rfl⟩;subst hv;by_cases aw:d<K
    ·obtain⟨z,E⟩:∃b,ss[d]?=some b:=⟨_,ar (by rw[←a8.out];exact aw)⟩;obtain⟨g2,hH,c9,cs⟩:=d9.out t U.out d (z:Int) (by rw[dh,E];rfl);have cS:=aa (gT E);have cE:=aa (ea.out z (bB E));have f4:=aa (f2.out z (bB E));have a7:=a'.out.le;have a7:(z:Int)≤14:=(by have:=cE.out;omega);have hl:=@run_makeMap Tryz.prog;subst c9;clear E;go_wp2_with fail;have cg:ae t ((t.alloc (.map #[] 0)).alloc (.cells #[.pointer (some ⟨sb,0,none⟩),.int .i64 (z:Int),.map (some t.heap.size)] 306)):=((ae.refl _).alloc _).alloc _
     have da:bX b4 ((t.alloc (.map #[] 0)).alloc (.cells #[.pointer (some ⟨sb,0,none⟩),.int .i64 (z:Int),.map (some t.heap.size)] 306)) sb (t.heap.size+1) t.heap.size (z:Int) c3 [] (.map []):=by
      have fs:∀j,t.heap.size≤j→¬b4 j:=fun j I s=>(by have:=b5.out.lt _ s;omega);exact⟨b5.out.ad cg,by simp[go_sem],by simp[go_sem],by simp[go_sem],fs _ (aE _),fs _ (by omega),jE (World.ownsMap_made t Tryz.prog 309 iZ) (((ae.refl (t.alloc (.map #[] 0))).alloc _).block t.heap.size (by simp)),gp.empty _ _⟩
     have fz:((t.alloc (.map #[] 0)).alloc (.cells #[.pointer (some ⟨sb,0,none⟩),.int .i64 (z:Int),.map (some t.heap.size)] 306)).heap.size=t.heap.size+2:=(by simp);obtain⟨ws,fl⟩:∃A,A=(t.alloc (.map #[] 0)).alloc (.cells #[.pointer (some ⟨sb,0,none⟩),.int .i64 (z:Int),.map (some t.heap.size)] 306):=⟨_,rfl⟩;rw[←fl]at cg da fz ⊢;obtain⟨a7,bn⟩:t.heap.size+2≤ws.heap.size∧ws.heap.size≤t.heap.size+2:=(by omega);have cy:=aa cg;have d0:=aa da;clear fl cg da cs hl fz;go_loopg [57] B (fun gk a7 a5=>∃(i:Nat) (av:List Edge) (ab:St) (N:Nat→Prop) (V:List (Int×Edge×Int)) (D:DataW Unit),a7=.int .i64 (i:Int)∧i+gk=B∧cB a5 g av∧jq ps.length (ss.take d) z i M ab rs av∧bX N a5 sb (t.heap.size+1) t.heap.size (z:Int) ab V D∧V.length≤i*2 ^ (z+1)∧(∀j,N j→F j∨w.heap.size≤j)∧¬N g∧ba Fo a5 a0 ps∧af (fun j=>F j∨Fo j) w a5∧cM M ab (((d*B+i:Nat):Int)*c))
     case atStart=>exact⟨0,es,c3,b4,[],.map [],rfl,by omega,J.out.ad cy.out,cD.out.mid z,d0.out,by simp,Y.out,bp,bb.out.ad cy.out,U.out.bg (cy.out.av _),by simpa using Z.out⟩
     case round=>
      clear J cD b5 Y bb U Z d0 bp cj ds;obtain⟨i,av,ab,N,V,D,rfl,hi,T,b1,a7,bn,b2,bp,bD,O,b3⟩:=hrel;have J:=aa T;have bw:=aa b1;have a6:=aa a7;have ec:=aa bn;have Y:=aa b2;have bb:=aa bD;have U:=aa O;have Z:=aa b3;have cj:=T.lt;have bv:=a7.lt.1;have bv:=a7.lt.2;have ds:=O.size;clear T b1 a7 bn b2 bD O b3;by_cases b0:i<B
      ·obtain⟨r,E⟩:∃b,rs[i]?=some b:=⟨_,ar (by rw[←W.out];exact b0)⟩;obtain⟨db,bq,b,off,c',b6,b7,b8⟩:=d7.out wr U.out i r E;obtain⟨x,a4⟩:∃b,av[i]?=some b:=⟨_,ar (by rw[bw.out.1,←W.out];exact b0)⟩;obtain⟨cn,co⟩:=J.out.cell a4;have c1:=aa E;have c2:=aa a4;have X:=bw.out.2 i r x E a4;have er:=(d3.out r (bB E)).1;obtain⟨f,e⟩:=r;dsimp only at b6 b7 b8 er;have bd:=aa X;have f5:=aa er;have T:0≤f∧f≤255:=db;subst c';clear E a4 bq X;go_wp2_with fail;have br:ae wr (wr.alloc (.cells #[.int .u8 f,.int .u8 e.tag,.int .u32 e.to] 55)):=(ae.refl _).alloc _;have ft:(wr.alloc (.cells #[.int .u8 f,.int .u8 e.tag,.int .u32 e.to] 55)).cell? ⟨wr.heap.size,0,none⟩=some (.int .u8 f):=(by simp[go_sem]);have fx:(wr.alloc (.cells #[.int .u8 f,.int .u8 e.tag,.int .u32 e.to] 55)).heap.size=wr.heap.size+1:=(by simp);obtain⟨S,fj⟩:∃A,A=wr.alloc (.cells #[.int .u8 f,.int .u8 e.tag,.int .u32 e.to] 55):=⟨_,rfl⟩;rw[←fj]at br ft fx ⊢;obtain⟨T,a4⟩:wr.heap.size+1≤S.heap.size∧S.heap.size≤wr.heap.size+1:=(by omega);clear fx;replace cn:=br.cell cn;replace co:=br.cell co;have c7:=a6.out.ad br;have ho:2 ^ (z+1)≤2 ^ 15:=aW (by decide) (by omega)
       have ha:V.length+2 ^ (z+1)≤1000000:=by
        have ad:=ec.out;have b9:i*2 ^ (z+1)≤15*2 ^ (z+1):=Nat.mul_le_mul_right _ (by omega);have T:(2:Nat) ^ 15=32768:=rfl;omega
       have em:=fun(A:World) (bi:ae S A)=>(vn (n:=M.n) (room:=M.room) (by have:=cE.out;have:=f8.out;omega) d8.out.2 z f x 0 N ab V D A (by omega) (Int.le_refl _) f5.out bd.out.ok Z.out.ext.n Z.out.room bd.out.lead ha (c7.ad bi)).mono
        (fun r w' s=>(⟨s,by obtain⟨_,_,_,_,_,_,_,_,O,_⟩:=s;exact O,trivial⟩:iS N A sb (t.heap.size+1) t.heap.size (z:Int) f ab V x 0 r w'∧af (fun j=>N j∨j=t.heap.size) A w'∧True))
       have dk:∀k,N k→k<S.heap.size:=fun k al=>(by have:=a6.out.a8.lt k al;omega);have f0:=aa (fun(A:World) (bi:ae S A)=>iu (F:=fun j=>N j∨j=t.heap.size) (w0:=S) (wc:=S) (fun k al=>by rcases al with al|al;exact dk k al;omega) (aE _) (em A bi));have f7:=aa dk;have O:=aa c7;have cx:=aa br
       have nq:¬(N wr.heap.size∨wr.heap.size=t.heap.size):=fun s=>by
        rcases s with s|s;·have:=a6.out.a8.lt _ s;omega
        ·omega
       have ee:=a6.out.cE (J.out.cell c2.out).1;have cl:¬(N g∨g=t.heap.size):=fun s=>(by rcases s with s|s;exact bp s;exact ee s);have O:S.heap.size≠wr.heap.size:=(by omega);have O:S.heap.size≠g:=(by omega);have hD:t.heap.size<S.heap.size:=(by omega);have hE:t.heap.size+1<S.heap.size:=(by omega);clear fj em dk c7 br ho b6 b7 b8;go_cut [19,20] (fun O T a4=>∃bt a1 bg be a3,O=.pointer (some ⟨bt,0,none⟩)∧T=.int .u8 bg∧pX N S a4 sb (t.heap.size+1) t.heap.size (z:Int) f ab V x bt be a1 bg a3)
       case first=>
        go_region_held3 (fun w'=>w'.cell? ⟨wr.heap.size,0,none⟩=some (.int .u8 f)∧w'.cell? ⟨g,i*2,none⟩=some (.int .u8 x.tag)∧w'.cell? ⟨g,i*2+1,none⟩=some (.int .u32 x.to)) (go_keep) ((go_at_call 249;refine(f0.out _ kp).mono ?_;rintro g3 bs ⟨⟨⟨be,a1,bg,a3,rfl,hs,hw,hd,am,g7,g9,g6⟩,-,-⟩,hc,O,hk,hm,hn⟩;have ht:=am.size;(try simp only[ai,World.a5,World.cx]at ht);have O:=am.cellAt (b:=wr.heap.size) (o:=0) (v:=.int .u8 f) nq (by go_keep);have O:=am.cellAt (b:=g) (o:=i*2) (v:=.int .u8 x.tag) cl (by go_keep);have O:=am.cellAt (b:=g) (o:=i*2+1) (v:=.int .u32 x.to) cl (by go_keep);have O:bs.heap.size≠wr.heap.size:=(by omega);have O:bs.heap.size≠g:=(by omega)))
        all_goals(try go_wp2_with fail)
        all_goals go_meet
        all_goals refine⟨_,a1,bg,be,a3,rfl,rfl,vm f7.out hD hE kp hs hw hd am g7 g9.lt g6 ?_ ?_ ?_ ?_⟩
        all_goals(try(simp[go_sem];done))
        all_goals(try(simp only[ai,World.a5,au];omega))
        all_goals(try(repeat (first|with_reducible exact af.refl _ _|with_reducible refine af.alloc ?_ _|with_reducible refine af.drew ?_|refine lM ?_ _ _)))
        all_goals(try(simp[go_sem,hc,hk,hm,hn];done))
       case rest=>
        obtain⟨bt,a1,bg,be,a3,rfl,rfl,L⟩:=hcut;have ci:=Z.out.trans L.swp.cc;have hb:ej (z:Int) 0≤c:=f4.out;have hp:=AO (c:=c) aw b0 g'
        have he:bg=0:=by
         rcases L.hP with q|q;·exact q
         ·exfalso;have ad:=(L.swp.cS (by omega)).2.2;have b9:=ci.room;have O:=ci.len;have O:=d8.out.1;rw[←W.out,←a8.out]at O;omega
        subst he;obtain⟨ed,fE,eg,e0⟩:=L.c5 rfl
        have fD:∀bf,(¬(N bf∨bf=t.heap.size))→bf<S.heap.size→¬a3 bf:=fun bf ad b9 s=>by
         rcases L.sub bf s with q|q;·exact ad (.inl q)
         ·omega
        have fr:=fD g cl (by omega);have O:=L.a0;have S:=L.a1;have S:=L.gB;have hC:=aB O;dsimp only at hC;have bx:=(J.out.ad cx.out).a4 L.av cl;obtain⟨O,S⟩:=bx.cell c2.out;have g4:=bx.frozen (i*2);have g5:=bx.frozen (i*2+1)
        have fi:af (fun j=>F j∨Fo j) w wc:=(U.out.bg (cx.out.av _)).b9 L.av (fun j I s=>by
         rcases s with s|s
         ·rcases Y.out j s with q|q;·exact .inl q
          ·omega
         ·omega)
        have ek:ba Fo wc a0 ps:=(bb.out.ad cx.out).a4 L.av (fun k al s=>by
         have hj:=a'.out.lt k al;rcases s with s|s
         ·rcases Y.out k s with q|q;·exact d1.out k q al
          ·omega
         ·omega)
        have fb:∀j,a3 j→F j∨w.heap.size≤j:=fun j I=>by
         rcases L.sub j I with q|q;·exact Y.out j q
         ·exact .inr (by omega)
        have O:(av.length)=B:=(by rw[bw.out.1,W.out]);have hh:i<av.length:=(by omega);have e3:=bw.out.next c1.out c2.out a6.out.a8.wf L.swp.cc.ext (L.swp.c5 rfl) cE.out;have f9:=aa e3;have f1:=aa bx;have gx:=aa fi;have f':=aa ek;have gu:=aa fb;have f3:=aa eg
        have O:ed.length≤(i+1)*2 ^ (z+1):=by
         have ad:=ec.out;rw[show((z:Int)-0).toNat=z by omega]at e0;rw[Nat.add_mul,Nat.one_mul];omega
        have S:cM M be (((d*B+(i+1):Nat):Int)*c):=by
         refine ci.le ?_;rw[show((d*B+(i+1):Nat):Int)=((d*B+i:Nat):Int)+1 by push_cast;omega,Int.add_mul,Int.one_mul];omega
        have g0:=aa S;have gB:=aa O;have T:bt≠g:=(by omega);have g3:g≠bt:=(by omega);clear e3 bx fi ek fb eg ci S O e0 fD hp hb L cn co ft;go_wp2_with fail;go_roundg (gk-1)
        case rel=>
         have dB:af (fun j=>j=g) wc ((wc.setCell ⟨g,i*2,none⟩ (.int .u8 a1.tag)).setCell ⟨g,i*2+1,none⟩ (.int .u32 a1.to)):=dx (P:=fun j=>j=g) rfl (dx (P:=fun j=>j=g) rfl (af.refl _ _) _ _) _ _;have hf:∀j,Fo j→¬j=g:=fun j I s=>(by subst s;have:=a'.out.lt _ I;omega);refine⟨i+1,av.set i a1,be,a3,ed,fE,by simp,by omega,f1.out.set i a1 hh,f9.out,f3.out.fa dB (fun j I s=>by subst s;exact fr I) (fun s=>ee s.symm) (fun s=>by omega),gB.out,gu.out,fr,f'.out.a4 dB hf,gx.out.b9 dB (fun j I s=>by omega),g0.out⟩
        case measure=>omega
      ·have cf:i=B:=(by omega);subst cf;have X:=bw.out;rw[W.out]at X;have L:=X.all;rw[←cS.out]at L;have bd:=aa L
       have O:cM M ab ((((d+1)*i:Nat):Int)*c):=by
        have:=Z.out;rw[Nat.add_mul,Nat.one_mul];exact this
       have g1:=aa O;clear X L O;go_wp2_with fail;go_roundg (c5-1)
       case rel=>exact⟨d+1,av,ab,N,by simp,by have:=d2.out;omega,J.out,bd.out,a6.out.a8,Y.out,bp,bb.out,U.out,Z.out |> fun _=>g1.out⟩
       case measure=>have:=d2.out;omega
    ·have ce:d=K:=(by omega);subst ce;have X:=cD.out;rw[a8.out,List.take_length]at X;have bd:=aa X;clear X;go_wp2_with fail;obtain⟨N,L⟩:∃A,A=t:=⟨t,rfl⟩;go_loopg [84] d (fun gk A a5=>∃(i:Nat),A=.int .i64 (i:Int)∧i+gk=d∧ba Fo a5 a0 (bu ps (ss.take i))∧af Fo t a5)
     case atStart=>exact⟨0,rfl,by omega,by simpa[bu]using bb.out,af.refl _ _⟩
     case round=>
      obtain⟨i,rfl,hi,t,am⟩:=hrel;have d6:=aa t;have c0:=aa am;have A:af (fun j=>F j∨Fo j) w wr:=U.out.b9 am (fun j I s=>.inr s);have eb:=aa A;clear t am A;by_cases b0:i<d
      ·obtain⟨z,E⟩:∃b,ss[i]?=some b:=⟨_,ar (by rw[←a8.out];exact b0)⟩;obtain⟨g2,hH,c9,cs⟩:=d9.out wr eb.out i (z:Int) (by rw[dh,E];rfl);have fg:=gT E;have e':=ea.out z (bB E);have gv:=aa (An d6.out z (by rw[gg];exact e'));have cS:=aa fg;subst c9;clear E fg e';go_wp2_with fail;refine gv.out.mono ?_;rintro t t ⟨rfl,hu,g8⟩;go_wp2_with fail;go_roundg (gk-1)
       case rel=>exact⟨i+1,by simp,by omega,by rw[cS.out,kF];exact g8,c0.out.bg hu⟩
       case measure=>omega
      ·have cf:i=d:=(by omega);have c8:=d6.out;rw[cf,a8.out,List.take_length]at c8;have e2:¬Fo g:=fun s=>by have:=a'.out.lt _ s;omega
       have e5:jP F Fo w sb a0 M ps ss rs c (.returned (.tuple #[.slice (some ⟨g,0,none⟩) B B,.int .u8 0])) wr:=by
        refine⟨g,es,c3,b4,by rw[W.out],J.out.a4 c0.out e2,hg,bd.out,b5.out.a4 c0.out (fun j I s=>?_),Y.out,bp,c8,eb.out,?_⟩
        ·have hj:=a'.out.lt j s;rcases Y.out j I with q|q;·exact d1.out j q s
         ·omega
        ·rw[←W.out,←a8.out];exact Z.out
       have gc:=aa e5;clear cf c8 e2 e5;go_wp2_with fail;go_ret2;exact gc.out
end Go.Proofs.YtafkamlhimkbmaaGreat
