/-
  The walk of swap.at.
-/
import Derived.Test.YtafkamlhimkbmaaGreatPSwapX
namespace Go.Proofs.YtafkamlhimkbmaaGreat
set_option maxRecDepth 1000000
set_option maxHeartbeats 8000000
set_option linter.unusedSimpArgs false
set_option linter.unusedVariables false
open Go.RowKit

structure j7 (F:Nat→Prop)(w W:World)(sb wb b:Nat)(lv f:Int)(M:St)(V:List (Int×Edge×Int))(e:Edge)(l:Int)(B8 B9:Nat)(F3:Nat→Prop)(M3:St)(x y:Edge)(er:Int):Prop where
 av:ae (fun j=>F j∨j=b) w W
 sub:∀j,F3 j→F j∨w.heap.size≤j
 a4:ag F3 W sb M3
 p0:W.cell? ⟨w.heap.size,0,none⟩=some (.int .u8 f)
 p1:W.cell? ⟨w.heap.size,1,none⟩=some (.int .u8 e.tag)
 p2:W.cell? ⟨w.heap.size,2,none⟩=some (.int .u32 e.to)
 p3:W.cell? ⟨w.heap.size,3,none⟩=some (.int .i64 l)
 r0:W.cell? ⟨w.heap.size+1,0,none⟩=some (.int .u8 0)
 r1:W.cell? ⟨w.heap.size+1,1,none⟩=some (.int .u32 0)
 rf:∀o:Nat,W.frozen? ⟨w.heap.size+1,o,none⟩=false
 nP:¬F3 w.heap.size
 nR:¬F3 (w.heap.size+1)
 cx:er≠0→er=6∧ey lv f M e l M3 ⟨0,0⟩ 6 (dh lv l)
 c6:er=0→x.ok∧y.ok∧M3.n=M.n∧M3.room=M.room∧¬F3 B8∧¬F3 B9 ∧
  (W.cell? ⟨B8,0,none⟩=some (.int .u8 x.tag)∧W.cell? ⟨B8,1,none⟩=some (.int .u32 x.to)∧W.cell? ⟨B9,0,none⟩=some (.int .u8 y.tag)∧W.cell? ⟨B9,1,none⟩=some (.int .u32 y.to)) ∧
  (∃V3 D3,bE F3 W sb wb b lv M3 V3 D3∧V3.length+2≤V.length+2 ^ ((lv-l).toNat+1)∧∀q∈V3,q∈V∨l<q.2.2) ∧
  ((aH f M3 (ak f M3 l x y)).ok→ey lv f M e l (aR M3 (ak f M3 l x y)) (aH f M3 (ak f M3 l x y)) (bX M3 (ak f M3 l x y)) (dh lv l))

theorem bE.e7 {F:Nat→Prop}{s W':World}{sb wb b:Nat}{lv:Int}{M:St}{V:List (Int×Edge×Int)}{D:DataW Unit}{P:Nat→Prop}(h:bE F s sb wb b lv M V D)(j:ae P s W')(z:∀t,F t→¬P t)(A:¬P b)(q:¬P wb):bE F W' sb wb b lv M V D:=
 ⟨h.a4.a5 j z,j.cellAt q h.c0,j.cellAt q h.c1,j.cellAt q h.c2,h.nF,h.nW,ir h.own (j.block b h.lt.1 A),h.dr⟩

section
variable {F:Nat→Prop}{w:World}{sb wb b:Nat}{lv f:Int}{M:St}{V:List (Int×Edge×Int)}{D:DataW Unit}

def sn (sb wb b:Nat)(lv f:Int)(M:St)(l:Int)(cap:Nat):Prop:=
 ∀(h:Edge) (t:Nat→Prop) (j:St) (q:List (Int×Edge×Int)) (z:DataW Unit) (s:World),h.ok→j.n=M.n→j.room=M.room→j.leads f h (l+1)=true→q.length+2 ^ ((lv-(l+1)).toNat+1)≤cap→bE t s sb wb b lv j q z →
  Calls Tryz.prog 249 #[.pointer (some ⟨wb,0,none⟩),.agg #[.int .u8 f,.int .u8 h.tag,.int .u32 h.to,.int .i64 (l+1)]] s (gG t s sb wb b lv f j q h (l+1))

theorem oN (h:bE F w sb wb b lv M V D)(A:1≤f∧f≤5)(e:Edge)(l:Int)(z:e.ok)(T:0≤l)(W:l≤16)(I:(f,e,l)∈V) :
  Calls Tryz.prog 249 #[.pointer (some ⟨wb,0,none⟩),.agg #[.int .u8 f,.int .u8 e.tag,.int .u32 e.to,.int .i64 l]] w (gG F w sb wb b lv f M V e l):=by
 obtain⟨x,Y,E⟩:=h.e9 A z T W
 obtain⟨s,N,O⟩:=h.dr.c6 _ I
 have av:s=x:=o9 (N.symm.trans Y)
 subst av
 have X:=(h.dr.gf f e l A z T W).2 I
 rw[X]at E
 have ab:=Lib.hid (fun(w':World) (T:aa w w')=>sW h O T)
 have L:=Lib.hid E
 have S:=h.c2
 obtain⟨ad,T⟩:=h.lt
 clear h Y E N O X I A z
 go_enter Tryz.func249,Tryz.ntmps249
 go_wp2_with fail
 obtain⟨j,q⟩:∃z,z=(w.alloc (.cells #[.int .u8 f,.int .u8 e.tag,.int .u32 e.to,.int .i64 l] 309)).alloc (.cells #[.int .u8 0,.int .u32 0] 52):=⟨_,rfl⟩
 have z:j.cell? ⟨w.heap.size,0,none⟩=some (.int .u8 f):=by rw[q];simp[go_sem]
 have z:j.cell? ⟨w.heap.size,1,none⟩=some (.int .u8 e.tag):=by rw[q];simp[go_sem]
 have z:j.cell? ⟨w.heap.size,2,none⟩=some (.int .u32 e.to):=by rw[q];simp[go_sem]
 have z:j.cell? ⟨w.heap.size,3,none⟩=some (.int .i64 l):=by rw[q];simp[go_sem]
 have J:j.cell? ⟨w.heap.size+1,0,none⟩=some (.int .u8 0):=by rw[q];simp[go_sem]
 have K:j.cell? ⟨w.heap.size+1,1,none⟩=some (.int .u32 0):=by rw[q];simp[go_sem]
 have Z:∀o:Nat,j.frozen? ⟨w.heap.size+1,o,none⟩=false:=fun o=>by rw[q];simp[go_sem]
 have U:aa w j:=by rw[q];exact((aa.refl _).alloc _).alloc _
 have am:j.heap.size=w.heap.size+2:=by rw[q];simp
 have z:=U.cell S
 rw[←q]
 clear q S
 obtain⟨q,z⟩:w.heap.size+2≤j.heap.size∧j.heap.size≤w.heap.size+2:=by omega
 clear am
 have t:=U.block b ad
 have aw:=L.out j.drew t
 have a1:=L.out (j.alloc (.cells #[.int .u8 0,.int .u32 0] 52)).drew ((((aa.refl j).alloc _).drew.block b (by omega)).trans t)
 unfold iy at aw a1
 have q:j.heap.size≠wb:=by omega
 have q:j.heap.size≠w.heap.size:=by omega
 clear t
 go_cut [6,7] (fun t z q=>∃B,t=.pointer (some ⟨B,0,none⟩)∧z=.bool true∧q.cell? ⟨B,0,none⟩=some (.int .u8 s.tag)∧q.cell? ⟨B,1,none⟩=some (.int .u32 s.to)∧aa j q)
 case first=>
  go_region_held3 (fun w'=>w'.cell? ⟨wb,2,none⟩=some (.map (some b))∧w'.cell? ⟨w.heap.size,0,none⟩=some (.int .u8 f)∧w'.cell? ⟨w.heap.size,1,none⟩=some (.int .u8 e.tag)∧w'.cell? ⟨w.heap.size,2,none⟩=some (.int .u32 e.to)∧w'.cell? ⟨w.heap.size,3,none⟩=some (.int .i64 l)) (go_keep) (fail)
  all_goals(try go_wp2_with fail)
  all_goals go_meet
  all_goals exact⟨j.heap.size,rfl,rfl,by simp[go_sem],by simp[go_sem],by(exact kp)⟩
 case rest=>
  obtain⟨B,rfl,rfl,q,t,j⟩:=hcut;replace J:=j.cell J;replace K:=j.cell K;have Z:=fun o:Nat=>j.a2 (a:=⟨w.heap.size+1,o,none⟩) (by show w.heap.size+1<_;omega) (Z o);go_wp2_with fail
  refine bodyPost_ret (v:=.tuple #[.agg #[.int .u8 s.tag,.int .u32 s.to],.int .u8 0]) (by simp[results,Tryz.results249,go_sem,J,K]) rfl (ab.out _ (by(exact kp)))

theorem oL (h:bE F w sb wb b lv M V D)(fi:1≤f∧f≤5)(e:Edge)(l:Int)(fg:e.ok)(hX:M.leads f e l=true)(cg:0≤l)(g7:l≤lv)(hZ:lv+1<M.n)(g':(f,e,l)∉V)
  (h3:M.room<1048576) (fb:V.length+2 ^ ((lv-l).toNat+1)≤1000000) (h9:l<lv→sn sb wb b lv f M l 1000000) :
  Calls Tryz.prog 249 #[.pointer (some ⟨wb,0,none⟩),.agg #[.int .u8 f,.int .u8 e.tag,.int .u32 e.to,.int .i64 l]] w (gG F w sb wb b lv f M V e l):=by
 have k6:=h.a4.wf.bw
 have bb:=Lib.hid h
 have kE:=h.c0
 have k0:=h.c1
 have e4:=h.c2
 obtain⟨k3,g7⟩:=h.lt
 have g7:l≤14:=by omega
 have g7:lv≤14:=by omega
 obtain⟨x,E,g7⟩:=h.e9 fi fg cg (by omega)
 rw[(h.dr.none fi fg cg (by omega) g').1]at g7
 have hw:=Lib.hid g7
 have cq:=Lib.hid fi
 have eR:=Lib.hid fg
 have c8:=Lib.hid hX
 have dB:=Lib.hid hZ
 have j4:=Lib.hid g'
 have f4:=Lib.hid h3
 have hs:=Lib.hid fb
 have jv:=Lib.hid h9
 have e1:=Lib.hid h.a4.lt
 clear h fi hX E g7 fg g' h3 fb h9 hZ k6
 go_enter Tryz.func249,Tryz.ntmps249
 go_wp2_with fail
 obtain⟨av,bv⟩:∃fg,fg=(w.alloc (.cells #[.int .u8 f,.int .u8 e.tag,.int .u32 e.to,.int .i64 l] 309)).alloc (.cells #[.int .u8 0,.int .u32 0] 52):=⟨_,rfl⟩
 have W:av.cell? ⟨w.heap.size,0,none⟩=some (.int .u8 f):=by rw[bv];simp[go_sem]
 have Y:av.cell? ⟨w.heap.size,1,none⟩=some (.int .u8 e.tag):=by rw[bv];simp[go_sem]
 have Z:av.cell? ⟨w.heap.size,2,none⟩=some (.int .u32 e.to):=by rw[bv];simp[go_sem]
 have ab:av.cell? ⟨w.heap.size,3,none⟩=some (.int .i64 l):=by rw[bv];simp[go_sem]
 have L:av.cell? ⟨w.heap.size+1,0,none⟩=some (.int .u8 0):=by rw[bv];simp[go_sem]
 have T:av.cell? ⟨w.heap.size+1,1,none⟩=some (.int .u32 0):=by rw[bv];simp[go_sem]
 have ad:∀o:Nat,av.frozen? ⟨w.heap.size+1,o,none⟩=false:=fun o=>by rw[bv];simp[go_sem]
 have fj:aa w av:=by rw[bv];exact((aa.refl _).alloc _).alloc _
 have k9:av.heap.size=w.heap.size+2:=by rw[bv];simp
 have k1:=fj.cell e4
 rw[←bv]
 clear bv kE k0 e4
 obtain⟨bv,fg⟩:w.heap.size+2≤av.heap.size∧av.heap.size≤w.heap.size+2:=by omega
 clear k9
 have f':=fj.block b k3
 have h':=hw.out av.drew f'
 have ih:=hw.out (av.alloc (.cells #[.int .u8 0,.int .u32 0] 52)).drew ((((aa.refl av).alloc _).drew.block b (by omega)).trans f')
 unfold iy at h' ih
 have bv:av.heap.size≠wb:=by omega
 have bv:av.heap.size≠w.heap.size:=by omega
 clear f'
 go_cut [6,7] (fun hk iq K=>∃B,hk=.pointer (some ⟨B,0,none⟩)∧iq=.bool false∧aa av K)
 case first=>
  go_region_held3 (fun w'=>w'.cell? ⟨wb,2,none⟩=some (.map (some b))∧w'.cell? ⟨w.heap.size,0,none⟩=some (.int .u8 f)∧w'.cell? ⟨w.heap.size,1,none⟩=some (.int .u8 e.tag)∧w'.cell? ⟨w.heap.size,2,none⟩=some (.int .u32 e.to)∧w'.cell? ⟨w.heap.size,3,none⟩=some (.int .i64 l)) (go_keep) (fail)
  all_goals(try go_wp2_with fail)
  all_goals go_meet
  all_goals exact⟨av.heap.size,rfl,rfl,by(exact kp)⟩
 case rest=>
  obtain⟨B,rfl,rfl,av⟩:=hcut;have db:=fj.trans av;have i2:=db.size;have bv:=av.size;replace W:=av.cell W;replace Y:=av.cell Y;replace Z:=av.cell Z;replace ab:=av.cell ab;replace L:=av.cell L;replace T:=av.cell T;replace ad:=fun o:Nat=>av.a2 (a:=⟨w.heap.size+1,o,none⟩) (by show w.heap.size+1<_;omega) (ad o);have ga:=db.cell bb.out.c0;have d7:=db.cell bb.out.c1;have hu:=Lib.hid db;clear h' ih k1 fj av;have fx:=fun(X:World) (ci:aa w X)=>l4 (bb.out.a4.U ci) f e l eR.out;rw[mC cq.out]at fx;obtain⟨d6,gx⟩:∃d6,d6=bQ M (af M f e l):=⟨_,rfl⟩;obtain⟨lo,g6⟩:∃lo,lo=bN M (af M f e l):=⟨_,rfl⟩;obtain⟨hi,g3⟩:∃hi,hi=bk M f (af M f e l):=⟨_,rfl⟩;obtain⟨cv,g1⟩:∃cv,cv=bT M (af M f e l):=⟨_,rfl⟩;rw[←gx,←g6,←g3,←g1]at fx;have hD:=Lib.hid (fun(X:World) (ci:aa wc X)=>gF e1.out i2 (fx X (db.trans ci)));have d0:=Lib.hid gx;have e0:=Lib.hid g6;have eS:=Lib.hid g3;have ds:=Lib.hid g1;clear fx gx g6 g3 g1 db;have lm:=bb.out.nW;have j1:=Lib.hid (fun k (S:F k)=>Nat.lt_of_lt_of_le (e1.out k S) i2);have co:¬F w.heap.size:=fun j=>by have:=e1.out _ j;omega
  have f1:¬F (w.heap.size+1):=fun j=>by have:=e1.out _ j;omega
  have la:wc.heap.size≠wb:=by omega
  have lc:wc.heap.size≠w.heap.size:=by omega
  have lf:wc.heap.size+1≠wb:=by omega
  have lg:wc.heap.size+1≠w.heap.size:=by omega
  go_wp2_with fail
  go_cut [8,9,10] (fun is av em K=>∃t z cd,is=.pointer (some ⟨t,0,none⟩)∧av=.pointer (some ⟨z,0,none⟩)∧em=.int .u8 cv∧fN F wc K sb d6 t z lo hi cd∧(∀o:Nat,K.frozen? ⟨t,o,none⟩=false)∧(∀o:Nat,K.frozen? ⟨z,o,none⟩=false)∧t≠z)
  case first=>
   go_region_held3 (fun w'=>w'.cell? ⟨wb,0,none⟩=some (.pointer (some ⟨sb,0,none⟩))∧w'.cell? ⟨w.heap.size,0,none⟩=some (.int .u8 f)∧w'.cell? ⟨w.heap.size,1,none⟩=some (.int .u8 e.tag)∧w'.cell? ⟨w.heap.size,2,none⟩=some (.int .u32 e.to)∧w'.cell? ⟨w.heap.size,3,none⟩=some (.int .i64 l)) (go_keep) ((go_at_call 258;refine(hD.out _ (by(exact kp))).mono ?_;rintro k2 bx ⟨⟨rfl,I,da⟩,ea,eb,g8,ha,hb⟩;have he:=I.size;(try simp only[World.size_alloc,World.a3,World.c5]at he);have av:=I.cellAt (b:=wb) (o:=0) (v:=.pointer (some ⟨sb,0,none⟩)) lm (by go_keep);have av:=I.cellAt (b:=w.heap.size) (o:=0) (v:=.int .u8 f) co (by go_keep);have av:=I.cellAt (b:=w.heap.size) (o:=1) (v:=.int .u8 e.tag) co (by go_keep);have av:=I.cellAt (b:=w.heap.size) (o:=2) (v:=.int .u32 e.to) co (by go_keep);have av:=I.cellAt (b:=w.heap.size) (o:=3) (v:=.int .i64 l) co (by go_keep);have lr:bx.heap.size≠wb:=(by omega);have av:bx.heap.size≠w.heap.size:=(by omega);have av:bx.heap.size+1≠wb:=(by omega);have av:bx.heap.size+1≠w.heap.size:=(by omega)))
   all_goals(try go_wp2_with fail)
   all_goals go_meet
   all_goals refine⟨_,_,_,rfl,rfl,rfl,iK j1.out (by(exact kp)) I da ?_ ?_ ?_ ?_ ?_ ?_ ?_,fun o=>?_,fun o=>?_,?_⟩
   all_goals(try(simp[go_sem];done))
   all_goals(try(simp only[World.size_alloc,World.a3,World.size_setCell];omega))
   all_goals(try(repeat (first|with_reducible exact ae.refl _ _|with_reducible refine ae.alloc ?_ _|with_reducible refine ae.drew ?_|refine ae.setCell ?_ (Or.inl (Or.inl rfl)) _|refine ae.setCell ?_ (Or.inl (Or.inr rfl)) _)))
   all_goals(try(simp[go_sem,ea,eb,g8,ha,hb];done))
   all_goals(try(simp only[World.size_alloc,World.a3,World.size_setCell]at *;omega))
   all_goals(try(
    have lx:bx.cell? ⟨wc.heap.size,0,none⟩=some (.int .u8 0):=(ea _ _ (Nat.le_refl _) (by simp only[World.size_alloc,World.a3];omega)).trans ((World.cell?_alloc_lt _ _ _ (by simp)).trans (by simp[go_sem]))
    have eu:bx.cell? ⟨wc.heap.size,1,none⟩=some (.int .u32 0):=(ea _ _ (Nat.le_refl _) (by simp only[World.size_alloc,World.a3];omega)).trans ((World.cell?_alloc_lt _ _ _ (by simp)).trans (by simp[go_sem]))
    simp[go_sem,lx,eu]
    done))
  case rest=>
   rename_i hM;obtain⟨t,z,cd,rfl,rfl,rfl,A,b5,bq,f0⟩:=hcut;have av:=A.av.size;replace W:=A.av.cellAt co W;replace Y:=A.av.cellAt co Y;replace Z:=A.av.cellAt co Z;replace ab:=A.av.cellAt co ab;replace L:=A.av.cellAt f1 L;replace T:=A.av.cellAt f1 T;replace ad:=fun o:Nat=>A.av.frozen (a:=⟨w.heap.size+1,o,none⟩) (by show w.heap.size+1<_;omega) f1 (ad o);have hI:=bb.out.U hu.out;have a4:=A.a0;have bp:=A.a1;have a2:=A.c0;have be:=A.c1;have b7:=aD a4;have b8:=aD a2;dsimp only at b7 b8;have av:=A.gB;have av:=A.gC;have bw:=A.no co (by omega);have b9:=A.no f1 (by omega);have cj:=A.nB;have cl:=A.nC
   have it:∀s,cd s→F s∨w.heap.size≤s:=fun s aw=>by
    rcases A.sub s aw with q|q;·exact .inl q
    ·exact .inr (by omega)
   have f6:=Lib.hid ((aa.av hu.out F).a' A.av);have d2:=Lib.hid it;have ce:=Lib.hid A;have hr:=Lib.hid hI;have av:w.heap.size+2≤t:=(by omega);have av:w.heap.size+2≤z:=(by omega);clear A it hI ga d7 hD;have dj:l<M.n:=(by have:=dB.out;omega);by_cases hU:cv=0
   case neg=>
    obtain⟨a8,bn,c7⟩:=A2 (lv:=lv) (c:=dh lv l) bb.out.a4.wf c8.out dj (by have:=me (lv:=lv) (l:=l);omega) (ds.out ▸ hU) d0.out;obtain rfl:cv=6:=ds.out.trans a8;have av:=ce.out.a4;rw[bn]at av;have bt:=fun(w':World) (c2:ae (fun s=>s=w.heap.size+1) wc w')=>lV (V:=V) (wb:=wb) (b:=b) c7 (f6.out.mono (fun k _ S=>.inl S)) d2.out av c2 b9 (by omega);have c0:=Lib.hid bt;clear bt av a8 bn c7 dj;go_wp2_with fail
    refine bodyPost_ret (v:=.tuple #[.agg #[.int .u8 (⟨0,0⟩:Edge).tag,.int .u32 (⟨0,0⟩:Edge).to],.int .u8 6]) (by simp[results,Tryz.results249,go_sem,L,T]) rfl (c0.out _ ?_)
    (repeat (first|with_reducible exact ae.refl _ _|refine jU ?_ _ _|with_reducible refine ae.alloc ?_ _|with_reducible refine ae.drew ?_))
   case pos=>
    subst hU;have gp:bT M (af M f e l)=0:=ds.out.symm;have fv:=fL bb.out.a4.wf c8.out dj gp;have hf:=iA bb.out.a4.wf c8.out dj gp;obtain⟨co,bv⟩:=ov bb.out.a4.wf bb.out.a4.bx (fun id r av=>bb.out.a4.b1 av) (f:=f) eR.out cg dj;rw[←d0.out,←e0.out,←eS.out]at fv;rw[←d0.out]at hf;rw[←e0.out]at co;rw[←eS.out]at bv;have av:bE cd wc sb wb b lv d6 V D:=hr.out.store ce.out.av ce.out.a4 ce.out.sub fv.ext;have d7:=av.c1;have ho:=Lib.hid av;have a5:=Lib.hid fv;have f7:=Lib.hid hf;have e2:=Lib.hid (⟨co,bv⟩:lo.ok∧hi.ok);clear fv hf co bv av gp dj hr;refine hM _ _ ?_;clear hM;apply wp_seq_k;intro ki hN;go_cut [5] (fun av K=>av=.int .u8 0∧K=wc)
    case first=>
     go_wp2_with fail
     go_meet;exact⟨rfl,rfl⟩
    case rest=>
     obtain⟨rfl,rfl⟩:=hcut;refine hN _ _ ?_;clear hN ki;apply wp_seq_k;intro kk fa;go_cut [10] (fun em K=>∃b2 O x y cv,em=.int .u8 cv∧j7 F w K sb wb b lv f M V e l t z b2 O x y cv)
     case first=>
      go_wp2_with fail
      go_quiet (fail)
      obtain⟨cS,hg⟩:∃X,X=wc.drewN nq:=⟨_,rfl⟩;have av:aa wc cS:=(by rw[hg];exact(aa.refl _).drewN _);rw[←hg];clear hg;have bv:=av.size;replace W:=av.cell W;replace Y:=av.cell Y;replace Z:=av.cell Z;replace ab:=av.cell ab;replace L:=av.cell L;replace T:=av.cell T;replace ad:=fun o:Nat=>av.a2 (a:=⟨w.heap.size+1,o,none⟩) (by show w.heap.size+1<_;omega) (ad o);replace a4:=av.cell a4;replace bp:=av.cell bp;replace a2:=av.cell a2;replace be:=av.cell be;replace b5:=fun o:Nat=>av.a2 (a:=⟨t,o,none⟩) b7 (b5 o);replace bq:=fun o:Nat=>av.a2 (a:=⟨z,o,none⟩) b8 (bq o);replace d7:=av.cell d7;have b3:=Lib.hid (ho.out.U av);have hC:=Lib.hid (f6.out.a' (av.av F));have c1:=b3.out.cS a4;have cf:=b3.out.cS a2;have a6:=b3.out.cS W;have bg:=b3.out.cS L;replace b7:t<cS.heap.size:=(by omega);replace b8:z<cS.heap.size:=(by omega);have ii:w.heap.size<cS.heap.size:=(by omega);have fz:w.heap.size+1<cS.heap.size:=(by omega);have ep:t≠wb:=(by omega);have hl:z≠wb:=(by omega);have e5:w.heap.size≠t:=(by omega);have e7:w.heap.size≠z:=(by omega);have gb:w.heap.size+1≠t:=(by omega);have gc:w.heap.size+1≠z:=(by omega);have e6:z≠t:=fun j=>f0 j.symm;have kd:=Lib.hid bv;clear av bv;by_cases k5:l=lv
      ·subst k5;have av:=uG b3.out.a4 b3.out.c0 b3.out.c1 b3.out.nW cq.out (by have:=a5.out.room;have:=f4.out;omega) cg (by have:=a5.out.ext.n;have:=dB.out;omega) lo hi e2.out.1 e2.out.2 a5.out.cq a5.out.cg;have ht:=Lib.hid av;clear av;go_wp2_with fail
       refine ht.out.mono ?_;rintro r b0 ⟨b4,x,y,e8,a',rfl,c5,c6,g2,U,ek,eb,hT⟩;have hk:=U.av.size;have hJ:=b3.out.store U.av U.a4 U.sub ek.ext;replace W:=U.av.cellAt bw W;replace Y:=U.av.cellAt bw Y;replace Z:=U.av.cellAt bw Z;replace ab:=U.av.cellAt bw ab;replace L:=U.av.cellAt b9 L;replace T:=U.av.cellAt b9 T;replace ad:=fun o:Nat=>U.av.frozen (a:=⟨w.heap.size+1,o,none⟩) fz b9 (ad o);replace a4:=U.av.cellAt cj a4;replace bp:=U.av.cellAt cj bp;replace a2:=U.av.cellAt cl a2;replace be:=U.av.cellAt cl be;replace b5:=fun o:Nat=>U.av.frozen (a:=⟨t,o,none⟩) b7 cj (b5 o);replace bq:=fun o:Nat=>U.av.frozen (a:=⟨z,o,none⟩) b8 cl (bq o)
       have no:∀J,¬cd J→J<cS.heap.size→¬a' J:=fun J br bs S=>by
        rcases U.sub J S with q|q;·exact br q
        ·omega
       have cn:=no _ cj b7;have ca:=no _ cl b8;have cy:=no _ bw ii;have c3:=no _ b9 fz
       have eg:ae (fun s=>F s∨s=b) w b0:=(hC.out.b9 U.av (fun i hi j=>by
        rcases d2.out i j with q|q;·exact q
        ·omega)).mono (fun k _ S=>.inl S)
       have en:∀s,a' s→F s∨w.heap.size≤s:=fun s aw=>by
        rcases U.sub s aw with q|q;·exact d2.out s q
        ·exact .inr (by omega)
       have ec:e8=0→(aH f b4 (ak f b4 l x y)).ok→ey l f M e l (aR b4 (ak f b4 l x y)) (aH f b4 (ak f b4 l x y)) (bX b4 (ak f b4 l x y)) (dh l l):=fun bs hc=>by
        obtain⟨fv,fx,f1,a,b',c,d,eu,hm,ev,ew,dj,e1,fg,fi,fj,av,bv,co,cv,db⟩:=hT bs;rw[oZ];exact A0 bb.out.a4.wf f4.out cq.out c8.out cg dB.out ds.out.symm d0.out e0.out eS.out eu hm ev ew dj e1 fg fi fj av bv co cv db hc
       have cx:∀K,ae (fun s=>s=t∨s=z) b0 K→K.cell? ⟨t,0,none⟩=some (.int .u8 x.tag)→K.cell? ⟨t,1,none⟩=some (.int .u32 x.to)→K.cell? ⟨z,0,none⟩=some (.int .u8 y.tag)→K.cell? ⟨z,1,none⟩=some (.int .u32 y.to)→j7 F w K sb wb b l f M V e l t z a' b4 x y e8:=fun K E eu hm ev ew=>by
        have cp:¬(w.heap.size=t∨w.heap.size=z):=fun j=>(by omega);have c4:¬(w.heap.size+1=t∨w.heap.size+1=z):=fun j=>(by omega);refine⟨eg.b9 E (fun i hi j=>by omega),en,U.a4.a5 E (fun k S j=>by rcases j with rfl|rfl;exact cn S;exact ca S),E.cellAt cp W,E.cellAt cp Y,E.cellAt cp Z,E.cellAt cp ab,E.cellAt c4 L,E.cellAt c4 T,fun o=>E.frozen (a:=⟨w.heap.size+1,o,none⟩) (by show w.heap.size+1<_;omega) c4 (ad o),cy,c3,fun d8=>?_,fun c'=>?_⟩
        ·rcases g2 with q|q;·exact absurd q d8
         ·exact⟨q,jT (f7.out.trans ek) (by rw[oZ];decide) (eb q)⟩
        ·refine⟨c5,c6,ek.ext.n.trans a5.out.ext.n,ek.room.trans a5.out.room,cn,ca,⟨eu,hm,ev,ew⟩,⟨V,D,hJ.e7 E (fun s aw j=>by rcases j with rfl|rfl;exact cn aw;exact ca aw) (fun j=>by rcases j with j|j;exact c1 j.symm;exact cf j.symm) (fun j=>by rcases j with j|j;exact ep j.symm;exact hl j.symm),?_,fun q b6=>.inl b6⟩,ec c'⟩;rw[show(l-l).toNat+1=1 by omega];exact Nat.le_refl _
       have d1:=Lib.hid cx;clear cx ec eg en no hJ U ek eb hT ht;go_wp2_with fail
       go_meet;refine⟨a',b4,x,y,e8,rfl,d1.out _ ?_ ?_ ?_ ?_ ?_⟩;·(repeat (first|with_reducible exact ae.refl _ _|refine cI (Or.inl rfl) ?_ _ _|refine cI (Or.inr rfl) ?_ _ _|with_reducible refine ae.alloc ?_ _|with_reducible refine ae.drew ?_))
       all_goals simp[go_sem,a4,bp,a2,be,b5,bq,f0,e6]
      ·have ed:l<lv:=(by omega);have g4:=jv.out ed;have hE:(lv-l).toNat+1=((lv-(l+1)).toNat+1)+1:=(by omega);obtain⟨P,d9⟩:∃P,P=2 ^ ((lv-(l+1)).toNat+1):=⟨_,rfl⟩;have U:2 ^ ((lv-l).toNat+1)=P+P:=(by rw[hE,Nat.pow_succ,←d9];omega);have fb:=hs.out;rw[U]at fb;have av:0<P:=(by rw[d9];exact Nat.pow_pos (by decide));have av:=g4 lo cd d6 V D cS e2.out.1 a5.out.ext.n a5.out.room a5.out.cq (by rw[←d9];omega) b3.out;have hp:=Lib.hid av;have j0:=Lib.hid g4;have hy:=Lib.hid d9;have jp:=Lib.hid U;clear av g4 d9 U hE;go_wp2_with fail
       refine hp.out.mono ?_;rintro r b0 ⟨f9,x,e8,a',rfl,h5,c5,g2,I,gr,da,hK⟩;have hk:=I.size;have N:∀J,¬cd J→J≠b→¬(cd J∨J=b):=fun J br bs j=>(by rcases j with j|j;exact br j;exact bs j);replace W:=I.cellAt (N _ bw a6) W;replace Y:=I.cellAt (N _ bw a6) Y;replace Z:=I.cellAt (N _ bw a6) Z;replace ab:=I.cellAt (N _ bw a6) ab;replace L:=I.cellAt (N _ b9 bg) L;replace T:=I.cellAt (N _ b9 bg) T;replace ad:=fun o:Nat=>I.frozen (a:=⟨w.heap.size+1,o,none⟩) fz (N _ b9 bg) (ad o);replace a4:=I.cellAt (N _ cj c1) a4;replace bp:=I.cellAt (N _ cj c1) bp;replace a2:=I.cellAt (N _ cl cf) a2;replace be:=I.cellAt (N _ cl cf) be;replace b5:=fun o:Nat=>I.frozen (a:=⟨t,o,none⟩) b7 (N _ cj c1) (b5 o);replace bq:=fun o:Nat=>I.frozen (a:=⟨z,o,none⟩) b8 (N _ cl cf) (bq o)
       have no:∀J,¬cd J→J<cS.heap.size→¬a' J:=fun J br bs S=>by
        rcases gr J S with q|q;·exact br q
        ·omega
       have cn:=no _ cj b7;have ca:=no _ cl b8;have cy:=no _ bw ii;have c3:=no _ b9 fz
       have eg:ae (fun s=>F s∨s=b) w b0:=(hC.out.mono (fun k _ S=>.inl S)).b9 I (fun i hi j=>by
        rcases j with j|j
        ·rcases d2.out i j with q|q;·exact .inl q
         ·omega
        ·exact .inr j)
       have en:∀s,a' s→F s∨w.heap.size≤s:=fun s aw=>by
        rcases gr s aw with q|q;·exact d2.out s q
        ·exact .inr (by omega)
       have hA:=Lib.hid eg;have f5:=Lib.hid en;have d3:=Lib.hid h5;have kb:=Lib.hid da;have i9:=Lib.hid hK;have ka:=Lib.hid c5;clear no eg en h5 da hK c5 I gr hp kd;rcases g2 with rfl|rfl
       ·obtain⟨kq,i6,gh,g5,h0⟩:=i9.out rfl;have hG:=d3.out.c6 rfl;have el:=d3.out.cd;have hR:=fun(X:World) (ci:ae (fun s=>s=t∨s=z) b0 X)=>j0.out hi a' f9 kq i6 X e2.out.2 (el.ext.n.trans a5.out.ext.n) (el.room.trans a5.out.room) (el.ext.leads a5.out.cg) (by rw[←hy.out]at g5 ⊢;omega) (gh.e7 ci (fun s aw j=>by rcases j with rfl|rfl;exact cn aw;exact ca aw) (fun j=>by rcases j with j|j;exact c1 j.symm;exact cf j.symm) (fun j=>by rcases j with j|j;exact ep j.symm;exact hl j.symm));have hq:=Lib.hid hR;have U:=Lib.hid gh;have U:=Lib.hid hG;have f8:=Lib.hid el;have j2:=Lib.hid g5;have j6:=Lib.hid h0;clear hR gh hG el g5 h0;go_wp2_with fail
        have a1:ae (fun s=>s=t) b0 ((b0.setCell ⟨t,0,none⟩ (.int .u8 x.tag)).setCell ⟨t,1,none⟩ (.int .u32 x.to)):=cI (P:=fun s=>s=t) rfl (cI (P:=fun s=>s=t) rfl (ae.refl _ _) _ _) _ _;have er:((b0.setCell ⟨t,0,none⟩ (.int .u8 x.tag)).setCell ⟨t,1,none⟩ (.int .u32 x.to)).cell? ⟨t,0,none⟩=some (.int .u8 x.tag):=(by simp[go_sem,a4,bp,b5]);have et:((b0.setCell ⟨t,0,none⟩ (.int .u8 x.tag)).setCell ⟨t,1,none⟩ (.int .u32 x.to)).cell? ⟨t,1,none⟩=some (.int .u32 x.to):=(by simp[go_sem,a4,bp,b5]);obtain⟨i5,h8⟩:∃X,X=(b0.setCell ⟨t,0,none⟩ (.int .u8 x.tag)).setCell ⟨t,1,none⟩ (.int .u32 x.to):=⟨_,rfl⟩;rw[←h8]at a1 er et ⊢;clear h8;have i3:=a1.mono (G:=fun s=>s=t∨s=z) (fun k _ S=>.inl S);refine(hq.out i5 i3).mono ?_;rintro r ep ⟨O,y,e9,b2,rfl,dk,c6,k4,a3,gu,hP,hL⟩;have iq:=a1.size;have is:=a3.size;have N:∀J,¬a' J→J≠b→¬(a' J∨J=b):=fun J br bs j=>(by rcases j with j|j;exact br j;exact bs j);replace W:=a3.cellAt (N _ cy a6) (a1.cellAt e5 W);replace Y:=a3.cellAt (N _ cy a6) (a1.cellAt e5 Y);replace Z:=a3.cellAt (N _ cy a6) (a1.cellAt e5 Z);replace ab:=a3.cellAt (N _ cy a6) (a1.cellAt e5 ab);replace L:=a3.cellAt (N _ c3 bg) (a1.cellAt gb L);replace T:=a3.cellAt (N _ c3 bg) (a1.cellAt gb T);replace ad:=fun o:Nat=>a3.frozen (a:=⟨w.heap.size+1,o,none⟩) (by show w.heap.size+1<_;omega) (N _ c3 bg) (a1.frozen (a:=⟨w.heap.size+1,o,none⟩) (by show w.heap.size+1<_;omega) gb (ad o));replace er:=a3.cellAt (N _ cn c1) er;replace et:=a3.cellAt (N _ cn c1) et;replace a2:=a3.cellAt (N _ ca cf) (a1.cellAt e6 a2);replace be:=a3.cellAt (N _ ca cf) (a1.cellAt e6 be);replace bq:=fun o:Nat=>a3.frozen (a:=⟨z,o,none⟩) (by show z<_;omega) (N _ ca cf) (a1.frozen (a:=⟨z,o,none⟩) (by show z<_;omega) e6 (bq o))
        have no:∀J,¬a' J→J<i5.heap.size→¬b2 J:=fun J br bs S=>by
         rcases gu J S with q|q;·exact br q
         ·omega
        have fD:=no _ cn (by omega);have dl:=no _ ca (by omega);have cD:=no _ cy (by omega);have dr:=no _ c3 (by omega)
        have h6:ae (fun s=>F s∨s=b) w ep:=(hA.out.b9 a1 (fun i hi j=>by omega)).b9 a3 (fun i hi j=>by
         rcases j with j|j
         ·rcases f5.out i j with q|q;·exact .inl q
          ·omega
         ·exact .inr j)
        have i0:∀s,b2 s→F s∨w.heap.size≤s:=fun s aw=>by
         rcases gu s aw with q|q;·exact f5.out s q
         ·exact .inr (by omega)
        have cx:∀K,ae (fun s=>s=z) ep K→K.cell? ⟨z,0,none⟩=some (.int .u8 y.tag)→K.cell? ⟨z,1,none⟩=some (.int .u32 y.to)→j7 F w K sb wb b lv f M V e l t z b2 O x y e9:=fun K E ev ew=>by
         refine⟨h6.b9 E (fun i hi j=>by omega),i0,hP.a5 E (fun k S j=>by subst j;exact dl S),E.cellAt e7 W,E.cellAt e7 Y,E.cellAt e7 Z,E.cellAt e7 ab,E.cellAt gc L,E.cellAt gc T,fun o=>E.frozen (a:=⟨w.heap.size+1,o,none⟩) (by show w.heap.size+1<_;omega) gc (ad o),cD,dr,fun d8=>?_,fun c'=>?_⟩
         ·rcases k4 with q|q;·exact absurd q d8
          ·refine⟨q,jT ((f7.out.trans f8.out).trans dk.cd) ?_ (dk.cx d8).2.2⟩;rw[mf ed];omega
         ·obtain⟨c9,hn,bi,fl,fp⟩:=hL c';refine⟨ka.out,c6,(dk.cd.ext.n.trans f8.out.ext.n).trans a5.out.ext.n,(dk.cd.room.trans f8.out.room).trans a5.out.room,fD,dl,⟨E.cellAt f0 er,E.cellAt f0 et,ev,ew⟩,⟨c9,hn,bi.e7 E (fun s aw j=>by subst j;exact dl aw) (fun j=>cf j.symm) (fun j=>hl j.symm),?_,fun q b6=>?_⟩,fun hc=>?_⟩
          ·have bs:=j2.out;rw[←hy.out]at bs fl;rw[jp.out];omega
          ·rcases fp q b6 with a8|a8
           ·rcases j6.out q a8 with bn|bn;·exact .inl bn
            ·exact .inr (by omega)
           ·exact .inr (by omega)
          ·subst c';rw[mf ed];exact A1 bb.out.a4.wf f4.out cq.out c8.out cg ed dB.out ds.out.symm d0.out e0.out eS.out d3.out dk hc
        have d1:=Lib.hid cx;clear cx h6 i0 no dk c6 a3 gu hP hL hq a1 i3 er et;go_wp2_with fail
        go_meet;refine⟨b2,O,x,y,e9,rfl,d1.out _ ?_ ?_ ?_⟩;·(repeat (first|with_reducible exact ae.refl _ _|refine cI (P:=fun s=>s=z) rfl ?_ _ _|with_reducible refine ae.alloc ?_ _|with_reducible refine ae.drew ?_))
        all_goals simp[go_sem,a2,be,bq]
       ·obtain⟨a8,bn,c7⟩:=d3.out.cx (by decide)
        have cx:∀K,ae (fun s=>s=t∨s=z) b0 K→j7 F w K sb wb b lv f M V e l t z a' f9 x x 6:=fun K E=>by
         have cp:¬(w.heap.size=t∨w.heap.size=z):=fun j=>(by omega);have c4:¬(w.heap.size+1=t∨w.heap.size+1=z):=fun j=>(by omega);refine⟨hA.out.b9 E (fun i hi j=>by omega),f5.out,kb.out.a5 E (fun k S j=>by rcases j with rfl|rfl;exact cn S;exact ca S),E.cellAt cp W,E.cellAt cp Y,E.cellAt cp Z,E.cellAt cp ab,E.cellAt c4 L,E.cellAt c4 T,fun o=>E.frozen (a:=⟨w.heap.size+1,o,none⟩) (by show w.heap.size+1<_;omega) c4 (ad o),cy,c3,fun d8=>?_,fun c'=>by cases c'⟩;refine⟨rfl,jT (f7.out.trans d3.out.cd) ?_ c7⟩;rw[mf ed];have:=me (lv:=lv) (l:=l+1);omega
        have d1:=Lib.hid cx;clear cx a8 bn c7;go_wp2_with fail
        go_meet;refine⟨a',f9,x,x,6,rfl,d1.out _ ?_⟩
        (repeat (first|with_reducible exact ae.refl _ _|refine cI (Or.inl rfl) ?_ _ _|refine cI (Or.inr rfl) ?_ _ _|with_reducible refine ae.alloc ?_ _|with_reducible refine ae.drew ?_))
     case rest=>
      obtain⟨b2,O,x,y,e9,rfl,am⟩:=hcut;clear W Y Z ab L T ad a4 bp a2 be b5 bq d7 ho f6 b7 b8 cj cl bw b9;have E:=am.av.size;have L:=am.r0;have T:=am.r1;have ad:=am.rf;have hj:=aD L;dsimp only at hj;by_cases gC:e9=0
      case neg=>
       obtain⟨a8,bn⟩:=am.cx gC;subst a8;have bt:=fun(w':World) (c2:ae (fun s=>s=w.heap.size+1) wc w')=>lV (V:=V) (wb:=wb) (b:=b) bn am.av am.sub am.a4 c2 am.nR (by omega);have c0:=Lib.hid bt;clear bt bn am gC;refine fa _ _ ?_;clear fa;go_wp2_with fail
       refine bodyPost_ret (v:=.tuple #[.agg #[.int .u8 (⟨0,0⟩:Edge).tag,.int .u32 (⟨0,0⟩:Edge).to],.int .u8 6]) (by simp[results,Tryz.results249,go_sem,L,T]) rfl (c0.out _ ?_)
       (repeat (first|with_reducible exact ae.refl _ _|refine jU ?_ _ _|with_reducible refine ae.alloc ?_ _|with_reducible refine ae.drew ?_))
      case pos=>
       subst gC;obtain⟨c5,c6,E,J,fD,dl,⟨a4,bp,a2,be⟩,⟨c9,hn,bi,fl,fp⟩,ec⟩:=am.c6 rfl;have W:=am.p0;have Y:=am.p1;have Z:=am.p2;have ab:=am.p3;have cD:=am.nP;have dr:=am.nR;have li:=bi.nW;have E:l<O.n:=(by have:=dB.out;omega);have ft:(aH f O (ak f O l x y)).ok:=kQ bi.a4.wf bi.a4.bx c5 c6 cg (by omega) cq.out;have hd:=ec ft;have ee:=fun(X:World) (ci:aa wc X)=>kg (bi.a4.U ci) f l x y c5 c6;rw[kD cq.out]at ee;change ∀X,aa wc X→Calls _ _ _ X fun r w'=>r=.returned (.tuple #[.agg #[.int .u8 (aH f O (ak f O l x y)).tag,.int .u32 (aH f O (ak f O l x y)).to],.int .u8 (bX O (ak f O l x y))])∧ae b2 X w'∧ag (au b2 X w') w' sb (aR O (ak f O l x y))at ee;have gj:az O (aR O (ak f O l x y)):=sv bi.a4.wf _;obtain⟨e3,gB⟩:∃e3,e3=aR O (ak f O l x y):=⟨_,rfl⟩;obtain⟨b1,hh⟩:∃b1,b1=aH f O (ak f O l x y):=⟨_,rfl⟩;obtain⟨e',hV⟩:∃e',e'=bX O (ak f O l x y):=⟨_,rfl⟩;rw[←gB,←hh,←hV]at ee hd;rw[←hh]at ft;rw[←gB]at gj;have g9:=bi.a4.lt;have j5:=Lib.hid (fun(X:World) (ci:aa wc X)=>gF g9 (Nat.le_refl _) (ee X ci));have d5:=Lib.hid hd;have j':=Lib.hid ft;have i7:=Lib.hid bi;have j3:=Lib.hid g9;have i':=Lib.hid gj;have f3:=Lib.hid am;have hv:=Lib.hid fl;have hx:=Lib.hid fp;have ga:=bi.c0;have b7:=aD a4;have b8:=aD a2;have E:=bi.lt.2;dsimp only at b7 b8;clear ee hd ft bi g9 gB hh hV ec am gj fl fp;have la:wc.heap.size≠wb:=(by omega);have lc:wc.heap.size≠w.heap.size:=(by omega);have lf:wc.heap.size≠t:=(by omega);have lg:wc.heap.size≠z:=(by omega);refine fa _ _ ?_;clear fa kk;go_wp2_with fail
       go_cut [11,10] (fun E em K=>∃cb f2,E=.pointer (some ⟨cb,0,none⟩)∧em=.int .u8 e'∧fN b2 wc K sb e3 cb cb b1 b1 f2)
       case first=>
        go_region_held3 (fun w'=>w'.cell? ⟨wb,0,none⟩=some (.pointer (some ⟨sb,0,none⟩))∧w'.cell? ⟨w.heap.size,0,none⟩=some (.int .u8 f)∧w'.cell? ⟨w.heap.size,3,none⟩=some (.int .i64 l)∧w'.cell? ⟨t,0,none⟩=some (.int .u8 x.tag)∧w'.cell? ⟨t,1,none⟩=some (.int .u32 x.to)∧w'.cell? ⟨z,0,none⟩=some (.int .u8 y.tag)∧w'.cell? ⟨z,1,none⟩=some (.int .u32 y.to)) (go_keep) ((go_at_call 71;refine(j5.out _ (by(exact kp))).mono ?_;rintro k2 bx ⟨⟨rfl,I,da⟩,ea,eb,g8,ha,hb⟩;have he:=I.size;(try simp only[World.size_alloc,World.a3,World.c5]at he);have E:=I.cellAt (b:=wb) (o:=0) (v:=.pointer (some ⟨sb,0,none⟩)) li (by go_keep);have E:=I.cellAt (b:=w.heap.size) (o:=0) (v:=.int .u8 f) cD (by go_keep);have E:=I.cellAt (b:=w.heap.size) (o:=3) (v:=.int .i64 l) cD (by go_keep);have E:=I.cellAt (b:=t) (o:=0) (v:=.int .u8 x.tag) fD (by go_keep);have E:=I.cellAt (b:=t) (o:=1) (v:=.int .u32 x.to) fD (by go_keep);have E:=I.cellAt (b:=z) (o:=0) (v:=.int .u8 y.tag) dl (by go_keep);have E:=I.cellAt (b:=z) (o:=1) (v:=.int .u32 y.to) dl (by go_keep);have lr:bx.heap.size≠wb:=(by omega);have E:bx.heap.size≠w.heap.size:=(by omega);have E:bx.heap.size≠t:=(by omega);have t:bx.heap.size≠z:=(by omega)))
        all_goals(try go_wp2_with fail)
        all_goals go_meet
        all_goals refine⟨_,_,rfl,rfl,iK j3.out (by(exact kp)) I da ?_ ?_ ?_ ?_ ?_ ?_ ?_⟩
        all_goals(try(simp[go_sem];done))
        all_goals(try(simp only[World.size_alloc,World.a3,World.size_setCell];omega))
        all_goals(try(repeat (first|with_reducible exact ae.refl _ _|with_reducible refine ae.alloc ?_ _|with_reducible refine ae.drew ?_|refine ae.setCell ?_ (Or.inl (Or.inl rfl)) _)))
        all_goals(simp[go_sem,ea,g8,ha,hb];done)
       case rest=>
        obtain⟨cb,f2,rfl,rfl,A⟩:=hcut;have t:=A.av.size;replace L:=A.av.cellAt dr L;replace T:=A.av.cellAt dr T;replace ad:=fun o:Nat=>A.av.frozen (a:=⟨w.heap.size+1,o,none⟩) hj dr (ad o);replace W:=A.av.cellAt cD W;replace Y:=A.av.cellAt cD Y;replace Z:=A.av.cellAt cD Z;replace ab:=A.av.cellAt cD ab;have a0:=A.a0;have kw:=A.a1;have t:=A.gB;have k':=aD a0;dsimp only at k';have io:=A.no dr hj
        have h7:ae (fun s=>F s∨s=b) w wc:=f3.out.av.b9 A.av (fun i hi j=>by
         rcases f3.out.sub i j with q|q;·exact .inl q
         ·omega)
        have i1:∀s,f2 s→F s∨w.heap.size≤s:=fun s aw=>by
         rcases A.sub s aw with q|q;·exact f3.out.sub s q
         ·exact .inr (by omega)
        have t:w.heap.size+1≠cb:=(by omega);have ce:=Lib.hid A;have hB:=Lib.hid h7;have hz:=Lib.hid i1;clear A h7 i1 a4 bp a2 be ga;by_cases g0:e'=0
        ·subst g0;have ch:=i7.out.store ce.out.av ce.out.a4 ce.out.sub i'.out;have hY:e3.leads f e l=true:=d5.out.cd.ext.leads c8.out
         have h2:(f,e,l)∉c9:=fun j=>by
          rcases hx.out _ j with q|q;·exact j4.out q
          ·exact absurd q (Int.lt_irrefl _)
         have hS:c9.length<maxLen:=by
          have br:=hv.out;have bs:=hs.out;unfold maxLen;omega
         have hQ:(c9++[(f,e,l)]).length+1≤V.length+2 ^ ((lv-l).toNat+1):=by
          have br:=hv.out;simp only[List.length_append,List.length_cons,List.length_nil];omega
         have hO:∀q∈c9++[(f,e,l)],q∈V∨l≤q.2.2:=fun q b6=>by
          rcases List.mem_append.1 b6 with b6|b6
          ·rcases hx.out q b6 with a8|a8;·exact .inl a8
           ·exact .inr (by omega)
          ·rw[List.mem_singleton]at b6;subst b6;exact .inr (Int.le_refl _)
         obtain⟨i4,h4,h1,hW⟩:=(ir (W':=wc.drew) ch.own rfl).update mD Tryz.underlying304 hS (kF f e l cq.out eR.out cg (by omega)) (pb b1);have a7:=ae.e0 hW;have hH:=(ch.U (aa.refl wc).drew).put a7 h1 cq.out eR.out cg (by omega) hY h2 (d5.out.c6 rfl);unfold iy at h4;have e4:=ch.c2;have bg:=ch.cS L;have a6:=ch.cS W;have t:=ch.cS a0;have z:=ch.cS ch.c0;have ls:=a7.cellAt (b:=w.heap.size+1) (o:=0) (v:=.int .u8 0) bg L;have lw:=a7.cellAt (b:=w.heap.size+1) (o:=1) (v:=.int .u32 0) bg T;have A:=fun o:Nat=>a7.frozen (a:=⟨w.heap.size+1,o,none⟩) (by show w.heap.size+1<wc.heap.size;omega) bg (ad o);have A:=a7.cellAt (b:=w.heap.size) (o:=0) (v:=.int .u8 f) a6 W;have A:=a7.cellAt (b:=w.heap.size) (o:=1) (v:=.int .u8 e.tag) a6 Y;have A:=a7.cellAt (b:=w.heap.size) (o:=2) (v:=.int .u32 e.to) a6 Z;have A:=a7.cellAt (b:=w.heap.size) (o:=3) (v:=.int .i64 l) a6 ab;have A:=a7.cellAt (b:=cb) (o:=0) (v:=.int .u8 b1.tag) t a0;have a1:=a7.cellAt (b:=cb) (o:=1) (v:=.int .u32 b1.to) t kw;have u8:=a7.cellAt (b:=wb) (o:=2) (v:=.map (some b)) z e4;have A:=a7.size;have E:wc.heap.size≤i4.heap.size:=A;have bt:=fun(w':World) (c2:ae (fun s=>s=w.heap.size+1) i4 w')=>sT (wb:=wb) d5.out j'.out (hB.out.drew.b9 a7 (fun i hi j=>.inr j)) hz.out hH hQ hO c2 io (by omega) bg (by omega);have c0:=Lib.hid bt;have j:=Lib.hid h4;clear bt ch hY h2 hS h1 hW a7 hH bg a6 t z hQ hO;go_wp2_with fail
         go_region_held3 (fun w'=>w'.cell? ⟨wb,2,none⟩=some (.map (some b))∧w'.cell? ⟨w.heap.size,0,none⟩=some (.int .u8 f)∧w'.cell? ⟨w.heap.size,1,none⟩=some (.int .u8 e.tag)∧w'.cell? ⟨w.heap.size,2,none⟩=some (.int .u32 e.to)∧w'.cell? ⟨w.heap.size,3,none⟩=some (.int .i64 l)∧w'.cell? ⟨cb,0,none⟩=some (.int .u8 b1.tag)∧w'.cell? ⟨cb,1,none⟩=some (.int .u32 b1.to)) (go_keep) (fail)
         go_wp2_with fail
         refine bodyPost_ret (v:=.tuple #[.agg #[.int .u8 b1.tag,.int .u32 b1.to],.int .u8 0]) (by simp[results,Tryz.results249,go_sem,ls,lw]) rfl (c0.out _ ?_)
         (repeat (first|with_reducible exact ae.refl _ _|refine jU ?_ _ _|with_reducible refine ae.alloc ?_ _|with_reducible refine ae.drew ?_))
        ·obtain⟨a8,bn,c7⟩:=d5.out.cx g0;subst a8 bn;have bt:=fun(w':World) (c2:ae (fun s=>s=w.heap.size+1) wc w')=>lV (V:=V) (wb:=wb) d5.out hB.out hz.out ce.out.a4 c2 io (by omega);have c0:=Lib.hid bt;clear bt g0 c7;go_wp2_with fail
         refine bodyPost_ret (v:=.tuple #[.agg #[.int .u8 (⟨0,0⟩:Edge).tag,.int .u32 (⟨0,0⟩:Edge).to],.int .u8 6]) (by simp[results,Tryz.results249,go_sem,L,T]) rfl (c0.out _ ?_)
         (repeat (first|with_reducible exact ae.refl _ _|refine jU ?_ _ _|with_reducible refine ae.alloc ?_ _|with_reducible refine ae.drew ?_))

end

theorem sR {sb wb b:Nat}{lv:Int}{n room:Int}(q:lv+1<n)(s:room<1048576):∀(j:Nat) (f:Int) (e:Edge) (l:Int) (F:Nat→Prop) (M:St) (V:List (Int×Edge×Int)) (D:DataW Unit) (w:World),lv-l=(j:Int)→0≤l→1≤f∧f≤5→e.ok→M.n=n→M.room=room→M.leads f e l=true→V.length+2 ^ (j+1)≤1000000→bE F w sb wb b lv M V D →
  Calls Tryz.prog 249 #[.pointer (some ⟨wb,0,none⟩),.agg #[.int .u8 f,.int .u8 e.tag,.int .u32 e.to,.int .i64 l]] w (gG F w sb wb b lv f M V e l):=by
 intro j
 induction j with
 |zero=>
  intro f e l F M V D w K t s z N S J E q;have O:=q.a4.wf.bw;have I:(lv-l).toNat=0:=by omega
  by_cases A:(f,e,l)∈V;·exact oN q s e l z t (by omega) A
  ·exact oL q s e l z J t (by omega) (by omega) A (by omega) (by rw[I];exact E) (fun L=>by omega)
 |succ j T=>
  intro f e l F M V D w K t s z N S J E q;have O:=q.a4.wf.bw;push_cast at K;have I:(lv-l).toNat=j+1:=by omega
  have K:(lv-(l+1)).toNat=j:=by omega
  by_cases A:(f,e,l)∈V;·exact oN q s e l z t (by omega) A
  ·refine oL q s e l z J t (by omega) (by omega) A (by omega) (by rw[I];exact E) (fun _ h t z A q E L j j J j I=>?_);rw[K]at j;exact T f h (l+1) t z A q E (by omega) (by omega) s L (by omega) (by omega) J j I

end Go.Proofs.YtafkamlhimkbmaaGreat
