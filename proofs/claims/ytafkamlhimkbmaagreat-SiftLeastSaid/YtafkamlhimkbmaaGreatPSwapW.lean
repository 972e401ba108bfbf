/-
  The walk of swap.at.
-/
import Derived.Test.YtafkamlhimkbmaaGreatPSwapX
namespace Go.Proofs.YtafkamlhimkbmaaGreat
set_option maxRecDepth 1000000
set_option maxHeartbeats 8000000
set_option linter.unusedSimpArgs false
set_option linter.unusedVariables false
open Go.RowKit

structure jT (F:Nat→Prop)(w W:World)(sb wb b:Nat)(lv f:Int)(M:St)(V:List (Int×Edge×Int))(e:Edge)(l:Int)(B8 B9:Nat)(F3:Nat→Prop)(M3:St)(x y:Edge)(er:Int):Prop where
 av:ae (fun j=>F j∨j=b) w W
 sub:∀j,F3 j→F j∨w.heap.size≤j
 a5:ag F3 W sb M3
 p0:W.cell? ⟨w.heap.size,0,none⟩=some (.int .u8 f)
 p1:W.cell? ⟨w.heap.size,1,none⟩=some (.int .u8 e.tag)
 p2:W.cell? ⟨w.heap.size,2,none⟩=some (.int .u32 e.to)
 p3:W.cell? ⟨w.heap.size,3,none⟩=some (.int .i64 l)
 r0:W.cell? ⟨w.heap.size+1,0,none⟩=some (.int .u8 0)
 r1:W.cell? ⟨w.heap.size+1,1,none⟩=some (.int .u32 0)
 rf:∀o:Nat,W.frozen? ⟨w.heap.size+1,o,none⟩=false
 nP:¬F3 w.heap.size
 nR:¬F3 (w.heap.size+1)
 c6:er≠0→er=6∧dX lv f M e l M3 ⟨0,0⟩ 6 (df lv l)
 cS:er=0→x.ok∧y.ok∧M3.n=M.n∧M3.room=M.room∧¬F3 B8∧¬F3 B9 ∧
  (W.cell? ⟨B8,0,none⟩=some (.int .u8 x.tag)∧W.cell? ⟨B8,1,none⟩=some (.int .u32 x.to)∧W.cell? ⟨B9,0,none⟩=some (.int .u8 y.tag)∧W.cell? ⟨B9,1,none⟩=some (.int .u32 y.to)) ∧
  (∃V3 D3,bB F3 W sb wb b lv M3 V3 D3∧V3.length+2≤V.length+2 ^ ((lv-l).toNat+1)∧∀q∈V3,q∈V∨l<q.2.2) ∧
  ((aE f M3 (aj f M3 l x y)).ok→dX lv f M e l (aM M3 (aj f M3 l x y)) (aE f M3 (aj f M3 l x y)) (bS M3 (aj f M3 l x y)) (df lv l))

theorem bB.e1 {F:Nat→Prop}{s W':World}{sb wb b:Nat}{lv:Int}{M:St}{V:List (Int×Edge×Int)}{D:DataW Unit}{P:Nat→Prop}(h:bB F s sb wb b lv M V D)(j:ae P s W')(z:∀t,F t→¬P t)(A:¬P b)(q:¬P wb):bB F W' sb wb b lv M V D:=
 ⟨h.a5.a4 j z,j.cellAt q h.c0,j.cellAt q h.c1,j.cellAt q h.c2,h.nF,h.nW,im h.own (j.block b h.lt.1 A),h.db⟩

section
variable {F:Nat→Prop}{w:World}{sb wb b:Nat}{lv f:Int}{M:St}{V:List (Int×Edge×Int)}{D:DataW Unit}

def rG (sb wb b:Nat)(lv f:Int)(M:St)(l:Int)(cap:Nat):Prop:=
 ∀(h:Edge) (t:Nat→Prop) (j:St) (q:List (Int×Edge×Int)) (z:DataW Unit) (s:World),h.ok→j.n=M.n→j.room=M.room→j.leads f h (l+1)=true→q.length+2 ^ ((lv-(l+1)).toNat+1)≤cap→bB t s sb wb b lv j q z →
  Calls Tryz.prog 249 #[.pointer (some ⟨wb,0,none⟩),.agg #[.int .u8 f,.int .u8 h.tag,.int .u32 h.to,.int .i64 (l+1)]] s (gA t s sb wb b lv f j q h (l+1))

theorem oh (h:bB F w sb wb b lv M V D)(E:1≤f∧f≤5)(e:Edge)(l:Int)(A:e.ok)(U:0≤l)(X:l≤16)(J:(f,e,l)∈V) :
  Calls Tryz.prog 249 #[.pointer (some ⟨wb,0,none⟩),.agg #[.int .u8 f,.int .u8 e.tag,.int .u32 e.to,.int .i64 l]] w (gA F w sb wb b lv f M V e l):=by
 obtain⟨x,Z,I⟩:=h.e3 E A U X
 obtain⟨t,O,S⟩:=h.db.cS _ J
 have aw:t=x:=oL (O.symm.trans Z)
 subst aw
 have Y:=(h.db.ft f e l E A U X).2 J
 rw[Y]at I
 have ad:=Lib.hid (fun(s:World) (U:aa w s)=>sr h S U)
 have N:=Lib.hid I
 have T:=h.c2
 obtain⟨am,U⟩:=h.lt
 clear h Z I O S Y J E A
 go_enter Tryz.func249,Tryz.ntmps249
 go_wp2_with fail
 obtain⟨j,q⟩:∃A,A=(w.alloc (.cells #[.int .u8 f,.int .u8 e.tag,.int .u32 e.to,.int .i64 l] 309)).alloc (.cells #[.int .u8 0,.int .u32 0] 52):=⟨_,rfl⟩
 have A:j.cell? ⟨w.heap.size,0,none⟩=some (.int .u8 f):=by rw[q];simp[go_sem]
 have A:j.cell? ⟨w.heap.size,1,none⟩=some (.int .u8 e.tag):=by rw[q];simp[go_sem]
 have A:j.cell? ⟨w.heap.size,2,none⟩=some (.int .u32 e.to):=by rw[q];simp[go_sem]
 have A:j.cell? ⟨w.heap.size,3,none⟩=some (.int .i64 l):=by rw[q];simp[go_sem]
 have K:j.cell? ⟨w.heap.size+1,0,none⟩=some (.int .u8 0):=by rw[q];simp[go_sem]
 have L:j.cell? ⟨w.heap.size+1,1,none⟩=some (.int .u32 0):=by rw[q];simp[go_sem]
 have ab:∀o:Nat,j.frozen? ⟨w.heap.size+1,o,none⟩=false:=fun o=>by rw[q];simp[go_sem]
 have W:aa w j:=by rw[q];exact((aa.refl _).alloc _).alloc _
 have av:j.heap.size=w.heap.size+2:=by rw[q];simp
 have A:=W.cell T
 rw[←q]
 clear q T
 obtain⟨q,A⟩:w.heap.size+2≤j.heap.size∧j.heap.size≤w.heap.size+2:=by omega
 clear av
 have z:=W.block b am
 have a1:=N.out j.drew z
 have a2:=N.out (j.alloc (.cells #[.int .u8 0,.int .u32 0] 52)).drew ((((aa.refl j).alloc _).drew.block b (by omega)).trans z)
 unfold iy at a1 a2
 have q:j.heap.size≠wb:=by omega
 have q:j.heap.size≠w.heap.size:=by omega
 clear z
 go_cut [6,7] (fun z A q=>∃B,z=.pointer (some ⟨B,0,none⟩)∧A=.bool true∧q.cell? ⟨B,0,none⟩=some (.int .u8 t.tag)∧q.cell? ⟨B,1,none⟩=some (.int .u32 t.to)∧aa j q)
 case first=>
  go_region_held3 (fun s=>s.cell? ⟨wb,2,none⟩=some (.map (some b))∧s.cell? ⟨w.heap.size,0,none⟩=some (.int .u8 f)∧s.cell? ⟨w.heap.size,1,none⟩=some (.int .u8 e.tag)∧s.cell? ⟨w.heap.size,2,none⟩=some (.int .u32 e.to)∧s.cell? ⟨w.heap.size,3,none⟩=some (.int .i64 l)) (go_keep) (fail)
  all_goals(try go_wp2_with fail)
  all_goals go_meet
  all_goals exact⟨j.heap.size,rfl,rfl,by simp[go_sem],by simp[go_sem],by(exact kp)⟩
 case rest=>
  obtain⟨B,rfl,rfl,q,s,j⟩:=hcut;replace K:=j.cell K;replace L:=j.cell L;have ab:=fun o:Nat=>j.a2 (a:=⟨w.heap.size+1,o,none⟩) (by show w.heap.size+1<_;omega) (ab o);go_wp2_with fail
  refine bodyPost_ret (v:=.tuple #[.agg #[.int .u8 t.tag,.int .u32 t.to],.int .u8 0]) (by simp[results,Tryz.results249,go_sem,K,L]) rfl (ad.out _ (by(exact kp)))

theorem oe (h:bB F w sb wb b lv M V D)(fj:1≤f∧f≤5)(e:Edge)(l:Int)(fi:e.ok)(hX:M.leads f e l=true)(ch:0≤l)(g7:l≤lv)(hZ:lv+1<M.n)(g':(f,e,l)∉V)
  (h3:M.room<1048576) (fg:V.length+2 ^ ((lv-l).toNat+1)≤1000000) (h9:l<lv→rG sb wb b lv f M l 1000000) :
  Calls Tryz.prog 249 #[.pointer (some ⟨wb,0,none⟩),.agg #[.int .u8 f,.int .u8 e.tag,.int .u32 e.to,.int .i64 l]] w (gA F w sb wb b lv f M V e l):=by
 have k6:=h.a5.wf.br
 have be:=Lib.hid h
 have kE:=h.c0
 have k0:=h.c1
 have e5:=h.c2
 obtain⟨k3,g7⟩:=h.lt
 have g7:l≤14:=by omega
 have g7:lv≤14:=by omega
 obtain⟨x,I,g7⟩:=h.e3 fj fi ch (by omega)
 rw[(h.db.none fj fi ch (by omega) g').1]at g7
 have hw:=Lib.hid g7
 have cv:=Lib.hid fj
 have eS:=Lib.hid fi
 have c9:=Lib.hid hX
 have d0:=Lib.hid hZ
 have j4:=Lib.hid g'
 have f4:=Lib.hid h3
 have hs:=Lib.hid fg
 have jv:=Lib.hid h9
 have e2:=Lib.hid h.a5.lt
 clear h fj hX I g7 fi g' h3 fg h9 hZ k6
 go_enter Tryz.func249,Tryz.ntmps249
 go_wp2_with fail
 obtain⟨aw,bw⟩:∃fi,fi=(w.alloc (.cells #[.int .u8 f,.int .u8 e.tag,.int .u32 e.to,.int .i64 l] 309)).alloc (.cells #[.int .u8 0,.int .u32 0] 52):=⟨_,rfl⟩
 have X:aw.cell? ⟨w.heap.size,0,none⟩=some (.int .u8 f):=by rw[bw];simp[go_sem]
 have Z:aw.cell? ⟨w.heap.size,1,none⟩=some (.int .u8 e.tag):=by rw[bw];simp[go_sem]
 have ab:aw.cell? ⟨w.heap.size,2,none⟩=some (.int .u32 e.to):=by rw[bw];simp[go_sem]
 have ad:aw.cell? ⟨w.heap.size,3,none⟩=some (.int .i64 l):=by rw[bw];simp[go_sem]
 have N:aw.cell? ⟨w.heap.size+1,0,none⟩=some (.int .u8 0):=by rw[bw];simp[go_sem]
 have U:aw.cell? ⟨w.heap.size+1,1,none⟩=some (.int .u32 0):=by rw[bw];simp[go_sem]
 have am:∀o:Nat,aw.frozen? ⟨w.heap.size+1,o,none⟩=false:=fun o=>by rw[bw];simp[go_sem]
 have fl:aa w aw:=by rw[bw];exact((aa.refl _).alloc _).alloc _
 have k9:aw.heap.size=w.heap.size+2:=by rw[bw];simp
 have k1:=fl.cell e5
 rw[←bw]
 clear bw kE k0 e5
 obtain⟨bw,fi⟩:w.heap.size+2≤aw.heap.size∧aw.heap.size≤w.heap.size+2:=by omega
 clear k9
 have f':=fl.block b k3
 have h':=hw.out aw.drew f'
 have ih:=hw.out (aw.alloc (.cells #[.int .u8 0,.int .u32 0] 52)).drew ((((aa.refl aw).alloc _).drew.block b (by omega)).trans f')
 unfold iy at h' ih
 have bw:aw.heap.size≠wb:=by omega
 have bw:aw.heap.size≠w.heap.size:=by omega
 clear f'
 go_cut [6,7] (fun hk iq L=>∃B,hk=.pointer (some ⟨B,0,none⟩)∧iq=.bool false∧aa aw L)
 case first=>
  go_region_held3 (fun E=>E.cell? ⟨wb,2,none⟩=some (.map (some b))∧E.cell? ⟨w.heap.size,0,none⟩=some (.int .u8 f)∧E.cell? ⟨w.heap.size,1,none⟩=some (.int .u8 e.tag)∧E.cell? ⟨w.heap.size,2,none⟩=some (.int .u32 e.to)∧E.cell? ⟨w.heap.size,3,none⟩=some (.int .i64 l)) (go_keep) (fail)
  all_goals(try go_wp2_with fail)
  all_goals go_meet
  all_goals exact⟨aw.heap.size,rfl,rfl,by(exact kp)⟩
 case rest=>
  obtain⟨B,rfl,rfl,aw⟩:=hcut;have dj:=fl.trans aw;have i2:=dj.size;have bw:=aw.size;replace X:=aw.cell X;replace Z:=aw.cell Z;replace ab:=aw.cell ab;replace ad:=aw.cell ad;replace N:=aw.cell N;replace U:=aw.cell U;replace am:=fun o:Nat=>aw.a2 (a:=⟨w.heap.size+1,o,none⟩) (by show w.heap.size+1<_;omega) (am o);have ga:=dj.cell be.out.c0;have d8:=dj.cell be.out.c1;have hu:=Lib.hid dj;clear h' ih k1 fl aw;have fx:=fun(Y:World) (cj:aa w Y)=>lH (be.out.a5.U cj) f e l eS.out;rw[me cv.out]at fx;obtain⟨d7,gx⟩:∃d7,d7=bN M (af M f e l):=⟨_,rfl⟩;obtain⟨lo,g6⟩:∃lo,lo=bK M (af M f e l):=⟨_,rfl⟩;obtain⟨hi,g3⟩:∃hi,hi=bf M f (af M f e l):=⟨_,rfl⟩;obtain⟨cx,g1⟩:∃cx,cx=bQ M (af M f e l):=⟨_,rfl⟩;rw[←gx,←g6,←g3,←g1]at fx;have hD:=Lib.hid (fun(Y:World) (cj:aa wc Y)=>gz e2.out i2 (fx Y (dj.trans cj)));have d1:=Lib.hid gx;have e1:=Lib.hid g6;have e0:=Lib.hid g3;have dB:=Lib.hid g1;clear fx gx g6 g3 g1 dj;have lm:=be.out.nW;have j1:=Lib.hid (fun k (T:F k)=>Nat.lt_of_lt_of_le (e2.out k T) i2);have cp:¬F w.heap.size:=fun j=>by have:=e2.out _ j;omega
  have f1:¬F (w.heap.size+1):=fun j=>by have:=e2.out _ j;omega
  have la:wc.heap.size≠wb:=by omega
  have lc:wc.heap.size≠w.heap.size:=by omega
  have lf:wc.heap.size+1≠wb:=by omega
  have lg:wc.heap.size+1≠w.heap.size:=by omega
  go_wp2_with fail
  go_cut [8,9,10] (fun is aw en L=>∃t z ce,is=.pointer (some ⟨t,0,none⟩)∧aw=.pointer (some ⟨z,0,none⟩)∧en=.int .u8 cx∧fE F wc L sb d7 t z lo hi ce∧(∀o:Nat,L.frozen? ⟨t,o,none⟩=false)∧(∀o:Nat,L.frozen? ⟨z,o,none⟩=false)∧t≠z)
  case first=>
   go_region_held3 (fun E=>E.cell? ⟨wb,0,none⟩=some (.pointer (some ⟨sb,0,none⟩))∧E.cell? ⟨w.heap.size,0,none⟩=some (.int .u8 f)∧E.cell? ⟨w.heap.size,1,none⟩=some (.int .u8 e.tag)∧E.cell? ⟨w.heap.size,2,none⟩=some (.int .u32 e.to)∧E.cell? ⟨w.heap.size,3,none⟩=some (.int .i64 l)) (go_keep) ((go_at_call 258;refine(hD.out _ (by(exact kp))).mono ?_;rintro k2 b0 ⟨⟨rfl,J,db⟩,eb,ec,g8,ha,hb⟩;have he:=J.size;(try simp only[World.size_alloc,World.a3,World.cD]at he);have aw:=J.cellAt (b:=wb) (o:=0) (v:=.pointer (some ⟨sb,0,none⟩)) lm (by go_keep);have aw:=J.cellAt (b:=w.heap.size) (o:=0) (v:=.int .u8 f) cp (by go_keep);have aw:=J.cellAt (b:=w.heap.size) (o:=1) (v:=.int .u8 e.tag) cp (by go_keep);have aw:=J.cellAt (b:=w.heap.size) (o:=2) (v:=.int .u32 e.to) cp (by go_keep);have aw:=J.cellAt (b:=w.heap.size) (o:=3) (v:=.int .i64 l) cp (by go_keep);have lr:b0.heap.size≠wb:=(by omega);have aw:b0.heap.size≠w.heap.size:=(by omega);have aw:b0.heap.size+1≠wb:=(by omega);have aw:b0.heap.size+1≠w.heap.size:=(by omega)))
   all_goals(try go_wp2_with fail)
   all_goals go_meet
   all_goals refine⟨_,_,_,rfl,rfl,rfl,iJ j1.out (by(exact kp)) J db ?_ ?_ ?_ ?_ ?_ ?_ ?_,fun o=>?_,fun o=>?_,?_⟩
   all_goals(try(simp[go_sem];done))
   all_goals(try(simp only[World.size_alloc,World.a3,World.size_setCell];omega))
   all_goals(try(repeat (first|with_reducible exact ae.refl _ _|with_reducible refine ae.alloc ?_ _|with_reducible refine ae.drew ?_|refine ae.setCell ?_ (Or.inl (Or.inl rfl)) _|refine ae.setCell ?_ (Or.inl (Or.inr rfl)) _)))
   all_goals(try(simp[go_sem,eb,ec,g8,ha,hb];done))
   all_goals(try(simp only[World.size_alloc,World.a3,World.size_setCell]at *;omega))
   all_goals(try(
    have lx:b0.cell? ⟨wc.heap.size,0,none⟩=some (.int .u8 0):=(eb _ _ (Nat.le_refl _) (by simp only[World.size_alloc,World.a3];omega)).trans ((World.cell?_alloc_lt _ _ _ (by simp)).trans (by simp[go_sem]))
    have ev:b0.cell? ⟨wc.heap.size,1,none⟩=some (.int .u32 0):=(eb _ _ (Nat.le_refl _) (by simp only[World.size_alloc,World.a3];omega)).trans ((World.cell?_alloc_lt _ _ _ (by simp)).trans (by simp[go_sem]))
    simp[go_sem,lx,ev]
    done))
  case rest=>
   rename_i hM;obtain⟨t,z,ce,rfl,rfl,rfl,A,b6,br,f0⟩:=hcut;have aw:=A.av.size;replace X:=A.av.cellAt cp X;replace Z:=A.av.cellAt cp Z;replace ab:=A.av.cellAt cp ab;replace ad:=A.av.cellAt cp ad;replace N:=A.av.cellAt f1 N;replace U:=A.av.cellAt f1 U;replace am:=fun o:Nat=>A.av.frozen (a:=⟨w.heap.size+1,o,none⟩) (by show w.heap.size+1<_;omega) f1 (am o);have hI:=be.out.U hu.out;have a5:=A.a0;have bq:=A.a1;have a3:=A.c0;have bg:=A.c1;have b8:=aD a5;have b9:=aD a3;dsimp only at b8 b9;have aw:=A.gB;have aw:=A.gC;have bx:=A.no cp (by omega);have ca:=A.no f1 (by omega);have cl:=A.nB;have cn:=A.nC
   have it:∀s,ce s→F s∨w.heap.size≤s:=fun s a1=>by
    rcases A.sub s a1 with q|q;·exact .inl q
    ·exact .inr (by omega)
   have f6:=Lib.hid ((aa.av hu.out F).a' A.av);have d3:=Lib.hid it;have cf:=Lib.hid A;have hr:=Lib.hid hI;have aw:w.heap.size+2≤t:=(by omega);have aw:w.heap.size+2≤z:=(by omega);clear A it hI ga d8 hD;have dk:l<M.n:=(by have:=d0.out;omega);by_cases hU:cx=0
   case neg=>
    obtain⟨a',bp,c8⟩:=AG (lv:=lv) (c:=df lv l) be.out.a5.wf c9.out dk (by have:=lL (lv:=lv) (l:=l);omega) (dB.out ▸ hU) d1.out;obtain rfl:cx=6:=dB.out.trans a';have aw:=cf.out.a5;rw[bp]at aw;have bv:=fun(E:World) (c3:ae (fun s=>s=w.heap.size+1) wc E)=>lC (V:=V) (wb:=wb) (b:=b) c8 (f6.out.mono (fun k _ T=>.inl T)) d3.out aw c3 ca (by omega);have c1:=Lib.hid bv;clear bv aw a' bp c8 dk;go_wp2_with fail
    refine bodyPost_ret (v:=.tuple #[.agg #[.int .u8 (⟨0,0⟩:Edge).tag,.int .u32 (⟨0,0⟩:Edge).to],.int .u8 6]) (by simp[results,Tryz.results249,go_sem,N,U]) rfl (c1.out _ ?_)
    (repeat (first|with_reducible exact ae.refl _ _|refine jN ?_ _ _|with_reducible refine ae.alloc ?_ _|with_reducible refine ae.drew ?_))
   case pos=>
    subst hU;have gj:bQ M (af M f e l)=0:=dB.out.symm;have fv:=fB be.out.a5.wf c9.out dk gj;have hf:=iA be.out.a5.wf c9.out dk gj;obtain⟨cp,bw⟩:=nI be.out.a5.wf be.out.a5.b0 (fun id r aw=>be.out.a5.b1 aw) (f:=f) eS.out ch dk;rw[←d1.out,←e1.out,←e0.out]at fv;rw[←d1.out]at hf;rw[←e1.out]at cp;rw[←e0.out]at bw;have aw:bB ce wc sb wb b lv d7 V D:=hr.out.store cf.out.av cf.out.a5 cf.out.sub fv.ext;have d8:=aw.c1;have ho:=Lib.hid aw;have a6:=Lib.hid fv;have f7:=Lib.hid hf;have e3:=Lib.hid (⟨cp,bw⟩:lo.ok∧hi.ok);clear fv hf cp bw aw gj dk hr;refine hM _ _ ?_;clear hM;apply wp_seq_k;intro ki hN;go_cut [5] (fun aw L=>aw=.int .u8 0∧L=wc)
    case first=>
     go_wp2_with fail
     go_meet;exact⟨rfl,rfl⟩
    case rest=>
     obtain⟨rfl,rfl⟩:=hcut;refine hN _ _ ?_;clear hN ki;apply wp_seq_k;intro kk fb;go_cut [10] (fun en L=>∃b3 S x y cx,en=.int .u8 cx∧jT F w L sb wb b lv f M V e l t z b3 S x y cx)
     case first=>
      go_wp2_with fail
      go_quiet (fail)
      obtain⟨c0,hg⟩:∃Y,Y=wc.drewN nq:=⟨_,rfl⟩;have aw:aa wc c0:=(by rw[hg];exact(aa.refl _).drewN _);rw[←hg];clear hg;have bw:=aw.size;replace X:=aw.cell X;replace Z:=aw.cell Z;replace ab:=aw.cell ab;replace ad:=aw.cell ad;replace N:=aw.cell N;replace U:=aw.cell U;replace am:=fun o:Nat=>aw.a2 (a:=⟨w.heap.size+1,o,none⟩) (by show w.heap.size+1<_;omega) (am o);replace a5:=aw.cell a5;replace bq:=aw.cell bq;replace a3:=aw.cell a3;replace bg:=aw.cell bg;replace b6:=fun o:Nat=>aw.a2 (a:=⟨t,o,none⟩) b8 (b6 o);replace br:=fun o:Nat=>aw.a2 (a:=⟨z,o,none⟩) b9 (br o);replace d8:=aw.cell d8;have b4:=Lib.hid (ho.out.U aw);have hC:=Lib.hid (f6.out.a' (aw.av F));have c2:=b4.out.cy a5;have cg:=b4.out.cy a3;have a7:=b4.out.cy X;have bi:=b4.out.cy N;replace b8:t<c0.heap.size:=(by omega);replace b9:z<c0.heap.size:=(by omega);have ii:w.heap.size<c0.heap.size:=(by omega);have fz:w.heap.size+1<c0.heap.size:=(by omega);have er:t≠wb:=(by omega);have hl:z≠wb:=(by omega);have e6:w.heap.size≠t:=(by omega);have e8:w.heap.size≠z:=(by omega);have gb:w.heap.size+1≠t:=(by omega);have gc:w.heap.size+1≠z:=(by omega);have e7:z≠t:=fun j=>f0 j.symm;have kd:=Lib.hid bw;clear aw bw;by_cases k5:l=lv
      ·subst k5;have aw:=tX b4.out.a5 b4.out.c0 b4.out.c1 b4.out.nW cv.out (by have:=a6.out.room;have:=f4.out;omega) ch (by have:=a6.out.ext.n;have:=d0.out;omega) lo hi e3.out.1 e3.out.2 a6.out.cl a6.out.ch;have ht:=Lib.hid aw;clear aw;go_wp2_with fail
       refine ht.out.mono ?_;rintro r b1 ⟨b5,x,y,e9,bb,rfl,c6,c7,g2,W,el,ec,hT⟩;have hk:=W.av.size;have hJ:=b4.out.store W.av W.a5 W.sub el.ext;replace X:=W.av.cellAt bx X;replace Z:=W.av.cellAt bx Z;replace ab:=W.av.cellAt bx ab;replace ad:=W.av.cellAt bx ad;replace N:=W.av.cellAt ca N;replace U:=W.av.cellAt ca U;replace am:=fun o:Nat=>W.av.frozen (a:=⟨w.heap.size+1,o,none⟩) fz ca (am o);replace a5:=W.av.cellAt cl a5;replace bq:=W.av.cellAt cl bq;replace a3:=W.av.cellAt cn a3;replace bg:=W.av.cellAt cn bg;replace b6:=fun o:Nat=>W.av.frozen (a:=⟨t,o,none⟩) b8 cl (b6 o);replace br:=fun o:Nat=>W.av.frozen (a:=⟨z,o,none⟩) b9 cn (br o)
       have no:∀K,¬ce K→K<c0.heap.size→¬bb K:=fun K bs bt T=>by
        rcases W.sub K T with q|q;·exact bs q
        ·omega
       have co:=no _ cl b8;have cb:=no _ cn b9;have cD:=no _ bx ii;have c4:=no _ ca fz
       have ek:ae (fun s=>F s∨s=b) w b1:=(hC.out.b8 W.av (fun i hi j=>by
        rcases d3.out i j with q|q;·exact q
        ·omega)).mono (fun k _ T=>.inl T)
       have ep:∀s,bb s→F s∨w.heap.size≤s:=fun s a1=>by
        rcases W.sub s a1 with q|q;·exact d3.out s q
        ·exact .inr (by omega)
       have ed:e9=0→(aE f b5 (aj f b5 l x y)).ok→dX l f M e l (aM b5 (aj f b5 l x y)) (aE f b5 (aj f b5 l x y)) (bS b5 (aj f b5 l x y)) (df l l):=fun bt hc=>by
        obtain⟨fv,fx,f1,a,b',c,d,ev,hm,ew,eR,dk,e2,fi,fj,fl,aw,bw,cp,cx,dj⟩:=hT bt;rw[oD];exact AE be.out.a5.wf f4.out cv.out c9.out ch d0.out dB.out.symm d1.out e1.out e0.out ev hm ew eR dk e2 fi fj fl aw bw cp cx dj hc
       have cy:∀L,ae (fun s=>s=t∨s=z) b1 L→L.cell? ⟨t,0,none⟩=some (.int .u8 x.tag)→L.cell? ⟨t,1,none⟩=some (.int .u32 x.to)→L.cell? ⟨z,0,none⟩=some (.int .u8 y.tag)→L.cell? ⟨z,1,none⟩=some (.int .u32 y.to)→jT F w L sb wb b l f M V e l t z bb b5 x y e9:=fun L I ev hm ew eR=>by
        have cq:¬(w.heap.size=t∨w.heap.size=z):=fun j=>(by omega);have c5:¬(w.heap.size+1=t∨w.heap.size+1=z):=fun j=>(by omega);refine⟨ek.b8 I (fun i hi j=>by omega),ep,W.a5.a4 I (fun k T j=>by rcases j with rfl|rfl;exact co T;exact cb T),I.cellAt cq X,I.cellAt cq Z,I.cellAt cq ab,I.cellAt cq ad,I.cellAt c5 N,I.cellAt c5 U,fun o=>I.frozen (a:=⟨w.heap.size+1,o,none⟩) (by show w.heap.size+1<_;omega) c5 (am o),cD,c4,fun d9=>?_,fun da=>?_⟩
        ·rcases g2 with q|q;·exact absurd q d9
         ·exact⟨q,jM (f7.out.trans el) (by rw[oD];decide) (ec q)⟩
        ·refine⟨c6,c7,el.ext.n.trans a6.out.ext.n,el.room.trans a6.out.room,co,cb,⟨ev,hm,ew,eR⟩,⟨V,D,hJ.e1 I (fun s a1 j=>by rcases j with rfl|rfl;exact co a1;exact cb a1) (fun j=>by rcases j with j|j;exact c2 j.symm;exact cg j.symm) (fun j=>by rcases j with j|j;exact er j.symm;exact hl j.symm),?_,fun q b7=>.inl b7⟩,ed da⟩;rw[show(l-l).toNat+1=1 by omega];exact Nat.le_refl _
       have d2:=Lib.hid cy;clear cy ed ek ep no hJ W el ec hT ht;go_wp2_with fail
       go_meet;refine⟨bb,b5,x,y,e9,rfl,d2.out _ ?_ ?_ ?_ ?_ ?_⟩;·(repeat (first|with_reducible exact ae.refl _ _|refine cE (Or.inl rfl) ?_ _ _|refine cE (Or.inr rfl) ?_ _ _|with_reducible refine ae.alloc ?_ _|with_reducible refine ae.drew ?_))
       all_goals simp[go_sem,a5,bq,a3,bg,b6,br,f0,e7]
      ·have ee:l<lv:=(by omega);have g4:=jv.out ee;have hE:(lv-l).toNat+1=((lv-(l+1)).toNat+1)+1:=(by omega);obtain⟨P,ea⟩:∃P,P=2 ^ ((lv-(l+1)).toNat+1):=⟨_,rfl⟩;have W:2 ^ ((lv-l).toNat+1)=P+P:=(by rw[hE,Nat.pow_succ,←ea];omega);have fg:=hs.out;rw[W]at fg;have aw:0<P:=(by rw[ea];exact Nat.pow_pos (by decide));have aw:=g4 lo ce d7 V D c0 e3.out.1 a6.out.ext.n a6.out.room a6.out.cl (by rw[←ea];omega) b4.out;have hp:=Lib.hid aw;have j0:=Lib.hid g4;have hy:=Lib.hid ea;have jp:=Lib.hid W;clear aw g4 ea W hE;go_wp2_with fail
       refine hp.out.mono ?_;rintro r b1 ⟨f9,x,e9,bb,rfl,h5,c6,g2,J,gp,db,hK⟩;have hk:=J.size;have O:∀K,¬ce K→K≠b→¬(ce K∨K=b):=fun K bs bt j=>(by rcases j with j|j;exact bs j;exact bt j);replace X:=J.cellAt (O _ bx a7) X;replace Z:=J.cellAt (O _ bx a7) Z;replace ab:=J.cellAt (O _ bx a7) ab;replace ad:=J.cellAt (O _ bx a7) ad;replace N:=J.cellAt (O _ ca bi) N;replace U:=J.cellAt (O _ ca bi) U;replace am:=fun o:Nat=>J.frozen (a:=⟨w.heap.size+1,o,none⟩) fz (O _ ca bi) (am o);replace a5:=J.cellAt (O _ cl c2) a5;replace bq:=J.cellAt (O _ cl c2) bq;replace a3:=J.cellAt (O _ cn cg) a3;replace bg:=J.cellAt (O _ cn cg) bg;replace b6:=fun o:Nat=>J.frozen (a:=⟨t,o,none⟩) b8 (O _ cl c2) (b6 o);replace br:=fun o:Nat=>J.frozen (a:=⟨z,o,none⟩) b9 (O _ cn cg) (br o)
       have no:∀K,¬ce K→K<c0.heap.size→¬bb K:=fun K bs bt T=>by
        rcases gp K T with q|q;·exact bs q
        ·omega
       have co:=no _ cl b8;have cb:=no _ cn b9;have cD:=no _ bx ii;have c4:=no _ ca fz
       have ek:ae (fun s=>F s∨s=b) w b1:=(hC.out.mono (fun k _ T=>.inl T)).b8 J (fun i hi j=>by
        rcases j with j|j
        ·rcases d3.out i j with q|q;·exact .inl q
         ·omega
        ·exact .inr j)
       have ep:∀s,bb s→F s∨w.heap.size≤s:=fun s a1=>by
        rcases gp s a1 with q|q;·exact d3.out s q
        ·exact .inr (by omega)
       have hA:=Lib.hid ek;have f5:=Lib.hid ep;have d5:=Lib.hid h5;have kb:=Lib.hid db;have i9:=Lib.hid hK;have ka:=Lib.hid c6;clear no ek ep h5 db hK c6 J gp hp kd;rcases g2 with rfl|rfl
       ·obtain⟨kq,i6,gd,g5,h0⟩:=i9.out rfl;have hG:=d5.out.cS rfl;have em:=d5.out.cf;have hR:=fun(Y:World) (cj:ae (fun s=>s=t∨s=z) b1 Y)=>j0.out hi bb f9 kq i6 Y e3.out.2 (em.ext.n.trans a6.out.ext.n) (em.room.trans a6.out.room) (em.ext.leads a6.out.ch) (by rw[←hy.out]at g5 ⊢;omega) (gd.e1 cj (fun s a1 j=>by rcases j with rfl|rfl;exact co a1;exact cb a1) (fun j=>by rcases j with j|j;exact c2 j.symm;exact cg j.symm) (fun j=>by rcases j with j|j;exact er j.symm;exact hl j.symm));have hq:=Lib.hid hR;have W:=Lib.hid gd;have W:=Lib.hid hG;have f8:=Lib.hid em;have j2:=Lib.hid g5;have j6:=Lib.hid h0;clear hR gd hG em g5 h0;go_wp2_with fail
        have a2:ae (fun s=>s=t) b1 ((b1.setCell ⟨t,0,none⟩ (.int .u8 x.tag)).setCell ⟨t,1,none⟩ (.int .u32 x.to)):=cE (P:=fun s=>s=t) rfl (cE (P:=fun s=>s=t) rfl (ae.refl _ _) _ _) _ _;have et:((b1.setCell ⟨t,0,none⟩ (.int .u8 x.tag)).setCell ⟨t,1,none⟩ (.int .u32 x.to)).cell? ⟨t,0,none⟩=some (.int .u8 x.tag):=(by simp[go_sem,a5,bq,b6]);have eu:((b1.setCell ⟨t,0,none⟩ (.int .u8 x.tag)).setCell ⟨t,1,none⟩ (.int .u32 x.to)).cell? ⟨t,1,none⟩=some (.int .u32 x.to):=(by simp[go_sem,a5,bq,b6]);obtain⟨i5,h8⟩:∃Y,Y=(b1.setCell ⟨t,0,none⟩ (.int .u8 x.tag)).setCell ⟨t,1,none⟩ (.int .u32 x.to):=⟨_,rfl⟩;rw[←h8]at a2 et eu ⊢;clear h8;have i3:=a2.mono (G:=fun s=>s=t∨s=z) (fun k _ T=>.inl T);refine(hq.out i5 i3).mono ?_;rintro r er ⟨S,y,e',b3,rfl,dl,c7,k4,a4,gu,hP,hL⟩;have iq:=a2.size;have is:=a4.size;have O:∀K,¬bb K→K≠b→¬(bb K∨K=b):=fun K bs bt j=>(by rcases j with j|j;exact bs j;exact bt j);replace X:=a4.cellAt (O _ cD a7) (a2.cellAt e6 X);replace Z:=a4.cellAt (O _ cD a7) (a2.cellAt e6 Z);replace ab:=a4.cellAt (O _ cD a7) (a2.cellAt e6 ab);replace ad:=a4.cellAt (O _ cD a7) (a2.cellAt e6 ad);replace N:=a4.cellAt (O _ c4 bi) (a2.cellAt gb N);replace U:=a4.cellAt (O _ c4 bi) (a2.cellAt gb U);replace am:=fun o:Nat=>a4.frozen (a:=⟨w.heap.size+1,o,none⟩) (by show w.heap.size+1<_;omega) (O _ c4 bi) (a2.frozen (a:=⟨w.heap.size+1,o,none⟩) (by show w.heap.size+1<_;omega) gb (am o));replace et:=a4.cellAt (O _ co c2) et;replace eu:=a4.cellAt (O _ co c2) eu;replace a3:=a4.cellAt (O _ cb cg) (a2.cellAt e7 a3);replace bg:=a4.cellAt (O _ cb cg) (a2.cellAt e7 bg);replace br:=fun o:Nat=>a4.frozen (a:=⟨z,o,none⟩) (by show z<_;omega) (O _ cb cg) (a2.frozen (a:=⟨z,o,none⟩) (by show z<_;omega) e7 (br o))
        have no:∀K,¬bb K→K<i5.heap.size→¬b3 K:=fun K bs bt T=>by
         rcases gu K T with q|q;·exact bs q
         ·omega
        have fD:=no _ co (by omega);have dr:=no _ cb (by omega);have cS:=no _ cD (by omega);have ds:=no _ c4 (by omega)
        have h6:ae (fun s=>F s∨s=b) w er:=(hA.out.b8 a2 (fun i hi j=>by omega)).b8 a4 (fun i hi j=>by
         rcases j with j|j
         ·rcases f5.out i j with q|q;·exact .inl q
          ·omega
         ·exact .inr j)
        have i0:∀s,b3 s→F s∨w.heap.size≤s:=fun s a1=>by
         rcases gu s a1 with q|q;·exact f5.out s q
         ·exact .inr (by omega)
        have cy:∀L,ae (fun s=>s=z) er L→L.cell? ⟨z,0,none⟩=some (.int .u8 y.tag)→L.cell? ⟨z,1,none⟩=some (.int .u32 y.to)→jT F w L sb wb b lv f M V e l t z b3 S x y e':=fun L I ew eR=>by
         refine⟨h6.b8 I (fun i hi j=>by omega),i0,hP.a4 I (fun k T j=>by subst j;exact dr T),I.cellAt e8 X,I.cellAt e8 Z,I.cellAt e8 ab,I.cellAt e8 ad,I.cellAt gc N,I.cellAt gc U,fun o=>I.frozen (a:=⟨w.heap.size+1,o,none⟩) (by show w.heap.size+1<_;omega) gc (am o),cS,ds,fun d9=>?_,fun da=>?_⟩
         ·rcases k4 with q|q;·exact absurd q d9
          ·refine⟨q,jM ((f7.out.trans f8.out).trans dl.cf) ?_ (dl.c6 d9).2.2⟩;rw[lM ee];omega
         ·obtain⟨c',hn,bn,fp,fs⟩:=hL da;refine⟨ka.out,c7,(dl.cf.ext.n.trans f8.out.ext.n).trans a6.out.ext.n,(dl.cf.room.trans f8.out.room).trans a6.out.room,fD,dr,⟨I.cellAt f0 et,I.cellAt f0 eu,ew,eR⟩,⟨c',hn,bn.e1 I (fun s a1 j=>by subst j;exact dr a1) (fun j=>cg j.symm) (fun j=>hl j.symm),?_,fun q b7=>?_⟩,fun hc=>?_⟩
          ·have bt:=j2.out;rw[←hy.out]at bt fp;rw[jp.out];omega
          ·rcases fs q b7 with a'|a'
           ·rcases j6.out q a' with bp|bp;·exact .inl bp
            ·exact .inr (by omega)
           ·exact .inr (by omega)
          ·subst da;rw[lM ee];exact AF be.out.a5.wf f4.out cv.out c9.out ch ee d0.out dB.out.symm d1.out e1.out e0.out d5.out dl hc
        have d2:=Lib.hid cy;clear cy h6 i0 no dl c7 a4 gu hP hL hq a2 i3 et eu;go_wp2_with fail
        go_meet;refine⟨b3,S,x,y,e',rfl,d2.out _ ?_ ?_ ?_⟩;·(repeat (first|with_reducible exact ae.refl _ _|refine cE (P:=fun s=>s=z) rfl ?_ _ _|with_reducible refine ae.alloc ?_ _|with_reducible refine ae.drew ?_))
        all_goals simp[go_sem,a3,bg,br]
       ·obtain⟨a',bp,c8⟩:=d5.out.c6 (by decide)
        have cy:∀L,ae (fun s=>s=t∨s=z) b1 L→jT F w L sb wb b lv f M V e l t z bb f9 x x 6:=fun L I=>by
         have cq:¬(w.heap.size=t∨w.heap.size=z):=fun j=>(by omega);have c5:¬(w.heap.size+1=t∨w.heap.size+1=z):=fun j=>(by omega);refine⟨hA.out.b8 I (fun i hi j=>by omega),f5.out,kb.out.a4 I (fun k T j=>by rcases j with rfl|rfl;exact co T;exact cb T),I.cellAt cq X,I.cellAt cq Z,I.cellAt cq ab,I.cellAt cq ad,I.cellAt c5 N,I.cellAt c5 U,fun o=>I.frozen (a:=⟨w.heap.size+1,o,none⟩) (by show w.heap.size+1<_;omega) c5 (am o),cD,c4,fun d9=>?_,fun da=>by cases da⟩;refine⟨rfl,jM (f7.out.trans d5.out.cf) ?_ c8⟩;rw[lM ee];have:=lL (lv:=lv) (l:=l+1);omega
        have d2:=Lib.hid cy;clear cy a' bp c8;go_wp2_with fail
        go_meet;refine⟨bb,f9,x,x,6,rfl,d2.out _ ?_⟩
        (repeat (first|with_reducible exact ae.refl _ _|refine cE (Or.inl rfl) ?_ _ _|refine cE (Or.inr rfl) ?_ _ _|with_reducible refine ae.alloc ?_ _|with_reducible refine ae.drew ?_))
     case rest=>
      obtain⟨b3,S,x,y,e',rfl,av⟩:=hcut;clear X Z ab ad N U am a5 bq a3 bg b6 br d8 ho f6 b8 b9 cl cn bx ca;have I:=av.av.size;have N:=av.r0;have U:=av.r1;have am:=av.rf;have hj:=aD N;dsimp only at hj;by_cases gC:e'=0
      case neg=>
       obtain⟨a',bp⟩:=av.c6 gC;subst a';have bv:=fun(E:World) (c3:ae (fun s=>s=w.heap.size+1) wc E)=>lC (V:=V) (wb:=wb) (b:=b) bp av.av av.sub av.a5 c3 av.nR (by omega);have c1:=Lib.hid bv;clear bv bp av gC;refine fb _ _ ?_;clear fb;go_wp2_with fail
       refine bodyPost_ret (v:=.tuple #[.agg #[.int .u8 (⟨0,0⟩:Edge).tag,.int .u32 (⟨0,0⟩:Edge).to],.int .u8 6]) (by simp[results,Tryz.results249,go_sem,N,U]) rfl (c1.out _ ?_)
       (repeat (first|with_reducible exact ae.refl _ _|refine jN ?_ _ _|with_reducible refine ae.alloc ?_ _|with_reducible refine ae.drew ?_))
      case pos=>
       subst gC;obtain⟨c6,c7,I,K,fD,dr,⟨a5,bq,a3,bg⟩,⟨c',hn,bn,fp,fs⟩,ed⟩:=av.cS rfl;have X:=av.p0;have Z:=av.p1;have ab:=av.p2;have ad:=av.p3;have cS:=av.nP;have ds:=av.nR;have li:=bn.nW;have I:l<S.n:=(by have:=d0.out;omega);have ft:(aE f S (aj f S l x y)).ok:=kH bn.a5.wf bn.a5.b0 c6 c7 ch (by omega) cv.out;have hd:=ed ft;have eg:=fun(Y:World) (cj:aa wc Y)=>jX (bn.a5.U cj) f l x y c6 c7;rw[kt cv.out]at eg;change ∀Y,aa wc Y→Calls _ _ _ Y fun r E=>r=.returned (.tuple #[.agg #[.int .u8 (aE f S (aj f S l x y)).tag,.int .u32 (aE f S (aj f S l x y)).to],.int .u8 (bS S (aj f S l x y))])∧ae b3 Y E∧ag (ao b3 Y E) E sb (aM S (aj f S l x y))at eg;have gh:au S (aM S (aj f S l x y)):=rL bn.a5.wf _;obtain⟨e4,gB⟩:∃e4,e4=aM S (aj f S l x y):=⟨_,rfl⟩;obtain⟨b2,hh⟩:∃b2,b2=aE f S (aj f S l x y):=⟨_,rfl⟩;obtain⟨fa,hV⟩:∃fa,fa=bS S (aj f S l x y):=⟨_,rfl⟩;rw[←gB,←hh,←hV]at eg hd;rw[←hh]at ft;rw[←gB]at gh;have g9:=bn.a5.lt;have j5:=Lib.hid (fun(Y:World) (cj:aa wc Y)=>gz g9 (Nat.le_refl _) (eg Y cj));have d6:=Lib.hid hd;have j':=Lib.hid ft;have i7:=Lib.hid bn;have j3:=Lib.hid g9;have i':=Lib.hid gh;have f3:=Lib.hid av;have hv:=Lib.hid fp;have hx:=Lib.hid fs;have ga:=bn.c0;have b8:=aD a5;have b9:=aD a3;have I:=bn.lt.2;dsimp only at b8 b9;clear eg hd ft bn g9 gB hh hV ed av gh fp fs;have la:wc.heap.size≠wb:=(by omega);have lc:wc.heap.size≠w.heap.size:=(by omega);have lf:wc.heap.size≠t:=(by omega);have lg:wc.heap.size≠z:=(by omega);refine fb _ _ ?_;clear fb kk;go_wp2_with fail
       go_cut [11,10] (fun I en L=>∃cd f2,I=.pointer (some ⟨cd,0,none⟩)∧en=.int .u8 fa∧fE b3 wc L sb e4 cd cd b2 b2 f2)
       case first=>
        go_region_held3 (fun E=>E.cell? ⟨wb,0,none⟩=some (.pointer (some ⟨sb,0,none⟩))∧E.cell? ⟨w.heap.size,0,none⟩=some (.int .u8 f)∧E.cell? ⟨w.heap.size,3,none⟩=some (.int .i64 l)∧E.cell? ⟨t,0,none⟩=some (.int .u8 x.tag)∧E.cell? ⟨t,1,none⟩=some (.int .u32 x.to)∧E.cell? ⟨z,0,none⟩=some (.int .u8 y.tag)∧E.cell? ⟨z,1,none⟩=some (.int .u32 y.to)) (go_keep) ((go_at_call 71;refine(j5.out _ (by(exact kp))).mono ?_;rintro k2 b0 ⟨⟨rfl,J,db⟩,eb,ec,g8,ha,hb⟩;have he:=J.size;(try simp only[World.size_alloc,World.a3,World.cD]at he);have I:=J.cellAt (b:=wb) (o:=0) (v:=.pointer (some ⟨sb,0,none⟩)) li (by go_keep);have I:=J.cellAt (b:=w.heap.size) (o:=0) (v:=.int .u8 f) cS (by go_keep);have I:=J.cellAt (b:=w.heap.size) (o:=3) (v:=.int .i64 l) cS (by go_keep);have I:=J.cellAt (b:=t) (o:=0) (v:=.int .u8 x.tag) fD (by go_keep);have I:=J.cellAt (b:=t) (o:=1) (v:=.int .u32 x.to) fD (by go_keep);have I:=J.cellAt (b:=z) (o:=0) (v:=.int .u8 y.tag) dr (by go_keep);have I:=J.cellAt (b:=z) (o:=1) (v:=.int .u32 y.to) dr (by go_keep);have lr:b0.heap.size≠wb:=(by omega);have I:b0.heap.size≠w.heap.size:=(by omega);have I:b0.heap.size≠t:=(by omega);have t:b0.heap.size≠z:=(by omega)))
        all_goals(try go_wp2_with fail)
        all_goals go_meet
        all_goals refine⟨_,_,rfl,rfl,iJ j3.out (by(exact kp)) J db ?_ ?_ ?_ ?_ ?_ ?_ ?_⟩
        all_goals(try(simp[go_sem];done))
        all_goals(try(simp only[World.size_alloc,World.a3,World.size_setCell];omega))
        all_goals(try(repeat (first|with_reducible exact ae.refl _ _|with_reducible refine ae.alloc ?_ _|with_reducible refine ae.drew ?_|refine ae.setCell ?_ (Or.inl (Or.inl rfl)) _)))
        all_goals(simp[go_sem,eb,g8,ha,hb];done)
       case rest=>
        obtain⟨cd,f2,rfl,rfl,A⟩:=hcut;have t:=A.av.size;replace N:=A.av.cellAt ds N;replace U:=A.av.cellAt ds U;replace am:=fun o:Nat=>A.av.frozen (a:=⟨w.heap.size+1,o,none⟩) hj ds (am o);replace X:=A.av.cellAt cS X;replace Z:=A.av.cellAt cS Z;replace ab:=A.av.cellAt cS ab;replace ad:=A.av.cellAt cS ad;have a0:=A.a0;have kw:=A.a1;have t:=A.gB;have k':=aD a0;dsimp only at k';have io:=A.no ds hj
        have h7:ae (fun s=>F s∨s=b) w wc:=f3.out.av.b8 A.av (fun i hi j=>by
         rcases f3.out.sub i j with q|q;·exact .inl q
         ·omega)
        have i1:∀s,f2 s→F s∨w.heap.size≤s:=fun s a1=>by
         rcases A.sub s a1 with q|q;·exact f3.out.sub s q
         ·exact .inr (by omega)
        have t:w.heap.size+1≠cd:=(by omega);have cf:=Lib.hid A;have hB:=Lib.hid h7;have hz:=Lib.hid i1;clear A h7 i1 a5 bq a3 bg ga;by_cases g0:fa=0
        ·subst g0;have ci:=i7.out.store cf.out.av cf.out.a5 cf.out.sub i'.out;have hY:e4.leads f e l=true:=d6.out.cf.ext.leads c9.out
         have h2:(f,e,l)∉c':=fun j=>by
          rcases hx.out _ j with q|q;·exact j4.out q
          ·exact absurd q (Int.lt_irrefl _)
         have hS:c'.length<maxLen:=by
          have bs:=hv.out;have bt:=hs.out;unfold maxLen;omega
         have hQ:(c'++[(f,e,l)]).length+1≤V.length+2 ^ ((lv-l).toNat+1):=by
          have bs:=hv.out;simp only[List.length_append,List.length_cons,List.length_nil];omega
         have hO:∀q∈c'++[(f,e,l)],q∈V∨l≤q.2.2:=fun q b7=>by
          rcases List.mem_append.1 b7 with b7|b7
          ·rcases hx.out q b7 with a'|a';·exact .inl a'
           ·exact .inr (by omega)
          ·rw[List.mem_singleton]at b7;subst b7;exact .inr (Int.le_refl _)
         obtain⟨i4,h4,h1,hW⟩:=(im (W':=wc.drew) ci.own rfl).update mg Tryz.underlying304 hS (ku f e l cv.out eS.out ch (by omega)) (oM b2);have a8:=ae.en hW;have hH:=(ci.U (aa.refl wc).drew).put a8 h1 cv.out eS.out ch (by omega) hY h2 (d6.out.cS rfl);unfold iy at h4;have e5:=ci.c2;have bi:=ci.cy N;have a7:=ci.cy X;have t:=ci.cy a0;have z:=ci.cy ci.c0;have ls:=a8.cellAt (b:=w.heap.size+1) (o:=0) (v:=.int .u8 0) bi N;have lw:=a8.cellAt (b:=w.heap.size+1) (o:=1) (v:=.int .u32 0) bi U;have A:=fun o:Nat=>a8.frozen (a:=⟨w.heap.size+1,o,none⟩) (by show w.heap.size+1<wc.heap.size;omega) bi (am o);have A:=a8.cellAt (b:=w.heap.size) (o:=0) (v:=.int .u8 f) a7 X;have A:=a8.cellAt (b:=w.heap.size) (o:=1) (v:=.int .u8 e.tag) a7 Z;have A:=a8.cellAt (b:=w.heap.size) (o:=2) (v:=.int .u32 e.to) a7 ab;have A:=a8.cellAt (b:=w.heap.size) (o:=3) (v:=.int .i64 l) a7 ad;have A:=a8.cellAt (b:=cd) (o:=0) (v:=.int .u8 b2.tag) t a0;have a2:=a8.cellAt (b:=cd) (o:=1) (v:=.int .u32 b2.to) t kw;have u8:=a8.cellAt (b:=wb) (o:=2) (v:=.map (some b)) z e5;have A:=a8.size;have I:wc.heap.size≤i4.heap.size:=A;have bv:=fun(E:World) (c3:ae (fun s=>s=w.heap.size+1) i4 E)=>sn (wb:=wb) d6.out j'.out (hB.out.drew.b8 a8 (fun i hi j=>.inr j)) hz.out hH hQ hO c3 io (by omega) bi (by omega);have c1:=Lib.hid bv;have j:=Lib.hid h4;clear bv ci hY h2 hS h1 hW a8 hH bi a7 t z hQ hO;go_wp2_with fail
         go_region_held3 (fun E=>E.cell? ⟨wb,2,none⟩=some (.map (some b))∧E.cell? ⟨w.heap.size,0,none⟩=some (.int .u8 f)∧E.cell? ⟨w.heap.size,1,none⟩=some (.int .u8 e.tag)∧E.cell? ⟨w.heap.size,2,none⟩=some (.int .u32 e.to)∧E.cell? ⟨w.heap.size,3,none⟩=some (.int .i64 l)∧E.cell? ⟨cd,0,none⟩=some (.int .u8 b2.tag)∧E.cell? ⟨cd,1,none⟩=some (.int .u32 b2.to)) (go_keep) (fail)
         go_wp2_with fail
         refine bodyPost_ret (v:=.tuple #[.agg #[.int .u8 b2.tag,.int .u32 b2.to],.int .u8 0]) (by simp[results,Tryz.results249,go_sem,ls,lw]) rfl (c1.out _ ?_)
         (repeat (first|with_reducible exact ae.refl _ _|refine jN ?_ _ _|with_reducible refine ae.alloc ?_ _|with_reducible refine ae.drew ?_))
        ·obtain⟨a',bp,c8⟩:=d6.out.c6 g0;subst a' bp;have bv:=fun(E:World) (c3:ae (fun s=>s=w.heap.size+1) wc E)=>lC (V:=V) (wb:=wb) d6.out hB.out hz.out cf.out.a5 c3 io (by omega);have c1:=Lib.hid bv;clear bv g0 c8;go_wp2_with fail
         refine bodyPost_ret (v:=.tuple #[.agg #[.int .u8 (⟨0,0⟩:Edge).tag,.int .u32 (⟨0,0⟩:Edge).to],.int .u8 6]) (by simp[results,Tryz.results249,go_sem,N,U]) rfl (c1.out _ ?_)
         (repeat (first|with_reducible exact ae.refl _ _|refine jN ?_ _ _|with_reducible refine ae.alloc ?_ _|with_reducible refine ae.drew ?_))

end

theorem sl {sb wb b:Nat}{lv:Int}{n room:Int}(q:lv+1<n)(s:room<1048576):∀(j:Nat) (f:Int) (e:Edge) (l:Int) (F:Nat→Prop) (M:St) (V:List (Int×Edge×Int)) (D:DataW Unit) (w:World),lv-l=(j:Int)→0≤l→1≤f∧f≤5→e.ok→M.n=n→M.room=room→M.leads f e l=true→V.length+2 ^ (j+1)≤1000000→bB F w sb wb b lv M V D →
  Calls Tryz.prog 249 #[.pointer (some ⟨wb,0,none⟩),.agg #[.int .u8 f,.int .u8 e.tag,.int .u32 e.to,.int .i64 l]] w (gA F w sb wb b lv f M V e l):=by
 intro j
 induction j with
 |zero=>
  intro f e l F M V D w K t s z N S J E q;have O:=q.a5.wf.br;have I:(lv-l).toNat=0:=by omega
  by_cases A:(f,e,l)∈V;·exact oh q s e l z t (by omega) A
  ·exact oe q s e l z J t (by omega) (by omega) A (by omega) (by rw[I];exact E) (fun L=>by omega)
 |succ j T=>
  intro f e l F M V D w K t s z N S J E q;have O:=q.a5.wf.br;push_cast at K;have I:(lv-l).toNat=j+1:=by omega
  have K:(lv-(l+1)).toNat=j:=by omega
  by_cases A:(f,e,l)∈V;·exact oh q s e l z t (by omega) A
  ·refine oe q s e l z J t (by omega) (by omega) A (by omega) (by rw[I];exact E) (fun _ h t z A q E L j j J j I=>?_);rw[K]at j;exact T f h (l+1) t z A q E (by omega) (by omega) s L (by omega) (by omega) J j I

end Go.Proofs.YtafkamlhimkbmaaGreat
