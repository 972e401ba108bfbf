/-
  meter.scale.edge: what an edge weighs.
-/
import Derived.Test.YtafkamlhimkbmaaGreatPScaleN
namespace Go.Proofs.YtafkamlhimkbmaaGreat
set_option maxRecDepth 1000000
set_option maxHeartbeats 8000000
set_option linter.unusedSimpArgs false
set_option linter.unusedVariables false
open Go.RowKit
variable {F:Nat→Prop}{P:Int→Nat}{cb sb mb n:Nat}{f:Int}{ls hs:List Int}{M:St}{w:World}{S:List Int}
theorem pJ (h:cg F P cb sb mb n f ls hs M w S)(e:Edge)(t:e.to=0)(l:Int)(z:Nat) :
  Calls Tryz.prog 130 #[.pointer (some ⟨cb,0,none⟩),.agg #[.int .u8 e.tag,.int .u32 e.to],.int .i64 l] w (dw F P cb sb mb n f ls hs M S 0 z w):=by
 have u:=aa h
 obtain⟨D,z⟩:=e
 simp only at t
 subst t
 clear h
 go_enter Tryz.func130,Tryz.ntmps130
 go_wp2_with fail
 go_ret
 have s:ae w (w.alloc (.cells #[.int .u8 D,.int .u32 0] 52)):=(ae.refl w).alloc _
 exact⟨.slice none 0 0,S,rfl,we 0 _,u.out.U s,by omega,s.upd _⟩
theorem tN {f:Int}(s:1≤f∧f≤5)(e:Edge)(l top:Int):(f=1∧dO f e l top=top)∨(f=3∧dO f e l top=top)∨(f=5∧dO f e l top=e.tag)∨((f=2∨f=4)∧dO f e l top=l):=by
 unfold dO;have:f=1∨f=2∨f=3∨f=4∨f=5:=by omega
 rcases this with rfl|rfl|rfl|rfl|rfl;·exact .inl ⟨rfl,rfl⟩
 ·exact .inr (.inr (.inr ⟨.inl rfl,rfl⟩))
 ·exact .inr (.inl ⟨rfl,rfl⟩)
 ·exact .inr (.inr (.inr ⟨.inr rfl,rfl⟩))
 ·exact .inr (.inr (.inl ⟨rfl,rfl⟩))
theorem mF (h:cg F P cb sb mb n f ls hs M w S)(e:Edge)(he:e.ok)(c':e.to≠0)(cp:1≤f∧f≤5)(l top c:Nat)(fl:l≤top)(fo:top≤n)(co:(c:Int)=dO f e (l:Int) (top:Int))(fj:l≤c)(fi:c≤top)(be:Nat)(ad:Nat)(c2:(ar aj ad).length≤9)(ok:Bool)(r:Rec)(c6:r.ok)
  (c3:∀s,ae w s→Calls Tryz.prog 78 #[.pointer (some ⟨sb,0,none⟩),.int .u32 e.to] s fun e2 z=>e2=.returned (.tuple #[.agg #[.int .u8 r.ad,.int .u8 r.top,.int .u8 r.J,.int .u8 r.lo.tag,.int .u32 r.lo.to,.int .u8 r.hi.tag,.int .u32 r.hi.to],.bool ok])∧ae s z)
  (c4:ok=false→top=n∧ad=1)
  (c8:ok=true→r.top=(top:Int)∧∀s,cg F P cb sb mb n f ls hs M s S→Calls Tryz.prog 194 #[.pointer (some ⟨cb,0,none⟩),.int .u32 e.to,.agg #[.int .u8 r.ad,.int .u8 r.top,.int .u8 r.J,.int .u8 r.lo.tag,.int .u32 r.lo.to,.int .u8 r.hi.tag,.int .u32 r.hi.to]] s (dw F P cb sb mb n f ls hs M S ad be s)) :
  Calls Tryz.prog 130 #[.pointer (some ⟨cb,0,none⟩),.agg #[.int .u8 e.tag,.int .u32 e.to],.int .i64 (l:Int)] w (dw F P cb sb mb n f ls hs M S ((aF (aY ls hs true) l (c-l)).toNat*(aF (aY ls hs false) c (top-c)).toNat*ad) be w):=by
 have T:=h.sc.c0
 have ed:=aJ T
 have e2:=h.sc.er
 have e2:(e.to==0)=false:=by simp[c']
 have ds:=aa h
 have d2:=aa c3
 have b5:=aa c8
 have c0:=aa c2
 have d0:=aa co
 have d1:=aa cp
 have e2:=he.2.1
 have e2:=he.2.2
 have e2:=he.1.1
 have e2:=he.1.2
 have e2:=aa c6
 have e2:=(h.a'.a8:sb<w.heap.size)
 clear h c3 c8 c2 c' co cp he c6
 dsimp only at ed
 go_enter Tryz.func130,Tryz.ntmps130
 go_wp2_with fail
 obtain⟨u,a4⟩:∃u,u=w.alloc (.cells #[.int .u8 e.tag,.int .u32 e.to] 52):=⟨_,rfl⟩
 have da:ae w u:=by rw[a4];exact(ae.refl w).alloc _
 have cD:u.cell? ⟨w.heap.size,0,none⟩=some (.int .u8 e.tag):=by rw[a4];simp[go_sem]
 have b1:u.cell? ⟨w.heap.size,1,none⟩=some (.int .u32 e.to):=by rw[a4];simp[go_sem]
 rw[←a4]
 clear a4
 have T:=da.cell T
 have ee:=aJ T
 have eA:=aJ b1
 dsimp only at ee eA
 have a4:u.heap.size≠cb:=by omega
 have a4:u.heap.size≠w.heap.size:=by omega
 go_cut [7,8] (fun a4 c2 I=>∃B,a4=.pointer (some ⟨B,0,none⟩)∧c2=.bool ok∧(I.cell? ⟨B,0,none⟩=some (.int .u8 r.ad)∧I.cell? ⟨B,1,none⟩=some (.int .u8 r.top)∧I.cell? ⟨B,2,none⟩=some (.int .u8 r.J)∧I.cell? ⟨B,3,none⟩=some (.int .u8 r.lo.tag)∧I.cell? ⟨B,4,none⟩=some (.int .u32 r.lo.to)∧I.cell? ⟨B,5,none⟩=some (.int .u8 r.hi.tag)∧I.cell? ⟨B,6,none⟩=some (.int .u32 r.hi.to))∧ae u I)
 case first=>
  go_region_held3 (fun z=>z.cell? ⟨cb,0,none⟩=some (.pointer (some ⟨sb,0,none⟩))∧z.cell? ⟨w.heap.size,0,none⟩=some (.int .u8 e.tag)∧z.cell? ⟨w.heap.size,1,none⟩=some (.int .u32 e.to)) (go_keep) ((first|(go_at_call 78;refine(d2.out _ kp).mono ?_;rintro e' b0 ⟨rfl,Q⟩;obtain⟨co,cp⟩:=Q.cells;have a4:ae u b0:=kp;have co:=a4.cell T;have co:=a4.cell cD;have co:=a4.cell b1;have co:=a4.size;have a4:b0.heap.size≠cb:=(by omega);have a4:b0.heap.size≠w.heap.size:=(by omega);have a4:w.heap.size<b0.heap.size:=(by omega))))
  all_goals(try go_wp2_with fail)
  all_goals go_meet
  all_goals first
   |exact⟨_,rfl,rfl,⟨by simp[go_sem],by simp[go_sem],by simp[go_sem],by simp[go_sem],by simp[go_sem],by simp[go_sem],by simp[go_sem]⟩,kp⟩
   |(have W:=Q.I (a:=⟨u.heap.size,0,none⟩) (v:=.int .u8 0);have aw:=Q.I (a:=⟨u.heap.size,1,none⟩) (v:=.int .u8 0);have a9:=Q.I (a:=⟨u.heap.size,2,none⟩) (v:=.int .u8 0);have bw:=Q.I (a:=⟨u.heap.size,3,none⟩) (v:=.int .u8 0);have cB:=Q.I (a:=⟨u.heap.size,4,none⟩) (v:=.int .u32 0);have db:=Q.I (a:=⟨u.heap.size,5,none⟩) (v:=.int .u8 0);have e1:=Q.I (a:=⟨u.heap.size,6,none⟩) (v:=.int .u32 0);exact⟨_,rfl,rfl,⟨by simp[go_sem,W],by simp[go_sem,W,aw],by simp[go_sem,W,aw,a9],by simp[go_sem,W,aw,a9,bw],by simp[go_sem,W,aw,a9,bw,cB],by simp[go_sem,W,aw,a9,bw,cB,db],by simp[go_sem,W,aw,a9,bw,cB,db,e1]⟩,kp⟩)
 case rest=>
  obtain⟨c1,rfl⟩:∃s,s=wc:=⟨_,rfl⟩;obtain⟨B,rfl,rfl,⟨bd,b7,b8,b9,ca,cc,cd⟩,u⟩:=hcut;have cz:ae w c1:=da.trans u;have E:=u.cell cD;have ax:=u.cell b1;have O:=u.cell T;have el:=aJ O;have eB:=aJ E;have ec:=aJ bd;dsimp only at el eB ec;have ah:=ds.out.U cz;have ay:=aa ah;have b2:=aa (fun(s:World) (u:ae c1 s)=>cX (ah.a'.U u));have Q:=ah.hn;rw[Q]at b2;have N:=aa (fun(s:World) (ab:List Int) (u:cg F P cb sb mb n f ls hs M s ab)=>jQ u.sc l c (by omega) (by omega) true);have Z:=aa (fun(s:World) (ab:List Int) (u:cg F P cb sb mb n f ls hs M s ab)=>jQ u.sc c top (by omega) (by omega) false);have a':=fun q=>fN ah.sc.b1.1 ah.sc.b1.2 q;have bi:(ar aj (aF (aY ls hs true) l (c-l)).toNat).length≤9:=ir (dR (a' true) l _).1 (dR (a' true) l _).2 (by omega);have bn:(ar aj (aF (aY ls hs false) c (top-c)).toNat).length≤9:=ir (dR (a' false) c _).1 (dR (a' false) c _).2 (by omega);obtain⟨d9,cl⟩:∃b6,b6=(aF (aY ls hs true) l (c-l)).toNat:=⟨_,rfl⟩;obtain⟨ea,cn⟩:∃b6,b6=(aF (aY ls hs false) c (top-c)).toNat:=⟨_,rfl⟩;rw[←cl]at N bi;rw[←cn]at Z bn;have u:(ar aj (d9*ea)).length≤18:=iO bi bn;have Y:=aa (And.intro bi (And.intro bn u));have bb:=aa (And.intro cl cn);rw[d0.out]at N Z
  -- the tail: the products of what is left out, and the node's sum
  have tail:∀(s:World) (ab:List Int) (x:Value),cg F P cb sb mb n f ls hs M s ab→ab.length≤S.length+be→aB 0 s ad x→af (fun k=>k=mb) w s→True:=fun _ _ _ _ _ _ _=>True.intro;clear tail a' bi bn u cl cn ah T cD b1;have cv:=tN d1.out e (l:Int) (top:Int);cases ok with
  |false=>
   obtain⟨rfl,rfl⟩:=c4 rfl;clear b5 bd b7 b8 b9 ca cc cd;have er:=cv;rcases cv with⟨rfl,J⟩|⟨rfl,J⟩|⟨rfl,J⟩|⟨rfl|rfl,J⟩
   all_goals
    rw[J]at N Z
    have av:=ay.out.sc.c1
    clear J er
    go_wp2_with (first
     |(go_at_call 48;refine(b2.out _ kp).mono ?_;rintro e' e3 ⟨rfl,rfl⟩)
     |(go_at_call 192;refine(kD 1 _ (by decide)).mono ?_;rintro e' dj ⟨e8,rfl,u,t⟩;have d7:=aa u;have ba:=aa (ay.out.U t);have av:=t.cell av;have O:=t.cell O;have E:=t.cell E;have em:=aJ O;have eR:=aJ E;clear u)
     |(go_at_call 196;have X:=N;clear X;refine(N.out _ _ ba.out).mono ?_;rintro e' e4 ⟨dk,rfl,bt,cx⟩;have a1:=aa bt;have a0:=aa (ba.out.U cx);clear bt N)
     |(go_at_call 196;refine(Z.out _ _ a0.out).mono ?_;rintro e' e5 ⟨e9,rfl,a6,U⟩;have a2:=aa a6;clear a6)
     |(go_at_call 195;have X:=a1;clear X;refine(fL (a1.out.U U) a2.out (by have:=Y.out.1;omega) (by have:=Y.out.2.1;omega)).mono ?_;rintro e' e6 ⟨fa,rfl,a7,am⟩;have b3:=aa a7;clear a7 a1)
     |(go_at_call 195;refine(fL b3.out (d7.out.U ((cx.trans U).trans am)) (by have:=Y.out.2.2;omega) (by have:=c0.out;omega)).mono ?_;rintro e' e7 ⟨dl,rfl,a8,bh⟩;have b4:=aa a8;clear a8)
     |fail)
    go_ret
    rw[←bb.out.1,←bb.out.2]
    have a5:=(((t.trans cx).trans U).trans am).trans bh
    exact⟨dl,S,rfl,b4.out.le (Nat.zero_le _),ay.out.U a5,by omega,(cz.trans a5).upd _⟩
  |true=>
   obtain⟨c7,c5⟩:=b5.out rfl;have d3:=aa c5;clear b5 c5 c4;have ez:r.top≤8:=(by omega);have ev:0≤r.top:=(by omega);have d5:=aa c7;have d6:Hid (IntKind.i64.wrap r.top=r.top):=aa (by unfold IntKind.wrap;simp[IntKind.signed,IntKind.bits];omega);clear c7;have av:=ay.out.sc.c1
   go_wp2_with (first
    |(go_at_call 48;refine(b2.out _ kp).mono ?_;rintro e' e3 ⟨rfl,rfl⟩)
    |(go_at_call 192;refine(kD 1 _ (by decide)).mono ?_;rintro e' dj ⟨e8,rfl,-,t⟩;have av:=t.cell av;have O:=t.cell O;have E:=t.cell E;have ax:=t.cell ax;have em:=aJ O;have eR:=aJ E;have a3:=t.cell bd;have ce:=t.cell b7;have cf:=t.cell b8;have ch:=t.cell b9;have d4:=t.cell ca;have ci:=t.cell cc;have cj:=t.cell cd;have u:=aJ a3)
    |fail)
   have u:=ay.out.U t;have ba:=aa u;have e0:=cz.trans t;have bv:¬(w.heap.size=mb):=kd u.kept.block E;have V:¬(B=mb):=kd u.kept.block a3;clear u bd b7 b8 b9 ca cc cd;go_cut [9,10] (fun u t I=>∃(x:Value) (bc:List Int),u=.int .i64 r.top∧t=x∧aB 0 I ad x∧cg F P cb sb mb n f ls hs M I bc∧bc.length≤S.length+be∧af (fun k=>k=mb) dj I)
   case first=>
    go_region_held3 (fun z=>(z.cell? ⟨B,0,none⟩=some (.int .u8 r.ad)∧z.cell? ⟨B,1,none⟩=some (.int .u8 r.top)∧z.cell? ⟨B,2,none⟩=some (.int .u8 r.J)∧z.cell? ⟨B,3,none⟩=some (.int .u8 r.lo.tag)∧z.cell? ⟨B,4,none⟩=some (.int .u32 r.lo.to)∧z.cell? ⟨B,5,none⟩=some (.int .u8 r.hi.tag)∧z.cell? ⟨B,6,none⟩=some (.int .u32 r.hi.to))∧z.cell? ⟨w.heap.size,0,none⟩=some (.int .u8 e.tag)∧z.cell? ⟨w.heap.size,1,none⟩=some (.int .u32 e.to)) (go_keep) ((first|(go_at_call 194;refine(d3.out _ (ba.out.U kp)).mono ?_;rintro e' e4 ⟨dk,eb,rfl,bt,al,cy,D⟩;have E:=D.cellAt bv E;have ax:=D.cellAt bv ax;have a3:=D.cellAt V a3;have ce:=D.cellAt V ce;have cf:=D.cellAt V cf;have ch:=D.cellAt V ch;have d4:=D.cellAt V d4;have ci:=D.cellAt V ci;have cj:=D.cellAt V cj)))
    all_goals(try go_wp2_with fail)
    all_goals go_meet
    all_goals exact⟨dk,eb,by first|rfl|rw[d6.out],rfl,bt,al,cy,af.bd (af.refl _ _).drew D⟩
   case rest=>
    obtain⟨fg,rfl⟩:∃s,s=wc:=⟨_,rfl⟩;obtain⟨x,bc,rfl,rfl,s,al,cy,D⟩:=hcut;have a1:=aa s;have a0:=aa al;have av:=al.sc.c1;have O:=al.sc.c0;have E:=D.cellAt bv E;have ax:=D.cellAt bv ax;have en:=aJ O;have eS:=aJ E;clear s al a3 ce cf ch d4 ci cj;dsimp only at en eS;rw[d5.out];clear ev ez;rcases cv with⟨rfl,J⟩|⟨rfl,J⟩|⟨rfl,J⟩|⟨rfl|rfl,J⟩
    all_goals
     rw[J]at N Z
     clear J
     go_wp2_with (first
      |(go_at_call 196;have X:=N;clear X;refine(N.out _ _ a0.out).mono ?_;rintro e' e5 ⟨e9,rfl,a6,U⟩;have a2:=aa a6;have dB:=aa (a0.out.U U);clear a6 N)
      |(go_at_call 196;refine(Z.out _ _ dB.out).mono ?_;rintro e' e6 ⟨fa,rfl,a7,am⟩;have b3:=aa a7;clear a7)
      |(go_at_call 195;have X:=a2;clear X;refine(fL (a2.out.U am) b3.out (by have:=Y.out.1;omega) (by have:=Y.out.2.1;omega)).mono ?_;rintro e' e7 ⟨dl,rfl,a8,bh⟩;have b4:=aa a8;clear a8 a2)
      |(go_at_call 195;refine(fL b4.out (a1.out.U ((U.trans am).trans bh)) (by have:=Y.out.2.2;omega) (by have:=c0.out;omega)).mono ?_;rintro e' fp ⟨fb,rfl,s,et⟩;have d8:=aa s;clear s)
      |fail)
     go_ret
     rw[←bb.out.1,←bb.out.2]
     have a5:=((U.trans am).trans bh).trans et
     exact⟨fb,bc,rfl,d8.out.le (Nat.zero_le _),a0.out.U a5,cy,af.bd (af.bd (e0.upd _) D) (a5.upd _)⟩
variable {F:Nat→Prop}{cb sb mb n:Nat}{f:Int}{ls hs:List Int}{M:St}{w:World}{S:List Int}
def qd (M:St)(id:Int):Nat:=match look M.cs id with
 |some r=>r.top.toNat
 |none=>M.n.toNat
def gg (ls hs:List Int)(M:St)(f:Int)(id:Int):Nat:=(wE (aG ls) (aG hs) M f ⟨0,id⟩ (qd M id:Int)).toNat
theorem Ai {lo hi:Nat→Int}(h:M.wf){e e':Edge}{r:Rec}{E:Nat}(he:e.to=e'.to)(s:look M.cs e.to=some r)(u:r.ad=f)(z:(E:Int)=r.top):wE lo hi M f e (E:Int)=wE lo hi M f e' (E:Int):=by
 have g1:=(h.b4 s).tb;obtain⟨b,t⟩:∃b:Nat,(b:Int)=r.J:=⟨r.J.toNat,by omega⟩;by_cases D:f=3
 ·subst D;rw[mZ h s u z t,mZ h (he ▸ s) u z t]
 ·rw[m0 h s u D z t,m0 h (he ▸ s) u D z t]
theorem kY (t:aM aj ls)(s:aM aj hs)(M:St)(f:Int)(e:Edge)(l:Int)(D:(M.n-l).toNat≤8):0≤wE (aG ls) (aG hs) M f e l∧(ar aj (wE (aG ls) (aG hs) M f e l).toNat).length≤9:=by
 have h0:=jt (fun j=>(dV t j).1) (fun j=>(dV s j).1) M f e l;have u:=Ae (fun j=>(dV t j).1) (fun j=>(dV s j).1) M f e l;have z:=dR (fN t s true) l.toNat (M.n-l).toNat;exact⟨h0,ir h0 (Int.le_trans u z.2) D⟩
theorem dw.mono {P:Int→Nat}{v u z:Nat}{s t:World}{e:Ending}(h:dw F P cb sb mb n f ls hs M S v u s e t)(D:u≤z):dw F P cb sb mb n f ls hs M S v z s e t:=by
 obtain⟨x,s,t,u,z,E,D⟩:=h;exact⟨x,s,t,u,z,by omega,D⟩
theorem lI (h:M.wf)(t:aM aj ls)(s:aM aj hs)(X:1≤f∧f≤5){e:Edge}{l top c:Nat}(Z:l≤top)(ad:(top:Int)≤M.n)(ah:e.to≠0)(z:M.leads f e (l:Int)=true)(Y:look M.cs e.to=none∨∃r,look M.cs e.to=some r∧(top:Int)≤r.top)(W:(c:Int)=dO f e (l:Int) (top:Int))(O:f=5→e.tag≤(top:Int)) :
  l≤c∧c≤top∧(wE (aG ls) (aG hs) M f e (l:Int)).toNat=(aF (aY ls hs true) l (c-l)).toNat*(aF (aY ls hs false) c (top-c)).toNat*(wE (aG ls) (aG hs) M f e (top:Int)).toNat:=by
 have ab:f=5→(l:Int)≤e.tag∧e.tag≤(top:Int):=fun u=>by
  have:=(bK.1 (bf.1 z).1).2.2.2.2.2.2.2 u ah;exact⟨this.1,O u⟩
 obtain⟨u,O,Q⟩:=wW (lo:=aG ls) (hi:=aG hs) X Z W ab
 have T:=Ag (lo:=aG ls) (hi:=aG hs) h ad Y (top-l) l (by omega) (aW.of z)
 refine⟨u,O,?_⟩
 have D:=(dR (fN t s true) l (c-l)).1
 have E:=(dR (fN t s false) c (top-c)).1
 have I:=jt (fun j=>(dV t j).1) (fun j=>(dV s j).1) M f e (top:Int)
 have J:aF (aY ls hs true) l (c-l)=aF (eD (aG ls) (aG hs)) l (c-l):=rfl
 have N:aF (aY ls hs false) c (top-c)=aF (aG ls) c (top-c):=rfl
 rw[T,Q,←J,←N]
 obtain⟨A,U⟩:=Int.eq_ofNat_of_zero_le D
 obtain⟨B,V⟩:=Int.eq_ofNat_of_zero_le E
 obtain⟨C,s⟩:=Int.eq_ofNat_of_zero_le I
 rw[U,V,s,←Int.natCast_mul,←Int.natCast_mul,bG,bG,bG,bG]
theorem wA (h:M.wf)(D:aM aj ls)(z:aM aj hs){e:Edge}{r:Rec}{s b:Nat}(U:look M.cs e.to=some r)(T:r.ad=f)(J:f≠3)(X:(s:Int)=r.top)(Q:(b:Int)=r.J) :
  (wE (aG ls) (aG hs) M f e (s:Int)).toNat=(aF (aY ls hs true) s (b-s)).toNat*((aG ls b).toNat*(wE (aG ls) (aG hs) M f r.lo ((b+1:Nat):Int)).toNat+(aG hs b).toNat*(wE (aG ls) (aG hs) M f r.hi ((b+1:Nat):Int)).toNat):=by
 have t:=fun j=>(dV D j).1
 have u:=fun j=>(dV z j).1
 have E:=(dR (fN D z true) s (b-s)).1
 have I:aF (aY ls hs true) s (b-s)=aF (eD (aG ls) (aG hs)) s (b-s):=rfl
 rw[m0 h U T J X Q,←I]
 obtain⟨A,N⟩:=Int.eq_ofNat_of_zero_le E
 obtain⟨p,V⟩:=Int.eq_ofNat_of_zero_le (t b)
 obtain⟨q,W⟩:=Int.eq_ofNat_of_zero_le (u b)
 obtain⟨s,O⟩:=Int.eq_ofNat_of_zero_le (jt t u M f r.lo ((b+1:Nat):Int))
 obtain⟨z,s⟩:=Int.eq_ofNat_of_zero_le (jt t u M f r.hi ((b+1:Nat):Int))
 rw[N,V,W,O,s,←Int.natCast_mul,←Int.natCast_mul,←Int.natCast_add,←Int.natCast_mul]
 simp only[bG]
theorem so (h:M.wf)(u:aM aj ls)(t:aM aj hs){e:Edge}{r:Rec}{s b:Nat}(Y:look M.cs e.to=some r)(X:r.ad=f)(U:f=3)(Z:(s:Int)=r.top)(W:(b:Int)=r.J) :
  (wE (aG ls) (aG hs) M f e (s:Int)).toNat=(aF (aY ls hs false) s (b+1-s)).toNat*(wE (aG ls) (aG hs) M f r.lo ((b+1:Nat):Int)).toNat+((aF (aY ls hs true) s (b+1-s)).toNat-(aF (aY ls hs false) s (b+1-s)).toNat)*(wE (aG ls) (aG hs) M f r.hi ((b+1:Nat):Int)).toNat:=by
 subst U
 have z:=fun j=>(dV u j).1
 have D:=fun j=>(dV t j).1
 have N:=(dR (fN u t true) s (b+1-s)).1
 have O:=(dR (fN u t false) s (b+1-s)).1
 have J:aF (aY ls hs false) s (b+1-s)≤aF (aY ls hs true) s (b+1-s):=mz (fun j=>z j) (fun j=>by
  have:=D j;show aG ls j≤aG ls j+aG hs j
  omega) s _
 have Q:aF (aY ls hs true) s (b+1-s)=aF (eD (aG ls) (aG hs)) s (b+1-s):=rfl
 have T:aF (aY ls hs false) s (b+1-s)=aF (aG ls) s (b+1-s):=rfl
 rw[mZ h Y X Z W,←Q,←T]
 obtain⟨A,E⟩:=Int.eq_ofNat_of_zero_le N
 obtain⟨B,I⟩:=Int.eq_ofNat_of_zero_le O
 obtain⟨s,V⟩:=Int.eq_ofNat_of_zero_le (jt z D M 3 r.lo ((b+1:Nat):Int))
 obtain⟨t,s⟩:=Int.eq_ofNat_of_zero_le (jt z D M 3 r.hi ((b+1:Nat):Int))
 rw[E,I]at J
 have t:B≤A:=by exact_mod_cast J
 rw[E,I,V,s]
 rw[show((A:Int)-(B:Int))=((A-B:Nat):Int) by omega,←Int.natCast_mul,←Int.natCast_mul,←Int.natCast_add]
 simp only[bG]
theorem ys (U:1≤f∧f≤5)(a3:∀id r,look M.cs id=some r→r.ok)(J:M.wf):∀(K l:Nat) (e:Edge) (w:World) (S:List Int),n-l≤K→l≤n→e.ok→M.leads f e (l:Int)=true→cg F (gg ls hs M f) cb sb mb n f ls hs M w S→S.length+2 ^ (n-l)≤100000 →
  Calls Tryz.prog 130 #[.pointer (some ⟨cb,0,none⟩),.agg #[.int .u8 e.tag,.int .u32 e.to],.int .i64 (l:Int)] w (dw F (gg ls hs M f) cb sb mb n f ls hs M S (wE (aG ls) (aG hs) M f e (l:Int)).toNat (2 ^ (n-l)-1) w):=by
 intro K
 induction K with
 |zero=>
  intro l e w S a0 V he O h a2;have I:=h.sc.b1.1;have E:=h.sc.b1.2;have am:=h.hn;have ay:=h.sc.er;by_cases t:e.to=0
  ·rw[kX t];exact pJ h e t (l:Int) _
  ·have av:look M.cs e.to=none:=by
    rcases(bf.1 O).2 with ax|⟨r,a,b,c,d⟩;·exact fq ax
    ·have:=(J.b4 a).tb;have:=(J.b4 a).bn;omega
   have ah:∃c:Nat,(c:Int)=dO f e (l:Int) ((n:Nat):Int):=⟨(dO f e (l:Int) (n:Int)).toNat,by
    have:0≤dO f e (l:Int) (n:Int):=by
     unfold dO;split;·omega
     ·split;·exact he.1.1
      ·omega
    omega⟩
   obtain⟨c,N⟩:=ah
   obtain⟨Y,Z,T⟩:=lI J I E U (top:=n) V (by omega) t O (.inl av) N (fun ab=>by
    have:=(bK.1 (bf.1 O).1).2.2.2.2.2.2.2 ab t
    omega)
   rw[qu t am]at T;rw[T];refine mF h e he t U l n c V (aI _) N Y Z _ 1 ?_ false Rec.zero Rec.gn (fun s u=>?_) (fun _=>⟨rfl,rfl⟩) (fun e=>by cases e);·exact dp (eh (k:=1) aR (by decide)) (by decide)
   ·have:=fO (h.a'.U u) e.to he.2.2;rw[av]at this;exact this
 |succ K aw=>
  intro l e w S a0 V he O h a2;have I:=h.sc.b1.1;have E:=h.sc.b1.2;have am:=h.hn;have ay:=h.sc.er;by_cases t:e.to=0
  ·rw[kX t];exact pJ h e t (l:Int) _
  have ah:∀top:Nat,∃c:Nat,(c:Int)=dO f e (l:Int) (top:Int):=fun top=>⟨(dO f e (l:Int) (top:Int)).toNat,by
    have:0≤dO f e (l:Int) (top:Int):=by
     unfold dO;split;·omega
     ·split;·exact he.1.1
      ·omega
    omega⟩
  cases z:look M.cs e.to with
  |none=>
   obtain⟨c,N⟩:=ah n
   obtain⟨Y,Z,T⟩:=lI J I E U (top:=n) V (by omega) t O (.inl z) N (fun ab=>by
    have:=(bK.1 (bf.1 O).1).2.2.2.2.2.2.2 ab t
    omega)
   rw[qu t am]at T;rw[T];refine mF h e he t U l n c V (aI _) N Y Z _ 1 ?_ false Rec.zero Rec.gn (fun s u=>?_) (fun _=>⟨rfl,rfl⟩) (fun e=>by cases e);·exact dp (eh (k:=1) aR (by decide)) (by decide)
   ·have:=fO (h.a'.U u) e.to he.2.2;rw[z]at this;exact this
  |some r=>
   obtain⟨X,rt,rg⟩:=dQ O z;have g:=J.b4 z;have g1:=g.tb;have V:=g.bn;have Q:=a3 _ _ z;obtain⟨D,W⟩:∃D:Nat,(D:Int)=r.top:=⟨r.top.toNat,by omega⟩;obtain⟨b,ad⟩:∃b:Nat,(b:Int)=r.J:=⟨r.J.toNat,by omega⟩;obtain⟨c,N⟩:=ah D;obtain⟨Y,Z,T⟩:=lI J I E U (top:=D) (by omega) (by omega) t O (.inr ⟨r,z,by omega⟩) N (fun ab=>by omega);have a1:=kY I E M f e (D:Int) (by omega)
   have al:gg ls hs M f e.to=(wE (aG ls) (aG hs) M f e (D:Int)).toNat:=by
    unfold gg qd;rw[z];simp only[];rw[show r.top.toNat=D by omega];rw[Ai J (e:=⟨0,e.to⟩) (e':=e) rfl z X W]
   rw[T];refine mF h e he t U l D c (by omega) (by omega) N Y Z _ _ a1.2 true r Q (fun s u=>?_) (fun e=>by cases e) (fun _=>⟨W.symm,fun s u=>?_⟩)
   ·have:=fO (h.a'.U u) e.to he.2.2;rw[z]at this;exact this
   ·rw[←al];by_cases O:e.to∈S;·exact yP u e.to he.2.1 he.2.2 r O _
    ·have t:2 ^ (n-b)=2*2 ^ (n-(b+1)):=by
      rw[show n-b=(n-(b+1))+1 by omega,dA];omega
     have t:2 ^ (n-b)≤2 ^ (n-l):=cJ (by decide) (by omega);have t:=Nat.two_pow_pos (n-(b+1));have U:=kY I E M f r.lo ((b+1:Nat):Int) (by omega);have V:=kY I E M f r.hi ((b+1:Nat):Int) (by omega);have T:=g.lo;have N:=g.hi;rw[X,←ad]at T N
     have Y:∀(s:World) (t:List Int),cg F (gg ls hs M f) cb sb mb n f ls hs M s t→t.length≤S.length→Calls Tryz.prog 130 #[.pointer (some ⟨cb,0,none⟩),.agg #[.int .u8 r.lo.tag,.int .u32 r.lo.to],.int .i64 ((b:Int)+1)] s (dw F (gg ls hs M f) cb sb mb n f ls hs M t (wE (aG ls) (aG hs) M f r.lo ((b+1:Nat):Int)).toNat (2 ^ (n-(b+1))-1) s):=fun s t u Z=>by
      have q:=aw (b+1) r.lo s t (by omega) (by omega) Q.lo (by push_cast;exact T) u (by omega);rw[show((b+1:Nat):Int)=(b:Int)+1 by omega]at q ⊢;exact q
     have T:∀(s:World) (t:List Int),cg F (gg ls hs M f) cb sb mb n f ls hs M s t→t.length≤S.length+(2 ^ (n-(b+1))-1)→Calls Tryz.prog 130 #[.pointer (some ⟨cb,0,none⟩),.agg #[.int .u8 r.hi.tag,.int .u32 r.hi.to],.int .i64 ((b:Int)+1)] s (dw F (gg ls hs M f) cb sb mb n f ls hs M t (wE (aG ls) (aG hs) M f r.hi ((b+1:Nat):Int)).toNat (2 ^ (n-(b+1))-1) s):=fun s t u Z=>by
      have q:=aw (b+1) r.hi s t (by omega) (by omega) Q.hi (by push_cast;exact N) u (by omega);rw[show((b+1:Nat):Int)=(b:Int)+1 by omega]at q ⊢;exact q
     rw[show(#[.int .u8 r.ad,.int .u8 r.top,.int .u8 r.J,.int .u8 r.lo.tag,.int .u32 r.lo.to,.int .u8 r.hi.tag,.int .u32 r.hi.to]:Array Value)=#[.int .u8 f,.int .u8 (D:Int),.int .u8 (b:Int),.int .u8 r.lo.tag,.int .u32 r.lo.to,.int .u8 r.hi.tag,.int .u32 r.hi.to] by rw[X,W,ad]];by_cases s:f=3
     ·have t:=al.trans (so J I E z X s W ad);exact(yR u e.to he.2.1 he.2.2 D b r.lo r.hi Q.lo Q.hi (by omega) (by omega) O _ (by omega) _ _ U.2 V.2 s t Y T).mono (fun _ _ N=>N.mono (by omega))
     ·have t:=al.trans (wA J I E z X s W ad);exact(yQ u e.to he.2.1 he.2.2 D b r.lo r.hi Q.lo Q.hi (by omega) (by omega) O _ (by omega) _ _ U.2 V.2 (by omega) t Y T).mono (fun _ _ N=>N.mono (by omega))
end Go.Proofs.YtafkamlhimkbmaaGreat
