/-
  The walk of apply.Ops.split.
-/
import Derived.Test.YtafkamlhimkbmaaGreatPApplyC
import Derived.Test.YtafkamlhimkbmaaGreatPScaleW
namespace Go.Proofs.YtafkamlhimkbmaaGreat
set_option maxRecDepth 1000000
set_option maxHeartbeats 8000000
set_option linter.unusedSimpArgs false
set_option linter.unusedVariables false
open Go.RowKit
theorem kr {j:aD}(o:Nat)(s:o<9):o<j.cs.length:=s
theorem yW {F:Nat→Prop}{w:World}{ob sb ba bb:Nat}{M:St}{b5:Nat→Option (aD×Edge)}(k:Nat)(c1:bj F w ob sb ba bb M b5)(j:aD)(bi:dv M j)(c3:M.n-j.lv=((k+1:Nat):Int))(g5:M.len+aX (k+1)≤M.a7)(bn:M.a7<1048576)
  (e8:∀(F':Nat→Prop) (z:World) (M':St) (gz:Nat→Option (aD×Edge)) (i:aD),bj F' z ob sb ba bb M' gz→dv M' i→M'.n-i.lv=(k:Int)→M'.len+aX k≤M'.a7→M'.a7<1048576→Calls Tryz.prog 191 #[.pointer (some ⟨ob,0,none⟩),.agg #[.int .u8 i.fo,.int .u8 i.op,.int .u8 i.lv,.int .u8 i.ea.tag,.int .u32 i.ea.to,.int .u8 i.eb.tag,.int .u32 i.eb.to,.int .u8 i.ec.tag,.int .u32 i.ec.to]] z (fk F' z ob sb ba bb M' i k)) :
  Calls Tryz.prog 242 #[.pointer (some ⟨ob,0,none⟩),.agg #[.int .u8 j.fo,.int .u8 j.op,.int .u8 j.lv,.int .u8 j.ea.tag,.int .u32 j.ea.to,.int .u8 j.eb.tag,.int .u32 j.eb.to,.int .u8 j.ec.tag,.int .u32 j.ec.to]] w (fk F w ob sb ba bb M j (k+1)):=by
 have e7:=c1.a'.wf.b0
 have e1:=sL k
 have e2:=lD k
 obtain⟨gz,hv⟩:=bi.ok.f
 obtain⟨gz,hv⟩:=bi.ok.o
 have gz:=bi.l0
 have gz:j.lv≤15:=by push_cast at c3;omega
 have b1:=aa (show j.lv<M.n by push_cast at c3;omega)
 obtain⟨⟨gz,hv⟩,hw,hx⟩:=bi.ok.a
 obtain⟨⟨gz,hv⟩,hw,hx⟩:=bi.ok.b
 obtain⟨⟨gz,hv⟩,hw,hx⟩:=bi.ok.c
 have cD:=aa c1
 have D:=aa bi
 have ez:=aa c3
 have b6:=aa (show M.len+4+2*aX k≤M.a7 by omega)
 have f5:=aa e1
 have ca:=aa e2
 have eA:=aa bn
 have ev:=aa e8
 have db:=aa e7
 obtain⟨g4,gR,g3⟩:=c1.lt
 clear c1 bi c3 g5 bn e8 e7 e1 e2
 go_enter Tryz.func242,Tryz.ntmps242
 go_wp2_with fail
 obtain⟨aw,b9⟩:∃aw,aw=(w.alloc (.cells #[.int .u8 j.fo,.int .u8 j.op,.int .u8 j.lv,.int .u8 j.ea.tag,.int .u32 j.ea.to,.int .u8 j.eb.tag,.int .u32 j.eb.to,.int .u8 j.ec.tag,.int .u32 j.ec.to] 204)).alloc (.cells #[.int .u8 0,.int .u32 0] 52):=⟨_,rfl⟩
 have pj:aE aw w.heap.size j.cs:=by rw[b9];exact(aE.cf w j.cs 204).U ((ae.refl _).alloc _)
 have pr:aE aw (w.heap.size+1) [.int .u8 0,.int .u32 0]:=by rw[b9];have:=aE.cf (w.alloc (.cells #[.int .u8 j.fo,.int .u8 j.op,.int .u8 j.lv,.int .u8 j.ea.tag,.int .u32 j.ea.to,.int .u8 j.eb.tag,.int .u32 j.eb.to,.int .u8 j.ec.tag,.int .u32 j.ec.to] 204)) [.int .u8 0,.int .u32 0] 52;rw[ak]at this;exact this
 have e9:ae w aw:=by rw[b9];exact((ae.refl _).alloc _).alloc _
 have hr:w.heap.size+2≤aw.heap.size:=by rw[b9];simp
 rw[←b9]
 clear b9
 have hf:=pj.cell 0 (.int .u8 j.fo) rfl
 have hg:=pj.cell 1 (.int .u8 j.op) rfl
 have fj:=pj.cell 2 (.int .u8 j.lv) rfl
 have hh:=pj.cell 3 (.int .u8 j.ea.tag) rfl
 have hj:=pj.cell 4 (.int .u32 j.ea.to) rfl
 have hk:=pj.cell 5 (.int .u8 j.eb.tag) rfl
 have hl:=pj.cell 6 (.int .u32 j.eb.to) rfl
 have hn:=pj.cell 7 (.int .u8 j.ec.tag) rfl
 have ho:=pj.cell 8 (.int .u32 j.ec.to) rfl
 have g9:aw.heap.size≠w.heap.size:=by omega
 have ha:aw.heap.size+1≠w.heap.size:=by omega
 go_cut [7,8] (fun bi b9 a6=>∃B C,bi=.pointer (some ⟨B,0,none⟩)∧b9=.pointer (some ⟨C,0,none⟩)∧ae aw a6∧aE a6 B j.cs∧aE a6 C j.cs∧B≠C∧aw.heap.size≤B∧aw.heap.size≤C)
 case first=>
  go_region_held3 (fun u=>u.cell? ⟨w.heap.size,0,none⟩=some (.int .u8 j.fo)∧u.cell? ⟨w.heap.size,1,none⟩=some (.int .u8 j.op)∧u.cell? ⟨w.heap.size,2,none⟩=some (.int .u8 j.lv)∧u.cell? ⟨w.heap.size,3,none⟩=some (.int .u8 j.ea.tag)∧u.cell? ⟨w.heap.size,4,none⟩=some (.int .u32 j.ea.to)∧u.cell? ⟨w.heap.size,5,none⟩=some (.int .u8 j.eb.tag)∧u.cell? ⟨w.heap.size,6,none⟩=some (.int .u32 j.eb.to)∧u.cell? ⟨w.heap.size,7,none⟩=some (.int .u8 j.ec.tag)∧u.cell? ⟨w.heap.size,8,none⟩=some (.int .u32 j.ec.to)) (go_keep) (fail)
  all_goals(try go_wp2_with fail)
  all_goals go_meet
  all_goals refine⟨_,_,rfl,rfl,kp,?_,?_,(by omega),(by omega),(by omega)⟩
  all_goals refine aE.hJ ?_ ?_ ?_ ?_ ?_ ?_ ?_ ?_ ?_ (fun o=>?_)
  all_goals simp[go_sem]
 case rest=>
  obtain⟨B,C,rfl,rfl,c7,pl,ph,aw,gC,gP⟩:=hcut;have bi:B≠C:=aw;have bi:B≠w.heap.size:=by omega
  have bi:B≠ob:=by omega
  have bi:C≠ob:=by omega
  have bi:C≠w.heap.size:=by omega
  have cv:∀x,w.heap.size≤x→¬F x:=fun x al ah=>by have:=cD.out.a'.lt _ ah;omega
  have ds:=e9.trans c7
  have d0:cw F w wc ob sb ba bb M M 0 F b5 w.heap.size (w.heap.size+1) B C j j j:=
   ⟨ae.upd ds _,fun i hi=>.inl hi,cD.out.U ds,ck.refl cD.out.a'.wf,pj.U c7,pr.U c7,pl,ph,cv _ (aI _),cv _ (by omega),cv _ (by omega),cv _ (by omega),aI _,by omega,by omega,by omega,by omega,by omega,by omega,by omega,aw,by omega,⟨g4,gR,g3⟩⟩
  have s:=aa d0;have aw:w.heap.size+2≤B∧w.heap.size+2≤C:=by omega
  have fj:=d0.pj.cell 2 (.int .u8 j.lv) rfl;have gl:=pl.cell 2 (.int .u8 j.lv) rfl;have gu:=ph.cell 2 (.int .u8 j.lv) rfl;have gn:=pl.frz 2;have gx:=ph.frz 2;clear d0 pj pr pl ph e9 c7 cv ds hr g9 ha hf hg hh hj hk hl hn ho gC gP;go_wp2_with fail;have g6:IntKind.u8.wrap (j.lv+1)=j.lv+1:=by rw[IntKind.wrap_u8];omega
  go_cut [] (fun a6=>cw F w a6 ob sb ba bb M M 0 F b5 w.heap.size (w.heap.size+1) B C j (j.bw j.ea j.eb j.ec) (j.bw j.ea j.eb j.ec))
  case first=>
   go_region_held3 (fun u=>u.cell? ⟨w.heap.size,2,none⟩=some (.int .u8 j.lv)) (go_keep) (fail)
   all_goals(try go_wp2_with fail)
   all_goals go_meet
   all_goals first
    |exact((s.out.e0 (lo':=j.bw j.ea j.eb j.ec) (kr 2 (by decide)) rfl).e1 (hi':=j.bw j.ea j.eb j.ec) (kr 2 (by decide)) rfl).U (ae.refl _).drew
    |exact((s.out.e1 (hi':=j.bw j.ea j.eb j.ec) (kr 2 (by decide)) rfl).e0 (lo':=j.bw j.ea j.eb j.ec) (kr 2 (by decide)) rfl).U (ae.refl _).drew
  case rest=>
   have s:=aa hcut;have aw:=aa (aP.refl M);have aw:=hcut.ctx.nO;clear hcut gl gu gn gx fj g6;have bh:=s.out.ctx.c0;have bt:=s.out.pj.cell 0 (.int .u8 j.fo) rfl;have cx:=s.out.pj.cell 3 (.int .u8 j.ea.tag) rfl;have cy:=s.out.pj.cell 4 (.int .u32 j.ea.to) rfl;have W:=D.out.ext s.out.went.ext;have I:=s.out.ctx.a'.wf;have ay:=s.out.went.ext.n;have J:j.lv<M.n:=(by have:=b1.out;omega);have O:M.len<M.a7:=(by have am:=s.out.went.len;have Q:=s.out.went.a7;have a5:=b6.out;have bv:=ca.out;omega);have X:=W.a;have Y:=mW I X J O;have a2:=kV I X J Y;have a3:=mY I X J Y;obtain⟨a0,a1⟩:=mX I s.out.ctx.a'.cp (fun id r cl=>s.out.ctx.a'.b7 cl) (f:=j.fo) D.out.ok.a D.out.l0 J;have V:=fun(z:World) (ax:ae wc z)=>lA (s.out.ctx.a'.U ax) j.fo j.ea j.lv D.out.ok.a;rw[l9 D.out.f,Y]at V;obtain⟨a9,U⟩:∃E,E=dI M (ao M j.fo j.ea j.lv):=⟨_,rfl⟩;obtain⟨ab,al⟩:∃E,E=dh M (ao M j.fo j.ea j.lv):=⟨_,rfl⟩;obtain⟨ad,a4⟩:∃E,E=cF M j.fo (ao M j.fo j.ea j.lv):=⟨_,rfl⟩;rw[←U,←al,←a4]at V a2;rw[←U]at a3;rw[←al]at a0;rw[←a4]at a1;have bd:=aa V;have be:=aa a3;have dj:=aa a2;have f':=aa a0;have gc:=aa a1;clear V a3 a2 a0 a1 U al a4 Y X O J ay I W;go_wp2_with fail;go_cut [9] (fun cz a6=>∃er,cz=.int .u8 0∧cw F w a6 ob sb ba bb M a9 (0+1) er b5 w.heap.size (w.heap.size+1) B C j (j.bw ab j.eb j.ec) (j.bw ad j.eb j.ec))
   case first=>
    go_region_held3 (fun u=>u.cell? ⟨ob,0,none⟩=some (.pointer (some ⟨sb,0,none⟩))∧u.cell? ⟨w.heap.size,0,none⟩=some (.int .u8 j.fo)∧u.cell? ⟨w.heap.size,3,none⟩=some (.int .u8 j.ea.tag)∧u.cell? ⟨w.heap.size,4,none⟩=some (.int .u32 j.ea.to)) (go_keep) ((go_at_call 258;refine(bd.out _ kp).mono ?_;rintro eB fX ⟨rfl,cn,ch⟩;have t:=aa ((s.out.U kp).store be.out cn ch);have d9:=t.out.ctx.c0;have ea:=t.out.pj.cell 0 (.int .u8 j.fo) rfl;have eb:=t.out.pj.cell 3 (.int .u8 j.ea.tag) rfl;have ec:=t.out.pj.cell 4 (.int .u32 j.ea.to) rfl;have fl:=t.out.pl.cell 3 _ rfl;have fo:=t.out.pl.cell 4 _ rfl;have fp:=t.out.ph.cell 3 _ rfl;have fv:=t.out.ph.cell 4 _ rfl;have ed:=t.out.pl.frz 3;have ee:=t.out.pl.frz 4;have fz:=t.out.ph.frz 3;have fD:=t.out.ph.frz 4;have bc:=aa (t.out.gf 3 4 (by decide) (by decide) ab ad (lm:=(j.bw ⟨ab.tag,j.ea.to⟩ j.eb j.ec)) (lo':=(j.bw ab j.eb j.ec)) (hm:=(j.bw ⟨ad.tag,j.ea.to⟩ j.eb j.ec)) (hi':=(j.bw ad j.eb j.ec)) rfl rfl rfl rfl)))
    all_goals(try go_wp2_with fail)
    all_goals go_meet
    all_goals first|with_reducible exact⟨_,rfl,bc.out.1⟩|with_reducible exact⟨_,rfl,bc.out.2⟩
   case rest=>
    obtain⟨er,rfl,hcut⟩:=hcut;have s:=aa hcut;clear hcut bd be bh bt cx cy;have bh:=s.out.ctx.c0;have bt:=s.out.pj.cell 0 (.int .u8 j.fo) rfl;have cx:=s.out.pj.cell 5 (.int .u8 j.eb.tag) rfl;have cy:=s.out.pj.cell 6 (.int .u32 j.eb.to) rfl;have W:=D.out.ext s.out.went.ext;have I:=s.out.ctx.a'.wf;have ay:=s.out.went.ext.n;have J:j.lv<a9.n:=(by have:=b1.out;omega);have O:a9.len<a9.a7:=(by have am:=s.out.went.len;have Q:=s.out.went.a7;have a5:=b6.out;have bv:=ca.out;omega);have X:=W.b;have Y:=mW I X J O;have a2:=kV I X J Y;have a3:=mY I X J Y;obtain⟨a0,a1⟩:=mX I s.out.ctx.a'.cp (fun id r cl=>s.out.ctx.a'.b7 cl) (f:=j.fo) D.out.ok.b D.out.l0 J;have V:=fun(z:World) (ax:ae wc z)=>lA (s.out.ctx.a'.U ax) j.fo j.eb j.lv D.out.ok.b;rw[l9 D.out.f,Y]at V;obtain⟨a',U⟩:∃E,E=dI a9 (ao a9 j.fo j.eb j.lv):=⟨_,rfl⟩;obtain⟨a7,al⟩:∃E,E=dh a9 (ao a9 j.fo j.eb j.lv):=⟨_,rfl⟩;obtain⟨a8,a4⟩:∃E,E=cF a9 j.fo (ao a9 j.fo j.eb j.lv):=⟨_,rfl⟩;rw[←U,←al,←a4]at V a2;rw[←U]at a3;rw[←al]at a0;rw[←a4]at a1;have bd:=aa V;have be:=aa a3;have c0:=aa a2;have ga:=aa a0;have gf:=aa a1;clear V a3 a2 a0 a1 U al a4 Y X O J ay I W;go_wp2_with fail;go_cut [9] (fun cz a6=>∃et,cz=.int .u8 0∧cw F w a6 ob sb ba bb M a' (0+1+1) et b5 w.heap.size (w.heap.size+1) B C j (j.bw ab a7 j.ec) (j.bw ad a8 j.ec))
    case first=>
     go_region_held3 (fun u=>u.cell? ⟨ob,0,none⟩=some (.pointer (some ⟨sb,0,none⟩))∧u.cell? ⟨w.heap.size,0,none⟩=some (.int .u8 j.fo)∧u.cell? ⟨w.heap.size,5,none⟩=some (.int .u8 j.eb.tag)∧u.cell? ⟨w.heap.size,6,none⟩=some (.int .u32 j.eb.to)) (go_keep) ((go_at_call 258;refine(bd.out _ kp).mono ?_;rintro eB fX ⟨rfl,cn,ch⟩;have t:=aa ((s.out.U kp).store be.out cn ch);have d9:=t.out.ctx.c0;have ea:=t.out.pj.cell 0 (.int .u8 j.fo) rfl;have eb:=t.out.pj.cell 5 (.int .u8 j.eb.tag) rfl;have ec:=t.out.pj.cell 6 (.int .u32 j.eb.to) rfl;have fl:=t.out.pl.cell 5 _ rfl;have fo:=t.out.pl.cell 6 _ rfl;have fp:=t.out.ph.cell 5 _ rfl;have fv:=t.out.ph.cell 6 _ rfl;have ed:=t.out.pl.frz 5;have ee:=t.out.pl.frz 6;have fz:=t.out.ph.frz 5;have fD:=t.out.ph.frz 6;have bc:=aa (t.out.gf 5 6 (by decide) (by decide) a7 a8 (lm:=(j.bw ab ⟨a7.tag,j.eb.to⟩ j.ec)) (lo':=(j.bw ab a7 j.ec)) (hm:=(j.bw ad ⟨a8.tag,j.eb.to⟩ j.ec)) (hi':=(j.bw ad a8 j.ec)) rfl rfl rfl rfl)))
     all_goals(try go_wp2_with fail)
     all_goals go_meet
     all_goals first|with_reducible exact⟨_,rfl,bc.out.1⟩|with_reducible exact⟨_,rfl,bc.out.2⟩
    case rest=>
     obtain⟨et,rfl,hcut⟩:=hcut;have s:=aa hcut;clear hcut bd be bh bt cx cy;have bh:=s.out.ctx.c0;have bt:=s.out.pj.cell 0 (.int .u8 j.fo) rfl;have cx:=s.out.pj.cell 7 (.int .u8 j.ec.tag) rfl;have cy:=s.out.pj.cell 8 (.int .u32 j.ec.to) rfl;have W:=D.out.ext s.out.went.ext;have I:=s.out.ctx.a'.wf;have ay:=s.out.went.ext.n;have J:j.lv<a'.n:=(by have:=b1.out;omega);have O:a'.len<a'.a7:=(by have am:=s.out.went.len;have Q:=s.out.went.a7;have a5:=b6.out;have bv:=ca.out;omega);have X:=W.c;have Y:=mW I X J O;have a2:=kV I X J Y;have a3:=mY I X J Y;obtain⟨a0,a1⟩:=mX I s.out.ctx.a'.cp (fun id r cl=>s.out.ctx.a'.b7 cl) (f:=j.fo) D.out.ok.c D.out.l0 J;have V:=fun(z:World) (ax:ae wc z)=>lA (s.out.ctx.a'.U ax) j.fo j.ec j.lv D.out.ok.c;rw[l9 D.out.f,Y]at V;obtain⟨b4,U⟩:∃E,E=dI a' (ao a' j.fo j.ec j.lv):=⟨_,rfl⟩;obtain⟨bw,al⟩:∃E,E=dh a' (ao a' j.fo j.ec j.lv):=⟨_,rfl⟩;obtain⟨b0,a4⟩:∃E,E=cF a' j.fo (ao a' j.fo j.ec j.lv):=⟨_,rfl⟩;rw[←U,←al,←a4]at V a2;rw[←U]at a3;rw[←al]at a0;rw[←a4]at a1;have bd:=aa V;have be:=aa a3;have ce:=aa a2;have gb:=aa a0;have gh:=aa a1;clear V a3 a2 a0 a1 U al a4 Y X O J ay I W;go_wp2_with fail;go_cut [9] (fun cz a6=>∃c',cz=.int .u8 0∧cw F w a6 ob sb ba bb M b4 (0+1+1+1) c' b5 w.heap.size (w.heap.size+1) B C j (j.bw ab a7 bw) (j.bw ad a8 b0))
     case first=>
      go_region_held3 (fun u=>u.cell? ⟨ob,0,none⟩=some (.pointer (some ⟨sb,0,none⟩))∧u.cell? ⟨w.heap.size,0,none⟩=some (.int .u8 j.fo)∧u.cell? ⟨w.heap.size,7,none⟩=some (.int .u8 j.ec.tag)∧u.cell? ⟨w.heap.size,8,none⟩=some (.int .u32 j.ec.to)) (go_keep) ((go_at_call 258;refine(bd.out _ kp).mono ?_;rintro eB fX ⟨rfl,cn,ch⟩;have t:=aa ((s.out.U kp).store be.out cn ch);have d9:=t.out.ctx.c0;have ea:=t.out.pj.cell 0 (.int .u8 j.fo) rfl;have eb:=t.out.pj.cell 7 (.int .u8 j.ec.tag) rfl;have ec:=t.out.pj.cell 8 (.int .u32 j.ec.to) rfl;have fl:=t.out.pl.cell 7 _ rfl;have fo:=t.out.pl.cell 8 _ rfl;have fp:=t.out.ph.cell 7 _ rfl;have fv:=t.out.ph.cell 8 _ rfl;have ed:=t.out.pl.frz 7;have ee:=t.out.pl.frz 8;have fz:=t.out.ph.frz 7;have fD:=t.out.ph.frz 8;have bc:=aa (t.out.gf 7 8 (by decide) (by decide) bw b0 (lm:=(j.bw ab a7 ⟨bw.tag,j.ec.to⟩)) (lo':=(j.bw ab a7 bw)) (hm:=(j.bw ad a8 ⟨b0.tag,j.ec.to⟩)) (hi':=(j.bw ad a8 b0)) rfl rfl rfl rfl)))
      all_goals(try go_wp2_with fail)
      all_goals go_meet
      all_goals first|with_reducible exact⟨_,rfl,bc.out.1⟩|with_reducible exact⟨_,rfl,bc.out.2⟩
     case rest=>
      obtain⟨c',rfl,hcut⟩:=hcut;have s:=aa hcut;clear hcut bd be bh bt cx cy;have en:=aa ce.out.ext;have em:=aa (c0.out.ext.trans ce.out.ext);have W:=nW D.out b1.out s.out.went.ext (em.out.leads dj.out.fi) (en.out.leads c0.out.fi) ce.out.fi f'.out ga.out gb.out db.out;have ay:b4.n-(j.bw ab a7 bw).lv=(k:Int):=(by have am:=s.out.went.ext.n;have Q:=ez.out;show b4.n-(j.lv+1)=_;push_cast at Q;omega);have O:b4.len+aX k≤b4.a7:=(by have am:=s.out.went.len;have Q:=s.out.went.a7;have a5:=b6.out;have bv:=ca.out;omega);have bn:b4.a7<1048576:=(by have Q:=s.out.went.a7;have a5:=eA.out;omega);have cb:=aa (fun(z:World) (ax:ae wc z)=>ev.out c' z b4 b5 (j.bw ab a7 bw) (s.out.ctx.U ax) W ay O bn);clear W ay O bn;have d3:=s.out.pl.cell 0 (.int .u8 j.fo) rfl;have am:=s.out.pl.cell 1 (.int .u8 j.op) rfl;have Q:=s.out.pl.cell 2 (.int .u8 (j.lv+1)) rfl;have a5:=s.out.pl.cell 3 (.int .u8 ab.tag) rfl;have bv:=s.out.pl.cell 4 (.int .u32 ab.to) rfl;have d5:=s.out.pl.cell 5 (.int .u8 a7.tag) rfl;have d6:=s.out.pl.cell 6 (.int .u32 a7.to) rfl;have d7:=s.out.pl.cell 7 (.int .u8 bw.tag) rfl;have d8:=s.out.pl.cell 8 (.int .u32 bw.to) rfl;go_wp2_with fail;refine(cb.out _ kp).mono ?_;rintro t Z ⟨b7,x,da,gB,rfl,X,V,ab,Y,t⟩;have N:=aa (s.out.done V ab Y t);have cc:=aa X;have cf:=aa V;have g7:=cc.out.ok;have f4:=aa t;clear X V ab Y t cb;clear d3 am Q a5 bv d5 d6 d7 d8;have d3:=N.out.ph.cell 0 (.int .u8 j.fo) rfl;have am:=N.out.ph.cell 1 (.int .u8 j.op) rfl;have Q:=N.out.ph.cell 2 (.int .u8 (j.lv+1)) rfl;have a5:=N.out.ph.cell 3 (.int .u8 ad.tag) rfl;have bv:=N.out.ph.cell 4 (.int .u32 ad.to) rfl;have d5:=N.out.ph.cell 5 (.int .u8 a8.tag) rfl;have d6:=N.out.ph.cell 6 (.int .u32 a8.to) rfl;have d7:=N.out.ph.cell 7 (.int .u8 b0.tag) rfl;have d8:=N.out.ph.cell 8 (.int .u32 b0.to) rfl;have gy:=N.out.ph.lt;have ht:Z.heap.size≠C:=(by omega);have hu:C≠Z.heap.size:=(by omega);have W:=nW D.out b1.out N.out.went.ext ((em.out.trans cf.out.ext).leads dj.out.fg) ((en.out.trans cf.out.ext).leads c0.out.fg) (cf.out.ext.leads ce.out.fg) gc.out gf.out gh.out db.out;have ay:b7.n-(j.bw ad a8 b0).lv=(k:Int):=(by have am:=N.out.went.ext.n;have Q:=ez.out;show b7.n-(j.lv+1)=_;push_cast at Q;omega);have O:b7.len+aX k≤b7.a7:=(by have am:=N.out.went.len;have Q:=N.out.went.a7;have a5:=b6.out;have bv:=ca.out;omega);have bn:b7.a7<1048576:=(by have Q:=N.out.went.a7;have a5:=eA.out;omega);have cb:=aa (fun(z:World) (ax:ae Z z)=>ev.out da z b7 gB (j.bw ad a8 b0) (N.out.ctx.U ax) W ay O bn);obtain⟨⟨s,t⟩,V,X⟩:=g7;clear W ay O bn;go_wp2_with fail;refine(cb.out _ kp).mono ?_;rintro s av ⟨T,y,cB,hy,rfl,eR,el,co,c5,c2⟩;have cd:=aa eR;have dk:=aa el;have g8:=cd.out.ok;have b2:=aa ((N.out.U ((ae.refl Z).alloc (.cells #[.int .u8 x.tag,.int .u32 x.to] 52))).done el co c5 c2);have f3:=co.size;simp only[ak]at f3 c5;have fb:¬da Z.heap.size:=fun ah=>(by have:=f4.out.a'.lt _ ah;omega);have d2:¬eL da ba bb Z.heap.size:=fun ah=>(by have c6:=N.out.upd.size;rcases ah with ah|ah|ah;exact fb ah;omega;omega);have fg:¬cB Z.heap.size:=fun ah=>(by rcases c5 _ ah with q|q;exact fb q;omega);have f0:=co.cellAt (b:=Z.heap.size) (o:=0) (v:=.int .u8 x.tag) d2 (by simp[go_sem]);have f1:=co.cellAt (b:=Z.heap.size) (o:=1) (v:=.int .u32 x.to) d2 (by simp[go_sem]);have b8:=c2;have fa:=c2.a'.lt;have f8:=aa fa;obtain⟨⟨s,t⟩,V,W⟩:=g8;clear eR el co c5 c2 cb d3 am Q a5 bv d5 d6 d7 d8 fa gy ht hu d2;have I:=b8.a'.wf;have J:j.lv<T.n:=(by have am:=b2.out.went.ext.n;have Q:=b1.out;omega);have O:T.len<T.a7:=(by have am:=b2.out.went.len;have Q:=b2.out.went.a7;have a5:=b6.out;omega);have eS:T.leads j.fo x (j.lv+1)=true:=dk.out.ext.leads cc.out.lead;have e0:T.leads j.fo y (j.lv+1)=true:=cd.out.lead;have e6:=D.out.l0;have g2:=db.out;obtain⟨e4,c4⟩:=vu I D.out.f D.out.l0 J eS e0 O;have dB:=mq (l:=j.lv) I b8.a'.cp cc.out.ok cd.out.ok e6 (by omega) D.out.f;have d1:=vt c4;have cj:=fun(z:World) (ax:ae av z)=>lz (b8.a'.U ax) j.fo j.lv x y cc.out.ok cd.out.ok;rw[l7 D.out.f,e4]at cj;change ∀z,ae av z→Calls _ _ _ z fun r u=>r=.returned (.tuple #[.agg #[.int .u8 (bS j.fo T (aT j.fo T j.lv x y)).tag,.int .u32 (bS j.fo T (aT j.fo T j.lv x y)).to],.int .u8 0])∧af cB z u∧aq (aH cB z u) u sb (bT T (aT j.fo T j.lv x y))at cj;obtain⟨s,U⟩:∃E,E=bT T (aT j.fo T j.lv x y):=⟨_,rfl⟩;obtain⟨f2,c6⟩:∃E,E=bS j.fo T (aT j.fo T j.lv x y):=⟨_,rfl⟩;rw[←U,←c6]at cj c4;rw[←U]at d1;rw[←c6]at dB;have e5:=tS cD.out.a'.wf D.out b1.out dj.out c0.out ce.out cf.out.ext cf.out.wf cc.out dk.out.ext dk.out.wf cd.out c4 dB;have e3:0+1+1+1+aX k+aX k+1≤aX (k+1):=(by have q:=f5.out;omega);have f9:=aa cj;have gj:=aa d1;have f7:=aa e5;have f6:=aa e3;have bh:=b8.c0;have bt:=b2.out.pj.cell 0 (.int .u8 j.fo) rfl;have fi:¬cB av.heap.size:=fun ah=>(by have:=f8.out _ ah;omega);have hc:=b2.out.pr.lt;have hb:=b2.out.pj.lt;have hd:=b8.lt.1;clear cj d1 e5 e3 c4 dB U c6 e4 eS e0 O J I e6 g2 b8;go_wp2_with fail;obtain⟨dl,ci⟩:∃z,z=av.alloc (.cells #[.int .u8 y.tag,.int .u32 y.to] 52):=⟨_,rfl⟩;have c8:ae av dl:=(by rw[ci];exact(ae.refl _).alloc _);have ed:dl.cell? ⟨av.heap.size,0,none⟩=some (.int .u8 y.tag):=(by rw[ci];simp[go_sem]);have ee:dl.cell? ⟨av.heap.size,1,none⟩=some (.int .u32 y.to):=(by rw[ci];simp[go_sem]);have s:w.heap.size+1≠ob:=(by omega);have s:w.heap.size+1≠Z.heap.size:=(by have:=N.out.pr.lt;omega);have s:w.heap.size+1≠av.heap.size:=(by omega);replace bh:=c8.cell bh;replace bt:=c8.cell bt;replace f0:=c8.cell f0;replace f1:=c8.cell f1;rw[←ci];clear ci hc hb hd f3;go_region_held3 (fun u=>u.cell? ⟨ob,0,none⟩=some (.pointer (some ⟨sb,0,none⟩))∧u.cell? ⟨w.heap.size,0,none⟩=some (.int .u8 j.fo)∧u.cell? ⟨Z.heap.size,0,none⟩=some (.int .u8 x.tag)∧u.cell? ⟨Z.heap.size,1,none⟩=some (.int .u32 x.to)∧u.cell? ⟨av.heap.size,0,none⟩=some (.int .u8 y.tag)∧u.cell? ⟨av.heap.size,1,none⟩=some (.int .u32 y.to)) (go_keep) ((go_at_call 71;refine(f9.out _ kp).mono ?_;rintro s s ⟨rfl,cp,s⟩;have b3:=aa ((b2.out.U kp).store gj.out cp s);have d9:=b3.out.ctx.c0;have ea:=b3.out.pj.cell 0 (.int .u8 j.fo) rfl;have eb:=cp.cellAt (b:=Z.heap.size) (o:=0) (v:=.int .u8 x.tag) fg (by go_keep);have ec:=cp.cellAt (b:=Z.heap.size) (o:=1) (v:=.int .u32 x.to) fg (by go_keep);have s:=cp.cellAt (b:=av.heap.size) (o:=0) (v:=.int .u8 y.tag) fi (by go_keep);have s:=cp.cellAt (b:=av.heap.size) (o:=1) (v:=.int .u32 y.to) fi (by go_keep);have hp:=b3.out.pr.cell 0 (.int .u8 0) rfl;have hq:=b3.out.pr.cell 1 (.int .u32 0) rfl;have s:=b3.out.pr.frz 0;have s:=b3.out.pr.frz 1))
      all_goals(try go_wp2_with fail)
      all_goals refine an (v:=.tuple #[.agg #[.int .u8 f2.tag,.int .u32 f2.to],.int .u8 0]) (by simp[results,Tryz.results242,go_sem,hp,hq]) rfl (b3.out.out ?_ f7.out f6.out)
      all_goals(repeat (first|with_reducible exact af.refl _ _|refine fc ?_ _ _|with_reducible refine af.alloc ?_ _|with_reducible refine af.drew ?_))
end Go.Proofs.YtafkamlhimkbmaaGreat
