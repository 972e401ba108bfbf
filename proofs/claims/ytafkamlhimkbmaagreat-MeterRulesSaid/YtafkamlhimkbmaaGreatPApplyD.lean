/-
  The walk of apply.Ops.do.
-/
import Derived.Test.YtafkamlhimkbmaaGreatPApplyS
namespace Go.Proofs.YtafkamlhimkbmaaGreat
set_option maxRecDepth 1000000
set_option maxHeartbeats 8000000
set_option linter.unusedSimpArgs false
set_option linter.unusedVariables false
open Go.RowKit
structure dK (F:Nat→Prop)(w W:World)(ob sb kb lb:Nat)(M0 M:St)(c:Int)(F1:Nat→Prop)(en:Nat→Option (aD×Edge))(P R:Nat)(j:aD):Prop where
 upd:af (eL F kb lb) w W
 sub:∀i,F1 i→F i∨w.heap.size≤i
 ctx:bj F1 W ob sb kb lb M en
 went:ck M0 M c
 pj:aE W P j.cs
 pr:aE W R [.int .u8 0,.int .u32 0]
 nP:¬F1 P
 nR:¬F1 R
 gP:w.heap.size≤P
 gR:w.heap.size≤R
 cy:ob<w.heap.size∧kb<w.heap.size∧lb<w.heap.size
section
variable {F F1 F2:Nat→Prop}{w W W2 w2:World}{ob sb kb lb:Nat}{M0 M M2:St}{c d:Int}{en en2:Nat→Option (aD×Edge)}{P R:Nat}{j:aD}
theorem dK.U (h:dK F w W ob sb kb lb M0 M c F1 en P R j)(s:ae W W2):dK F w W2 ob sb kb lb M0 M c F1 en P R j:=
 { h with upd:=h.upd.bd (ae.upd s _),ctx:=h.ctx.U s,pj:=h.pj.U s,pr:=h.pr.U s }
theorem dK.done (h:dK F w W ob sb kb lb M0 M c F1 en P R j)(D:ck M M2 d)(u:af (eL F1 kb lb) W W2)(hs:∀i,F2 i→F1 i∨W.heap.size≤i)(t:bj F2 W2 ob sb kb lb M2 en2):dK F w W2 ob sb kb lb M0 M2 (c+d) F2 en2 P R j:=by
 have E:=h.upd.size;obtain⟨E,I,J⟩:=h.cy
 have no:∀x,¬F1 x→w.heap.size≤x→¬eL F1 kb lb x:=fun x t E s=>by
  rcases s with s|s|s;·exact t s
  ·omega
  ·omega
 have z:∀x,¬F1 x→x<W.heap.size→¬F2 x:=fun x t E s=>by
  rcases hs _ s with q|q;·exact t q
  ·omega
 exact { h with
  upd:=h.upd.da u (fun i hi s=>by
   rcases s with s|s|s
   ·rcases h.sub i s with q|q;·exact .inl q
    ·omega
   ·exact .inr (.inl s)
   ·exact .inr (.inr s))
  sub:=fun i hi=>by
   rcases hs i hi with q|q;·exact h.sub i q
   ·exact .inr (by omega)
  ctx:=t
  went:=h.went.trans D
  pj:=h.pj.upd u (no _ h.nP h.gP)
  pr:=h.pr.upd u (no _ h.nR h.gR)
  nP:=z _ h.nP h.pj.lt
  nR:=z _ h.nR h.pr.lt }
theorem dK.c7 {G:Nat→Prop}(h:dK F w W ob sb kb lb M0 M c F1 en P R j)(t:af G W W2)(s:∀i,G i→i=kb∨i=lb)(u:bX W2 kb lb en2)(z:gA M en2):dK F w W2 ob sb kb lb M0 M (c+0) F1 en2 P R j:=
 h.done (ck.refl h.ctx.a'.wf) (t.mono (fun i _ hi=>.inr (s i hi))) (fun i hi=>.inl hi) (h.ctx.c7 t s u z)
theorem dK.hd (h:dK F w W ob sb kb lb M0 M c F1 en P R j){D J:World}{s:Nat}(E:ae W D)(Q:af (fun i=>i=kb) D w2)(O:bX w2 kb lb en)(u:af (fun i=>i=s) w2 J)(T:W.heap.size≤s∧(s<D.heap.size∨w2.heap.size≤s)):dK F w J ob sb kb lb M0 M c F1 en P R j∧s≠R:=by
 have t:=(h.U E).c7 Q (fun i hi=>.inl hi) O h.ctx.kept;rw[Int.add_zero]at t;have D:=h.upd.size;obtain⟨D,J,O⟩:=h.cy;have I:∀x,x<W.heap.size→x≠s:=fun x D=>by omega
 have N:¬F1 s:=fun z=>by have:=h.ctx.a'.lt _ z;omega
 exact⟨{ t with
  upd:=t.upd.da u (fun i hi z=>by omega)
  ctx:=t.ctx.keep u (fun k E z=>by subst z;exact N E) (by omega) (by omega) (by omega)
  pj:=t.pj.upd u (I _ h.pj.lt)
  pr:=t.pr.upd u (I _ h.pr.lt) },(I _ h.pr.lt).symm⟩
theorem dK.out (h:dK F w W ob sb kb lb M0 M c F1 en P R j){k:Nat}(u:af (fun i=>i=R) W w2){s:Edge}(g:bB M j s)(z:c≤aX k):fk F w ob sb kb lb M0 j k (.returned (.tuple #[.agg #[.int .u8 s.tag,.int .u32 s.to],.int .u8 0])) w2:=by
 obtain⟨E,I,J⟩:=h.cy;have E:=h.gR;exact⟨M,s,F1,en,rfl,g,h.went.le z,h.upd.da u (fun i hi t=>by omega),h.sub,h.ctx.keep u (fun k D t=>by subst t;exact h.nR D) (by omega) (by omega) (by omega)⟩
end
theorem nA {F:Nat→Prop}{w:World}{ob sb kb lb:Nat}{M:St}{en:Nat→Option (aD×Edge)}(k:Nat)(a3:bj F w ob sb kb lb M en)(j:aD)(ay:dv M j)(d0:M.n-j.lv=(k:Int))
  (d2:k≠0→∀(F':Nat→Prop) (W:World) (e2:Nat→Option (aD×Edge)),bj F' W ob sb kb lb M e2→Calls Tryz.prog 242 #[.pointer (some ⟨ob,0,none⟩),.agg #[.int .u8 j.fo,.int .u8 j.op,.int .u8 j.lv,.int .u8 j.ea.tag,.int .u32 j.ea.to,.int .u8 j.eb.tag,.int .u32 j.eb.to,.int .u8 j.ec.tag,.int .u32 j.ec.to]] W (fk F' W ob sb kb lb M j k)) :
  Calls Tryz.prog 191 #[.pointer (some ⟨ob,0,none⟩),.agg #[.int .u8 j.fo,.int .u8 j.op,.int .u8 j.lv,.int .u8 j.ea.tag,.int .u32 j.ea.to,.int .u8 j.eb.tag,.int .u32 j.eb.to,.int .u8 j.ec.tag,.int .u32 j.ec.to]] w (fk F w ob sb kb lb M j k):=by
 have e8:=a3.a'.wf.b0
 have e7:=a3.a'.wf.n0
 have dB:=lD k
 obtain⟨e2,fp⟩:=ay.ok.f
 obtain⟨e2,fp⟩:=ay.ok.o
 have fb:=ay.l0
 have fg:j.lv≤16:=by omega
 obtain⟨⟨e2,fp⟩,fv,fz⟩:=ay.ok.a
 obtain⟨⟨e2,fp⟩,fv,fz⟩:=ay.ok.b
 obtain⟨⟨e2,fp⟩,fv,fz⟩:=ay.ok.c
 have bn:=aa a3
 have am:=aa ay
 have eA:=aa d0
 have e0:=aa d2
 have b4:=aa dB
 obtain⟨e9,e5,e6⟩:=a3.lt
 have hand:bits BinOp.and IntKind.u8 j.op 1=if j.op=15 then 1 else 0:=by
  rcases ay.op with q|q|q<;>rw[q]<;>decide +kernel
 clear a3 ay d0 d2 e8 e7 dB
 go_enter Tryz.func191,Tryz.ntmps191
 go_upto_region 1 with fail
 obtain⟨Q,ba⟩:∃Q,Q=(w.alloc (.cells #[.int .u8 j.fo,.int .u8 j.op,.int .u8 j.lv,.int .u8 j.ea.tag,.int .u32 j.ea.to,.int .u8 j.eb.tag,.int .u32 j.eb.to,.int .u8 j.ec.tag,.int .u32 j.ec.to] 204)).alloc (.cells #[.int .u8 0,.int .u32 0] 52):=⟨_,rfl⟩
 have pj:aE Q w.heap.size j.cs:=by rw[ba];exact(aE.cf w j.cs 204).U ((ae.refl _).alloc _)
 have pr:aE Q (w.heap.size+1) [.int .u8 0,.int .u32 0]:=by rw[ba];have:=aE.cf (w.alloc (.cells #[.int .u8 j.fo,.int .u8 j.op,.int .u8 j.lv,.int .u8 j.ea.tag,.int .u32 j.ea.to,.int .u8 j.eb.tag,.int .u32 j.eb.to,.int .u8 j.ec.tag,.int .u32 j.ec.to] 204)) [.int .u8 0,.int .u32 0] 52;rw[ak]at this;exact this
 have d7:ae w Q:=by rw[ba];exact((ae.refl _).alloc _).alloc _
 have ay:w.heap.size+2≤Q.heap.size:=by rw[ba];simp
 rw[←ba]
 clear ba
 have ay:∀x,w.heap.size≤x→¬F x:=fun x ba b1=>by have:=bn.out.a'.lt _ b1;omega
 have N:dK F w Q ob sb kb lb M M 0 F en w.heap.size (w.heap.size+1) j:=
  ⟨ae.upd d7 _,fun i hi=>.inl hi,bn.out.U d7,ck.refl bn.out.a'.wf,pj,pr,ay _ (aI _),ay _ (by omega),aI _,by omega,⟨e9,e5,e6⟩⟩
 have s:=aa N
 clear N ay
 have O:=pj.cell 1 (.int .u8 j.op) rfl
 have V:=pj.cell 4 (.int .u32 j.ea.to) rfl
 have X:=pj.cell 6 (.int .u32 j.eb.to) rfl
 have Y:=pj.cell 8 (.int .u32 j.ec.to) rfl
 have Z:=pr.cell 0 (.int .u8 0) rfl
 have ab:=pr.cell 1 (.int .u32 0) rfl
 have bh:=pr.frz 0
 have bi:=pr.frz 1
 clear pj pr
 by_cases he:j.op≠15∧j.ea.to=0∧j.eb.to=0∧j.ec.to=0
 ·obtain⟨U,J,ax,b6⟩:=he;rw[ag U]at hand;have db:(j.ea.to==0)=true:=by simp[J]
  have dj:(j.eb.to==0)=true:=by simp[ax]
  have a':(j.ec.to==0)=true:=by simp[b6]
  have al:=aa (tR bn.out.a'.wf am.out U J ax);clear U J ax b6;go_wp2_with fail;refine an (v:=.tuple #[.agg #[.int .u8 (⟨0,0⟩:Edge).tag,.int .u32 (⟨0,0⟩:Edge).to],.int .u8 0]) (by simp[results,Tryz.results191,go_sem,Z,ab]) rfl (s.out.out ?_ al.out b4.out)
  (repeat (first|with_reducible exact af.refl _ _|refine fc ?_ _ _))
 ·go_cut [31] (fun ay ah=>ay=.bool false∧Q=ah)
  case first=>
   by_cases U:j.op=15
   ·rw[ai U]at hand;clear U he;go_wp2_with fail;go_meet;exact⟨rfl,rfl⟩
   ·rw[ag U]at hand;by_cases J:j.ea.to=0
    ·have db:(j.ea.to==0)=true:=(by simp[J]);by_cases ax:j.eb.to=0
     ·have dj:(j.eb.to==0)=true:=(by simp[ax]);have a':(j.ec.to==0)=false:=(by simp;exact fun h=>he ⟨U,J,ax,h⟩);clear U J ax he;go_wp2_with fail;go_meet;exact⟨rfl,rfl⟩
     ·have dj:(j.eb.to==0)=false:=(by simp[ax]);clear U J ax he;go_wp2_with fail;go_meet;exact⟨rfl,rfl⟩
    ·have db:(j.ea.to==0)=false:=(by simp[J]);clear U J he;go_wp2_with fail;go_meet;exact⟨rfl,rfl⟩
  case rest=>
   obtain⟨rfl,rfl⟩:=hcut;clear he hand;have cl:=s.out.ctx.c0;have a9:=s.out.ctx.c1;have av:=s.out.pj.cell 2 (.int .u8 j.lv) rfl;obtain⟨n,b7⟩:∃n,n=M.n:=⟨_,rfl⟩;have ci:=aa (fun(W:World) (E:ae Q W)=>cX (s.out.ctx.a'.U E));rw[←b7]at ci;have b3:=au.cell cl;have a7:=au.cell av;by_cases bc:j.lv=n
   ·have e3:(j.lv==n)=true:=(by simp[bc]);have eB:=aa (bc.trans b7);clear bc b7;go_wp2_with fail;refine eJ (Q) (by kernel_rfl) (by kernel_rfl) kp ?_;(repeat (go_big_quiet_step ((first|(go_at_call 48;with_reducible refine Calls.c6 (ci.out _ (au.keep _)))))));refine wpQuiet_nil ?_;rintro D ⟨⟨_,bb⟩,rfl⟩;try dsimp only
    have s:=aa (s.out.U bb);clear b3 a7 O V X Y Z ab bh bi;go_wp2_with fail
    have ex:∀e:Edge,∃(U:Bool) (A:Int),kR e=A∧decide (e.to≠0)=U∧(A=0∧U=false∨A=1∧U=true):=fun e=>by
     unfold kR;by_cases b9:e.to=0;·exact⟨false,0,by rw[ai b9],by simp[b9],.inl ⟨rfl,rfl⟩⟩
     ·exact⟨true,1,by rw[ag b9],by simp[b9],.inr ⟨rfl,rfl⟩⟩
    have co:=fun(W:World)=>mQ j.ea am.out.ok.a W;have cp:=fun(W:World)=>mQ j.eb am.out.ok.b W;have cv:=fun(W:World)=>mQ j.ec am.out.ok.c W;have cn:=fun v=>tQ (v:=v) bn.out.a'.wf am.out eB.out;obtain⟨el,A,dk,d3,a0⟩:=ex j.ea;obtain⟨em,B,dl,d5,a1⟩:=ex j.eb;obtain⟨ax,C,a3,U,a2⟩:=ex j.ec;rw[dk]at co;rw[dl]at cp;rw[a3]at cv;rw[d3,d5]at cn;have c8:=aa co;have c':=aa cp;have da:=aa cv;have al:=aa cn;have ch:=aa (And.intro a0 (And.intro a1 a2));clear co cp cv cn dk dl a3 d3 d5 U ex a0 a1 a2;have O:=s.out.pj.cell 1 (.int .u8 j.op) rfl;have a4:=s.out.pj.cell 3 (.int .u8 j.ea.tag) rfl;have V:=s.out.pj.cell 4 (.int .u32 j.ea.to) rfl;have a5:=s.out.pj.cell 5 (.int .u8 j.eb.tag) rfl;have X:=s.out.pj.cell 6 (.int .u32 j.eb.to) rfl;have a6:=s.out.pj.cell 7 (.int .u8 j.ec.tag) rfl;have Y:=s.out.pj.cell 8 (.int .u32 j.ec.to) rfl;have a7:=au.cell O;have ca:=au.cell a4;have cb:=au.cell V;have cc:=au.cell a5;have cd:=au.cell X;have ce:=au.cell a6;have cf:=au.cell Y;go_cut [59] (fun U ah=>U=.bool (cE j.op el em)∧ae D ah)
    case first=>
     have q:=am.out.op;obtain⟨a0,a1,a2⟩:=ch.out;obtain⟨o,bd⟩:∃o,j.op=o:=⟨_,rfl⟩;rw[bd]at a7 q;have b5:=aa bd;clear bd O ch;rcases q with rfl|rfl|rfl<;>rcases a0 with⟨rfl,rfl⟩|⟨rfl,rfl⟩<;>rcases a1 with⟨rfl,rfl⟩|⟨rfl,rfl⟩<;>rcases a2 with⟨rfl,rfl⟩|⟨rfl,rfl⟩
     all_goals
      refine eJ (D) (by kernel_rfl) (by kernel_rfl) kp ?_;(repeat (go_big_quiet_step ((first|(go_at_call 240;with_reducible refine Calls.b' (c8.out _))|(go_at_call 240;with_reducible refine Calls.b' (c'.out _))|(go_at_call 240;with_reducible refine Calls.b' (da.out _))))));refine wpQuiet_nil ?_;rintro D ⟨⟨_,bb⟩,rfl⟩;try dsimp only
      go_wp2_with fail
      go_meet
      exact⟨by rw[b5.out];first|rfl|decide +kernel,bb⟩
    case rest=>
     obtain⟨rfl,U⟩:=hcut;have s:=aa (s.out.U U);clear a7 ca cb cc cd ce cf O a4 V a5 X a6 Y U bb c8 c' da ch cl a9 av;have be:=s.out.pj.cell 0 (.int .u8 j.fo) rfl;have av:=s.out.pj.cell 2 (.int .u8 j.lv) rfl;have Z:=s.out.pr.cell 0 (.int .u8 0) rfl;have ab:=s.out.pr.cell 1 (.int .u32 0) rfl;have bh:=s.out.pr.frz 0;have bi:=s.out.pr.frz 1;obtain⟨b,ds⟩:∃b,b=cE j.op el em:=⟨_,rfl⟩;rw[←ds]at al ⊢;clear ds;cases b with
     |true=>
      have b5:=aa (fun(W:World)=>oY j.fo j.lv W (by have:=am.out.f;unfold bZ;simp;omega) fb fg);have cz:bB M j (eV j.fo j.lv):=al.out (eV j.fo j.lv) (ai rfl).symm;obtain⟨o,bd⟩:∃o,o=eV j.fo j.lv:=⟨_,rfl⟩;rw[←bd]at b5 cz;have ez:=aa cz;clear bd cz al;go_wp2_with fail;refine(b5.out _).mono ?_;rintro b6 ad ⟨rfl,U⟩;have s:=aa (s.out.U U);have Z:=s.out.pr.cell 0 (.int .u8 0) rfl;have ab:=s.out.pr.cell 1 (.int .u32 0) rfl;have bh:=s.out.pr.frz 0;have bi:=s.out.pr.frz 1;go_wp2_with fail;refine an (v:=.tuple #[.agg #[.int .u8 o.tag,.int .u32 o.to],.int .u8 0]) (by simp[results,Tryz.results191,go_sem,Z,ab]) rfl (s.out.out ?_ ez.out b4.out)
      (repeat (first|with_reducible exact af.refl _ _|refine fc ?_ _ _))
     |false=>
      have al:=aa (al.out ⟨0,0⟩ (ag (by decide)).symm);go_wp2_with fail;refine an (v:=.tuple #[.agg #[.int .u8 (⟨0,0⟩:Edge).tag,.int .u32 (⟨0,0⟩:Edge).to],.int .u8 0]) (by simp[results,Tryz.results191,go_sem,Z,ab]) rfl (s.out.out ?_ al.out b4.out)
      (repeat (first|with_reducible exact af.refl _ _|refine fc ?_ _ _))
   ·have e3:(j.lv==n)=false:=(by simp[bc]);have U:k≠0:=fun h0=>bc (by have:=eA.out;rw[h0]at this;omega);have eS:=aa (e0.out U);clear bc b7 U;go_wp2_with fail;refine eJ (Q) (by kernel_rfl) (by kernel_rfl) kp ?_;(repeat (go_big_quiet_step ((first|(go_at_call 48;with_reducible refine Calls.c6 (ci.out _ (au.keep _)))))));refine wpQuiet_nil ?_;rintro D ⟨⟨_,bb⟩,rfl⟩;try dsimp only
    have s:=aa (s.out.U bb);clear b3 a7 O av V X Y Z ab bh bi cl a9;have a9:=s.out.ctx.c1;have be:=s.out.pj.cell 0 (.int .u8 j.fo) rfl;have O:=s.out.pj.cell 1 (.int .u8 j.op) rfl;have av:=s.out.pj.cell 2 (.int .u8 j.lv) rfl;have a4:=s.out.pj.cell 3 (.int .u8 j.ea.tag) rfl;have V:=s.out.pj.cell 4 (.int .u32 j.ea.to) rfl;have a5:=s.out.pj.cell 5 (.int .u8 j.eb.tag) rfl;have X:=s.out.pj.cell 6 (.int .u32 j.eb.to) rfl;have a6:=s.out.pj.cell 7 (.int .u8 j.ec.tag) rfl;have Y:=s.out.pj.cell 8 (.int .u32 j.ec.to) rfl;go_wp2_with fail;by_cases b1:∃v,en j.cc=some (j,v)
    ·obtain⟨v,b8⟩:=b1;have al:=aa (s.out.ctx.kept _ _ _ b8)
     have b0:∀(W:World),ae D W→Calls Tryz.prog 241 #[.pointer (some ⟨kb,0,none⟩),.agg #[.int .u8 j.fo,.int .u8 j.op,.int .u8 j.lv,.int .u8 j.ea.tag,.int .u32 j.ea.to,.int .u8 j.eb.tag,.int .u32 j.eb.to,.int .u8 j.ec.tag,.int .u32 j.ec.to]] W fun e t=>e=.returned (.tuple #[.agg #[.int .u8 v.tag,.int .u32 v.to],.bool true])∧af (fun i=>i=kb) W t∧bX t kb lb en:=fun W E=>(np (s.out.ctx.ev.U E) j am.out.ok).mono (fun e t ⟨a0,a1,a2⟩=>by
      rcases a0 with⟨er,aw,c3⟩|⟨aw,_⟩
      ·rw[b8]at aw;injection aw with aw;injection aw with _ aw;subst aw;exact⟨c3,a2,a1⟩
      ·exact absurd b8 (aw v))
     clear b8;have b2:∀i,i=kb→i<D.heap.size:=fun i hi=>(by subst hi;exact s.out.ctx.lt.2.1);have bt:=aa (fun(W:World) (E:ae D W)=>qo b2 (aI _) (b0 W E));have ec:=s.out.ctx.lt.1;have eb:=s.out.pj.lt;have d8:D.heap.size≠ob:=(by omega);have d9:D.heap.size≠w.heap.size:=(by omega);clear b0 b2;go_cut [6,7] (fun c4 c5 ah=>∃T,c4=.pointer (some ⟨T,0,none⟩)∧c5=.bool true∧(dK F w ah ob sb kb lb M M 0 F en w.heap.size (w.heap.size+1) j∧T≠w.heap.size+1)∧ah.cell? ⟨T,0,none⟩=some (.int .u8 v.tag)∧ah.cell? ⟨T,1,none⟩=some (.int .u32 v.to))
     case first=>
      go_region_held3 (fun t=>t.cell? ⟨ob,1,none⟩=some (.pointer (some ⟨kb,0,none⟩))∧t.cell? ⟨w.heap.size,0,none⟩=some (.int .u8 j.fo)∧t.cell? ⟨w.heap.size,1,none⟩=some (.int .u8 j.op)∧t.cell? ⟨w.heap.size,2,none⟩=some (.int .u8 j.lv)∧t.cell? ⟨w.heap.size,3,none⟩=some (.int .u8 j.ea.tag)∧t.cell? ⟨w.heap.size,4,none⟩=some (.int .u32 j.ea.to)∧t.cell? ⟨w.heap.size,5,none⟩=some (.int .u8 j.eb.tag)∧t.cell? ⟨w.heap.size,6,none⟩=some (.int .u32 j.eb.to)∧t.cell? ⟨w.heap.size,7,none⟩=some (.int .u8 j.ec.tag)∧t.cell? ⟨w.heap.size,8,none⟩=some (.int .u32 j.ec.to)) (go_keep) ((go_at_call 241;refine(bt.out _ kp).mono ?_;rintro J w2 ⟨⟨rfl,a8,bv⟩,cy,e4,cB,cD,c0⟩;have c1:=a8.size;(try simp only[ak,World.a6]at c1);have fi:w2.heap.size≠ob:=(by omega);have fj:w2.heap.size≠w.heap.size:=(by omega);have u:=aa ((s.out.U kp).c7 a8 (fun i hi=>.inl hi) bv s.out.ctx.kept);have b3:=u.out.ctx.c1;have a7:=u.out.pj.cell 0 (.int .u8 j.fo) rfl;have ed:=u.out.pj.cell 1 (.int .u8 j.op) rfl;have ca:=u.out.pj.cell 2 (.int .u8 j.lv) rfl;have cb:=u.out.pj.cell 3 (.int .u8 j.ea.tag) rfl;have cc:=u.out.pj.cell 4 (.int .u32 j.ea.to) rfl;have cd:=u.out.pj.cell 5 (.int .u8 j.eb.tag) rfl;have ce:=u.out.pj.cell 6 (.int .u32 j.eb.to) rfl;have cf:=u.out.pj.cell 7 (.int .u8 j.ec.tag) rfl;have ee:=u.out.pj.cell 8 (.int .u32 j.ec.to) rfl))
      all_goals(try go_wp2_with fail)
      all_goals go_meet
      all_goals refine⟨_,rfl,rfl,s.out.hd kp a8 bv ?_ ?_,?_,?_⟩
      all_goals(try(simp[go_sem];done))
      all_goals(try(simp only[ak,World.a6,aA];omega))
      all_goals(try(repeat (first|with_reducible exact af.refl _ _|refine fc ?_ _ _|with_reducible refine af.alloc ?_ _|with_reducible refine af.drew ?_)))
      all_goals(simp[go_sem,cy,cB,cD,c0];done)
     case rest=>
      obtain⟨T,rfl,rfl,⟨N,Q⟩,U,ax⟩:=hcut;have Z:=N.pr.cell 0 (.int .u8 0) rfl;have ab:=N.pr.cell 1 (.int .u32 0) rfl;have bh:=N.pr.frz 0;have bi:=N.pr.frz 1;have s:=aa N;clear N be O av a4 V a5 X a6 Y a9 bt;go_wp2_with fail;refine an (v:=.tuple #[.agg #[.int .u8 v.tag,.int .u32 v.to],.int .u8 0]) (by simp[results,Tryz.results191,go_sem,Z,ab]) rfl (s.out.out ?_ al.out b4.out)
      (repeat (first|with_reducible exact af.refl _ _|refine fc ?_ _ _))
    ·have b0:∀(W:World),ae D W→Calls Tryz.prog 241 #[.pointer (some ⟨kb,0,none⟩),.agg #[.int .u8 j.fo,.int .u8 j.op,.int .u8 j.lv,.int .u8 j.ea.tag,.int .u32 j.ea.to,.int .u8 j.eb.tag,.int .u32 j.eb.to,.int .u8 j.ec.tag,.int .u32 j.ec.to]] W fun e t=>e=.returned (.tuple #[.agg #[.int .u8 (⟨0,0⟩:Edge).tag,.int .u32 (⟨0,0⟩:Edge).to],.bool false])∧af (fun i=>i=kb) W t∧bX t kb lb en:=fun W E=>(np (s.out.ctx.ev.U E) j am.out.ok).mono (fun e t ⟨a0,a1,a2⟩=>by
      rcases a0 with⟨er,aw,_⟩|⟨_,c3⟩
      ·exact absurd ⟨er,aw⟩ b1
      ·exact⟨c3,a2,a1⟩)
     clear b1;have b2:∀i,i=kb→i<D.heap.size:=fun i hi=>(by subst hi;exact s.out.ctx.lt.2.1);have bt:=aa (fun(W:World) (E:ae D W)=>qo b2 (aI _) (b0 W E));have ec:=s.out.ctx.lt.1;have eb:=s.out.pj.lt;have d8:D.heap.size≠ob:=(by omega);have d9:D.heap.size≠w.heap.size:=(by omega);clear b0 b2;go_cut [6,7] (fun c4 c5 ah=>∃T,c4=.pointer (some ⟨T,0,none⟩)∧c5=.bool false∧(dK F w ah ob sb kb lb M M 0 F en w.heap.size (w.heap.size+1) j∧T≠w.heap.size+1)∧ah.cell? ⟨T,0,none⟩=some (.int .u8 (⟨0,0⟩:Edge).tag)∧ah.cell? ⟨T,1,none⟩=some (.int .u32 (⟨0,0⟩:Edge).to))
     case first=>
      go_region_held3 (fun t=>t.cell? ⟨ob,1,none⟩=some (.pointer (some ⟨kb,0,none⟩))∧t.cell? ⟨w.heap.size,0,none⟩=some (.int .u8 j.fo)∧t.cell? ⟨w.heap.size,1,none⟩=some (.int .u8 j.op)∧t.cell? ⟨w.heap.size,2,none⟩=some (.int .u8 j.lv)∧t.cell? ⟨w.heap.size,3,none⟩=some (.int .u8 j.ea.tag)∧t.cell? ⟨w.heap.size,4,none⟩=some (.int .u32 j.ea.to)∧t.cell? ⟨w.heap.size,5,none⟩=some (.int .u8 j.eb.tag)∧t.cell? ⟨w.heap.size,6,none⟩=some (.int .u32 j.eb.to)∧t.cell? ⟨w.heap.size,7,none⟩=some (.int .u8 j.ec.tag)∧t.cell? ⟨w.heap.size,8,none⟩=some (.int .u32 j.ec.to)) (go_keep) ((go_at_call 241;refine(bt.out _ kp).mono ?_;rintro J w2 ⟨⟨rfl,a8,bv⟩,cy,e4,cB,cD,c0⟩;have c1:=a8.size;(try simp only[ak,World.a6]at c1);have fi:w2.heap.size≠ob:=(by omega);have fj:w2.heap.size≠w.heap.size:=(by omega);have u:=aa ((s.out.U kp).c7 a8 (fun i hi=>.inl hi) bv s.out.ctx.kept);have b3:=u.out.ctx.c1;have a7:=u.out.pj.cell 0 (.int .u8 j.fo) rfl;have ed:=u.out.pj.cell 1 (.int .u8 j.op) rfl;have ca:=u.out.pj.cell 2 (.int .u8 j.lv) rfl;have cb:=u.out.pj.cell 3 (.int .u8 j.ea.tag) rfl;have cc:=u.out.pj.cell 4 (.int .u32 j.ea.to) rfl;have cd:=u.out.pj.cell 5 (.int .u8 j.eb.tag) rfl;have ce:=u.out.pj.cell 6 (.int .u32 j.eb.to) rfl;have cf:=u.out.pj.cell 7 (.int .u8 j.ec.tag) rfl;have ee:=u.out.pj.cell 8 (.int .u32 j.ec.to) rfl))
      all_goals(try go_wp2_with fail)
      all_goals go_meet
      all_goals refine⟨_,rfl,rfl,s.out.hd kp a8 bv ?_ ?_,?_,?_⟩
      all_goals(try(simp[go_sem];done))
      all_goals(try(simp only[ak,World.a6,aA];omega))
      all_goals(try(repeat (first|with_reducible exact af.refl _ _|refine fc ?_ _ _|with_reducible refine af.alloc ?_ _|with_reducible refine af.drew ?_)))
      all_goals(simp[go_sem,cy,cB,cD,c0];done)
     case rest=>
      obtain⟨T,rfl,rfl,⟨N,-⟩,-,-⟩:=hcut;have s:=aa N;clear N be O av a4 V a5 X a6 Y a9 bt d8 d9 ec eb;have be:=s.out.pj.cell 0 (.int .u8 j.fo) rfl;have O:=s.out.pj.cell 1 (.int .u8 j.op) rfl;have av:=s.out.pj.cell 2 (.int .u8 j.lv) rfl;have a4:=s.out.pj.cell 3 (.int .u8 j.ea.tag) rfl;have V:=s.out.pj.cell 4 (.int .u32 j.ea.to) rfl;have a5:=s.out.pj.cell 5 (.int .u8 j.eb.tag) rfl;have X:=s.out.pj.cell 6 (.int .u32 j.eb.to) rfl;have a6:=s.out.pj.cell 7 (.int .u8 j.ec.tag) rfl;have Y:=s.out.pj.cell 8 (.int .u32 j.ec.to) rfl;have e1:=aa (fun(W:World) (E:ae wc W)=>eS.out F W en (s.out.ctx.U E));go_wp2_with fail;refine(e1.out _ kp).mono ?_;rintro b6 ad ⟨fo,x,fl,fD,rfl,a',et,d6,d1,cx⟩;have c6:=aa (s.out.done et d6 d1 cx);have c7:=aa a';obtain⟨⟨s,u⟩,D,J⟩:=a'.ok;have s:=fun(W:World) (E:ae ad W)=>se (cx.ev.U E) j am.out.ok x a'.ok;have eR:=aa s;clear a' et d6 d1 cx s be O av a4 V a5 X a6 Y;go_wp2_with fail;obtain⟨cj,bw⟩:∃W,W=ad.alloc (.cells #[.int .u8 x.tag,.int .u32 x.to] 52):=⟨_,rfl⟩;have fa:ae ad cj:=(by rw[bw];exact(ae.refl _).alloc _);have s:cj.cell? ⟨ad.heap.size,0,none⟩=some (.int .u8 x.tag):=(by rw[bw];simp[go_sem]);have s:cj.cell? ⟨ad.heap.size,1,none⟩=some (.int .u32 x.to):=(by rw[bw];simp[go_sem]);have I:=aa (c6.out.U fa);have ea:ad.heap.size≠lb:=(by have:=c6.out.ctx.lt.2.2;omega);have ev:=aa (show 0+aX k+0≤aX k by omega);rw[←bw];clear bw;have a9:=I.out.ctx.c1;have be:=I.out.pj.cell 0 (.int .u8 j.fo) rfl;have O:=I.out.pj.cell 1 (.int .u8 j.op) rfl;have av:=I.out.pj.cell 2 (.int .u8 j.lv) rfl;have a4:=I.out.pj.cell 3 (.int .u8 j.ea.tag) rfl;have V:=I.out.pj.cell 4 (.int .u32 j.ea.to) rfl;have a5:=I.out.pj.cell 5 (.int .u8 j.eb.tag) rfl;have X:=I.out.pj.cell 6 (.int .u32 j.eb.to) rfl;have a6:=I.out.pj.cell 7 (.int .u8 j.ec.tag) rfl;have Y:=I.out.pj.cell 8 (.int .u32 j.ec.to) rfl;go_region_held3 (fun t=>t.cell? ⟨ob,1,none⟩=some (.pointer (some ⟨kb,0,none⟩))∧t.cell? ⟨w.heap.size,0,none⟩=some (.int .u8 j.fo)∧t.cell? ⟨w.heap.size,1,none⟩=some (.int .u8 j.op)∧t.cell? ⟨w.heap.size,2,none⟩=some (.int .u8 j.lv)∧t.cell? ⟨w.heap.size,3,none⟩=some (.int .u8 j.ea.tag)∧t.cell? ⟨w.heap.size,4,none⟩=some (.int .u32 j.ea.to)∧t.cell? ⟨w.heap.size,5,none⟩=some (.int .u8 j.eb.tag)∧t.cell? ⟨w.heap.size,6,none⟩=some (.int .u32 j.eb.to)∧t.cell? ⟨w.heap.size,7,none⟩=some (.int .u8 j.ec.tag)∧t.cell? ⟨w.heap.size,8,none⟩=some (.int .u32 j.ec.to)∧t.cell? ⟨ad.heap.size,0,none⟩=some (.int .u8 x.tag)∧t.cell? ⟨ad.heap.size,1,none⟩=some (.int .u32 x.to)) (go_keep) ((go_at_call 243;refine(eR.out _ kp).mono ?_;rintro s s ⟨rfl,s,c2⟩;have z:=aa ((I.out.U kp).c7 c2 (fun i hi=>.inr hi) s (I.out.ctx.kept.put c7.out));have s:=c2.cellAt (b:=ad.heap.size) (o:=0) (v:=.int .u8 x.tag) ea (by go_keep);have s:=c2.cellAt (b:=ad.heap.size) (o:=1) (v:=.int .u32 x.to) ea (by go_keep);have b3:=z.out.ctx.c1;have a7:=z.out.pj.cell 0 (.int .u8 j.fo) rfl;have ed:=z.out.pj.cell 1 (.int .u8 j.op) rfl;have ca:=z.out.pj.cell 2 (.int .u8 j.lv) rfl;have cb:=z.out.pj.cell 3 (.int .u8 j.ea.tag) rfl;have cc:=z.out.pj.cell 4 (.int .u32 j.ea.to) rfl;have cd:=z.out.pj.cell 5 (.int .u8 j.eb.tag) rfl;have ce:=z.out.pj.cell 6 (.int .u32 j.eb.to) rfl;have cf:=z.out.pj.cell 7 (.int .u8 j.ec.tag) rfl;have ee:=z.out.pj.cell 8 (.int .u32 j.ec.to) rfl;have Z:=z.out.pr.cell 0 (.int .u8 0) rfl;have ab:=z.out.pr.cell 1 (.int .u32 0) rfl;have bh:=z.out.pr.frz 0;have bi:=z.out.pr.frz 1))
      all_goals(try go_wp2_with fail)
      all_goals refine an (v:=.tuple #[.agg #[.int .u8 x.tag,.int .u32 x.to],.int .u8 0]) (by simp[results,Tryz.results191,go_sem,Z,ab]) rfl (z.out.out ?_ c7.out ev.out)
      all_goals(repeat (first|with_reducible exact af.refl _ _|refine fc ?_ _ _|with_reducible refine af.alloc ?_ _|with_reducible refine af.drew ?_))
theorem ti {ob sb kb lb:Nat}:∀(k:Nat) (F:Nat→Prop) (W:World) (M:St) (en:Nat→Option (aD×Edge)) (i:aD),bj F W ob sb kb lb M en→dv M i→M.n-i.lv=(k:Int)→M.len+aX k≤M.a7→M.a7<1048576→Calls Tryz.prog 191 #[.pointer (some ⟨ob,0,none⟩),.agg #[.int .u8 i.fo,.int .u8 i.op,.int .u8 i.lv,.int .u8 i.ea.tag,.int .u32 i.ea.to,.int .u8 i.eb.tag,.int .u32 i.eb.to,.int .u8 i.ec.tag,.int .u32 i.ec.to]] W (fk F W ob sb kb lb M i k):=by
 intro k;induction k with
 |zero=>intro F W M en i u s t _ _;exact nA 0 u i s t (fun h=>absurd rfl h)
 |succ k I=>intro F W M en i u s t D E;exact nA (k+1) u i s t (fun _ F' J N z=>yW k z i s t D E I)
end Go.Proofs.YtafkamlhimkbmaaGreat
