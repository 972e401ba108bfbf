/-
  ramagelaw21.count over the state.
-/
import Derived.Test.YtafkamlhimkbmaaGreatPMOnesW
import Derived.Test.YtafkamlhimkbmaaGreatPSmallN
namespace Go.Proofs.YtafkamlhimkbmaaGreat
set_option maxRecDepth 1000000
set_option maxHeartbeats 8000000
set_option linter.unusedSimpArgs false
set_option linter.unusedVariables false
open Go.RowKit
theorem wg {v:Nat}(h0:v≠0)(s:v<aj):ar aj v=[(v:Int)]:=by
 rw[jj h0 aR,fC s,Nat.div_eq_of_lt s,fM]
theorem uX {F:Nat→Prop}{w:World}{sb:Nat}{M:St}(h:aq F w sb M)(f:Int)(v:Edge)(av:v.ok)(n:Nat)(O:M.n=(n:Int))(E:n≤8)(hm:cq M f v 0=0) :
  Calls Tryz.prog 28 #[.pointer (some ⟨sb,0,none⟩),.int .u8 f,.agg #[.int .u8 v.tag,.int .u32 v.to]] w fun e z=>e=.returned (.tuple #[.int .i64 (bU (bg M f v 0) (2 ^ n):Int),.bool true])∧ae w z:=by
 have t:=aa (fun(Y:World) (ad:ae w Y)=>vI (h.U ad) f v av n O E hm)
 have J:=iY (bg M f v 0) (2 ^ n)
 have Z:2 ^ n≤256:=dp (cJ (by decide) E) (by decide)
 obtain⟨C,I⟩:∃C,C=bU (bg M f v 0) (2 ^ n):=⟨_,rfl⟩
 rw[←I]at t J ⊢
 have ab:C≤256:=by omega
 clear J Z I h hm O
 by_cases h0:C=0
 ·subst h0;go_enter Tryz.func28,Tryz.ntmps28
  go_wp2_with (first
   |(go_at_call 73;refine(t.out _ kp).mono ?_;rintro e D ⟨⟨ax,rfl,s⟩,al⟩;obtain⟨T,U,rfl,-,-⟩:=cG s;rw[fM];rw[show([]:List Int).length=0 from rfl];clear s)
   |fail)
  go_ret2;exact⟨rfl,kp⟩
 ·have E:=wg h0 (Nat.lt_of_le_of_lt ab (by decide));have V:=aa E;have I:0<C:=by omega
  have I:((C:Int)%1000000)=(C:Int):=by omega
  clear E;go_enter Tryz.func28,Tryz.ntmps28
  go_wp2_with (first
   |(go_at_call 73;refine(t.out _ kp).mono ?_;rintro e D ⟨⟨ax,rfl,s⟩,al⟩;obtain⟨T,U,rfl,-,u⟩:=cG s;rw[V.out]at u ⊢;rw[show([(C:Int)]:List Int).length=1 from rfl];have W:=aa u;clear s u)
   |fail)
  obtain⟨x,b,o,Q,ay,a0,rfl,N⟩:=gr W.out 0 (by show 0<1;omega);simp at Q;subst Q;rw[gH]at N;have ah:=aJ N;dsimp only at ah;have aw:ae w D:=kp
  have X:Hid (IntKind.i64.wrap ((C:Int).tmod 1000000)=(C:Int)):=aa (by
   rw[Int.tmod_eq_of_lt (by omega) (by omega)];unfold IntKind.wrap;simp[IntKind.signed,IntKind.bits]
   omega)
  go_cut [6,7] (fun s t u=>s=.int .i64 (C:Int)∧t=.bool true∧ae D u)
  case first=>
   have s:((C:Int)<1000000):=(by omega);go_region_held3 (fun z=>z.cell? ⟨b,o,none⟩=some (.int .u64 (C:Int))) (go_keep) (fail)
   all_goals(try go_wp2_with fail)
   all_goals go_meet
   all_goals exact⟨congrArg (Value.int .i64) X.out,rfl,kp⟩
  case rest=>
   obtain⟨rfl,rfl,am⟩:=hcut;go_wp2_with fail;go_ret2;exact⟨rfl,aw.trans am⟩
def iR (k:Nat)(bs:List Bool):List Int:=(List.range 5).map (fun i:Nat=>(kQ ((i:Int)+1) k bs:Int))
theorem yM {k:Nat}{bs:List Bool}{f:Nat}(s:1≤f)(t:f≤5):(iR k bs)[f-1]?=some (kQ (f:Int) k bs:Int):=by
 unfold iR;rw[iB,ng (by omega)];simp only[Option.map_some];congr 3
 omega
theorem yN (k:Nat)(bs:List Bool):(iR k bs).length=5:=by unfold iR;simp
theorem dJ.cf {f:Int}{M:St}{has:Nat→Bool}{ps:List Int}{x:Edge}(h:dJ f M has ps 0 0 x):dZ f M (ef has ps 0) ps.length 0 0 x:=by
 refine⟨?_,h.2⟩;rw[List.drop_zero,fm (by rw[jC];exact aI _)];exact h.1
theorem yO {a':Nat→Prop}{w:World}{ob:Nat}{ps ws:List Int}(V:dm a' w ob ps)(am:ps.length≤6)(N:Option Addr)(len cap:Nat)(b3:ws.length=len)(c3:len≤1048576)(av:bq w N ws)(a2:eI (ps.length:Int) ws=true) :
  Calls Tryz.prog 67 #[.pointer (some ⟨ob,0,none⟩),.agg #[.int .i64 (ps.length:Int),.slice N len cap]] w fun e b0=>∃ad be,e=.returned (.tuple #[.slice ad 5 be,.int .u8 0])∧eo b0 ad (iR ps.length (ef (hasB ws) ps 0))∧ae w b0:=by
 have a6:=fun(u:World) (s:ae w u)=>o5 (V.U s)
 have a0:=fun(u:World)=>pQ (ps.length:Int) 1048576 u (by omega) (by omega) (by omega) (by omega)
 have c4:2 ^ ps.length≤64:=by
  have Q:2 ^ ps.length≤2 ^ 6:=cJ (by decide) am;exact Q
 have b7:0<ws.length:=by have:=(iQ.1 a2).2.1;omega
 have a1:=fun(f:Nat) (z:1≤f) (D:f≤5) (u ad:World) (sb:Nat) (F:Nat→Prop) (b0:ae w ad) (s:ae ad u) (hF:∀k,F k→ad.heap.size≤k) (h:aq F u sb (St.new (ps.length:Int) 1048576))=>by
  have J:=b0.trans s;have ad:=b0.size
  exact rS h (V.U J) (fun k Q ad=>by have:=hF k Q;have:=V.lt k ad;omega) rfl (f:Int) (by simp[bZ];omega) N len cap b3 c3 (av.U J) (fun b off aw c0=>by
   obtain⟨x,E⟩:∃x,ws[0]?=some x:=⟨_,aQ b7⟩;obtain⟨_,ad,b0,bi,cB⟩:=av 0 x E;rw[aw]at bi;cases bi;have Q:=aJ cB;dsimp only at Q;have:=hF b c0
   omega) a2 (by
   show(0:Int)+_≤1048576
   omega)
 have Y:=fun(f:Nat) (z:1≤f) (D:f≤5) (F:Nat→Prop) (u:World) (sb:Nat) (M:St) (x:Edge) (r:aq F u sb M) (Q:M.n=(ps.length:Int)) (aw:dJ (f:Int) M (hasB ws) ps 0 0 x) (E:x.ok) (Q:World) (I:ae u Q)=>by
  obtain⟨al,cz,u⟩:=vo r (f:=(f:Int)) (by omega) am (by omega) (jC (hasB ws) ps 0) aw.cf E;have:=lE (r.U I) (f:Int) x 0 E;rw[u]at this;simp only[if_true]at this;rw[cz]at this;exact this
 have U:=fun(f:Nat) (z:1≤f) (D:f≤5)=>yM (k:=ps.length) (bs:=ef (hasB ws) ps 0) z D
 have W:=yN ps.length (ef (hasB ws) ps 0)
 obtain⟨bs,bn⟩:∃bs,bs=ef (hasB ws) ps 0:=⟨_,rfl⟩
 rw[←bn]at Y U W ⊢
 obtain⟨n,b4⟩:∃n,n=ps.length:=⟨_,rfl⟩
 rw[←b4]at a6 a0 a1 Y U W am ⊢
 obtain⟨ab,b9⟩:∃ab,ab=iR n bs:=⟨_,rfl⟩
 rw[←b9]at U W ⊢
 obtain⟨da,hi,c7,c8,c'⟩:=info_parts ja
 have cp:=aa a6
 have ch:=aa a0
 have cl:=aa a1
 have cn:=aa Y
 have cf:=aa U
 have bd:=aa W
 have u:∀k,a' k→k<w.heap.size:=V.lt
 clear V b3 av a2 a6 a0 a1 Y U W b4 b9 bn c4 b7
 go_enter Tryz.func67,Tryz.ntmps67
 go_wp2_with fail
 obtain⟨t,T⟩:∃t,t=w.alloc (.cells #[.int .i64 (n:Int),.slice N len cap] 105):=⟨_,rfl⟩
 rw[←T]
 have db:ae w t:=by rw[T];exact(ae.refl _).alloc _
 have cx:t.cell? ⟨w.heap.size,0,none⟩=some (.int .i64 (n:Int)):=by rw[T];simp[go_sem]
 have cy:t.cell? ⟨w.heap.size,1,none⟩=some (.slice N len cap):=by rw[T];simp[go_sem]
 clear T
 go_loopg [6,7,8,9,10,11] 5 (fun gk u N Q Q Q Q wr=>∃(f:Nat) (v:Value),f+gk=6∧1≤f∧N=.int .u8 (f:Int)∧u=v∧wr.ownsRow t.heap.size 3 1 v (f-1) ((ab.take (f-1)).map (Value.int .i64))∧ae t wr)
 case atStart=>exact⟨1,.slice none 0 0,rfl,by omega,rfl,rfl,World.ownsRow_nil _ _ _ _,ae.refl _⟩
 case round=>
  obtain⟨f,v,dB,z,rfl,rfl,a3,s⟩:=hrel;obtain⟨a7,a8,rfl,-⟩:=gi a3;have bb:=aa a3;clear a3;have ah:=s.cell cx;have al:=s.cell cy;have J:=db.trans s;by_cases D:f≤5
  ·go_wp2_with fail;refine(cp.out _ J).mono ?_;rintro e u ⟨rfl,rfl⟩;go_wp2_with fail;refine(ch.out _).mono ?_;rintro e cb ⟨sb,F,rfl,X,hF,hS⟩;have ci:=aa (cl.out f z D cb wr sb F J X hF hS);replace ah:=X.cell ah;replace al:=X.cell al;have u:w.heap.size<cb.heap.size:=(by have:=aJ ah;exact this);have ce:=aa hF;have u:=aa hS;clear hF hS;go_wp2_with fail;refine ci.out.mono ?_;rintro e cc ⟨x,M',rfl,c6,bt,⟨bw,-⟩,b5⟩;have ax:ae wr cc:=X.new b5.upd (fun k s=>ce.out k s);obtain⟨⟨u,ca,dl⟩,ds⟩:=b5;have a5:=cn.out f z D u cc sb M' x ca (by rw[bw.ext.n];rfl) bt c6;obtain⟨a9,b8⟩:∃a9:Nat,a9=kQ (f:Int) n bs:=⟨_,rfl⟩;have u:=cf.out f z D;rw[←b8]at a5 u;have co:=aa a5;have cv:=aa u;have c2:=s.trans ax;clear a5 u ca dl ds bt bw b8;go_wp2_with fail;refine(co.out _ kp).mono ?_;rintro e Z ⟨rfl,b1⟩;have ay:ae wr Z:=(ax.alloc _).trans b1;have b2:ae t Z:=s.trans ay;have bh:=ae.ca ay bb.out;have bc:=aa bh;have u:=b2.size;have dj:f-1+1≤maxLen:=(by unfold maxLen;omega);have dk:(f-1+1)*8≤140737488355328:=(by omega);clear bh ay b1 c2 ax;go_upto_region 16 with fail
   go_wp2_with (first
    |(at_builtin;refine wpList_append_own _ rfl _ _ 22 rfl t.heap.size 3 da (.int .i64 0) 1 8 Tryz.underlying22 hi c7 c8 c' rfl (by decide) (.slice a7 (f-1) a8) (f-1) ((ab.take (f-1)).map (Value.int .i64)) rfl (bc.out.alloc _) ⟨Z.heap.size,0,none⟩ 1 1 [.int .i64 (a9:Int)] rfl rfl (lC _ _ _ _ rfl) (by simp[Value.oneCell']) (by exact dj) (by exact dk) (by simp;omega) ?_;intro u cd a4 bv _)
    |fail)
   obtain⟨d0,d1,rfl,-⟩:=gi a4;have b6:af (fun k=>(Value.slice a7 (f-1) a8).ownBlock=some k) Z cd:=af.c' (by repeat (first|exact af.refl _ _|refine af.alloc ?_ _|refine af.drew ?_)) bv (fun k s=>.inl s)
   have c1:ae t cd:=b2.new b6 (fun k I=>by
    rcases bc.out.2 with⟨O,_⟩|⟨g',be,s,O,t,_⟩
    ·rw[O]at I;simp[Value.ownBlock]at I
    ·rw[O]at I;simp[Value.ownBlock]at I;omega)
   have cj:=aa a4;clear a4 bv b6;go_wp2_with fail;go_roundg (gk-1)
   case rel=>exact⟨f+1,_,by omega,by omega,by simp,rfl,by
    have:=cj.out;rw[show f+1-1=f-1+1 by omega,p9 cv.out,jB]
    exact this,c1⟩
   case measure=>omega
  ·have cD:f=6:=(by omega);subst cD;have s:=bb.out;rw[fm (by rw[bd.out];omega)]at s;have ba:=aa s;clear s;go_wp2_with fail;go_ret2;refine⟨a7,a8,rfl,fun i x E=>?_,J⟩;have s:i<5:=(by have:=(List.getElem?_eq_some_iff.1 E).1;rw[bd.out]at this;exact this);obtain⟨s,t,O,c5⟩:=gi ba.out;cases O;obtain⟨g,rfl⟩:=c5 (by omega);exact(kL ba.out).1.d' i x E
theorem uV:iR 1 (ef (hasB [3]) (ei 1) 0)=[0,1,0,1,0]:=by decide +kernel
theorem oA (w:World):Calls Tryz.prog 22 #[] w fun e D=>e=.returned (.bool true)∧ae w D:=by
 have I:eI ((ei 1).length:Int) [3]=true:=by decide
 have z:=fun(D:World) (u:Nat→Prop) (ob B:Nat) (W:dm u D ob (ei 1)) (X:bq D (some ⟨B,0,none⟩) [3])=>yO W (by decide) (some ⟨B,0,none⟩) 1 1 (ws:=[3]) rfl (by decide) X I;rw[jm,uV]at z;have Q:=aa z;clear z I;go_enter Tryz.func22,Tryz.ntmps22;go_wp2_with fail;refine(wU 1 (by decide) _).mono ?_;rintro e w1 ⟨Y,ob,u,rfl,z,hF⟩;have O:=aa z;clear z hF;go_wp2_with fail
 have J:bq (w1.alloc (.cells #[.int .u64 3] 56)) (some ⟨w1.heap.size,0,none⟩) [3]:=fun i x s=>by
  rcases i with _|i;·simp at s;subst s;exact⟨by decide,_,0,rfl,by simp[go_sem]⟩
  ·simp at s
 refine(Q.out _ u ob w1.heap.size (O.out.U kp) J).mono ?_;rintro e t ⟨T,U,rfl,u,z⟩;have N:=aa u;clear u J;go_wp2_with fail
 have V:eo (t.alloc (.cells #[.int .i64 0,.int .i64 1,.int .i64 0,.int .i64 1,.int .i64 0] 3)) (some ⟨t.heap.size,0,none⟩) [0,1,0,1,0]:=fun i x s=>by
  rcases i with _|_|_|_|_|i;·simp at s;subst s;exact⟨_,0,rfl,by simp[go_sem]⟩
  ·simp at s;subst s;exact⟨_,0,rfl,by simp[go_sem]⟩
  ·simp at s;subst s;exact⟨_,0,rfl,by simp[go_sem]⟩
  ·simp at s;subst s;exact⟨_,0,rfl,by simp[go_sem]⟩
  ·simp at s;subst s;exact⟨_,0,rfl,by simp[go_sem]⟩
  ·simp at s
 have E:=uw T (some ⟨t.heap.size,0,none⟩) U 5 [0,1,0,1,0] [0,1,0,1,0] _ (N.out.U ((ae.refl t).alloc _)) V (by decide) (by decide);rw[bM rfl]at E;refine E.mono ?_;rintro e s ⟨rfl,s⟩;go_wp2_with fail;go_ret;exact⟨rfl,kp⟩
end Go.Proofs.YtafkamlhimkbmaaGreat
