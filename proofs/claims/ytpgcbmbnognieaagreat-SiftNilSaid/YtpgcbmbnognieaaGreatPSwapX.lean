/-
  The walk of swap.cross.
-/
import Derived.Test.YtpgcbmbnognieaaGreatPSwapM
namespace Go.Proofs.YtpgcbmbnognieaaGreat
set_option maxRecDepth 1000000
set_option maxHeartbeats 8000000
set_option linter.unusedSimpArgs false
set_option linter.unusedVariables false
open Go.RowKit

structure Pg (F:Nat→Prop)(w W:World)(sb:Nat)(F1:Nat→Prop)(M:St):Prop where
 upd:Upd F w W
 rep:StoreRep F1 W sb M
 sub:∀ j,F1 j→F j∨w.heap.size≤j

theorem Pg.box {F F1 F2:Nat→Prop}{w W wy:World}{sb:Nat}{M M':St}{B C:Nat}{lo hi:Edge}(h:Pg F w W sb F1 M)(hB:Boxed2 F1 W wy sb M' B C lo hi F2):Pg F w wy sb F2 M':=by
 have hs:=h.upd.size
 refine⟨h.upd.later hB.upd (fun i hi hf=>?_),hB.rep,fun j hj=>?_⟩
 ·rcases h.sub i hf with q|q
  ·exact q
  ·omega
 ·rcases hB.sub j hj with q|q
  ·exact h.sub j q
  ·exact .inr (by omega)

theorem Boxed2.no {F F1:Nat→Prop}{w0 wy:World}{sb:Nat}{M1:St}{B C:Nat}{lo hi:Edge}(h:Boxed2 F w0 wy sb M1 B C lo hi F1){k:Nat}(nk:¬F k)(hk:k<w0.heap.size):¬F1 k:=fun hh=>by
 rcases h.sub k hh with q|q
 ·exact nk q
 ·omega

theorem updR2 {P:Nat→Prop}{R:Nat}(hR:P R){x y:World}(h:Upd P x y)(o:Nat)(v:Value):Upd P x (y.setCell ⟨R,o,none⟩ v):=h.setCell (Or.inl hR) v

def Crossed (lv f:Int)(M1:St)(lo hi:Edge)(My:St)(x y:Edge):Prop:=
 ∃ (Ma Mb Mx:St) (a b c d:Edge),vErr M1 (viewAct M1 f lo (lv+1))=0∧Ma=vSt M1 (viewAct M1 f lo (lv+1))∧a=vLo M1 (viewAct M1 f lo (lv+1))∧b=vHi M1 f (viewAct M1 f lo (lv+1)) ∧
  vErr Ma (viewAct Ma f hi (lv+1))=0∧Mb=vSt Ma (viewAct Ma f hi (lv+1))∧c=vLo Ma (viewAct Ma f hi (lv+1))∧d=vHi Ma f (viewAct Ma f hi (lv+1)) ∧
  actErr Mb (mkK f Mb (lv+1) a c)=0∧Mx=actSt Mb (mkK f Mb (lv+1) a c)∧x=mkE f Mb (mkK f Mb (lv+1) a c) ∧
  actErr Mx (mkK f Mx (lv+1) b d)=0∧My=actSt Mx (mkK f Mx (lv+1) b d)∧y=mkE f Mx (mkK f Mx (lv+1) b d)

def CrossOut (F:Nat→Prop)(w:World)(sb:Nat)(lv f:Int)(M:St)(lo hi:Edge)(r:Ending)(w':World):Prop:=
 ∃ (My:St) (x y:Edge) (er:Int) (F':Nat→Prop),r=.returned (.tuple #[.agg #[.int .u8 x.tag,.int .u32 x.to],.agg #[.int .u8 y.tag,.int .u32 y.to],.int .u8 er])∧x.ok∧y.ok∧(er=0∨er=6)∧Pg F w w' sb F' My∧Went M My 4∧(er=6→My.room≤My.len)∧(er=0→Crossed lv f M lo hi My x y)

theorem Pg.out {F F1:Nat→Prop}{w W w':World}{sb:Nat}{M:St}(h:Pg F w W sb F1 M)(hw:Upd (fun j=>j=w.heap.size+1+1∨j=w.heap.size+1+1+1) W w')(nA:¬F1 (w.heap.size+1+1))(nB:¬F1 (w.heap.size+1+1+1)):Pg F w w' sb F1 M:=
 ⟨h.upd.later hw (fun i hi hh=>by omega),h.rep.keep hw (fun k hk hh=>by rcases hh with rfl|rfl;exact nA hk;exact nB hk),h.sub⟩

theorem cross_full {F F1:Nat→Prop}{w W w':World}{sb:Nat}{lv f:Int}{M Mx:St}{lo hi:Edge}(h:Pg F w W sb F1 Mx)(hw:Went M Mx 4)(hr:Mx.room≤Mx.len)(hu:Upd (fun j=>j=w.heap.size+1+1∨j=w.heap.size+1+1+1) W w')(nA:¬F1 (w.heap.size+1+1))(nB:¬F1 (w.heap.size+1+1+1)) :
  CrossOut F w sb lv f M lo hi (.returned (.tuple #[.agg #[.int .u8 (⟨0,0⟩:Edge).tag,.int .u32 (⟨0,0⟩:Edge).to],.agg #[.int .u8 (⟨0,0⟩:Edge).tag,.int .u32 (⟨0,0⟩:Edge).to],.int .u8 6])) w':=
 ⟨Mx,_,_,6,F1,rfl,edge0_ok,edge0_ok,.inr rfl,h.out hu nA nB,hw,fun _=>hr,fun hh=>by cases hh⟩

theorem cross_calls {F:Nat→Prop}{w:World}{sb wb:Nat}{lv f:Int}{M:St}(hR:StoreRep F w sb M)(c0:w.cell? ⟨wb,0,none⟩=some (.pointer (some ⟨sb,0,none⟩)))(c1:w.cell? ⟨wb,1,none⟩=some (.int .i64 lv))(nW:¬F wb)
  (hf:1≤f∧f≤5) (hroom:M.room<1048576) (h0:0≤lv) (hlv:lv+1<M.n) (lo hi:Edge) (hlo:lo.ok) (hhi:hi.ok) (llo:M.leads f lo (lv+1)=true) (lhi:M.leads f hi (lv+1)=true) :
  Calls Tryz.prog 293 #[.pointer (some ⟨wb,0,none⟩),.int .u8 f,.agg #[.int .u8 lo.tag,.int .u32 lo.to],.agg #[.int .u8 hi.tag,.int .u32 hi.to]] w (CrossOut F w sb lv f M lo hi):=by
 have hn16:=hR.wf.n16
 have hlv16:lv≤14:=by omega
 have hwb:=lt_of_cell c0
 dsimp only at hwb
 have HR:=Lib.hid hR
 have HF:=Lib.hid hf
 have HLO:=Lib.hid llo
 have HLI:=Lib.hid lhi
 have HOK:=Lib.hid (⟨hlo,hhi⟩:lo.ok∧hi.ok)
 have HRM:=Lib.hid hroom
 have HLV:=Lib.hid hlv
 clear hR hf llo lhi hlo hhi hroom hlv hn16
 have hwb1:wb<w.heap.size+1:=by omega
 have hwb2:wb<w.heap.size+1+1:=by omega
 have hwb3:wb<w.heap.size+1+1+1:=by omega
 go_enter Tryz.func293,Tryz.ntmps293
 go_wp2_with fail
 obtain⟨W1,hW1⟩:∃ W1,W1=(((w.alloc (.cells #[.int .u8 lo.tag,.int .u32 lo.to] 25)).alloc (.cells #[.int .u8 hi.tag,.int .u32 hi.to] 25)).alloc (.cells #[.int .u8 0,.int .u32 0] 25)).alloc (.cells #[.int .u8 0,.int .u32 0] 25):=⟨_,rfl⟩
 have pl0:W1.cell? ⟨w.heap.size,0,none⟩=some (.int .u8 lo.tag):=by rw [hW1];simp [go_sem]
 have pl1:W1.cell? ⟨w.heap.size,1,none⟩=some (.int .u32 lo.to):=by rw [hW1];simp [go_sem]
 have ph0:W1.cell? ⟨(w.heap.size+1),0,none⟩=some (.int .u8 hi.tag):=by rw [hW1];simp [go_sem]
 have ph1:W1.cell? ⟨(w.heap.size+1),1,none⟩=some (.int .u32 hi.to):=by rw [hW1];simp [go_sem]
 have pa0:W1.cell? ⟨(w.heap.size+1+1),0,none⟩=some (.int .u8 0):=by rw [hW1];simp [go_sem]
 have pa1:W1.cell? ⟨(w.heap.size+1+1),1,none⟩=some (.int .u32 0):=by rw [hW1];simp [go_sem]
 have pb0:W1.cell? ⟨(w.heap.size+1+1+1),0,none⟩=some (.int .u8 0):=by rw [hW1];simp [go_sem]
 have pb1:W1.cell? ⟨(w.heap.size+1+1+1),1,none⟩=some (.int .u32 0):=by rw [hW1];simp [go_sem]
 have paf:∀ o:Nat,W1.frozen? ⟨w.heap.size+1+1,o,none⟩=false:=fun o=>by rw [hW1];simp [go_sem]
 have pbf:∀ o:Nat,W1.frozen? ⟨w.heap.size+1+1+1,o,none⟩=false:=fun o=>by rw [hW1];simp [go_sem]
 have k1:Keeps w W1:=by rw [hW1];exact((((Keeps.refl _).alloc _).alloc _).alloc _).alloc _
 have s0:W1.heap.size=w.heap.size+4:=by rw [hW1];simp
 have d0:=k1.cell c0
 have d1:=k1.cell c1
 have nL:¬F w.heap.size:=fun hh=>by have:=HR.out.lt _ hh;omega
 have nH:¬F (w.heap.size+1):=fun hh=>by have:=HR.out.lt _ hh;omega
 have nA:¬F (w.heap.size+1+1):=fun hh=>by have:=HR.out.lt _ hh;omega
 have nB:¬F (w.heap.size+1+1+1):=fun hh=>by have:=HR.out.lt _ hh;omega
 have hpg:Pg F w W1 sb F M:=⟨k1.upd F,HR.out.keeps k1,fun j hj=>.inl hj⟩
 have HPG:=Lib.hid hpg
 have HWT:=Lib.hid (Went.refl HR.out.wf)
 rw [← hW1]
 clear hW1 c0 c1 k1 hpg
 obtain⟨wc,hwc⟩:∃ wc,wc=W1:=⟨_,rfl⟩
 rw [← hwc] at pl0 pl1 ph0 ph1 pa0 pa1 pb0 pb1 paf pbf s0 d0 d1 HPG ⊢
 clear hwc W1
 obtain⟨s1,s1'⟩:w.heap.size+4≤wc.heap.size∧wc.heap.size≤w.heap.size+4:=by omega
 clear s0
 have hlt:=HPG.out.rep.lt
 have HLT:=Lib.hid hlt
 have hvw:=fun(W:World) (hW:Keeps wc W)=>canon_view (HPG.out.rep.keeps hW) f lo (lv+1) HOK.out.1
 rw [kvAct_view HF.out] at hvw
 obtain⟨M1,hM1⟩:∃ N,N=vSt M (viewAct M f lo (lv+1)):=⟨_,rfl⟩
 obtain⟨a,ha⟩:∃ N,N=vLo M (viewAct M f lo (lv+1)):=⟨_,rfl⟩
 obtain⟨b,hb⟩:∃ N,N=vHi M f (viewAct M f lo (lv+1)):=⟨_,rfl⟩
 obtain⟨er1,her1⟩:∃ N,N=vErr M (viewAct M f lo (lv+1)):=⟨_,rfl⟩
 rw [← hM1,← ha,← hb,← her1] at hvw
 have HVW:=Lib.hid (fun(W:World) (hW:Keeps wc W)=>upd_boxes HLT.out (Nat.le_refl _) (hvw W hW))
 have HM1:=Lib.hid hM1
 have HE1:=Lib.hid her1
 have HA1:=Lib.hid ha
 have HB1:=Lib.hid hb
 clear hvw hlt hM1 her1 ha hb
 have m0:wc.heap.size≠wb:=by omega
 have mm0:wc.heap.size+1≠wb:=by omega
 have m1:wc.heap.size≠w.heap.size:=by omega
 have mm1:wc.heap.size+1≠w.heap.size:=by omega
 go_cut [12,13,14] (fun s12 s13 s14 wx=>∃ C12 C13 F1,s12=.pointer (some ⟨C12,0,none⟩)∧s13=.pointer (some ⟨C13,0,none⟩)∧s14=.int .u8 er1∧Boxed2 F wc wx sb M1 C12 C13 a b F1)
 case first=>
  go_region_held3 (fun w'=>w'.cell? ⟨wb,0,none⟩=some (.pointer (some ⟨sb,0,none⟩))∧w'.cell? ⟨w.heap.size,0,none⟩=some (.int .u8 lo.tag)∧w'.cell? ⟨w.heap.size,1,none⟩=some (.int .u32 lo.to)) (go_keep) ((go_at_call 291;refine(HVW.out _ (by(exact kp))).mono ?_;rintro e2 w2 ⟨⟨rfl,hu2,hS2⟩,hcl,hfl,hlq,hne,hnf⟩;have hsz:=hu2.size;(try simp only [World.size_alloc,World.size_drew,World.size_drewN] at hsz);have y0:=hu2.cellAt (b:=wb) (o:=0) (v:=.pointer (some ⟨sb,0,none⟩)) nW (by go_keep);have y1:=hu2.cellAt (b:=w.heap.size) (o:=0) (v:=.int .u8 lo.tag) nL (by go_keep);have y2:=hu2.cellAt (b:=w.heap.size) (o:=1) (v:=.int .u32 lo.to) nL (by go_keep);have sa0:w2.heap.size≠wb:=(by omega);have sb0:w2.heap.size+1≠wb:=(by omega);have sa1:w2.heap.size≠w.heap.size:=(by omega);have sb1:w2.heap.size+1≠w.heap.size:=(by omega)))
  all_goals(try go_wp2_with fail)
  all_goals go_meet
  all_goals refine⟨_,_,_,rfl,rfl,rfl,boxed2 HLT.out (by(exact kp)) hu2 hS2 ?_ ?_ ?_ ?_ ?_ ?_ ?_⟩
  all_goals(try(simp [go_sem];done))
  all_goals(try(simp only [World.size_alloc,World.size_drew,World.size_setCell];omega))
  all_goals(try(repeat (first|with_reducible exact Upd.refl _ _|with_reducible refine Upd.alloc ?_ _|with_reducible refine Upd.drew ?_|refine Upd.setCell ?_ (Or.inl (Or.inl rfl)) _|refine Upd.setCell ?_ (Or.inl (Or.inr rfl)) _)))
  all_goals(try(simp [go_sem,hcl,hlq,hne,hnf];done))
  all_goals
   have z0:w2.cell? ⟨wc.heap.size,0,none⟩=some (.int .u8 0):=(hcl _ _ (Nat.le_refl _) (by simp only [World.size_alloc,World.size_drew];omega)).trans ((World.cell?_alloc_lt _ _ _ (by simp)).trans (by simp [go_sem]))
   have z1:w2.cell? ⟨wc.heap.size,1,none⟩=some (.int .u32 0):=(hcl _ _ (Nat.le_refl _) (by simp only [World.size_alloc,World.size_drew];omega)).trans ((World.cell?_alloc_lt _ _ _ (by simp)).trans (by simp [go_sem]))
   simp [go_sem,z0,z1]
 case rest=>
  obtain⟨C12,C13,F1,rfl,rfl,rfl,hBx⟩:=hcut
  replace d0:=hBx.upd.cellAt nW d0
  replace ph0:=hBx.upd.cellAt nH ph0
  replace ph1:=hBx.upd.cellAt nH ph1
  replace pa0:=hBx.upd.cellAt nA pa0
  replace pa1:=hBx.upd.cellAt nA pa1
  replace pb0:=hBx.upd.cellAt nB pb0
  replace pb1:=hBx.upd.cellAt nB pb1
  replace paf:=fun o:Nat=>hBx.upd.frozen (a:=⟨(w.heap.size+1+1),o,none⟩) (by show(w.heap.size+1+1)<_;omega) nA (paf o)
  replace pbf:=fun o:Nat=>hBx.upd.frozen (a:=⟨(w.heap.size+1+1+1),o,none⟩) (by show(w.heap.size+1+1+1)<_;omega) nB (pbf o)
  have hsz:=hBx.upd.size
  have x12:=hBx.a0
  have x13:=hBx.c0
  have x12':=hBx.a1
  have x13':=hBx.c1
  have l12:=lt_of_cell x12
  have l13:=lt_of_cell x13
  dsimp only at l12 l13
  have n12:=hBx.nB
  have n13:=hBx.nC
  have g12:=hBx.gB
  have g13:=hBx.gC
  have q12:w.heap.size+4≤C12:=by omega
  have q13:w.heap.size+4≤C13:=by omega
  replace nB:=hBx.no nB (by omega)
  replace nA:=hBx.no nA (by omega)
  replace nH:=hBx.no nH (by omega)
  replace nW:=hBx.no nW (by omega)
  have HPG:=Lib.hid (HPG.out.box hBx)
  replace s1:w.heap.size+4≤wc.heap.size:=by omega
  clear hBx HVW HLT pl0 pl1 nL s1'
  by_cases he1:er1=0
  case neg=>
   obtain⟨q1,q2,q3⟩:=viewed_full HR.out.wf HLO.out HLV.out (HE1.out ▸ he1)
   obtain rfl:er1=6:=HE1.out.trans q1
   have hMe:M1=M:=HM1.out.trans q2
   have hFO:=fun(w':World) (hw':Upd (fun j=>j=w.heap.size+1+1∨j=w.heap.size+1+1+1) wc w')=>cross_full (lv:=lv) (f:=f) (M:=M) (lo:=lo) (hi:=hi) HPG.out (by rw [hMe];exact HWT.out.le (by decide)) (by rw [hMe];exact q3) hw' nA nB
   have HFO:=Lib.hid hFO
   clear hFO
   go_wp2_with fail
   refine bodyPost_ret (v:=.tuple #[.agg #[.int .u8 (⟨0,0⟩:Edge).tag,.int .u32 (⟨0,0⟩:Edge).to],.agg #[.int .u8 (⟨0,0⟩:Edge).tag,.int .u32 (⟨0,0⟩:Edge).to],.int .u8 6]) (by simp [results,Tryz.results293,go_sem,pa0,pa1,pb0,pb1]) rfl (HFO.out _ ?_)
   (repeat (first|with_reducible exact Upd.refl _ _|refine updR2 (Or.inl rfl) ?_ _ _|refine updR2 (Or.inr rfl) ?_ _ _|with_reducible refine Upd.alloc ?_ _|with_reducible refine Upd.drew ?_))
  case pos=>
   subst he1
   have hv1:=viewed HR.out.wf HLO.out HLV.out HE1.out.symm
   have hw1:=viewed_went HR.out.wf HLO.out HLV.out HE1.out.symm
   obtain⟨oa,ob⟩:=view_fit HR.out.wf HR.out.few (fun id r hr=>HR.out.fit hr) (f:=f) HOK.out.1 (by omega) HLV.out
   rw [← HM1.out] at hw1
   rw [← HM1.out,← HA1.out,← HB1.out] at hv1
   rw [← HA1.out] at oa
   rw [← HB1.out] at ob
   have HWT:=Lib.hid ((HWT.out.trans hw1).le (show(0:Int)+1≤1 by decide))
   have HV1:=Lib.hid hv1
   have HOA:=Lib.hid (⟨oa,ob⟩:a.ok∧b.ok)
   have HLI1:=Lib.hid (hv1.ext.leads HLI.out)
   have HL2:=Lib.hid (show lv+1<M1.n by have:=hv1.ext.n;have:=HLV.out;omega)
   have hvf:=view_fit HPG.out.rep.wf HPG.out.rep.few (fun id r hr=>HPG.out.rep.fit hr) (f:=f) (e:=hi) (l:=lv+1)
   have hvf:=Lib.hid hvf
   clear hv1 hw1 oa ob
   have hlt:=HPG.out.rep.lt
   have HLT:=Lib.hid hlt
   have hvw:=fun(W:World) (hW:Keeps wc W)=>canon_view (HPG.out.rep.keeps hW) f hi (lv+1) HOK.out.2
   rw [kvAct_view HF.out] at hvw
   obtain⟨M2,hM2⟩:∃ N,N=vSt M1 (viewAct M1 f hi (lv+1)):=⟨_,rfl⟩
   obtain⟨c,hc⟩:∃ N,N=vLo M1 (viewAct M1 f hi (lv+1)):=⟨_,rfl⟩
   obtain⟨d,hd⟩:∃ N,N=vHi M1 f (viewAct M1 f hi (lv+1)):=⟨_,rfl⟩
   obtain⟨er2,her2⟩:∃ N,N=vErr M1 (viewAct M1 f hi (lv+1)):=⟨_,rfl⟩
   rw [← hM2,← hc,← hd,← her2] at hvw
   have HVW:=Lib.hid (fun(W:World) (hW:Keeps wc W)=>upd_boxes HLT.out (Nat.le_refl _) (hvw W hW))
   have HM2:=Lib.hid hM2
   have HE2:=Lib.hid her2
   have HA2:=Lib.hid hc
   have HB2:=Lib.hid hd
   clear hvw hlt hM2 her2 hc hd
   have m0:wc.heap.size≠wb:=by omega
   have mm0:wc.heap.size+1≠wb:=by omega
   have m1:wc.heap.size≠(w.heap.size+1):=by omega
   have mm1:wc.heap.size+1≠(w.heap.size+1):=by omega
   have m2:wc.heap.size≠w.heap.size:=by omega
   have mm2:wc.heap.size+1≠w.heap.size:=by omega
   go_wp2_with fail
   go_cut [15,16,14] (fun s15 s16 s14 wx=>∃ C15 C16 F2,s15=.pointer (some ⟨C15,0,none⟩)∧s16=.pointer (some ⟨C16,0,none⟩)∧s14=.int .u8 er2∧Boxed2 F1 wc wx sb M2 C15 C16 c d F2)
   case first=>
    go_region_held3 (fun w'=>w'.cell? ⟨wb,0,none⟩=some (.pointer (some ⟨sb,0,none⟩))∧w'.cell? ⟨(w.heap.size+1),0,none⟩=some (.int .u8 hi.tag)∧w'.cell? ⟨(w.heap.size+1),1,none⟩=some (.int .u32 hi.to)) (go_keep) ((go_at_call 291;refine(HVW.out _ (by(exact kp))).mono ?_;rintro e2 w2 ⟨⟨rfl,hu2,hS2⟩,hcl,hfl,hlq,hne,hnf⟩;have hsz:=hu2.size;(try simp only [World.size_alloc,World.size_drew,World.size_drewN] at hsz);have y0:=hu2.cellAt (b:=wb) (o:=0) (v:=.pointer (some ⟨sb,0,none⟩)) nW (by go_keep);have y1:=hu2.cellAt (b:=(w.heap.size+1)) (o:=0) (v:=.int .u8 hi.tag) nH (by go_keep);have y2:=hu2.cellAt (b:=(w.heap.size+1)) (o:=1) (v:=.int .u32 hi.to) nH (by go_keep);have sa0:w2.heap.size≠wb:=(by omega);have sb0:w2.heap.size+1≠wb:=(by omega);have sa1:w2.heap.size≠(w.heap.size+1):=(by omega);have sb1:w2.heap.size+1≠(w.heap.size+1):=(by omega);have sa2:w2.heap.size≠w.heap.size:=(by omega);have sb2:w2.heap.size+1≠w.heap.size:=(by omega)))
    all_goals(try go_wp2_with fail)
    all_goals go_meet
    all_goals refine⟨_,_,_,rfl,rfl,rfl,boxed2 HLT.out (by(exact kp)) hu2 hS2 ?_ ?_ ?_ ?_ ?_ ?_ ?_⟩
    all_goals(try(simp [go_sem];done))
    all_goals(try(simp only [World.size_alloc,World.size_drew,World.size_setCell];omega))
    all_goals(try(repeat (first|with_reducible exact Upd.refl _ _|with_reducible refine Upd.alloc ?_ _|with_reducible refine Upd.drew ?_|refine Upd.setCell ?_ (Or.inl (Or.inl rfl)) _|refine Upd.setCell ?_ (Or.inl (Or.inr rfl)) _)))
    all_goals(try(simp [go_sem,hcl,hlq,hne,hnf];done))
    all_goals
     have z0:w2.cell? ⟨wc.heap.size,0,none⟩=some (.int .u8 0):=(hcl _ _ (Nat.le_refl _) (by simp only [World.size_alloc,World.size_drew];omega)).trans ((World.cell?_alloc_lt _ _ _ (by simp)).trans (by simp [go_sem]))
     have z1:w2.cell? ⟨wc.heap.size,1,none⟩=some (.int .u32 0):=(hcl _ _ (Nat.le_refl _) (by simp only [World.size_alloc,World.size_drew];omega)).trans ((World.cell?_alloc_lt _ _ _ (by simp)).trans (by simp [go_sem]))
     simp [go_sem,z0,z1]
   case rest=>
    obtain⟨C15,C16,F2,rfl,rfl,rfl,hBx⟩:=hcut
    replace d0:=hBx.upd.cellAt nW d0
    replace pa0:=hBx.upd.cellAt nA pa0
    replace pa1:=hBx.upd.cellAt nA pa1
    replace pb0:=hBx.upd.cellAt nB pb0
    replace pb1:=hBx.upd.cellAt nB pb1
    replace x12:=hBx.upd.cellAt n12 x12
    replace x12':=hBx.upd.cellAt n12 x12'
    replace x13:=hBx.upd.cellAt n13 x13
    replace x13':=hBx.upd.cellAt n13 x13'
    replace paf:=fun o:Nat=>hBx.upd.frozen (a:=⟨(w.heap.size+1+1),o,none⟩) (by show(w.heap.size+1+1)<_;omega) nA (paf o)
    replace pbf:=fun o:Nat=>hBx.upd.frozen (a:=⟨(w.heap.size+1+1+1),o,none⟩) (by show(w.heap.size+1+1+1)<_;omega) nB (pbf o)
    have hsz:=hBx.upd.size
    have x15:=hBx.a0
    have x16:=hBx.c0
    have x15':=hBx.a1
    have x16':=hBx.c1
    have l15:=lt_of_cell x15
    have l16:=lt_of_cell x16
    dsimp only at l15 l16
    have n15:=hBx.nB
    have n16:=hBx.nC
    have g15:=hBx.gB
    have g16:=hBx.gC
    have q15:w.heap.size+4≤C15:=by omega
    have q16:w.heap.size+4≤C16:=by omega
    replace nB:=hBx.no nB (by omega)
    replace nA:=hBx.no nA (by omega)
    replace n12:=hBx.no n12 (by omega)
    replace n13:=hBx.no n13 (by omega)
    replace nW:=hBx.no nW (by omega)
    have HPG:=Lib.hid (HPG.out.box hBx)
    replace s1:w.heap.size+4≤wc.heap.size:=by omega
    clear hBx HVW HLT ph0 ph1 nH
    by_cases he2:er2=0
    case neg=>
     obtain⟨q1,q2,q3⟩:=viewed_full HV1.out.wf HLI1.out HL2.out (HE2.out ▸ he2)
     obtain rfl:er2=6:=HE2.out.trans q1
     have hMe:M2=M1:=HM2.out.trans q2
     have hFO:=fun(w':World) (hw':Upd (fun j=>j=w.heap.size+1+1∨j=w.heap.size+1+1+1) wc w')=>cross_full (lv:=lv) (f:=f) (M:=M) (lo:=lo) (hi:=hi) HPG.out (by rw [hMe];exact HWT.out.le (by decide)) (by rw [hMe];exact q3) hw' nA nB
     have HFO:=Lib.hid hFO
     clear hFO
     go_wp2_with fail
     refine bodyPost_ret (v:=.tuple #[.agg #[.int .u8 (⟨0,0⟩:Edge).tag,.int .u32 (⟨0,0⟩:Edge).to],.agg #[.int .u8 (⟨0,0⟩:Edge).tag,.int .u32 (⟨0,0⟩:Edge).to],.int .u8 6]) (by simp [results,Tryz.results293,go_sem,pa0,pa1,pb0,pb1]) rfl (HFO.out _ ?_)
     (repeat (first|with_reducible exact Upd.refl _ _|refine updR2 (Or.inl rfl) ?_ _ _|refine updR2 (Or.inr rfl) ?_ _ _|with_reducible refine Upd.alloc ?_ _|with_reducible refine Upd.drew ?_))
    case pos=>
     subst he2
     have hv2:=viewed HV1.out.wf HLI1.out HL2.out HE2.out.symm
     have hw2:=viewed_went HV1.out.wf HLI1.out HL2.out HE2.out.symm
     obtain⟨oc,od⟩:=hvf.out HOK.out.2 (by omega) HL2.out
     rw [← HA2.out] at oc
     rw [← HB2.out] at od
     have HOC:=Lib.hid (⟨oc,od⟩:c.ok∧d.ok)
     rw [← HM2.out] at hw2
     rw [← HM2.out,← HA2.out,← HB2.out] at hv2
     have HWT:=Lib.hid ((HWT.out.trans hw2).le (show(1:Int)+1≤2 by decide))
     have HV2:=Lib.hid hv2
     have hl3:lv+1<M2.n:=by have:=hv2.ext.n;have:=HL2.out;omega
     have HL3:=Lib.hid hl3
     have HLA:=Lib.hid (hv2.ext.leads HV1.out.llo)
     have HLB:=Lib.hid (hv2.ext.leads HV1.out.lhi)
     clear hv2 hw2 hl3 hvf oc od
     have hlt:=HPG.out.rep.lt
     have HLT:=Lib.hid hlt
     have hok3:(mkE f M2 (mkK f M2 (lv+1) a c)).ok:=mkK_ok HPG.out.rep.wf HPG.out.rep.few HOA.out.1 HOC.out.1 (by omega) (by have:=HLV.out;have:=HWT.out.ext.n;omega) HF.out
     have hmk:=fun(W:World) (hW:Keeps wc W)=>canon_make (HPG.out.rep.keeps hW) f (lv+1) a c HOA.out.1 HOC.out.1
     rw [kAct_mkK HF.out] at hmk
     change ∀ W,Keeps wc W→Calls _ _ _ W fun r w'=>r=.returned (.tuple #[.agg #[.int .u8 (mkE f M2 (mkK f M2 (lv+1) a c)).tag,.int .u32 (mkE f M2 (mkK f M2 (lv+1) a c)).to],.int .u8 (actErr M2 (mkK f M2 (lv+1) a c))])∧Upd _ W w'∧StoreRep (Grow _ W w') w' sb (actSt M2 (mkK f M2 (lv+1) a c)) at hmk
     obtain⟨M3,hM3⟩:∃ N,N=actSt M2 (mkK f M2 (lv+1) a c):=⟨_,rfl⟩
     obtain⟨x,hx⟩:∃ N,N=mkE f M2 (mkK f M2 (lv+1) a c):=⟨_,rfl⟩
     obtain⟨er3,her3⟩:∃ N,N=actErr M2 (mkK f M2 (lv+1) a c):=⟨_,rfl⟩
     rw [← hM3,← hx,← her3] at hmk
     rw [← hx] at hok3
     have HVW:=Lib.hid (fun(W:World) (hW:Keeps wc W)=>upd_boxes HLT.out (Nat.le_refl _) (hmk W hW))
     have HM3:=Lib.hid hM3
     have HE3:=Lib.hid her3
     have HA3:=Lib.hid hx
     have HO3:=Lib.hid hok3
     clear hmk hlt hM3 her3 hx hok3
     have m0:wc.heap.size≠wb:=by omega
     have m1:wc.heap.size≠C12:=by omega
     have m2:wc.heap.size≠C15:=by omega
     have m3:wc.heap.size≠w.heap.size:=by omega
     go_wp2_with fail
     go_cut [17,14] (fun s17 s14 wx=>∃ C17 F3,s17=.pointer (some ⟨C17,0,none⟩)∧s14=.int .u8 er3∧Boxed2 F2 wc wx sb M3 C17 C17 x x F3)
     case first=>
      go_region_held3 (fun w'=>w'.cell? ⟨wb,0,none⟩=some (.pointer (some ⟨sb,0,none⟩))∧w'.cell? ⟨C12,0,none⟩=some (.int .u8 a.tag)∧w'.cell? ⟨C12,1,none⟩=some (.int .u32 a.to)∧w'.cell? ⟨C15,0,none⟩=some (.int .u8 c.tag)∧w'.cell? ⟨C15,1,none⟩=some (.int .u32 c.to)) (go_keep) ((go_at_call 111;refine(HVW.out _ (by(exact kp))).mono ?_;rintro e2 w2 ⟨⟨rfl,hu2,hS2⟩,hcl,hfl,hlq,hne,hnf⟩;have hsz:=hu2.size;(try simp only [World.size_alloc,World.size_drew,World.size_drewN] at hsz);have y0:=hu2.cellAt (b:=wb) (o:=0) (v:=.pointer (some ⟨sb,0,none⟩)) nW (by go_keep);have y1:=hu2.cellAt (b:=C12) (o:=0) (v:=.int .u8 a.tag) n12 (by go_keep);have y2:=hu2.cellAt (b:=C12) (o:=1) (v:=.int .u32 a.to) n12 (by go_keep);have y3:=hu2.cellAt (b:=C15) (o:=0) (v:=.int .u8 c.tag) n15 (by go_keep);have y4:=hu2.cellAt (b:=C15) (o:=1) (v:=.int .u32 c.to) n15 (by go_keep);have sa0:w2.heap.size≠wb:=(by omega);have sa1:w2.heap.size≠C12:=(by omega);have sa2:w2.heap.size≠C15:=(by omega);have sa3:w2.heap.size≠w.heap.size:=(by omega)))
      all_goals(try go_wp2_with fail)
      all_goals go_meet
      all_goals refine⟨_,_,rfl,rfl,boxed2 HLT.out (by(exact kp)) hu2 hS2 ?_ ?_ ?_ ?_ ?_ ?_ ?_⟩
      all_goals(try(simp [go_sem];done))
      all_goals(try(simp only [World.size_alloc,World.size_drew,World.size_setCell];omega))
      all_goals(try(repeat (first|with_reducible exact Upd.refl _ _|with_reducible refine Upd.alloc ?_ _|with_reducible refine Upd.drew ?_|refine Upd.setCell ?_ (Or.inl (Or.inl rfl)) _|refine Upd.setCell ?_ (Or.inl (Or.inr rfl)) _)))
      all_goals(simp [go_sem,hcl,hlq,hne,hnf];done)
     case rest=>
      obtain⟨C17,F3,rfl,rfl,hBx⟩:=hcut
      replace d0:=hBx.upd.cellAt nW d0
      replace pa0:=hBx.upd.cellAt nA pa0
      replace pa1:=hBx.upd.cellAt nA pa1
      replace pb0:=hBx.upd.cellAt nB pb0
      replace pb1:=hBx.upd.cellAt nB pb1
      replace x13:=hBx.upd.cellAt n13 x13
      replace x13':=hBx.upd.cellAt n13 x13'
      replace x16:=hBx.upd.cellAt n16 x16
      replace x16':=hBx.upd.cellAt n16 x16'
      replace paf:=fun o:Nat=>hBx.upd.frozen (a:=⟨(w.heap.size+1+1),o,none⟩) (by show(w.heap.size+1+1)<_;omega) nA (paf o)
      replace pbf:=fun o:Nat=>hBx.upd.frozen (a:=⟨(w.heap.size+1+1+1),o,none⟩) (by show(w.heap.size+1+1+1)<_;omega) nB (pbf o)
      have hsz:=hBx.upd.size
      have x17:=hBx.a0
      have x17':=hBx.a1
      have l17:=lt_of_cell x17
      dsimp only at l17
      have n17:=hBx.nB
      have g17:=hBx.gB
      have q17:w.heap.size+4≤C17:=by omega
      replace nB:=hBx.no nB (by omega)
      replace nA:=hBx.no nA (by omega)
      replace n13:=hBx.no n13 (by omega)
      replace n16:=hBx.no n16 (by omega)
      replace nW:=hBx.no nW (by omega)
      have HPG:=Lib.hid (HPG.out.box hBx)
      replace s1:w.heap.size+4≤wc.heap.size:=by omega
      clear hBx HVW HLT x12 x12' x15 x15' n12 n15
      have hmo:=made_of HV2.out.wf HF.out (l:=lv+1) (by omega) HL3.out HLA.out HV2.out.llo
      by_cases he3:er3=0
      case neg=>
       obtain⟨q1,q2,q3⟩:er3=6∧M3=M2∧M2.room≤M2.len:=by
        rcases hmo with⟨m1,_⟩|⟨m1,m2,_,m4⟩
        ·exact absurd (HE3.out.trans m1) he3
        ·exact⟨HE3.out.trans m1,HM3.out.trans m2,m4⟩
       subst q1
       have hMe:=q2
       clear hmo
       have hFO:=fun(w':World) (hw':Upd (fun j=>j=w.heap.size+1+1∨j=w.heap.size+1+1+1) wc w')=>cross_full (lv:=lv) (f:=f) (M:=M) (lo:=lo) (hi:=hi) HPG.out (by rw [hMe];exact HWT.out.le (by decide)) (by rw [hMe];exact q3) hw' nA nB
       have HFO:=Lib.hid hFO
       clear hFO
       go_wp2_with fail
       refine bodyPost_ret (v:=.tuple #[.agg #[.int .u8 (⟨0,0⟩:Edge).tag,.int .u32 (⟨0,0⟩:Edge).to],.agg #[.int .u8 (⟨0,0⟩:Edge).tag,.int .u32 (⟨0,0⟩:Edge).to],.int .u8 6]) (by simp [results,Tryz.results293,go_sem,pa0,pa1,pb0,pb1]) rfl (HFO.out _ ?_)
       (repeat (first|with_reducible exact Upd.refl _ _|refine updR2 (Or.inl rfl) ?_ _ _|refine updR2 (Or.inr rfl) ?_ _ _|with_reducible refine Upd.alloc ?_ _|with_reducible refine Upd.drew ?_))
      case pos=>
       subst he3
       have md1:Maded f M2 (lv+1) a c M3 x:=by
        rcases hmo with⟨m1,md⟩|⟨m1,_⟩
        ·rw [← HM3.out,← HA3.out] at md;exact md
        ·have:=HE3.out.trans m1;cases this
       have hw3:Went M2 M3 1:=⟨md1.ext,md1.wf,md1.room,md1.len,fun hs=>by rw [HM3.out];exact solid_act hs _⟩
       have HWT:=Lib.hid ((HWT.out.trans hw3).le (show(2:Int)+1≤3 by decide))
       have HMD1:=Lib.hid md1
       have HL4:=Lib.hid (show lv+1<M3.n by have:=md1.ext.n;have:=HL3.out;omega)
       have HLB3:=Lib.hid (md1.ext.leads HLB.out)
       have HLD3:=Lib.hid (md1.ext.leads HV2.out.lhi)
       clear hmo md1 hw3
       have hlt:=HPG.out.rep.lt
       have HLT:=Lib.hid hlt
       have hok4:(mkE f M3 (mkK f M3 (lv+1) b d)).ok:=mkK_ok HPG.out.rep.wf HPG.out.rep.few HOA.out.2 HOC.out.2 (by omega) (by have:=HLV.out;have:=HWT.out.ext.n;omega) HF.out
       have hmk:=fun(W:World) (hW:Keeps wc W)=>canon_make (HPG.out.rep.keeps hW) f (lv+1) b d HOA.out.2 HOC.out.2
       rw [kAct_mkK HF.out] at hmk
       change ∀ W,Keeps wc W→Calls _ _ _ W fun r w'=>r=.returned (.tuple #[.agg #[.int .u8 (mkE f M3 (mkK f M3 (lv+1) b d)).tag,.int .u32 (mkE f M3 (mkK f M3 (lv+1) b d)).to],.int .u8 (actErr M3 (mkK f M3 (lv+1) b d))])∧Upd _ W w'∧StoreRep (Grow _ W w') w' sb (actSt M3 (mkK f M3 (lv+1) b d)) at hmk
       obtain⟨M4,hM4⟩:∃ N,N=actSt M3 (mkK f M3 (lv+1) b d):=⟨_,rfl⟩
       obtain⟨y,hy⟩:∃ N,N=mkE f M3 (mkK f M3 (lv+1) b d):=⟨_,rfl⟩
       obtain⟨er4,her4⟩:∃ N,N=actErr M3 (mkK f M3 (lv+1) b d):=⟨_,rfl⟩
       rw [← hM4,← hy,← her4] at hmk
       rw [← hy] at hok4
       have HVW:=Lib.hid (fun(W:World) (hW:Keeps wc W)=>upd_boxes HLT.out (Nat.le_refl _) (hmk W hW))
       have HM4:=Lib.hid hM4
       have HE4:=Lib.hid her4
       have HA4:=Lib.hid hy
       have HO4:=Lib.hid hok4
       clear hmk hlt hM4 her4 hy hok4
       have m0:wc.heap.size≠wb:=by omega
       have m1:wc.heap.size≠C13:=by omega
       have m2:wc.heap.size≠C16:=by omega
       have m3:wc.heap.size≠w.heap.size:=by omega
       go_wp2_with fail
       go_cut [18,14] (fun s18 s14 wx=>∃ C18 F4,s18=.pointer (some ⟨C18,0,none⟩)∧s14=.int .u8 er4∧Boxed2 F3 wc wx sb M4 C18 C18 y y F4)
       case first=>
        go_region_held3 (fun w'=>w'.cell? ⟨wb,0,none⟩=some (.pointer (some ⟨sb,0,none⟩))∧w'.cell? ⟨C13,0,none⟩=some (.int .u8 b.tag)∧w'.cell? ⟨C13,1,none⟩=some (.int .u32 b.to)∧w'.cell? ⟨C16,0,none⟩=some (.int .u8 d.tag)∧w'.cell? ⟨C16,1,none⟩=some (.int .u32 d.to)) (go_keep) ((go_at_call 111;refine(HVW.out _ (by(exact kp))).mono ?_;rintro e2 w2 ⟨⟨rfl,hu2,hS2⟩,hcl,hfl,hlq,hne,hnf⟩;have hsz:=hu2.size;(try simp only [World.size_alloc,World.size_drew,World.size_drewN] at hsz);have y0:=hu2.cellAt (b:=wb) (o:=0) (v:=.pointer (some ⟨sb,0,none⟩)) nW (by go_keep);have y1:=hu2.cellAt (b:=C13) (o:=0) (v:=.int .u8 b.tag) n13 (by go_keep);have y2:=hu2.cellAt (b:=C13) (o:=1) (v:=.int .u32 b.to) n13 (by go_keep);have y3:=hu2.cellAt (b:=C16) (o:=0) (v:=.int .u8 d.tag) n16 (by go_keep);have y4:=hu2.cellAt (b:=C16) (o:=1) (v:=.int .u32 d.to) n16 (by go_keep);have sa0:w2.heap.size≠wb:=(by omega);have sa1:w2.heap.size≠C13:=(by omega);have sa2:w2.heap.size≠C16:=(by omega);have sa3:w2.heap.size≠w.heap.size:=(by omega)))
        all_goals(try go_wp2_with fail)
        all_goals go_meet
        all_goals refine⟨_,_,rfl,rfl,boxed2 HLT.out (by(exact kp)) hu2 hS2 ?_ ?_ ?_ ?_ ?_ ?_ ?_⟩
        all_goals(try(simp [go_sem];done))
        all_goals(try(simp only [World.size_alloc,World.size_drew,World.size_setCell];omega))
        all_goals(try(repeat (first|with_reducible exact Upd.refl _ _|with_reducible refine Upd.alloc ?_ _|with_reducible refine Upd.drew ?_|refine Upd.setCell ?_ (Or.inl (Or.inl rfl)) _|refine Upd.setCell ?_ (Or.inl (Or.inr rfl)) _)))
        all_goals(simp [go_sem,hcl,hlq,hne,hnf];done)
       case rest=>
        obtain⟨C18,F4,rfl,rfl,hBx⟩:=hcut
        replace pa0:=hBx.upd.cellAt nA pa0
        replace pa1:=hBx.upd.cellAt nA pa1
        replace pb0:=hBx.upd.cellAt nB pb0
        replace pb1:=hBx.upd.cellAt nB pb1
        replace x17:=hBx.upd.cellAt n17 x17
        replace x17':=hBx.upd.cellAt n17 x17'
        replace paf:=fun o:Nat=>hBx.upd.frozen (a:=⟨(w.heap.size+1+1),o,none⟩) (by show(w.heap.size+1+1)<_;omega) nA (paf o)
        replace pbf:=fun o:Nat=>hBx.upd.frozen (a:=⟨(w.heap.size+1+1+1),o,none⟩) (by show(w.heap.size+1+1+1)<_;omega) nB (pbf o)
        have hsz:=hBx.upd.size
        have x18:=hBx.a0
        have x18':=hBx.a1
        have l18:=lt_of_cell x18
        dsimp only at l18
        have n18:=hBx.nB
        have g18:=hBx.gB
        have q18:w.heap.size+4≤C18:=by omega
        replace nB:=hBx.no nB (by omega)
        replace nA:=hBx.no nA (by omega)
        replace n17:=hBx.no n17 (by omega)
        have HPG:=Lib.hid (HPG.out.box hBx)
        replace s1:w.heap.size+4≤wc.heap.size:=by omega
        have hmo:=made_of HMD1.out.wf HF.out (l:=lv+1) (by omega) HL4.out HLB3.out HLD3.out
        have hout:∀ w':World,Upd (fun j=>j=w.heap.size+1+1∨j=w.heap.size+1+1+1) wc w'→CrossOut F w sb lv f M lo hi (.returned (.tuple #[.agg #[.int .u8 x.tag,.int .u32 x.to],.agg #[.int .u8 y.tag,.int .u32 y.to],.int .u8 er4])) w':=fun w' hw'=>by
         have hp:=HPG.out.out hw' nA nB
         rcases hmo with⟨m1,md⟩|⟨m1,m2,m3,m4⟩
         ·have e4:er4=0:=HE4.out.trans m1
          rw [← HM4.out,← HA4.out] at md
          have hw4:Went M3 M4 1:=⟨md.ext,md.wf,md.room,md.len,fun hs=>by rw [HM4.out];exact solid_act hs _⟩
          refine⟨M4,x,y,er4,F4,rfl,HO3.out,HO4.out,.inl e4,hp,(HWT.out.trans hw4).le (show(3:Int)+1≤4 by decide),fun h6=>(by rw [e4] at h6;cases h6),fun _=>?_⟩
          exact⟨M1,M2,M3,a,b,c,d,HE1.out.symm,HM1.out,HA1.out,HB1.out,HE2.out.symm,HM2.out,HA2.out,HB2.out,HE3.out.symm,HM3.out,HA3.out,m1,HM4.out,HA4.out⟩
         ·have e4:er4=6:=HE4.out.trans m1
          have hMe:M4=M3:=HM4.out.trans m2
          refine⟨M4,x,y,er4,F4,rfl,HO3.out,HO4.out,.inr e4,hp,by rw [hMe];exact HWT.out.le (by decide),fun _=>by rw [hMe];exact m4,fun h0=>(by rw [e4] at h0;cases h0)⟩
        have HOUT:=Lib.hid hout
        clear hmo hout hBx HVW HLT x13 x13' x16 x16' n13 n16
        go_wp2_with fail
        have e1:(w.heap.size+1+1==C17)=false:=by simp;omega
        have e2:(w.heap.size+1+1+1==C18)=false:=by simp;omega
        have f1:w.heap.size+1+1≠C17:=by omega
        have f2:w.heap.size+1+1≠C18:=by omega
        have f3:w.heap.size+1+1+1≠C17:=by omega
        have f4:w.heap.size+1+1+1≠C18:=by omega
        go_region
        go_wp2_with fail
        refine bodyPost_ret (v:=.tuple #[.agg #[.int .u8 x.tag,.int .u32 x.to],.agg #[.int .u8 y.tag,.int .u32 y.to],.int .u8 er4]) (by simp [results,Tryz.results293,go_sem,pa0,pa1,pb0,pb1,x17,x17',x18,x18']) rfl (HOUT.out _ ?_)
        (repeat (first|with_reducible exact Upd.refl _ _|refine updR2 (Or.inl rfl) ?_ _ _|refine updR2 (Or.inr rfl) ?_ _ _|with_reducible refine Upd.alloc ?_ _|with_reducible refine Upd.drew ?_|with_reducible refine Upd.drewN ?_ _))

end Go.Proofs.YtpgcbmbnognieaaGreat
