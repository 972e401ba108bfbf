/-
  The walk of swap.at.
-/
import Derived.Test.YtpgcbmbnognieaaGreatPSwapX
namespace Go.Proofs.YtpgcbmbnognieaaGreat
set_option maxRecDepth 1000000
set_option maxHeartbeats 8000000
set_option linter.unusedSimpArgs false
set_option linter.unusedVariables false
open Go.RowKit

structure MidS (F:Nat→Prop)(w W:World)(sb wb b:Nat)(lv f:Int)(M:St)(V:List (Int×Edge×Int))(e:Edge)(l:Int)(B8 B9:Nat)(F3:Nat→Prop)(M3:St)(x y:Edge)(er:Int):Prop where
 upd:Upd (fun j=>F j∨j=b) w W
 sub:∀ j,F3 j→F j∨w.heap.size≤j
 rep:StoreRep F3 W sb M3
 p0:W.cell? ⟨w.heap.size,0,none⟩=some (.int .u8 f)
 p1:W.cell? ⟨w.heap.size,1,none⟩=some (.int .u8 e.tag)
 p2:W.cell? ⟨w.heap.size,2,none⟩=some (.int .u32 e.to)
 p3:W.cell? ⟨w.heap.size,3,none⟩=some (.int .i64 l)
 r0:W.cell? ⟨w.heap.size+1,0,none⟩=some (.int .u8 0)
 r1:W.cell? ⟨w.heap.size+1,1,none⟩=some (.int .u32 0)
 rf:∀ o:Nat,W.frozen? ⟨w.heap.size+1,o,none⟩=false
 nP:¬F3 w.heap.size
 nR:¬F3 (w.heap.size+1)
 full:er≠0→er=6∧Swp lv f M e l M3 ⟨0,0⟩ 6 (costS lv l)
 good:er=0→x.ok∧y.ok∧M3.n=M.n∧M3.room=M.room∧¬F3 B8∧¬F3 B9 ∧
  (W.cell? ⟨B8,0,none⟩=some (.int .u8 x.tag)∧W.cell? ⟨B8,1,none⟩=some (.int .u32 x.to)∧W.cell? ⟨B9,0,none⟩=some (.int .u8 y.tag)∧W.cell? ⟨B9,1,none⟩=some (.int .u32 y.to)) ∧
  (∃ V3 D3,StepCtx F3 W sb wb b lv M3 V3 D3∧V3.length+2≤V.length+2 ^ ((lv-l).toNat+1)∧∀ q∈V3,q∈V∨l<q.2.2) ∧
  ((mkE f M3 (mkK f M3 l x y)).ok→Swp lv f M e l (actSt M3 (mkK f M3 l x y)) (mkE f M3 (mkK f M3 l x y)) (actErr M3 (mkK f M3 l x y)) (costS lv l))

theorem StepCtx.far {F:Nat→Prop}{W W':World}{sb wb b:Nat}{lv:Int}{M:St}{V:List (Int×Edge×Int)}{D:DataW Unit}{P:Nat→Prop}(h:StepCtx F W sb wb b lv M V D)(hu:Upd P W W')(n1:∀ j,F j→¬P j)(n2:¬P b)(n3:¬P wb):StepCtx F W' sb wb b lv M V D:=
 ⟨h.rep.keep hu n1,hu.cellAt n3 h.c0,hu.cellAt n3 h.c1,hu.cellAt n3 h.c2,h.nF,h.nW,ownsSpot_same h.own (hu.block b h.lt.1 n2),h.memo⟩

section
variable {F:Nat→Prop}{w:World}{sb wb b:Nat}{lv f:Int}{M:St}{V:List (Int×Edge×Int)}{D:DataW Unit}

def AtNext (sb wb b:Nat)(lv f:Int)(M:St)(l:Int)(cap:Nat):Prop:=
 ∀ (h:Edge) (F2:Nat→Prop) (M2:St) (V2:List (Int×Edge×Int)) (D2:DataW Unit) (W:World),h.ok→M2.n=M.n→M2.room=M.room→M2.leads f h (l+1)=true→V2.length+2 ^ ((lv-(l+1)).toNat+1)≤cap→StepCtx F2 W sb wb b lv M2 V2 D2 →
  Calls Tryz.prog 288 #[.pointer (some ⟨wb,0,none⟩),.agg #[.int .u8 f,.int .u8 h.tag,.int .u32 h.to,.int .i64 (l+1)]] W (AtOut F2 W sb wb b lv f M2 V2 h (l+1))

theorem at_hit (h:StepCtx F w sb wb b lv M V D)(hf:1≤f∧f≤5)(e:Edge)(l:Int)(he:e.ok)(h0:0≤l)(hl16:l≤16)(hm:(f,e,l)∈V) :
  Calls Tryz.prog 288 #[.pointer (some ⟨wb,0,none⟩),.agg #[.int .u8 f,.int .u8 e.tag,.int .u32 e.to,.int .i64 l]] w (AtOut F w sb wb b lv f M V e l):=by
 obtain⟨x,hx,hlook⟩:=h.look hf he h0 hl16
 obtain⟨x',a1,a2⟩:=h.memo.good _ hm
 have hxx:x'=x:=edgeD_inj (a1.symm.trans hx)
 subst hxx
 have hs1:=(h.memo.keys f e l hf he h0 hl16).2 hm
 rw [hs1] at hlook
 have HQ:=Lib.hid (fun(w':World) (hk:Keeps w w')=>at_same h a2 hk)
 have HLK:=Lib.hid hlook
 have c2:=h.c2
 obtain⟨hb,hwb⟩:=h.lt
 clear h hx hlook a1 a2 hs1 hm hf he
 go_enter Tryz.func288,Tryz.ntmps288
 go_wp2_with fail
 obtain⟨wq,hW1⟩:∃ W1,W1=(w.alloc (.cells #[.int .u8 f,.int .u8 e.tag,.int .u32 e.to,.int .i64 l] 340)).alloc (.cells #[.int .u8 0,.int .u32 0] 25):=⟨_,rfl⟩
 have p0:wq.cell? ⟨w.heap.size,0,none⟩=some (.int .u8 f):=by rw [hW1];simp [go_sem]
 have p1:wq.cell? ⟨w.heap.size,1,none⟩=some (.int .u8 e.tag):=by rw [hW1];simp [go_sem]
 have p2:wq.cell? ⟨w.heap.size,2,none⟩=some (.int .u32 e.to):=by rw [hW1];simp [go_sem]
 have p3:wq.cell? ⟨w.heap.size,3,none⟩=some (.int .i64 l):=by rw [hW1];simp [go_sem]
 have r0:wq.cell? ⟨w.heap.size+1,0,none⟩=some (.int .u8 0):=by rw [hW1];simp [go_sem]
 have r1:wq.cell? ⟨w.heap.size+1,1,none⟩=some (.int .u32 0):=by rw [hW1];simp [go_sem]
 have rf:∀ o:Nat,wq.frozen? ⟨w.heap.size+1,o,none⟩=false:=fun o=>by rw [hW1];simp [go_sem]
 have hk4:Keeps w wq:=by rw [hW1];exact((Keeps.refl _).alloc _).alloc _
 have hsq:wq.heap.size=w.heap.size+2:=by rw [hW1];simp
 have d2:=hk4.cell c2
 rw [← hW1]
 clear hW1 c2
 obtain⟨hsq1,hsq2⟩:w.heap.size+2≤wq.heap.size∧wq.heap.size≤w.heap.size+2:=by omega
 clear hsq
 have bq:=hk4.block b hb
 have lk1:=HLK.out wq.drew bq
 have lk2:=HLK.out (wq.alloc (.cells #[.int .u8 0,.int .u32 0] 25)).drew ((((Keeps.refl wq).alloc _).drew.block b (by omega)).trans bq)
 unfold spotV at lk1 lk2
 have n1:wq.heap.size≠wb:=by omega
 have n2:wq.heap.size≠w.heap.size:=by omega
 clear bq
 go_cut [6,7] (fun s6 s7 wx=>∃ B,s6=.pointer (some ⟨B,0,none⟩)∧s7=.bool true∧wx.cell? ⟨B,0,none⟩=some (.int .u8 x'.tag)∧wx.cell? ⟨B,1,none⟩=some (.int .u32 x'.to)∧Keeps wq wx)
 case first=>
  go_region_held3 (fun w'=>w'.cell? ⟨wb,2,none⟩=some (.map (some b))∧w'.cell? ⟨w.heap.size,0,none⟩=some (.int .u8 f)∧w'.cell? ⟨w.heap.size,1,none⟩=some (.int .u8 e.tag)∧w'.cell? ⟨w.heap.size,2,none⟩=some (.int .u32 e.to)∧w'.cell? ⟨w.heap.size,3,none⟩=some (.int .i64 l)) (go_keep) (fail)
  all_goals(try go_wp2_with fail)
  all_goals go_meet
  all_goals exact⟨wq.heap.size,rfl,rfl,by simp [go_sem],by simp [go_sem],by(exact kp)⟩
 case rest=>
  obtain⟨B,rfl,rfl,b0,b1,hkx⟩:=hcut
  replace r0:=hkx.cell r0
  replace r1:=hkx.cell r1
  have rf:=fun o:Nat=>hkx.frz (a:=⟨w.heap.size+1,o,none⟩) (by show w.heap.size+1<_;omega) (rf o)
  go_wp2_with fail
  refine bodyPost_ret (v:=.tuple #[.agg #[.int .u8 x'.tag,.int .u32 x'.to],.int .u8 0]) (by simp [results,Tryz.results288,go_sem,r0,r1]) rfl (HQ.out _ (by(exact kp)))

theorem at_deep (h:StepCtx F w sb wb b lv M V D)(hf:1≤f∧f≤5)(e:Edge)(l:Int)(he:e.ok)(hl:M.leads f e l=true)(h0:0≤l)(hln:l≤lv)(hlv:lv+1<M.n)(hm:(f,e,l)∉V)
  (hroom:M.room<1048576) (hcap:V.length+2 ^ ((lv-l).toNat+1)≤1000000) (ih:l<lv→AtNext sb wb b lv f M l 1000000) :
  Calls Tryz.prog 288 #[.pointer (some ⟨wb,0,none⟩),.agg #[.int .u8 f,.int .u8 e.tag,.int .u32 e.to,.int .i64 l]] w (AtOut F w sb wb b lv f M V e l):=by
 have hn16:=h.rep.wf.n16
 have HC:=Lib.hid h
 have c0:=h.c0
 have c1:=h.c1
 have c2:=h.c2
 obtain⟨hb,hwb⟩:=h.lt
 have hl14:l≤14:=by omega
 have hlv14:lv≤14:=by omega
 obtain⟨x,hx,hlook⟩:=h.look hf he h0 (by omega)
 rw [(h.memo.none hf he h0 (by omega) hm).1] at hlook
 have HLK:=Lib.hid hlook
 have HF:=Lib.hid hf
 have HE:=Lib.hid he
 have HL:=Lib.hid hl
 have HLV:=Lib.hid hlv
 have HM:=Lib.hid hm
 have HRM:=Lib.hid hroom
 have HCP:=Lib.hid hcap
 have HIH:=Lib.hid ih
 have HLT:=Lib.hid h.rep.lt
 clear h hf hl hx hlook he hm hroom hcap ih hlv hn16
 go_enter Tryz.func288,Tryz.ntmps288
 go_wp2_with fail
 obtain⟨wq,hW1⟩:∃ W1,W1=(w.alloc (.cells #[.int .u8 f,.int .u8 e.tag,.int .u32 e.to,.int .i64 l] 340)).alloc (.cells #[.int .u8 0,.int .u32 0] 25):=⟨_,rfl⟩
 have p0:wq.cell? ⟨w.heap.size,0,none⟩=some (.int .u8 f):=by rw [hW1];simp [go_sem]
 have p1:wq.cell? ⟨w.heap.size,1,none⟩=some (.int .u8 e.tag):=by rw [hW1];simp [go_sem]
 have p2:wq.cell? ⟨w.heap.size,2,none⟩=some (.int .u32 e.to):=by rw [hW1];simp [go_sem]
 have p3:wq.cell? ⟨w.heap.size,3,none⟩=some (.int .i64 l):=by rw [hW1];simp [go_sem]
 have r0:wq.cell? ⟨w.heap.size+1,0,none⟩=some (.int .u8 0):=by rw [hW1];simp [go_sem]
 have r1:wq.cell? ⟨w.heap.size+1,1,none⟩=some (.int .u32 0):=by rw [hW1];simp [go_sem]
 have rf:∀ o:Nat,wq.frozen? ⟨w.heap.size+1,o,none⟩=false:=fun o=>by rw [hW1];simp [go_sem]
 have hk4:Keeps w wq:=by rw [hW1];exact((Keeps.refl _).alloc _).alloc _
 have hsq:wq.heap.size=w.heap.size+2:=by rw [hW1];simp
 have d2:=hk4.cell c2
 rw [← hW1]
 clear hW1 c0 c1 c2
 obtain⟨hsq1,hsq2⟩:w.heap.size+2≤wq.heap.size∧wq.heap.size≤w.heap.size+2:=by omega
 clear hsq
 have bq:=hk4.block b hb
 have lk1:=HLK.out wq.drew bq
 have lk2:=HLK.out (wq.alloc (.cells #[.int .u8 0,.int .u32 0] 25)).drew ((((Keeps.refl wq).alloc _).drew.block b (by omega)).trans bq)
 unfold spotV at lk1 lk2
 have n1:wq.heap.size≠wb:=by omega
 have n2:wq.heap.size≠w.heap.size:=by omega
 clear bq
 go_cut [6,7] (fun s6 s7 wx=>∃ B,s6=.pointer (some ⟨B,0,none⟩)∧s7=.bool false∧Keeps wq wx)
 case first=>
  go_region_held3 (fun w'=>w'.cell? ⟨wb,2,none⟩=some (.map (some b))∧w'.cell? ⟨w.heap.size,0,none⟩=some (.int .u8 f)∧w'.cell? ⟨w.heap.size,1,none⟩=some (.int .u8 e.tag)∧w'.cell? ⟨w.heap.size,2,none⟩=some (.int .u32 e.to)∧w'.cell? ⟨w.heap.size,3,none⟩=some (.int .i64 l)) (go_keep) (fail)
  all_goals(try go_wp2_with fail)
  all_goals go_meet
  all_goals exact⟨wq.heap.size,rfl,rfl,by(exact kp)⟩
 case rest=>
  obtain⟨B,rfl,rfl,hkx⟩:=hcut
  have hk5:=hk4.trans hkx
  have sz5:=hk5.size
  have szx:=hkx.size
  replace p0:=hkx.cell p0
  replace p1:=hkx.cell p1
  replace p2:=hkx.cell p2
  replace p3:=hkx.cell p3
  replace r0:=hkx.cell r0
  replace r1:=hkx.cell r1
  replace rf:=fun o:Nat=>hkx.frz (a:=⟨w.heap.size+1,o,none⟩) (by show w.heap.size+1<_;omega) (rf o)
  have d0:=hk5.cell HC.out.c0
  have d1:=hk5.cell HC.out.c1
  have HK5:=Lib.hid hk5
  clear lk1 lk2 d2 hk4 hkx
  have hvw:=fun(W:World) (hW:Keeps w W)=>canon_view (HC.out.rep.keeps hW) f e l HE.out
  rw [kvAct_view HF.out] at hvw
  obtain⟨M1,hM1⟩:∃ M1,M1=vSt M (viewAct M f e l):=⟨_,rfl⟩
  obtain⟨lo,hlo⟩:∃ lo,lo=vLo M (viewAct M f e l):=⟨_,rfl⟩
  obtain⟨hi,hhi⟩:∃ hi,hi=vHi M f (viewAct M f e l):=⟨_,rfl⟩
  obtain⟨er,her⟩:∃ er,er=vErr M (viewAct M f e l):=⟨_,rfl⟩
  rw [← hM1,← hlo,← hhi,← her] at hvw
  have HVW:=Lib.hid (fun(W:World) (hW:Keeps wc W)=>upd_boxes HLT.out sz5 (hvw W (hk5.trans hW)))
  have HM1:=Lib.hid hM1
  have HLO:=Lib.hid hlo
  have HHI:=Lib.hid hhi
  have HER:=Lib.hid her
  clear hvw hM1 hlo hhi her hk5
  have nW:=HC.out.nW
  have HLC:=Lib.hid (fun k (hk:F k)=>Nat.lt_of_lt_of_le (HLT.out k hk) sz5)
  have np:¬F w.heap.size:=fun hh=>by have:=HLT.out _ hh;omega
  have nr:¬F (w.heap.size+1):=fun hh=>by have:=HLT.out _ hh;omega
  have m1:wc.heap.size≠wb:=by omega
  have m2:wc.heap.size≠w.heap.size:=by omega
  have m3:wc.heap.size+1≠wb:=by omega
  have m4:wc.heap.size+1≠w.heap.size:=by omega
  go_wp2_with fail
  go_cut [8,9,10] (fun s8 s9 s10 wx=>∃ B8 B9 F1,s8=.pointer (some ⟨B8,0,none⟩)∧s9=.pointer (some ⟨B9,0,none⟩)∧s10=.int .u8 er∧Boxed2 F wc wx sb M1 B8 B9 lo hi F1∧(∀ o:Nat,wx.frozen? ⟨B8,o,none⟩=false)∧(∀ o:Nat,wx.frozen? ⟨B9,o,none⟩=false)∧B8≠B9)
  case first=>
   go_region_held3 (fun w'=>w'.cell? ⟨wb,0,none⟩=some (.pointer (some ⟨sb,0,none⟩))∧w'.cell? ⟨w.heap.size,0,none⟩=some (.int .u8 f)∧w'.cell? ⟨w.heap.size,1,none⟩=some (.int .u8 e.tag)∧w'.cell? ⟨w.heap.size,2,none⟩=some (.int .u32 e.to)∧w'.cell? ⟨w.heap.size,3,none⟩=some (.int .i64 l)) (go_keep) ((go_at_call 291;refine(HVW.out _ (by(exact kp))).mono ?_;rintro e2 w2 ⟨⟨rfl,hu2,hS2⟩,hcl,hfl,hlq,hne,hnf⟩;have hsz:=hu2.size;(try simp only [World.size_alloc,World.size_drew,World.size_drewN] at hsz);have y0:=hu2.cellAt (b:=wb) (o:=0) (v:=.pointer (some ⟨sb,0,none⟩)) nW (by go_keep);have y1:=hu2.cellAt (b:=w.heap.size) (o:=0) (v:=.int .u8 f) np (by go_keep);have y2:=hu2.cellAt (b:=w.heap.size) (o:=1) (v:=.int .u8 e.tag) np (by go_keep);have y3:=hu2.cellAt (b:=w.heap.size) (o:=2) (v:=.int .u32 e.to) np (by go_keep);have y4:=hu2.cellAt (b:=w.heap.size) (o:=3) (v:=.int .i64 l) np (by go_keep);have sa:w2.heap.size≠wb:=(by omega);have sb2:w2.heap.size≠w.heap.size:=(by omega);have sa3:w2.heap.size+1≠wb:=(by omega);have sb3:w2.heap.size+1≠w.heap.size:=(by omega)))
   all_goals(try go_wp2_with fail)
   all_goals go_meet
   all_goals refine⟨_,_,_,rfl,rfl,rfl,boxed2 HLC.out (by(exact kp)) hu2 hS2 ?_ ?_ ?_ ?_ ?_ ?_ ?_,fun o=>?_,fun o=>?_,?_⟩
   all_goals(try(simp [go_sem];done))
   all_goals(try(simp only [World.size_alloc,World.size_drew,World.size_setCell];omega))
   all_goals(try(repeat (first|with_reducible exact Upd.refl _ _|with_reducible refine Upd.alloc ?_ _|with_reducible refine Upd.drew ?_|refine Upd.setCell ?_ (Or.inl (Or.inl rfl)) _|refine Upd.setCell ?_ (Or.inl (Or.inr rfl)) _)))
   all_goals(try(simp [go_sem,hcl,hfl,hlq,hne,hnf];done))
   all_goals(try(simp only [World.size_alloc,World.size_drew,World.size_setCell] at *;omega))
   all_goals(try(
    have z0:w2.cell? ⟨wc.heap.size,0,none⟩=some (.int .u8 0):=(hcl _ _ (Nat.le_refl _) (by simp only [World.size_alloc,World.size_drew];omega)).trans ((World.cell?_alloc_lt _ _ _ (by simp)).trans (by simp [go_sem]))
    have z1:w2.cell? ⟨wc.heap.size,1,none⟩=some (.int .u32 0):=(hcl _ _ (Nat.le_refl _) (by simp only [World.size_alloc,World.size_drew];omega)).trans ((World.cell?_alloc_lt _ _ _ (by simp)).trans (by simp [go_sem]))
    simp [go_sem,z0,z1]
    done))
  case rest=>
   rename_i hK
   obtain⟨B8,B9,F1,rfl,rfl,rfl,hBx,fr8,fr9,n89⟩:=hcut
   have hsB:=hBx.upd.size
   replace p0:=hBx.upd.cellAt np p0
   replace p1:=hBx.upd.cellAt np p1
   replace p2:=hBx.upd.cellAt np p2
   replace p3:=hBx.upd.cellAt np p3
   replace r0:=hBx.upd.cellAt nr r0
   replace r1:=hBx.upd.cellAt nr r1
   replace rf:=fun o:Nat=>hBx.upd.frozen (a:=⟨w.heap.size+1,o,none⟩) (by show w.heap.size+1<_;omega) nr (rf o)
   have hC5:=HC.out.keeps HK5.out
   have x8:=hBx.a0
   have x8':=hBx.a1
   have x9:=hBx.c0
   have x9':=hBx.c1
   have l8:=lt_of_cell x8
   have l9:=lt_of_cell x9
   dsimp only at l8 l9
   have g8:=hBx.gB
   have g9:=hBx.gC
   have n1p:=hBx.no np (by omega)
   have n1r:=hBx.no nr (by omega)
   have n18:=hBx.nB
   have n19:=hBx.nC
   have sub1:∀ j,F1 j→F j∨w.heap.size≤j:=fun j hj=>by
    rcases hBx.sub j hj with q|q
    ·exact .inl q
    ·exact .inr (by omega)
   have HU1:=Lib.hid ((Keeps.upd HK5.out F).trans' hBx.upd)
   have HS1:=Lib.hid sub1
   have HBX:=Lib.hid hBx
   have HC5:=Lib.hid hC5
   have q8:w.heap.size+2≤B8:=by omega
   have q9:w.heap.size+2≤B9:=by omega
   clear hBx sub1 hC5 d0 d1 HVW
   have hlM:l<M.n:=by have:=HLV.out;omega
   by_cases he1:er=0
   case neg=>
    obtain⟨q1,q2,q3⟩:=swp_view_full (lv:=lv) (c:=costS lv l) HC.out.rep.wf HL.out hlM (by have:=costS_pos (lv:=lv) (l:=l);omega) (HER.out ▸ he1) HM1.out
    obtain rfl:er=6:=HER.out.trans q1
    have hrep:=HBX.out.rep
    rw [q2] at hrep
    have hFO:=fun(w':World) (hw':Upd (fun j=>j=w.heap.size+1) wc w')=>at_full (V:=V) (wb:=wb) (b:=b) q3 (HU1.out.mono (fun k _ hk=>.inl hk)) HS1.out hrep hw' n1r (by omega)
    have HFO:=Lib.hid hFO
    clear hFO hrep q1 q2 q3 hlM
    go_wp2_with fail
    refine bodyPost_ret (v:=.tuple #[.agg #[.int .u8 (⟨0,0⟩:Edge).tag,.int .u32 (⟨0,0⟩:Edge).to],.int .u8 6]) (by simp [results,Tryz.results288,go_sem,r0,r1]) rfl (HFO.out _ ?_)
    (repeat (first|with_reducible exact Upd.refl _ _|refine updR ?_ _ _|with_reducible refine Upd.alloc ?_ _|with_reducible refine Upd.drew ?_))
   case pos=>
    subst he1
    have hER0:vErr M (viewAct M f e l)=0:=HER.out.symm
    have hv:=viewed HC.out.rep.wf HL.out hlM hER0
    have hw1:=viewed_went HC.out.rep.wf HL.out hlM hER0
    obtain⟨olo,ohi⟩:=view_fit HC.out.rep.wf HC.out.rep.few (fun id r hr=>HC.out.rep.fit hr) (f:=f) HE.out h0 hlM
    rw [← HM1.out,← HLO.out,← HHI.out] at hv
    rw [← HM1.out] at hw1
    rw [← HLO.out] at olo
    rw [← HHI.out] at ohi
    have hC1:StepCtx F1 wc sb wb b lv M1 V D:=HC5.out.store HBX.out.upd HBX.out.rep HBX.out.sub hv.ext
    have d1:=hC1.c1
    have HC1:=Lib.hid hC1
    have HV1:=Lib.hid hv
    have HW1:=Lib.hid hw1
    have HOK:=Lib.hid (⟨olo,ohi⟩:lo.ok∧hi.ok)
    clear hv hw1 olo ohi hC1 hER0 hlM HC5
    refine hK _ _ ?_
    clear hK
    apply wp_seq_k
    intro K5 hK5
    go_cut [5] (fun s5 wx=>s5=.int .u8 0∧wx=wc)
    case first=>
     go_wp2_with fail
     go_meet
     exact⟨rfl,rfl⟩
    case rest=>
     obtain⟨rfl,rfl⟩:=hcut
     refine hK5 _ _ ?_
     clear hK5 K5
     apply wp_seq_k
     intro K6 hK6
     go_cut [10] (fun s10 wx=>∃ F3 M3 x y er,s10=.int .u8 er∧MidS F w wx sb wb b lv f M V e l B8 B9 F3 M3 x y er)
     case first=>
      go_wp2_with fail
      go_quiet (fail)
      obtain⟨wy,hwy⟩:∃ W,W=wc.drewN nq:=⟨_,rfl⟩
      have hkc:Keeps wc wy:=by rw [hwy];exact(Keeps.refl _).drewN _
      rw [← hwy]
      clear hwy
      have szc:=hkc.size
      replace p0:=hkc.cell p0
      replace p1:=hkc.cell p1
      replace p2:=hkc.cell p2
      replace p3:=hkc.cell p3
      replace r0:=hkc.cell r0
      replace r1:=hkc.cell r1
      replace rf:=fun o:Nat=>hkc.frz (a:=⟨w.heap.size+1,o,none⟩) (by show w.heap.size+1<_;omega) (rf o)
      replace x8:=hkc.cell x8
      replace x8':=hkc.cell x8'
      replace x9:=hkc.cell x9
      replace x9':=hkc.cell x9'
      replace fr8:=fun o:Nat=>hkc.frz (a:=⟨B8,o,none⟩) l8 (fr8 o)
      replace fr9:=fun o:Nat=>hkc.frz (a:=⟨B9,o,none⟩) l9 (fr9 o)
      replace d1:=hkc.cell d1
      have HCY:=Lib.hid (HC1.out.keeps hkc)
      have HUY:=Lib.hid (HU1.out.trans' (hkc.upd F))
      have b8:=HCY.out.neCell x8
      have b9:=HCY.out.neCell x9
      have bp:=HCY.out.neCell p0
      have br:=HCY.out.neCell r0
      replace l8:B8<wy.heap.size:=by omega
      replace l9:B9<wy.heap.size:=by omega
      have lwp:w.heap.size<wy.heap.size:=by omega
      have lwr:w.heap.size+1<wy.heap.size:=by omega
      have w8:B8≠wb:=by omega
      have w9:B9≠wb:=by omega
      have e8p:w.heap.size≠B8:=by omega
      have e9p:w.heap.size≠B9:=by omega
      have e8r:w.heap.size+1≠B8:=by omega
      have e9r:w.heap.size+1≠B9:=by omega
      have e98:B9≠B8:=fun hh=>n89 hh.symm
      have HSZ:=Lib.hid szc
      clear hkc szc
      by_cases hll:l=lv
      ·subst hll
       have hcr:=cross_calls HCY.out.rep HCY.out.c0 HCY.out.c1 HCY.out.nW HF.out (by have:=HV1.out.room;have:=HRM.out;omega) h0 (by have:=HV1.out.ext.n;have:=HLV.out;omega) lo hi HOK.out.1 HOK.out.2 HV1.out.llo HV1.out.lhi
       have HCR:=Lib.hid hcr
       clear hcr
       go_wp2_with fail
       refine HCR.out.mono ?_
       rintro r w6 ⟨My,x,y,er2,F2,rfl,ox,oy,her2,hpg,hwt,hfl,hcd⟩
       have s6:=hpg.upd.size
       have hC6:=HCY.out.store hpg.upd hpg.rep hpg.sub hwt.ext
       replace p0:=hpg.upd.cellAt n1p p0
       replace p1:=hpg.upd.cellAt n1p p1
       replace p2:=hpg.upd.cellAt n1p p2
       replace p3:=hpg.upd.cellAt n1p p3
       replace r0:=hpg.upd.cellAt n1r r0
       replace r1:=hpg.upd.cellAt n1r r1
       replace rf:=fun o:Nat=>hpg.upd.frozen (a:=⟨w.heap.size+1,o,none⟩) lwr n1r (rf o)
       replace x8:=hpg.upd.cellAt n18 x8
       replace x8':=hpg.upd.cellAt n18 x8'
       replace x9:=hpg.upd.cellAt n19 x9
       replace x9':=hpg.upd.cellAt n19 x9'
       replace fr8:=fun o:Nat=>hpg.upd.frozen (a:=⟨B8,o,none⟩) l8 n18 (fr8 o)
       replace fr9:=fun o:Nat=>hpg.upd.frozen (a:=⟨B9,o,none⟩) l9 n19 (fr9 o)
       have no:∀ X,¬F1 X→X<wy.heap.size→¬F2 X:=fun X h1 h2 hk=>by
        rcases hpg.sub X hk with q|q
        ·exact h1 q
        ·omega
       have n28:=no _ n18 l8
       have n29:=no _ n19 l9
       have n2p:=no _ n1p lwp
       have n2r:=no _ n1r lwr
       have hu6:Upd (fun j=>F j∨j=b) w w6:=(HUY.out.later hpg.upd (fun i hi hh=>by
        rcases HS1.out i hh with q|q
        ·exact q
        ·omega)).mono (fun k _ hk=>.inl hk)
       have sub6:∀ j,F2 j→F j∨w.heap.size≤j:=fun j hj=>by
        rcases hpg.sub j hj with q|q
        ·exact HS1.out j q
        ·exact .inr (by omega)
       have hgood:er2=0→(mkE f My (mkK f My l x y)).ok→Swp l f M e l (actSt My (mkK f My l x y)) (mkE f My (mkK f My l x y)) (actErr My (mkK f My l x y)) (costS l l):=fun h2 hok=>by
        obtain⟨Ma,Mb,Mx,a,b',c,d,z1,z2,z3,z4,z5,z6,z7,z8,z9,z10,z11,z12,z13,z14⟩:=hcd h2
        rw [costS_at]
        exact swp_cross HC.out.rep.wf HRM.out HF.out HL.out h0 HLV.out HER.out.symm HM1.out HLO.out HHI.out z1 z2 z3 z4 z5 z6 z7 z8 z9 z10 z11 z12 z13 z14 hok
       have hmid:∀ wx,Upd (fun j=>j=B8∨j=B9) w6 wx→wx.cell? ⟨B8,0,none⟩=some (.int .u8 x.tag)→wx.cell? ⟨B8,1,none⟩=some (.int .u32 x.to)→wx.cell? ⟨B9,0,none⟩=some (.int .u8 y.tag)→wx.cell? ⟨B9,1,none⟩=some (.int .u32 y.to)→MidS F w wx sb wb b l f M V e l B8 B9 F2 My x y er2:=fun wx hx z1 z2 z3 z4=>by
        have np':¬(w.heap.size=B8∨w.heap.size=B9):=fun hh=>by omega
        have nr':¬(w.heap.size+1=B8∨w.heap.size+1=B9):=fun hh=>by omega
        refine⟨hu6.later hx (fun i hi hh=>by omega),sub6,hpg.rep.keep hx (fun k hk hh=>by rcases hh with rfl|rfl;exact n28 hk;exact n29 hk),hx.cellAt np' p0,hx.cellAt np' p1,hx.cellAt np' p2,hx.cellAt np' p3,hx.cellAt nr' r0,hx.cellAt nr' r1,fun o=>hx.frozen (a:=⟨w.heap.size+1,o,none⟩) (by show w.heap.size+1<_;omega) nr' (rf o),n2p,n2r,fun h6=>?_,fun h0'=>?_⟩
        ·rcases her2 with q|q
         ·exact absurd q h6
         ·exact⟨q,swp_full (HW1.out.trans hwt) (by rw [costS_at];decide) (hfl q)⟩
        ·refine⟨ox,oy,hwt.ext.n.trans HV1.out.ext.n,hwt.room.trans HV1.out.room,n28,n29,⟨z1,z2,z3,z4⟩,⟨V,D,hC6.far hx (fun j hj hh=>by rcases hh with rfl|rfl;exact n28 hj;exact n29 hj) (fun hh=>by rcases hh with hh|hh;exact b8 hh.symm;exact b9 hh.symm) (fun hh=>by rcases hh with hh|hh;exact w8 hh.symm;exact w9 hh.symm),?_,fun q hq=>.inl hq⟩,hgood h0'⟩
         rw [show(l-l).toNat+1=1 by omega]
         exact Nat.le_refl _
       have HMID:=Lib.hid hmid
       clear hmid hgood hu6 sub6 no hC6 hpg hwt hfl hcd HCR
       go_wp2_with fail
       go_meet
       refine⟨F2,My,x,y,er2,rfl,HMID.out _ ?_ ?_ ?_ ?_ ?_⟩
       ·(repeat (first|with_reducible exact Upd.refl _ _|refine updR2 (Or.inl rfl) ?_ _ _|refine updR2 (Or.inr rfl) ?_ _ _|with_reducible refine Upd.alloc ?_ _|with_reducible refine Upd.drew ?_))
       all_goals simp [go_sem,x8,x8',x9,x9',fr8,fr9,n89,e98]
      ·have hlt:l<lv:=by omega
       have hih:=HIH.out hlt
       have ek:(lv-l).toNat+1=((lv-(l+1)).toNat+1)+1:=by omega
       obtain⟨P,hP⟩:∃ P,P=2 ^ ((lv-(l+1)).toNat+1):=⟨_,rfl⟩
       have ep:2 ^ ((lv-l).toNat+1)=P+P:=by rw [ek,Nat.pow_succ,← hP];omega
       have hcap:=HCP.out
       rw [ep] at hcap
       have hpos:0<P:=by rw [hP];exact Nat.pow_pos (by decide)
       have hc1:=hih lo F1 M1 V D wy HOK.out.1 HV1.out.ext.n HV1.out.room HV1.out.llo (by rw [← hP];omega) HCY.out
       have HC1c:=Lib.hid hc1
       have HIHH:=Lib.hid hih
       have HP:=Lib.hid hP
       have HEP:=Lib.hid ep
       clear hc1 hih hP ep ek
       go_wp2_with fail
       refine HC1c.out.mono ?_
       rintro r w6 ⟨M2,x,er2,F2,rfl,hs1,ox,her2,hu2,hF2,hS2,hD2⟩
       have s6:=hu2.size
       have tr:∀ X,¬F1 X→X≠b→¬(F1 X∨X=b):=fun X h1 h2 hh=>by rcases hh with hh|hh;exact h1 hh;exact h2 hh
       replace p0:=hu2.cellAt (tr _ n1p bp) p0
       replace p1:=hu2.cellAt (tr _ n1p bp) p1
       replace p2:=hu2.cellAt (tr _ n1p bp) p2
       replace p3:=hu2.cellAt (tr _ n1p bp) p3
       replace r0:=hu2.cellAt (tr _ n1r br) r0
       replace r1:=hu2.cellAt (tr _ n1r br) r1
       replace rf:=fun o:Nat=>hu2.frozen (a:=⟨w.heap.size+1,o,none⟩) lwr (tr _ n1r br) (rf o)
       replace x8:=hu2.cellAt (tr _ n18 b8) x8
       replace x8':=hu2.cellAt (tr _ n18 b8) x8'
       replace x9:=hu2.cellAt (tr _ n19 b9) x9
       replace x9':=hu2.cellAt (tr _ n19 b9) x9'
       replace fr8:=fun o:Nat=>hu2.frozen (a:=⟨B8,o,none⟩) l8 (tr _ n18 b8) (fr8 o)
       replace fr9:=fun o:Nat=>hu2.frozen (a:=⟨B9,o,none⟩) l9 (tr _ n19 b9) (fr9 o)
       have no:∀ X,¬F1 X→X<wy.heap.size→¬F2 X:=fun X h1 h2 hk=>by
        rcases hF2 X hk with q|q
        ·exact h1 q
        ·omega
       have n28:=no _ n18 l8
       have n29:=no _ n19 l9
       have n2p:=no _ n1p lwp
       have n2r:=no _ n1r lwr
       have hu6:Upd (fun j=>F j∨j=b) w w6:=(HUY.out.mono (fun k _ hk=>.inl hk)).later hu2 (fun i hi hh=>by
        rcases hh with hh|hh
        ·rcases HS1.out i hh with q|q
         ·exact .inl q
         ·omega
        ·exact .inr hh)
       have sub6:∀ j,F2 j→F j∨w.heap.size≤j:=fun j hj=>by
        rcases hF2 j hj with q|q
        ·exact HS1.out j q
        ·exact .inr (by omega)
       have HU6:=Lib.hid hu6
       have HS6:=Lib.hid sub6
       have HS1c:=Lib.hid hs1
       have HREP2:=Lib.hid hS2
       have HD2:=Lib.hid hD2
       have HOX:=Lib.hid ox
       clear no hu6 sub6 hs1 hS2 hD2 ox hu2 hF2 HC1c HSZ
       rcases her2 with rfl|rfl
       ·obtain⟨V2,D2,hC2,hlen2,hnew2⟩:=HD2.out rfl
        have g1:=HS1c.out.good rfl
        have hwt1:=HS1c.out.went
        have hc2:=fun(W:World) (hW:Upd (fun j=>j=B8∨j=B9) w6 W)=>HIHH.out hi F2 M2 V2 D2 W HOK.out.2 (hwt1.ext.n.trans HV1.out.ext.n) (hwt1.room.trans HV1.out.room) (hwt1.ext.leads HV1.out.lhi) (by rw [← HP.out] at hlen2 ⊢;omega) (hC2.far hW (fun j hj hh=>by rcases hh with rfl|rfl;exact n28 hj;exact n29 hj) (fun hh=>by rcases hh with hh|hh;exact b8 hh.symm;exact b9 hh.symm) (fun hh=>by rcases hh with hh|hh;exact w8 hh.symm;exact w9 hh.symm))
        have HC2c:=Lib.hid hc2
        have HC2:=Lib.hid hC2
        have HG1:=Lib.hid g1
        have HWT1:=Lib.hid hwt1
        have HLEN2:=Lib.hid hlen2
        have HNEW2:=Lib.hid hnew2
        clear hc2 hC2 g1 hwt1 hlen2 hnew2
        go_wp2_with fail
        have u7:Upd (fun j=>j=B8) w6 ((w6.setCell ⟨B8,0,none⟩ (.int .u8 x.tag)).setCell ⟨B8,1,none⟩ (.int .u32 x.to)):=updR2 (P:=fun j=>j=B8) rfl (updR2 (P:=fun j=>j=B8) rfl (Upd.refl _ _) _ _) _ _
        have y8:((w6.setCell ⟨B8,0,none⟩ (.int .u8 x.tag)).setCell ⟨B8,1,none⟩ (.int .u32 x.to)).cell? ⟨B8,0,none⟩=some (.int .u8 x.tag):=by simp [go_sem,x8,x8',fr8]
        have y8':((w6.setCell ⟨B8,0,none⟩ (.int .u8 x.tag)).setCell ⟨B8,1,none⟩ (.int .u32 x.to)).cell? ⟨B8,1,none⟩=some (.int .u32 x.to):=by simp [go_sem,x8,x8',fr8]
        obtain⟨w7,hw7⟩:∃ W,W=(w6.setCell ⟨B8,0,none⟩ (.int .u8 x.tag)).setCell ⟨B8,1,none⟩ (.int .u32 x.to):=⟨_,rfl⟩
        rw [← hw7] at u7 y8 y8' ⊢
        clear hw7
        have u7m:=u7.mono (G:=fun j=>j=B8∨j=B9) (fun k _ hk=>.inl hk)
        refine(HC2c.out w7 u7m).mono ?_
        rintro r w8 ⟨M3,y,er3,F3,rfl,hs2,oy,her3,hu3,hF3,hS3,hD3⟩
        have s7:=u7.size
        have s8:=hu3.size
        have tr:∀ X,¬F2 X→X≠b→¬(F2 X∨X=b):=fun X h1 h2 hh=>by rcases hh with hh|hh;exact h1 hh;exact h2 hh
        replace p0:=hu3.cellAt (tr _ n2p bp) (u7.cellAt e8p p0)
        replace p1:=hu3.cellAt (tr _ n2p bp) (u7.cellAt e8p p1)
        replace p2:=hu3.cellAt (tr _ n2p bp) (u7.cellAt e8p p2)
        replace p3:=hu3.cellAt (tr _ n2p bp) (u7.cellAt e8p p3)
        replace r0:=hu3.cellAt (tr _ n2r br) (u7.cellAt e8r r0)
        replace r1:=hu3.cellAt (tr _ n2r br) (u7.cellAt e8r r1)
        replace rf:=fun o:Nat=>hu3.frozen (a:=⟨w.heap.size+1,o,none⟩) (by show w.heap.size+1<_;omega) (tr _ n2r br) (u7.frozen (a:=⟨w.heap.size+1,o,none⟩) (by show w.heap.size+1<_;omega) e8r (rf o))
        replace y8:=hu3.cellAt (tr _ n28 b8) y8
        replace y8':=hu3.cellAt (tr _ n28 b8) y8'
        replace x9:=hu3.cellAt (tr _ n29 b9) (u7.cellAt e98 x9)
        replace x9':=hu3.cellAt (tr _ n29 b9) (u7.cellAt e98 x9')
        replace fr9:=fun o:Nat=>hu3.frozen (a:=⟨B9,o,none⟩) (by show B9<_;omega) (tr _ n29 b9) (u7.frozen (a:=⟨B9,o,none⟩) (by show B9<_;omega) e98 (fr9 o))
        have no:∀ X,¬F2 X→X<w7.heap.size→¬F3 X:=fun X h1 h2 hk=>by
         rcases hF3 X hk with q|q
         ·exact h1 q
         ·omega
        have n38:=no _ n28 (by omega)
        have n39:=no _ n29 (by omega)
        have n3p:=no _ n2p (by omega)
        have n3r:=no _ n2r (by omega)
        have hu8:Upd (fun j=>F j∨j=b) w w8:=(HU6.out.later u7 (fun i hi hh=>by omega)).later hu3 (fun i hi hh=>by
         rcases hh with hh|hh
         ·rcases HS6.out i hh with q|q
          ·exact .inl q
          ·omega
         ·exact .inr hh)
        have sub8:∀ j,F3 j→F j∨w.heap.size≤j:=fun j hj=>by
         rcases hF3 j hj with q|q
         ·exact HS6.out j q
         ·exact .inr (by omega)
        have hmid:∀ wx,Upd (fun j=>j=B9) w8 wx→wx.cell? ⟨B9,0,none⟩=some (.int .u8 y.tag)→wx.cell? ⟨B9,1,none⟩=some (.int .u32 y.to)→MidS F w wx sb wb b lv f M V e l B8 B9 F3 M3 x y er3:=fun wx hx z3 z4=>by
         refine⟨hu8.later hx (fun i hi hh=>by omega),sub8,hS3.keep hx (fun k hk hh=>by subst hh;exact n39 hk),hx.cellAt e9p p0,hx.cellAt e9p p1,hx.cellAt e9p p2,hx.cellAt e9p p3,hx.cellAt e9r r0,hx.cellAt e9r r1,fun o=>hx.frozen (a:=⟨w.heap.size+1,o,none⟩) (by show w.heap.size+1<_;omega) e9r (rf o),n3p,n3r,fun h6=>?_,fun h0'=>?_⟩
         ·rcases her3 with q|q
          ·exact absurd q h6
          ·refine⟨q,swp_full ((HW1.out.trans HWT1.out).trans hs2.went) ?_ (hs2.full h6).2.2⟩
           rw [costS_up hlt]
           omega
         ·obtain⟨V3,D3,hC3,hlen3,hnew3⟩:=hD3 h0'
          refine⟨HOX.out,oy,(hs2.went.ext.n.trans HWT1.out.ext.n).trans HV1.out.ext.n,(hs2.went.room.trans HWT1.out.room).trans HV1.out.room,n38,n39,⟨hx.cellAt n89 y8,hx.cellAt n89 y8',z3,z4⟩,⟨V3,D3,hC3.far hx (fun j hj hh=>by subst hh;exact n39 hj) (fun hh=>b9 hh.symm) (fun hh=>w9 hh.symm),?_,fun q hq=>?_⟩,fun hok=>?_⟩
          ·have h2:=HLEN2.out
           rw [← HP.out] at h2 hlen3
           rw [HEP.out]
           omega
          ·rcases hnew3 q hq with q1|q1
           ·rcases HNEW2.out q q1 with q2|q2
            ·exact .inl q2
            ·exact .inr (by omega)
           ·exact .inr (by omega)
          ·subst h0'
           rw [costS_up hlt]
           exact swp_make HC.out.rep.wf HRM.out HF.out HL.out h0 hlt HLV.out HER.out.symm HM1.out HLO.out HHI.out HS1c.out hs2 hok
        have HMID:=Lib.hid hmid
        clear hmid hu8 sub8 no hs2 oy hu3 hF3 hS3 hD3 HC2c u7 u7m y8 y8'
        go_wp2_with fail
        go_meet
        refine⟨F3,M3,x,y,er3,rfl,HMID.out _ ?_ ?_ ?_⟩
        ·(repeat (first|with_reducible exact Upd.refl _ _|refine updR2 (P:=fun j=>j=B9) rfl ?_ _ _|with_reducible refine Upd.alloc ?_ _|with_reducible refine Upd.drew ?_))
        all_goals simp [go_sem,x9,x9',fr9]
       ·obtain⟨q1,q2,q3⟩:=HS1c.out.full (by decide)
        have hmid:∀ wx,Upd (fun j=>j=B8∨j=B9) w6 wx→MidS F w wx sb wb b lv f M V e l B8 B9 F2 M2 x x 6:=fun wx hx=>by
         have np':¬(w.heap.size=B8∨w.heap.size=B9):=fun hh=>by omega
         have nr':¬(w.heap.size+1=B8∨w.heap.size+1=B9):=fun hh=>by omega
         refine⟨HU6.out.later hx (fun i hi hh=>by omega),HS6.out,HREP2.out.keep hx (fun k hk hh=>by rcases hh with rfl|rfl;exact n28 hk;exact n29 hk),hx.cellAt np' p0,hx.cellAt np' p1,hx.cellAt np' p2,hx.cellAt np' p3,hx.cellAt nr' r0,hx.cellAt nr' r1,fun o=>hx.frozen (a:=⟨w.heap.size+1,o,none⟩) (by show w.heap.size+1<_;omega) nr' (rf o),n2p,n2r,fun h6=>?_,fun h0'=>by cases h0'⟩
         refine⟨rfl,swp_full (HW1.out.trans HS1c.out.went) ?_ q3⟩
         rw [costS_up hlt]
         have:=costS_pos (lv:=lv) (l:=l+1)
         omega
        have HMID:=Lib.hid hmid
        clear hmid q1 q2 q3
        go_wp2_with fail
        go_meet
        refine⟨F2,M2,x,x,6,rfl,HMID.out _ ?_⟩
        (repeat (first|with_reducible exact Upd.refl _ _|refine updR2 (Or.inl rfl) ?_ _ _|refine updR2 (Or.inr rfl) ?_ _ _|with_reducible refine Upd.alloc ?_ _|with_reducible refine Upd.drew ?_))
     case rest=>
      obtain⟨F3,M3,x,y,er3,rfl,hmd⟩:=hcut
      clear p0 p1 p2 p3 r0 r1 rf x8 x8' x9 x9' fr8 fr9 d1 HC1 HU1 l8 l9 n18 n19 n1p n1r
      have s3:=hmd.upd.size
      have r0:=hmd.r0
      have r1:=hmd.r1
      have rf:=hmd.rf
      have lr:=lt_of_cell r0
      dsimp only at lr
      by_cases he3:er3=0
      case neg=>
       obtain⟨q1,q2⟩:=hmd.full he3
       subst q1
       have hFO:=fun(w':World) (hw':Upd (fun j=>j=w.heap.size+1) wc w')=>at_full (V:=V) (wb:=wb) (b:=b) q2 hmd.upd hmd.sub hmd.rep hw' hmd.nR (by omega)
       have HFO:=Lib.hid hFO
       clear hFO q2 hmd he3
       refine hK6 _ _ ?_
       clear hK6
       go_wp2_with fail
       refine bodyPost_ret (v:=.tuple #[.agg #[.int .u8 (⟨0,0⟩:Edge).tag,.int .u32 (⟨0,0⟩:Edge).to],.int .u8 6]) (by simp [results,Tryz.results288,go_sem,r0,r1]) rfl (HFO.out _ ?_)
       (repeat (first|with_reducible exact Upd.refl _ _|refine updR ?_ _ _|with_reducible refine Upd.alloc ?_ _|with_reducible refine Upd.drew ?_))
      case pos=>
       subst he3
       obtain⟨ox,oy,hn3,hr3,n38,n39,⟨x8,x8',x9,x9'⟩,⟨V3,D3,hC3,hlen3,hnew3⟩,hgood⟩:=hmd.good rfl
       have p0:=hmd.p0
       have p1:=hmd.p1
       have p2:=hmd.p2
       have p3:=hmd.p3
       have n3p:=hmd.nP
       have n3r:=hmd.nR
       have n3w:=hC3.nW
       have hl3:l<M3.n:=by have:=HLV.out;omega
       have hok3:(mkE f M3 (mkK f M3 l x y)).ok:=mkK_ok hC3.rep.wf hC3.rep.few ox oy h0 (by omega) HF.out
       have hsw:=hgood hok3
       have hmk:=fun(W:World) (hW:Keeps wc W)=>canon_make (hC3.rep.keeps hW) f l x y ox oy
       rw [kAct_mkK HF.out] at hmk
       change ∀ W,Keeps wc W→Calls _ _ _ W fun r w'=>r=.returned (.tuple #[.agg #[.int .u8 (mkE f M3 (mkK f M3 l x y)).tag,.int .u32 (mkE f M3 (mkK f M3 l x y)).to],.int .u8 (actErr M3 (mkK f M3 l x y))])∧Upd F3 W w'∧StoreRep (Grow F3 W w') w' sb (actSt M3 (mkK f M3 l x y)) at hmk
       have hE34:Ext M3 (actSt M3 (mkK f M3 l x y)):=act_ext hC3.rep.wf _
       obtain⟨M4,hM4⟩:∃ M4,M4=actSt M3 (mkK f M3 l x y):=⟨_,rfl⟩
       obtain⟨z,hz4⟩:∃ z,z=mkE f M3 (mkK f M3 l x y):=⟨_,rfl⟩
       obtain⟨er4,her4⟩:∃ er4,er4=actErr M3 (mkK f M3 l x y):=⟨_,rfl⟩
       rw [← hM4,← hz4,← her4] at hmk hsw
       rw [← hz4] at hok3
       rw [← hM4] at hE34
       have hlt3:=hC3.rep.lt
       have HMK:=Lib.hid (fun(W:World) (hW:Keeps wc W)=>upd_boxes hlt3 (Nat.le_refl _) (hmk W hW))
       have HSW:=Lib.hid hsw
       have HOK3:=Lib.hid hok3
       have HC3:=Lib.hid hC3
       have HLT3:=Lib.hid hlt3
       have HE34:=Lib.hid hE34
       have HMD:=Lib.hid hmd
       have HLEN3:=Lib.hid hlen3
       have HNEW3:=Lib.hid hnew3
       have d0:=hC3.c0
       have l8:=lt_of_cell x8
       have l9:=lt_of_cell x9
       have lw:=hC3.lt.2
       dsimp only at l8 l9
       clear hmk hsw hok3 hC3 hlt3 hM4 hz4 her4 hgood hmd hE34 hlen3 hnew3
       have m1:wc.heap.size≠wb:=by omega
       have m2:wc.heap.size≠w.heap.size:=by omega
       have m3:wc.heap.size≠B8:=by omega
       have m4:wc.heap.size≠B9:=by omega
       refine hK6 _ _ ?_
       clear hK6 K6
       go_wp2_with fail
       go_cut [11,10] (fun s11 s10 wx=>∃ B11 F4,s11=.pointer (some ⟨B11,0,none⟩)∧s10=.int .u8 er4∧Boxed2 F3 wc wx sb M4 B11 B11 z z F4)
       case first=>
        go_region_held3 (fun w'=>w'.cell? ⟨wb,0,none⟩=some (.pointer (some ⟨sb,0,none⟩))∧w'.cell? ⟨w.heap.size,0,none⟩=some (.int .u8 f)∧w'.cell? ⟨w.heap.size,3,none⟩=some (.int .i64 l)∧w'.cell? ⟨B8,0,none⟩=some (.int .u8 x.tag)∧w'.cell? ⟨B8,1,none⟩=some (.int .u32 x.to)∧w'.cell? ⟨B9,0,none⟩=some (.int .u8 y.tag)∧w'.cell? ⟨B9,1,none⟩=some (.int .u32 y.to)) (go_keep) ((go_at_call 111;refine(HMK.out _ (by(exact kp))).mono ?_;rintro e2 w2 ⟨⟨rfl,hu2,hS2⟩,hcl,hfl,hlq,hne,hnf⟩;have hsz:=hu2.size;(try simp only [World.size_alloc,World.size_drew,World.size_drewN] at hsz);have t0:=hu2.cellAt (b:=wb) (o:=0) (v:=.pointer (some ⟨sb,0,none⟩)) n3w (by go_keep);have t1:=hu2.cellAt (b:=w.heap.size) (o:=0) (v:=.int .u8 f) n3p (by go_keep);have t2:=hu2.cellAt (b:=w.heap.size) (o:=3) (v:=.int .i64 l) n3p (by go_keep);have t3:=hu2.cellAt (b:=B8) (o:=0) (v:=.int .u8 x.tag) n38 (by go_keep);have t4:=hu2.cellAt (b:=B8) (o:=1) (v:=.int .u32 x.to) n38 (by go_keep);have t5:=hu2.cellAt (b:=B9) (o:=0) (v:=.int .u8 y.tag) n39 (by go_keep);have t6:=hu2.cellAt (b:=B9) (o:=1) (v:=.int .u32 y.to) n39 (by go_keep);have sa:w2.heap.size≠wb:=(by omega);have sc:w2.heap.size≠w.heap.size:=(by omega);have sd:w2.heap.size≠B8:=(by omega);have se:w2.heap.size≠B9:=(by omega)))
        all_goals(try go_wp2_with fail)
        all_goals go_meet
        all_goals refine⟨_,_,rfl,rfl,boxed2 HLT3.out (by(exact kp)) hu2 hS2 ?_ ?_ ?_ ?_ ?_ ?_ ?_⟩
        all_goals(try(simp [go_sem];done))
        all_goals(try(simp only [World.size_alloc,World.size_drew,World.size_setCell];omega))
        all_goals(try(repeat (first|with_reducible exact Upd.refl _ _|with_reducible refine Upd.alloc ?_ _|with_reducible refine Upd.drew ?_|refine Upd.setCell ?_ (Or.inl (Or.inl rfl)) _)))
        all_goals(simp [go_sem,hcl,hlq,hne,hnf];done)
       case rest=>
        obtain⟨B11,F4,rfl,rfl,hBx⟩:=hcut
        have hsa:=hBx.upd.size
        replace r0:=hBx.upd.cellAt n3r r0
        replace r1:=hBx.upd.cellAt n3r r1
        replace rf:=fun o:Nat=>hBx.upd.frozen (a:=⟨w.heap.size+1,o,none⟩) lr n3r (rf o)
        replace p0:=hBx.upd.cellAt n3p p0
        replace p1:=hBx.upd.cellAt n3p p1
        replace p2:=hBx.upd.cellAt n3p p2
        replace p3:=hBx.upd.cellAt n3p p3
        have a0:=hBx.a0
        have a1:=hBx.a1
        have g11:=hBx.gB
        have l11:=lt_of_cell a0
        dsimp only at l11
        have n4r:=hBx.no n3r lr
        have hua:Upd (fun j=>F j∨j=b) w wc:=HMD.out.upd.later hBx.upd (fun i hi hh=>by
         rcases HMD.out.sub i hh with q|q
         ·exact .inl q
         ·omega)
        have suba:∀ j,F4 j→F j∨w.heap.size≤j:=fun j hj=>by
         rcases hBx.sub j hj with q|q
         ·exact HMD.out.sub j q
         ·exact .inr (by omega)
        have dr:w.heap.size+1≠B11:=by omega
        have HBX:=Lib.hid hBx
        have HUA:=Lib.hid hua
        have HSA:=Lib.hid suba
        clear hBx hua suba x8 x8' x9 x9' d0
        by_cases he4:er4=0
        ·subst he4
         have hC4:=HC3.out.store HBX.out.upd HBX.out.rep HBX.out.sub HE34.out
         have hl4:M4.leads f e l=true:=HSW.out.went.ext.leads HL.out
         have hp4:(f,e,l)∉V3:=fun hh=>by
          rcases HNEW3.out _ hh with q|q
          ·exact HM.out q
          ·exact absurd q (Int.lt_irrefl _)
         have hcap4:V3.length<maxLen:=by
          have h1:=HLEN3.out
          have h2:=HCP.out
          unfold maxLen
          omega
         have hV4:(V3++[(f,e,l)]).length+1≤V.length+2 ^ ((lv-l).toNat+1):=by
          have h1:=HLEN3.out
          simp only [List.length_append,List.length_cons,List.length_nil]
          omega
         have hN4:∀ q∈V3++[(f,e,l)],q∈V∨l≤q.2.2:=fun q hq=>by
          rcases List.mem_append.1 hq with hq|hq
          ·rcases HNEW3.out q hq with q1|q1
           ·exact .inl q1
           ·exact .inr (by omega)
          ·rw [List.mem_singleton] at hq
           subst hq
           exact .inr (Int.le_refl _)
         obtain⟨w11,hrun,hown,hg11⟩:=(ownsSpot_same (W':=wc.drew) hC4.own rfl).update lawSpot Tryz.underlying335 hcap4 (keySpot f e l HF.out HE.out h0 (by omega)) (edgeElem_mk z)
         have hu11:=Upd.of_grown hg11
         have hC11:=(hC4.keeps (Keeps.refl wc).drew).put hu11 hown HF.out HE.out h0 (by omega) hl4 hp4 (HSW.out.good rfl)
         unfold spotV at hrun
         have c2:=hC4.c2
         have br:=hC4.neCell r0
         have bp:=hC4.neCell p0
         have b11:=hC4.neCell a0
         have bw:=hC4.neCell hC4.c0
         have u0:=hu11.cellAt (b:=w.heap.size+1) (o:=0) (v:=.int .u8 0) br r0
         have u1:=hu11.cellAt (b:=w.heap.size+1) (o:=1) (v:=.int .u32 0) br r1
         have uf:=fun o:Nat=>hu11.frozen (a:=⟨w.heap.size+1,o,none⟩) (by show w.heap.size+1<wc.heap.size;omega) br (rf o)
         have u2:=hu11.cellAt (b:=w.heap.size) (o:=0) (v:=.int .u8 f) bp p0
         have u3:=hu11.cellAt (b:=w.heap.size) (o:=1) (v:=.int .u8 e.tag) bp p1
         have u4:=hu11.cellAt (b:=w.heap.size) (o:=2) (v:=.int .u32 e.to) bp p2
         have u5:=hu11.cellAt (b:=w.heap.size) (o:=3) (v:=.int .i64 l) bp p3
         have u6:=hu11.cellAt (b:=B11) (o:=0) (v:=.int .u8 z.tag) b11 a0
         have u7:=hu11.cellAt (b:=B11) (o:=1) (v:=.int .u32 z.to) b11 a1
         have u8:=hu11.cellAt (b:=wb) (o:=2) (v:=.map (some b)) bw c2
         have hs11:=hu11.size
         have hs11':wc.heap.size≤w11.heap.size:=hs11
         have hFO:=fun(w':World) (hw':Upd (fun j=>j=w.heap.size+1) w11 w')=>at_good (wb:=wb) HSW.out HOK3.out (HUA.out.drew.later hu11 (fun i hi hh=>.inr hh)) HSA.out hC11 hV4 hN4 hw' n4r (by omega) br (by omega)
         have HFO:=Lib.hid hFO
         have HRUN:=Lib.hid hrun
         clear hFO hC4 hl4 hp4 hcap4 hown hg11 hu11 hC11 br bp b11 bw hV4 hN4
         go_wp2_with fail
         go_region_held3 (fun w'=>w'.cell? ⟨wb,2,none⟩=some (.map (some b))∧w'.cell? ⟨w.heap.size,0,none⟩=some (.int .u8 f)∧w'.cell? ⟨w.heap.size,1,none⟩=some (.int .u8 e.tag)∧w'.cell? ⟨w.heap.size,2,none⟩=some (.int .u32 e.to)∧w'.cell? ⟨w.heap.size,3,none⟩=some (.int .i64 l)∧w'.cell? ⟨B11,0,none⟩=some (.int .u8 z.tag)∧w'.cell? ⟨B11,1,none⟩=some (.int .u32 z.to)) (go_keep) (fail)
         go_wp2_with fail
         refine bodyPost_ret (v:=.tuple #[.agg #[.int .u8 z.tag,.int .u32 z.to],.int .u8 0]) (by simp [results,Tryz.results288,go_sem,u0,u1]) rfl (HFO.out _ ?_)
         (repeat (first|with_reducible exact Upd.refl _ _|refine updR ?_ _ _|with_reducible refine Upd.alloc ?_ _|with_reducible refine Upd.drew ?_))
        ·obtain⟨q1,q2,q3⟩:=HSW.out.full he4
         subst q1 q2
         have hFO:=fun(w':World) (hw':Upd (fun j=>j=w.heap.size+1) wc w')=>at_full (V:=V) (wb:=wb) HSW.out HUA.out HSA.out HBX.out.rep hw' n4r (by omega)
         have HFO:=Lib.hid hFO
         clear hFO he4 q3
         go_wp2_with fail
         refine bodyPost_ret (v:=.tuple #[.agg #[.int .u8 (⟨0,0⟩:Edge).tag,.int .u32 (⟨0,0⟩:Edge).to],.int .u8 6]) (by simp [results,Tryz.results288,go_sem,r0,r1]) rfl (HFO.out _ ?_)
         (repeat (first|with_reducible exact Upd.refl _ _|refine updR ?_ _ _|with_reducible refine Upd.alloc ?_ _|with_reducible refine Upd.drew ?_))

end

theorem at_calls {sb wb b:Nat}{lv:Int}{n room:Int}(hlv:lv+1<n)(hroom:room<1048576):∀ (K:Nat) (f:Int) (e:Edge) (l:Int) (F:Nat→Prop) (M:St) (V:List (Int×Edge×Int)) (D:DataW Unit) (w:World),lv-l=(K:Int)→0≤l→1≤f∧f≤5→e.ok→M.n=n→M.room=room→M.leads f e l=true→V.length+2 ^ (K+1)≤1000000→StepCtx F w sb wb b lv M V D →
  Calls Tryz.prog 288 #[.pointer (some ⟨wb,0,none⟩),.agg #[.int .u8 f,.int .u8 e.tag,.int .u32 e.to,.int .i64 l]] w (AtOut F w sb wb b lv f M V e l):=by
 intro K
 induction K with
 | zero=>
  intro f e l F M V D w hK h0 hf he hn hr hl hcap hC
  have hn16:=hC.rep.wf.n16
  have hk:(lv-l).toNat=0:=by omega
  by_cases hm:(f,e,l)∈V
  ·exact at_hit hC hf e l he h0 (by omega) hm
  ·exact at_deep hC hf e l he hl h0 (by omega) (by omega) hm (by omega) (by rw [hk];exact hcap) (fun hh=>by omega)
 | succ K ih=>
  intro f e l F M V D w hK h0 hf he hn hr hl hcap hC
  have hn16:=hC.rep.wf.n16
  push_cast at hK
  have hk:(lv-l).toNat=K+1:=by omega
  have hk2:(lv-(l+1)).toNat=K:=by omega
  by_cases hm:(f,e,l)∈V
  ·exact at_hit hC hf e l he h0 (by omega) hm
  ·refine at_deep hC hf e l he hl h0 (by omega) (by omega) hm (by omega) (by rw [hk];exact hcap) (fun _ h F2 M2 V2 D2 W hh hn2 hr2 hl2 hcap2 hC2=>?_)
   rw [hk2] at hcap2
   exact ih f h (l+1) F2 M2 V2 D2 W (by omega) (by omega) hf hh (by omega) (by omega) hl2 hcap2 hC2

end Go.Proofs.YtpgcbmbnognieaaGreat
