/-
  meter.walk.from at a node that was not met.
-/
import Derived.Test.YtpgcbmbnognieaaGreatPMDeep
namespace Go.Proofs.YtpgcbmbnognieaaGreat
set_option linter.unusedSimpArgs false
set_option linter.unusedVariables false
set_option maxHeartbeats 600000
open Go Go.RowKit

variable {F:Nat → Prop} {cb sb mb:Nat} {M:St} {w:World} {S:List Int}

theorem four_cells {W:World} {a b:Nat} (hab:a ≠ b) {v0 v1 d0 p0 d1 p1:Value} (q0:W.cell? ⟨a,0,none⟩=some v0) (q1:W.cell? ⟨a,1,none⟩=some v1) :
  ((((W.setCell ⟨a,0,none⟩ d0).setCell ⟨a,1,none⟩ p0).setCell ⟨b,0,none⟩ d1).setCell ⟨b,1,none⟩ p1).cell? ⟨a,0,none⟩=some d0 ∧ ((((W.setCell ⟨a,0,none⟩ d0).setCell ⟨a,1,none⟩ p0).setCell ⟨b,0,none⟩ d1).setCell ⟨b,1,none⟩ p1).cell? ⟨a,1,none⟩=some p0:=by
 constructor <;> simp [go_sem,hab,q0,q1]

theorem four_last {W:World} {a b:Nat} (hab:a ≠ b) {v0 v1 d0 p0 d1 p1:Value} (q0:W.cell? ⟨b,0,none⟩=some v0) (q1:W.cell? ⟨b,1,none⟩=some v1) :
  ((((W.setCell ⟨a,0,none⟩ d0).setCell ⟨a,1,none⟩ p0).setCell ⟨b,0,none⟩ d1).setCell ⟨b,1,none⟩ p1).cell? ⟨b,0,none⟩=some d1 ∧ ((((W.setCell ⟨a,0,none⟩ d0).setCell ⟨a,1,none⟩ p0).setCell ⟨b,0,none⟩ d1).setCell ⟨b,1,none⟩ p1).cell? ⟨b,1,none⟩=some p1:=by
 constructor <;> simp [go_sem,hab,q0,q1]

set_option maxRecDepth 100000 in
set_option maxHeartbeats 4000000 in
theorem from_new (h:DCtx F cb sb mb M w S) (e:Edge) (he:e.ok) (hz:2 ≤ e.to) (hno:e.to ∉ S) (r:Rec) (hlk:look M.cs e.to=some r) (hr:r.ok) (cnt:Nat) (hcap:S.length + 2 * cnt ≤ 100000)
  (hd:dS M e.to=1 + max (dS M r.lo.to) (dS M r.hi.to)) (hp:wS M e.to=wS M r.lo.to + wS M r.hi.to)
  (r0:(0 ≤ dS M r.lo.to ∧ dS M r.lo.to ≤ 1000) ∧ 0 ≤ wS M r.lo.to ∧ wS M r.lo.to ≤ 1000000) (r1:(0 ≤ dS M r.hi.to ∧ dS M r.hi.to ≤ 1000) ∧ 0 ≤ wS M r.hi.to ∧ wS M r.hi.to ≤ 1000000)
  (ih0:∀ (W:World) (S':List Int),DCtx F cb sb mb M W S' → S'.length ≤ S.length → Calls Tryz.prog 85 #[.pointer (some ⟨cb,0,none⟩),.agg #[.int .u8 r.lo.tag,.int .u32 r.lo.to]] W (DOut F cb sb mb M S' r.lo.to cnt W))
  (ih1:∀ (W:World) (S':List Int),DCtx F cb sb mb M W S' → S'.length ≤ S.length + cnt → Calls Tryz.prog 85 #[.pointer (some ⟨cb,0,none⟩),.agg #[.int .u8 r.hi.tag,.int .u32 r.hi.to]] W (DOut F cb sb mb M S' r.hi.to cnt W)) :
  Calls Tryz.prog 85 #[.pointer (some ⟨cb,0,none⟩),.agg #[.int .u8 e.tag,.int .u32 e.to]] w (DOut F cb sb mb M S e.to (2 * cnt + 1) w):=by
 obtain ⟨d0,hd0⟩:∃ d,d=dS M r.lo.to:=⟨_,rfl⟩
 obtain ⟨p0,hp0⟩:∃ p,p=wS M r.lo.to:=⟨_,rfl⟩
 obtain ⟨d1,hd1⟩:∃ d,d=dS M r.hi.to:=⟨_,rfl⟩
 obtain ⟨p1,hp1⟩:∃ p,p=wS M r.hi.to:=⟨_,rfl⟩
 rw [← hd0,← hd1] at hd
 rw [← hp0,← hp1] at hp
 rw [← hd0,← hp0] at r0
 rw [← hd1,← hp1] at r1
 have to0:=he.2.1
 have to1:=he.2.2
 have hlook:=h.kept.look to0 to1
 rw [if_neg hno,decide_eq_false hno] at hlook
 unfold pairV at hlook
 have c0:=h.c0
 have c1:=h.c1
 have hcb:=lt_of_cell c0
 have hml:=h.kept.lt
 have HG:=Lib.hid (fun (W:World) (hW:Keeps w W)=>by
  have q:=store_get (h.rep.keeps hW) e.to to1
  rw [hlk] at q
  exact q)
 have HC:=Lib.hid h
 have HDP:=Lib.hid (And.intro hd hp)
 have HDW:=Lib.hid (And.intro hd0 (And.intro hp0 (And.intro hd1 hp1)))
 have HLK:=Lib.hid hlook
 have I0:=Lib.hid ih0
 have I1:=Lib.hid ih1
 have HR:=Lib.hid hr
 obtain ⟨⟨r00,r01⟩,r02,r03⟩:=r0
 obtain ⟨⟨r10,r11⟩,r12,r13⟩:=r1
 clear h hd hp hd0 hp0 hd1 hp1 he hno hlook ih0 ih1 hlk hr
 dsimp only at hcb
 have hz2:¬ e.to < 2:=by omega
 go_enter Tryz.func85,Tryz.ntmps85
 go_wp2_with fail
 obtain ⟨W1,hW1⟩:∃ W1,W1=(w.alloc (.cells #[.int .u8 e.tag,.int .u32 e.to] 25)).alloc (.cells #[.int .i64 0,.int .i64 0] 154):=⟨_,rfl⟩
 have kW1:Keeps w W1:=by rw [hW1];exact ((Keeps.refl _).alloc _).alloc _
 have y0:W1.cell? ⟨w.heap.size,0,none⟩=some (.int .u8 e.tag):=by rw [hW1];simp [go_sem]
 have y1:W1.cell? ⟨w.heap.size,1,none⟩=some (.int .u32 e.to):=by rw [hW1];simp [go_sem]
 have z0:W1.cell? ⟨w.heap.size + 1,0,none⟩=some (.int .i64 0):=by rw [hW1];simp [go_sem]
 have z1:W1.cell? ⟨w.heap.size + 1,1,none⟩=some (.int .i64 0):=by rw [hW1];simp [go_sem]
 have zf:∀ o:Nat,W1.frozen? ⟨w.heap.size + 1,o,none⟩=false:=fun o=>by rw [hW1];simp [go_sem]
 have hs1:W1.heap.size=w.heap.size + 2:=by rw [hW1];simp
 rw [← hW1]
 clear hW1
 have hq1:=HLK.out W1.drew (kW1.drew.block mb hml)
 have hq2:=HLK.out (W1.alloc (.cells #[.int .i64 0,.int .i64 0] 154)).drew ((kW1.alloc _).drew.block mb hml)
 have c0:=kW1.cell c0
 have c1:=kW1.cell c1
 have n1:W1.heap.size ≠ cb:=by omega
 have n2:W1.heap.size ≠ w.heap.size:=by omega
 have hcb1:cb < W1.heap.size:=by omega
 have hwl1:w.heap.size < W1.heap.size:=by omega
 have HS1:=Lib.hid hs1
 have HZF:=Lib.hid zf
 clear hs1 zf
 go_cut [5,6] (fun s5 s6 wx=>∃ B,s5=.pointer (some ⟨B,0,none⟩) ∧ s6=.bool false ∧ Keeps W1 wx)
 case first=>
  go_region_held3 (fun w'=>w'.cell? ⟨cb,1,none⟩=some (.map (some mb)) ∧ w'.cell? ⟨w.heap.size,0,none⟩=some (.int .u8 e.tag) ∧ w'.cell? ⟨w.heap.size,1,none⟩=some (.int .u32 e.to)) (go_keep) (fail)
  all_goals (try go_wp2_with fail)
  all_goals go_meet
  all_goals exact ⟨_,rfl,rfl,by (exact kp)⟩
 case rest=>
  obtain ⟨W2,rfl⟩:∃ W,W=wc:=⟨_,rfl⟩
  obtain ⟨B5,rfl,rfl,hkc⟩:=hcut
  have z0:=hkc.cell z0
  have z1:=hkc.cell z1
  have y0:=hkc.cell y0
  have y1:=hkc.cell y1
  have c0:=hkc.cell c0
  have c1:=hkc.cell c1
  have zf:=fun o:Nat=>hkc.frz (a:=⟨w.heap.size + 1,o,none⟩) (by have:=HS1.out;show w.heap.size + 1 < W1.heap.size;omega) (HZF.out o)
  have hcs:=hkc.size
  have kk2:Keeps w W2:=kW1.trans hkc
  have zl:w.heap.size + 1 < W2.heap.size:=by have:=HS1.out;omega
  have n3:W2.heap.size ≠ cb:=by omega
  have n4:W2.heap.size ≠ w.heap.size:=by omega
  have hcb2:cb < W2.heap.size:=by omega
  have hwl2:w.heap.size < W2.heap.size:=by omega
  have HZF2:=Lib.hid zf
  clear hq1 hq2 zf
  go_wp2_with fail
  go_cut [7,8] (fun s7 s8 wx=>∃ B,s7=.pointer (some ⟨B,0,none⟩) ∧ (wx.cell? ⟨B,0,none⟩=some (.int .u8 r.form) ∧ wx.cell? ⟨B,1,none⟩=some (.int .u8 r.top) ∧ wx.cell? ⟨B,2,none⟩=some (.int .u8 r.bot) ∧ wx.cell? ⟨B,3,none⟩=some (.int .u8 r.lo.tag) ∧ wx.cell? ⟨B,4,none⟩=some (.int .u32 r.lo.to) ∧ wx.cell? ⟨B,5,none⟩=some (.int .u8 r.hi.tag) ∧ wx.cell? ⟨B,6,none⟩=some (.int .u32 r.hi.to)) ∧ Keeps W2 wx)
  case first=>
   go_region_held3 (fun w'=>w'.cell? ⟨cb,0,none⟩=some (.pointer (some ⟨sb,0,none⟩)) ∧ w'.cell? ⟨w.heap.size,0,none⟩=some (.int .u8 e.tag) ∧ w'.cell? ⟨w.heap.size,1,none⟩=some (.int .u32 e.to)) (go_keep) ((first | (go_at_call 80;refine (HG.out _ (by (exact kp))).mono ?_;rintro e' w2 ⟨rfl,hb⟩;obtain ⟨hc,hf⟩:=hb.cells;have k2:Keeps W2 w2:=(by (exact kp));have v0:=k2.cell c0;have v1:=k2.cell y0;have v2:=k2.cell y1;have hsz2:=k2.size;have hn4:w2.heap.size ≠ cb:=(by omega);have hn5:w2.heap.size ≠ w.heap.size:=(by omega);have hz6:w.heap.size < w2.heap.size:=(by omega))))
   all_goals (try go_wp2_with fail)
   all_goals go_meet
   ·exact ⟨_,rfl,⟨by simp [go_sem,grec],by simp [go_sem,grec],by simp [go_sem,grec],by simp [go_sem,grec],by simp [go_sem,grec],by simp [go_sem,grec],by simp [go_sem,grec]⟩,by (exact kp)⟩
   ·(have q0:=hb.cell (a:=⟨W2.heap.size,0,none⟩) (v:=.int .u8 0) (by simp [go_sem]);have q1:=hb.cell (a:=⟨W2.heap.size,1,none⟩) (v:=.int .u8 0) (by simp [go_sem]);have q2:=hb.cell (a:=⟨W2.heap.size,2,none⟩) (v:=.int .u8 0) (by simp [go_sem]);have q3:=hb.cell (a:=⟨W2.heap.size,3,none⟩) (v:=.int .u8 0) (by simp [go_sem]);have q4:=hb.cell (a:=⟨W2.heap.size,4,none⟩) (v:=.int .u32 0) (by simp [go_sem]);have q5:=hb.cell (a:=⟨W2.heap.size,5,none⟩) (v:=.int .u8 0) (by simp [go_sem]);have q6:=hb.cell (a:=⟨W2.heap.size,6,none⟩) (v:=.int .u32 0) (by simp [go_sem]);exact ⟨_,rfl,⟨by simp [go_sem,grec,q0],by simp [go_sem,grec,q0,q1],by simp [go_sem,grec,q0,q1,q2],by simp [go_sem,grec,q0,q1,q2,q3],by simp [go_sem,grec,q0,q1,q2,q3,q4],by simp [go_sem,grec,q0,q1,q2,q3,q4,q5],by simp [go_sem,grec,q0,q1,q2,q3,q4,q5,q6]⟩,by (exact kp)⟩)
  case rest=>
   obtain ⟨W3,rfl⟩:∃ W,W=wc:=⟨_,rfl⟩
   obtain ⟨B7,rfl,⟨b0,b1,b2,b3,b4,b5,b6⟩,hkc3⟩:=hcut
   have z0:=hkc3.cell z0
   have z1:=hkc3.cell z1
   have y0:=hkc3.cell y0
   have y1:=hkc3.cell y1
   have c0:=hkc3.cell c0
   have c1:=hkc3.cell c1
   have zf:=fun o:Nat=>hkc3.frz (a:=⟨w.heap.size + 1,o,none⟩) zl (HZF2.out o)
   have HZF3:=Lib.hid zf
   have hcs3:=hkc3.size
   have kk3:Keeps w W3:=kk2.trans hkc3
   have hml3:mb < W3.heap.size:=by omega
   have hC3:=HC.out.keeps kk3
   have nb7:¬ (B7=mb):=cell_ne_map hC3.kept.block b0
   have nwm:¬ (w.heap.size=mb):=cell_ne_map hC3.kept.block y0
   have nw1:¬ (w.heap.size + 1=mb):=cell_ne_map hC3.kept.block z0
   have hb7:=lt_of_cell b0
   dsimp only at hb7
   have HC3:=Lib.hid hC3
   have HK3:=Lib.hid kk3
   have I0':=Lib.hid (fun (W:World) (hW:Keeps W3 W)=>DOut.boxes hml3 (I0.out W S (hC3.keeps hW) (Nat.le_refl _)))
   have I1':=Lib.hid (fun (W:World) (S':List Int) (hW:DCtx F cb sb mb M W S') (hl:S'.length ≤ S.length + cnt)=>DOut.boxes hml3 (I1.out W S' hW hl))
   rw [← HDW.out.1,← HDW.out.2.1] at I0'
   rw [← HDW.out.2.2.1,← HDW.out.2.2.2] at I1'
   unfold pairV at I0' I1'
   have HWM:=Lib.hid (And.intro nwm nw1)
   have nn3:W3.heap.size ≠ B7:=by omega
   have nn3b:W3.heap.size + 1 ≠ B7:=by omega
   clear hC3 b0 b1 b2 zf
   go_wp2_with fail
   go_cut [9,10] (fun s9 s10 wx=>∃ B C:Nat,s9=.pointer (some ⟨B,0,none⟩) ∧ s10=.pointer (some ⟨C,0,none⟩) ∧ wx.cell? ⟨B,0,none⟩=some (.int .i64 d0) ∧ wx.cell? ⟨B,1,none⟩=some (.int .i64 p0) ∧ wx.cell? ⟨C,0,none⟩=some (.int .i64 d1) ∧ wx.cell? ⟨C,1,none⟩=some (.int .i64 p1) ∧ Upd (fun k=>k=mb) W3 wx ∧ ∃ S2,DCtx F cb sb mb M wx S2 ∧ S2.length ≤ S.length + 2 * cnt)
   case first=>
    go_region_held3 (fun w'=>w'.cell? ⟨B7,3,none⟩=some (.int .u8 r.lo.tag) ∧ w'.cell? ⟨B7,4,none⟩=some (.int .u32 r.lo.to) ∧ w'.cell? ⟨B7,5,none⟩=some (.int .u8 r.hi.tag) ∧ w'.cell? ⟨B7,6,none⟩=some (.int .u32 r.hi.to)) (go_keep) ((first
     | (go_at_call 85;have qq:=HC3;clear qq;refine (I0'.out _ (by (exact kp))).mono ?_;rintro e' w4 ⟨⟨rfl,hu4,S4,hc4,hl4⟩,hcl4,hfl4,hlq4,hne4,hnf4⟩;have HC4:=Lib.hid hc4;have HU4:=Lib.hid hu4;have hsz4:=hu4.size;(try simp only [World.size_alloc,World.size_drew,World.size_drewN] at hsz4);have b3:=hu4.cellAt (b:=B7) (o:=3) (v:=.int .u8 r.lo.tag) nb7 (by go_keep);have b4:=hu4.cellAt (b:=B7) (o:=4) (v:=.int .u32 r.lo.to) nb7 (by go_keep);have b5:=hu4.cellAt (b:=B7) (o:=5) (v:=.int .u8 r.hi.tag) nb7 (by go_keep);have b6:=hu4.cellAt (b:=B7) (o:=6) (v:=.int .u32 r.hi.to) nb7 (by go_keep);have nn4:w4.heap.size ≠ B7:=(by omega);have hsx4:W3.heap.size ≤ w4.heap.size:=(by omega);have nn4b:w4.heap.size + 1 ≠ B7:=(by omega);have hsx4b:W3.heap.size ≤ w4.heap.size + 1:=(by omega);(first | have hx40:W3.heap.size < w4.heap.size:=(by omega) | skip);(first | have hx41:W3.heap.size + 1 < w4.heap.size:=(by omega) | skip);clear HC3 hc4 hu4)
     | (go_at_call 85;refine (I1'.out _ S4 (HC4.out.keeps (by (exact kp))) (by omega)).mono ?_;rintro e' w5 ⟨⟨rfl,hu5,S5,hc5,hl5⟩,hcl5,hfl5,hlq5,hne5,hnf5⟩;have HC5:=Lib.hid hc5;have HU5:=Lib.hid hu5;have hsz5:=hu5.size;(try simp only [World.size_alloc,World.size_drew,World.size_drewN] at hsz5);have b3:=hu5.cellAt (b:=B7) (o:=3) (v:=.int .u8 r.lo.tag) nb7 (by go_keep);have b4:=hu5.cellAt (b:=B7) (o:=4) (v:=.int .u32 r.lo.to) nb7 (by go_keep);have b5:=hu5.cellAt (b:=B7) (o:=5) (v:=.int .u8 r.hi.tag) nb7 (by go_keep);have b6:=hu5.cellAt (b:=B7) (o:=6) (v:=.int .u32 r.hi.to) nb7 (by go_keep);have nn5:w5.heap.size ≠ B7:=(by omega);have hsx5:W3.heap.size ≤ w5.heap.size:=(by omega);have hsx45:w4.heap.size ≤ w5.heap.size:=(by omega);(first | have hx50:W3.heap.size < w5.heap.size:=(by omega) | skip);(first | have hx51:W3.heap.size + 1 < w5.heap.size:=(by omega) | skip);(first | have hx52:w4.heap.size < w5.heap.size:=(by omega) | skip);(first | have hx53:w4.heap.size + 1 < w5.heap.size:=(by omega) | skip);clear hc5 hu5)))
    all_goals (try go_wp2_with fail)
    all_goals go_meet
    all_goals
     have hu4:=HU4.out
     have hu5:=HU5.out
     have hF3:∀ k,F k → k < W3.heap.size:=fun k hk=>Nat.lt_of_lt_of_le (HC.out.rep.lt k hk) HK3.out.size
     refine ⟨_,_,rfl,rfl,?_,?_,?_,?_,?_,S5,DCtx.fresh (lo:=W3.heap.size) HC5.out ?_ hF3 (by omega) hml3,by omega⟩
    all_goals (try (simp [go_sem];done))
    all_goals
     have hW5:Upd (fun k=>k=mb) W3 w5:=by
      refine Upd.trans' ?_ hu5
      (repeat (first | with_reducible refine Upd.alloc ?_ _ | with_reducible refine Upd.drew ?_))
      refine Upd.trans' ?_ hu4
      (repeat (first | with_reducible exact Upd.refl _ _ | with_reducible refine Upd.alloc ?_ _ | with_reducible refine Upd.drew ?_))
    all_goals (try ((repeat (first | with_reducible exact hW5 | with_reducible refine Upd.alloc ?_ _ | with_reducible refine Upd.drew ?_ | refine Upd.setCell ?_ (Or.inr (by dsimp only;omega)) _));done))
    all_goals (try ((repeat (first | with_reducible exact Upd.refl _ _ | with_reducible refine Upd.alloc ?_ _ | with_reducible refine Upd.drew ?_ | refine Upd.setCell ?_ (Or.inl (by dsimp only;omega)) _));done))
    all_goals
     (first | (refine (fun (qa0:w5.cell? ⟨W3.heap.size,0,none⟩=some (.int .i64 0))=>?_) ?_;rotate_left 1;(focus (simp [go_sem,hcl5,hcl4,hsx4,hsx4b,hx40,hx41];done))) | (refine (fun (qa0:w5.cell? ⟨W3.heap.size,0,none⟩=some (.int .i64 0))=>?_) ?_;rotate_left 1;(focus (simp [go_sem,hcl5,hcl4,hsx4,hsx4b,hx40];done))) | (refine (fun (qa0:w5.cell? ⟨W3.heap.size,0,none⟩=some (.int .i64 0))=>?_) ?_;rotate_left 1;(focus (simp [go_sem,hcl5,hcl4,hsx4,hsx4b];done))) | skip)
     (first | (refine (fun (qa1:w5.cell? ⟨W3.heap.size,1,none⟩=some (.int .i64 0))=>?_) ?_;rotate_left 1;(focus (simp [go_sem,hcl5,hcl4,hsx4,hsx4b,hx40,hx41];done))) | (refine (fun (qa1:w5.cell? ⟨W3.heap.size,1,none⟩=some (.int .i64 0))=>?_) ?_;rotate_left 1;(focus (simp [go_sem,hcl5,hcl4,hsx4,hsx4b,hx40];done))) | (refine (fun (qa1:w5.cell? ⟨W3.heap.size,1,none⟩=some (.int .i64 0))=>?_) ?_;rotate_left 1;(focus (simp [go_sem,hcl5,hcl4,hsx4,hsx4b];done))) | skip)
     (first | (refine (fun (qb0:w5.cell? ⟨W3.heap.size + 1,0,none⟩=some (.int .i64 0))=>?_) ?_;rotate_left 1;(focus (simp [go_sem,hcl5,hcl4,hsx4,hsx4b,hx40,hx41];done))) | (refine (fun (qb0:w5.cell? ⟨W3.heap.size + 1,0,none⟩=some (.int .i64 0))=>?_) ?_;rotate_left 1;(focus (simp [go_sem,hcl5,hcl4,hsx4,hsx4b,hx40];done))) | (refine (fun (qb0:w5.cell? ⟨W3.heap.size + 1,0,none⟩=some (.int .i64 0))=>?_) ?_;rotate_left 1;(focus (simp [go_sem,hcl5,hcl4,hsx4,hsx4b];done))) | skip)
     (first | (refine (fun (qb1:w5.cell? ⟨W3.heap.size + 1,1,none⟩=some (.int .i64 0))=>?_) ?_;rotate_left 1;(focus (simp [go_sem,hcl5,hcl4,hsx4,hsx4b,hx40,hx41];done))) | (refine (fun (qb1:w5.cell? ⟨W3.heap.size + 1,1,none⟩=some (.int .i64 0))=>?_) ?_;rotate_left 1;(focus (simp [go_sem,hcl5,hcl4,hsx4,hsx4b,hx40];done))) | (refine (fun (qb1:w5.cell? ⟨W3.heap.size + 1,1,none⟩=some (.int .i64 0))=>?_) ?_;rotate_left 1;(focus (simp [go_sem,hcl5,hcl4,hsx4,hsx4b];done))) | skip)
     (first | (refine (fun (qc0:w5.cell? ⟨w4.heap.size,0,none⟩=some (.int .i64 0))=>?_) ?_;rotate_left 1;(focus (simp [go_sem,hcl5,hcl4,hsx4,hsx4b,hx40,hx41];done))) | (refine (fun (qc0:w5.cell? ⟨w4.heap.size,0,none⟩=some (.int .i64 0))=>?_) ?_;rotate_left 1;(focus (simp [go_sem,hcl5,hcl4,hsx4,hsx4b,hx40];done))) | (refine (fun (qc0:w5.cell? ⟨w4.heap.size,0,none⟩=some (.int .i64 0))=>?_) ?_;rotate_left 1;(focus (simp [go_sem,hcl5,hcl4,hsx4,hsx4b];done))) | skip)
     (first | (refine (fun (qc1:w5.cell? ⟨w4.heap.size,1,none⟩=some (.int .i64 0))=>?_) ?_;rotate_left 1;(focus (simp [go_sem,hcl5,hcl4,hsx4,hsx4b,hx40,hx41];done))) | (refine (fun (qc1:w5.cell? ⟨w4.heap.size,1,none⟩=some (.int .i64 0))=>?_) ?_;rotate_left 1;(focus (simp [go_sem,hcl5,hcl4,hsx4,hsx4b,hx40];done))) | (refine (fun (qc1:w5.cell? ⟨w4.heap.size,1,none⟩=some (.int .i64 0))=>?_) ?_;rotate_left 1;(focus (simp [go_sem,hcl5,hcl4,hsx4,hsx4b];done))) | skip)
     (first | (refine (fun (qd0:w5.cell? ⟨w4.heap.size + 1,0,none⟩=some (.int .i64 0))=>?_) ?_;rotate_left 1;(focus (simp [go_sem,hcl5,hcl4,hsx4,hsx4b,hx40,hx41];done))) | (refine (fun (qd0:w5.cell? ⟨w4.heap.size + 1,0,none⟩=some (.int .i64 0))=>?_) ?_;rotate_left 1;(focus (simp [go_sem,hcl5,hcl4,hsx4,hsx4b,hx40];done))) | (refine (fun (qd0:w5.cell? ⟨w4.heap.size + 1,0,none⟩=some (.int .i64 0))=>?_) ?_;rotate_left 1;(focus (simp [go_sem,hcl5,hcl4,hsx4,hsx4b];done))) | skip)
     (first | (refine (fun (qd1:w5.cell? ⟨w4.heap.size + 1,1,none⟩=some (.int .i64 0))=>?_) ?_;rotate_left 1;(focus (simp [go_sem,hcl5,hcl4,hsx4,hsx4b,hx40,hx41];done))) | (refine (fun (qd1:w5.cell? ⟨w4.heap.size + 1,1,none⟩=some (.int .i64 0))=>?_) ?_;rotate_left 1;(focus (simp [go_sem,hcl5,hcl4,hsx4,hsx4b,hx40];done))) | (refine (fun (qd1:w5.cell? ⟨w4.heap.size + 1,1,none⟩=some (.int .i64 0))=>?_) ?_;rotate_left 1;(focus (simp [go_sem,hcl5,hcl4,hsx4,hsx4b];done))) | skip)
     skip
    all_goals (first
     | with_reducible exact (four_cells (Nat.ne_of_lt (Nat.lt_add_one _)) qa0 qa1).1
     | with_reducible exact (four_cells (Nat.ne_of_lt (Nat.lt_add_one _)) qa0 qa1).2
     | with_reducible exact (four_cells (Nat.ne_of_gt (Nat.lt_add_one _)) qb0 qb1).1
     | with_reducible exact (four_cells (Nat.ne_of_gt (Nat.lt_add_one _)) qb0 qb1).2
     | with_reducible exact (four_last (Nat.ne_of_gt (Nat.lt_add_one _)) qa0 qa1).1
     | with_reducible exact (four_last (Nat.ne_of_gt (Nat.lt_add_one _)) qa0 qa1).2
     | with_reducible exact (four_last (Nat.ne_of_lt (Nat.lt_add_one _)) qb0 qb1).1
     | with_reducible exact (four_last (Nat.ne_of_lt (Nat.lt_add_one _)) qb0 qb1).2
     | (simp [*,go_sem];done))
   case rest=>
    obtain ⟨W4,rfl⟩:∃ W,W=wc:=⟨_,rfl⟩
    obtain ⟨B,C,rfl,rfl,q0,q1,q2,q3,hu4,S4,hc4,hl4⟩:=hcut
    obtain ⟨nwm,nw1⟩:=HWM.out
    have z0:=hu4.cellAt (b:=w.heap.size + 1) (o:=0) (v:=.int .i64 0) nw1 z0
    have z1:=hu4.cellAt (b:=w.heap.size + 1) (o:=1) (v:=.int .i64 0) nw1 z1
    have y0:=hu4.cellAt (b:=w.heap.size) (o:=0) (v:=.int .u8 e.tag) nwm y0
    have y1:=hu4.cellAt (b:=w.heap.size) (o:=1) (v:=.int .u32 e.to) nwm y1
    have hs4:=hu4.size
    have zl4:w.heap.size + 1 < W4.heap.size:=by omega
    have zf:=fun o:Nat=>hu4.frozen (a:=⟨w.heap.size + 1,o,none⟩) (by show w.heap.size + 1 < W3.heap.size;omega) nw1 (HZF3.out o)
    have HC4:=Lib.hid hc4
    have HU4:=Lib.hid hu4
    have HZF4:=Lib.hid zf
    clear hu4 hc4 zf nwm nw1 nn3 nn3b
    obtain ⟨d,hdd⟩:∃ d,d=dS M e.to:=⟨_,rfl⟩
    obtain ⟨p,hpp⟩:∃ p,p=wS M e.to:=⟨_,rfl⟩
    have HDP2:=HDP.out
    rw [← hdd,← hpp] at HDP2
    have HDP3:=Lib.hid HDP2
    have HDD:=Lib.hid (And.intro hdd hpp)
    clear hdd hpp HDP2
    go_upto_region 8 with fail
    go_cut [11] (fun s11 wx=>∃ B:Nat,s11=.pointer (some ⟨B,0,none⟩) ∧ wx.cell? ⟨B,0,none⟩=some (.int .i64 d) ∧ wx.cell? ⟨B,1,none⟩=some (.int .i64 p) ∧ Keeps W4 wx)
    case first=>
     go_wp2_with fail
     all_goals go_meet
     all_goals
      obtain ⟨e1,e2⟩:=HDP3.out
      refine ⟨_,rfl,?_,?_,by (exact kp)⟩
     all_goals (simp [go_sem];omega)
    case rest=>
     obtain ⟨W5,rfl⟩:∃ W,W=wc:=⟨_,rfl⟩
     obtain ⟨B6,rfl,q4,q5,hk5⟩:=hcut
     have z0:=hk5.cell z0
     have z1:=hk5.cell z1
     have y0:=hk5.cell y0
     have y1:=hk5.cell y1
     have zl5:=hk5.size
     have zf:=fun o:Nat=>hk5.frz (a:=⟨w.heap.size + 1,o,none⟩) zl4 (HZF4.out o)
     have hC5:=HC4.out.keeps hk5
     obtain ⟨w6,hrun,hkm,hu6⟩:=(hC5.keeps (Keeps.refl W5).drew).kept.put (by omega) to0 to1
     rw [← HDD.out.1,← HDD.out.2] at hrun
     unfold pairV at hrun
     have c0:=hC5.c0
     have c1:=hC5.c1
     have nb6:=cell_ne_map hC5.kept.block q4
     have nwm:=cell_ne_map hC5.kept.block y0
     have nw1:=cell_ne_map hC5.kept.block z0
     have q4':=hu6.cellAt (b:=B6) (o:=0) (v:=.int .i64 d) nb6 q4
     have q5':=hu6.cellAt (b:=B6) (o:=1) (v:=.int .i64 p) nb6 q5
     have z0':=hu6.cellAt (b:=w.heap.size + 1) (o:=0) (v:=.int .i64 0) nw1 z0
     have z1':=hu6.cellAt (b:=w.heap.size + 1) (o:=1) (v:=.int .i64 0) nw1 z1
     have zf':=fun o:Nat=>hu6.frozen (a:=⟨w.heap.size + 1,o,none⟩) (by show w.heap.size + 1 < W5.heap.size;omega) nw1 (zf o)
     have y0':=hu6.cellAt (b:=w.heap.size) (o:=0) (v:=.int .u8 e.tag) nwm y0
     have y1':=hu6.cellAt (b:=w.heap.size) (o:=1) (v:=.int .u32 e.to) nwm y1
     have c1':=hu6.cellAt (b:=cb) (o:=1) (v:=.map (some mb)) (cell_ne_map hC5.kept.block c1) c1
     have hs6:=hu6.size
     simp only [World.size_drew] at hs6
     have hC6:=(hC5.keeps (Keeps.refl W5).drew).turn hu6 hkm
     have hcb5:=lt_of_cell c0
     have HFO:Hid (∀ w',Upd (fun j=>j=w.heap.size + 1) w6 w' → DOut F cb sb mb M S e.to (2 * cnt + 1) w (.returned (pairV d p)) w'):=Lib.hid fun w' hw'=>by
      have hus:Upd (fun k=>k=mb) w W5:=(HK3.out.upd _).trans' (HU4.out.trans' (hk5.upd _))
      refine ⟨by rw [HDD.out.1,HDD.out.2],(hus.trans' ((Upd.refl _ _).drew.trans' hu6)).later hw' (fun i hi hh=>by omega),S4 ++ [e.to],hC6.fresh (lo:=w.heap.size) (hw'.mono fun k _ hk=>by omega) (fun k hk=>HC.out.rep.lt k hk) hcb hml,by rw [List.length_append];show S4.length + 1 ≤ _;omega⟩
     clear hC5 hC6 hkm nb6 nwm nw1
     go_wp2_with fail
     go_region_held3 (fun w'=>w'.cell? ⟨cb,1,none⟩=some (.map (some mb)) ∧ w'.cell? ⟨w.heap.size,0,none⟩=some (.int .u8 e.tag) ∧ w'.cell? ⟨w.heap.size,1,none⟩=some (.int .u32 e.to) ∧ w'.cell? ⟨B6,0,none⟩=some (.int .i64 d) ∧ w'.cell? ⟨B6,1,none⟩=some (.int .i64 p)) (go_keep) (fail)
     go_wp2_with fail
     refine bodyPost_ret (v:=pairV d p) (by simp [results,Tryz.results85,go_sem,pairV,z0',z1']) rfl (HFO.out _ ?_)
     refine Upd.setCell (Upd.setCell (Upd.refl _ _) ?_ _) ?_ _
     all_goals exact Or.inl rfl

open Go.RowKit

variable {F:Nat → Prop} {cb sb mb:Nat} {M:St} {w:World} {S:List Int}

theorem dS_node (h:M.wf) (hok:∀ id r,look M.cs id=some r → r.lo.ok ∧ r.hi.ok) {x:Int} {r:Rec} (hk:look M.cs x=some r) (h0:0 ≤ r.top) :
  dS M x=1 + max (dS M r.lo.to) (dS M r.hi.to) ∧ wS M x=wS M r.lo.to + wS M r.hi.to:=by
 have g:=h.goodRec hk
 have g1:=g.tb
 have g2:=g.bn
 obtain ⟨K,hK⟩:∃ K,M.n.toNat=K + 1:=⟨M.n.toNat - 1,by have:=h.goodRec hk;omega⟩
 obtain ⟨d0,d1⟩:=down_sides h hk (hok _ _ hk)
 have e0:=down_fuel h hok K (K + 1) _ _ d0 (by omega) (by omega)
 have e1:=down_fuel h hok K (K + 1) _ _ d1 (by omega) (by omega)
 unfold dS wS
 rw [hK,depthS_some hk K,waysS_some hk K,e0.1,e1.1,e0.2,e1.2]
 exact ⟨rfl,rfl⟩

theorem dS_range (h:M.wf) (hok:∀ id r,look M.cs id=some r → r.lo.ok ∧ r.hi.ok) (h8:M.n ≤ 8) {l x:Int} (hd:Down M l x) (h0:0 ≤ l) :
  (0 ≤ dS M x ∧ dS M x ≤ 1000) ∧ 0 ≤ wS M x ∧ wS M x ≤ 1000000:=by
 have q:=down_range h hok M.n.toNat l x hd (by omega)
 have hp:2 ^ M.n.toNat ≤ 2 ^ 8:=Nat.pow_le_pow_right (by decide) (by omega)
 have hp8:(2:Nat) ^ 8=256:=rfl
 unfold dS wS
 obtain ⟨⟨q1,q2⟩,q3,q4⟩:=q
 refine ⟨⟨q1,by omega⟩,q3,by omega⟩

theorem DOut.mono {x:Int} {cnt cnt':Nat} {W W':World} {e:Ending} (h:DOut F cb sb mb M S x cnt W e W') (hc:cnt ≤ cnt'):DOut F cb sb mb M S x cnt' W e W':=by
 obtain ⟨h1,h2,S',h3,h4⟩:=h
 exact ⟨h1,h2,S',h3,by omega⟩

set_option maxHeartbeats 1000000 in
theorem from_all (hok:∀ id r,look M.cs id=some r → r.ok) (hwf:M.wf) {n:Nat} (hn:M.n=(n:Int)) (h8:n ≤ 8):∀ (K l:Nat) (e:Edge) (w:World) (S:List Int),n - l ≤ K → l ≤ n → e.ok → Down M (l:Int) e.to → DCtx F cb sb mb M w S → S.length + 2 ^ (n - l) ≤ 100000 →
  Calls Tryz.prog 85 #[.pointer (some ⟨cb,0,none⟩),.agg #[.int .u8 e.tag,.int .u32 e.to]] w (DOut F cb sb mb M S e.to (2 ^ (n - l) - 1) w):=by
 have hok2:∀ id r,look M.cs id=some r → r.lo.ok ∧ r.hi.ok:=fun id r hk=>⟨(hok id r hk).lo,(hok id r hk).hi⟩
 intro K
 induction K with
 | zero=>
  intro l e w S hK hln he hd h hcap
  rcases hd.2 with h2 | ⟨r,hk,ht⟩
  ·exact from_low h e he h2.2 _
  ·have:=(hwf.goodRec hk).tb
   have:=(hwf.goodRec hk).bn
   omega
 | succ K ih=>
  intro l e w S hK hln he hd h hcap
  rcases hd.2 with h2 | ⟨r,hk,ht⟩
  ·exact from_low h e he h2.2 _
  ·have hz:2 ≤ e.to:=by
    rcases Int.lt_or_le e.to 2 with hlt | hle
    ·rw [look_low hlt] at hk
     cases hk
    ·exact hle
   have g:=hwf.goodRec hk
   have g1:=g.tb
   have g2:=g.bn
   by_cases hin:e.to ∈ S
   ·exact from_met h e he hz hin (dS_range hwf hok2 (by omega) hd (by omega)) _
   ·obtain ⟨b,hb⟩:∃ b:Nat,(b:Int)=r.bot:=⟨r.bot.toNat,by omega⟩
    obtain ⟨d0,d1⟩:=down_sides hwf hk (hok2 _ _ hk)
    rw [← hb] at d0 d1
    obtain ⟨v1,v2⟩:=dS_node hwf hok2 hk (hok _ _ hk).top.1
    have hp1:2 ^ (n - b)=2 * 2 ^ (n - (b + 1)):=by
     rw [show n - b=(n - (b + 1)) + 1 by omega,Nat.pow_succ]
     omega
    have hp2:2 ^ (n - b) ≤ 2 ^ (n - l):=Nat.pow_le_pow_right (by decide) (by omega)
    have hp3:=Nat.two_pow_pos (n - (b + 1))
    refine (from_new h e he hz hin r hk (hok _ _ hk) (2 ^ (n - (b + 1)) - 1) (by omega) v1 v2 (dS_range hwf hok2 (by omega) d0 (by omega)) (dS_range hwf hok2 (by omega) d1 (by omega)) (fun W S' hW hS'=>?_) (fun W S' hW hS'=>?_)).mono (fun _ _ hq=>hq.mono (by omega))
    ·exact ih (b + 1) r.lo W S' (by omega) (by omega) (hok2 _ _ hk).1 (by push_cast;exact d0) hW (by omega)
    ·exact ih (b + 1) r.hi W S' (by omega) (by omega) (hok2 _ _ hk).2 (by push_cast;exact d1) hW (by omega)

theorem ordAt_calls (a:Option Addr) (cap:Nat) (ps:List Int) (w:World) (h:IntsAt w a ps) (hl:ps.length ≤ 16) (i:Nat) (x:Int) (hx:ps[i]?=some x) :
  Calls Tryz.prog 220 #[.slice a ps.length cap,.int .i64 (i:Int)] w fun e w'=>e=.returned (.int .i64 x) ∧ w=w':=by
 obtain ⟨b,off,rfl,hc⟩:=h i x hx
 have hi:=(List.getElem?_eq_some_iff.1 hx).1
 obtain ⟨N,hN⟩:∃ N,N=ps.length:=⟨_,rfl⟩
 rw [← hN] at hl hi ⊢
 clear h hx hN
 go_enter Tryz.func220,Tryz.ntmps220
 go_wp2
 go_ret
 exact ⟨rfl,rfl⟩

theorem ordVar_calls {F:Nat → Prop} {w:World} {ob:Nat} {ps:List Int} (h:OrdRep F w ob ps) (i:Nat) (x:Int) (hx:ps[i]?=some x) :
  Calls Tryz.prog 208 #[.pointer (some ⟨ob,0,none⟩),.int .i64 (i:Int)] w fun e w'=>e=.returned (.int .i64 x) ∧ w=w':=by
 obtain ⟨va,vc,lg,lc,c0,c1,hi⟩:=h.cells
 have HC:=Lib.hid (ordAt_calls va vc ps w hi h.le i x hx)
 obtain ⟨n,hn⟩:∃ n,n=ps.length:=⟨_,rfl⟩
 rw [← hn] at c0 c1 HC
 clear h c1 hi hn hx
 go_enter Tryz.func208,Tryz.ntmps208
 go_wp2_with (first | (go_at_call 220;refine HC.out.mono ?_;rintro e w1 ⟨rfl,rfl⟩) | fail)
 go_ret
 exact ⟨rfl,rfl⟩

set_option maxRecDepth 100000 in
theorem buildMay_calls {F Fo:Nat → Prop} {w:World} {sb ob:Nat} {M:St} {ps:List Int} (h:StoreRep F w sb M) (ho:OrdRep Fo w ob ps) (hn:M.n=(ps.length:Int)) (f:Int) (hf:isFormB f=true) :
  Calls Tryz.prog 150 #[.pointer (some ⟨sb,0,none⟩),.pointer (some ⟨ob,0,none⟩),.int .u8 f] w fun e w'=>e=.returned (.int .u8 0) ∧ Keeps w w':=by
 have HV:=Lib.hid (fun (W:World) (hW:Keeps w W)=>store_vars (h.keeps hW))
 have HO:=Lib.hid (fun (W:World) (hW:Keeps w W)=>ordVars_calls (ho.keeps hW))
 have hif:=isForm_calls f
 rw [hf] at hif
 have HI:=Lib.hid hif
 rw [hn] at HV
 have hle:=ho.le
 obtain ⟨N,hN⟩:∃ N,N=ps.length:=⟨_,rfl⟩
 rw [← hN] at HV HO hle
 clear h ho hn hif hf hN
 go_enter Tryz.func150,Tryz.ntmps150
 go_wp2_with (first | (go_at_call 67;refine (HV.out _ (by (exact kp))).mono ?_;rintro e w1 ⟨rfl,rfl⟩) | (go_at_call 125;refine (HO.out _ (by (exact kp))).mono ?_;rintro e w1 ⟨rfl,rfl⟩) | (go_at_call 153;refine (HI.out _).mono ?_;rintro e w1 ⟨rfl,rfl⟩) | fail)
 go_ret
 exact ⟨rfl,by (exact kp)⟩

end Go.Proofs.YtpgcbmbnognieaaGreat
