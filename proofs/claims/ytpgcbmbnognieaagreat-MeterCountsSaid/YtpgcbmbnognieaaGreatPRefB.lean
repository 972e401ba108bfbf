/-
  The walk of the document's Find (ramageref11).
-/
import Derived.Test.YtpgcbmbnognieaaGreatPRefA
namespace Go.Proofs.YtpgcbmbnognieaaGreat
set_option linter.unusedSimpArgs false
set_option linter.unusedVariables false
set_option maxHeartbeats 600000
open Go.RowKit

theorem info_node:(Tryz.prog.info? 145).map (fun i=>(i.zero,i.size,i.bytes))=some (some (.agg #[.int .u32 0,.int .u8 0,.int .u8 0,.int .u8 0,.int .u8 0,.int .u32 0,.int .u8 0,.int .u32 0]),8,24):=by kernel_rfl

set_option maxRecDepth 100000 in
theorem rfind_old (mb:Nat) (r:Rec) (id n:Int) (w:World) (hid:0 < id)
  (c3:w.cell? ⟨mb,3,none⟩=some (.int .i64 n))
  (hg:∀ W,Keeps w W → Calls Tryz.prog 133 #[.pointer (some ⟨mb,0,none⟩),.agg #[.int .u8 r.form,.int .u8 r.top,.int .u8 r.bot,.int .u8 r.lo.tag,.int .u32 r.lo.to,.int .u8 r.hi.tag,.int .u32 r.hi.to]] W fun e w'=>e=.returned (.int .u32 id) ∧ Keeps W w') :
  Calls Tryz.prog 65 #[.pointer (some ⟨mb,0,none⟩),.agg #[.int .u8 r.form,.int .u8 r.top,.int .u8 r.bot,.int .u8 r.lo.tag,.int .u32 r.lo.to,.int .u8 r.hi.tag,.int .u32 r.hi.to]] w fun e w'=>e=.returned (.tuple #[.int .u32 id,.int .i64 0]) ∧ Keeps w w':=by
 have hmb:mb < w.heap.size:=lt_of_cell c3
 have Hg:=Lib.hid hg
 clear hg
 go_enter Tryz.func65,Tryz.ntmps65
 go_wp2_with (first | (go_at_call 133;refine (Hg.out _ (by (exact kp))).mono ?_;rintro e w1 ⟨rfl,hb⟩;have hwb:Keeps (w.alloc (.cells #[.int .u8 r.form,.int .u8 r.top,.int .u8 r.bot,.int .u8 r.lo.tag,.int .u32 r.lo.to,.int .u8 r.hi.tag,.int .u32 r.hi.to] 125)) w1:=(by (exact kp));obtain ⟨y0,y1,y2,y3,y4,y5,y6⟩:=box7 hwb;have hk:Keeps w w1:=(((Keeps.refl _).alloc _).trans hwb);have hsz:=hwb.size;simp only [World.size_alloc] at hsz;have d3:=hk.cell c3) | fail)
 go_ret2
 exact ⟨rfl,by (exact kp)⟩

set_option maxRecDepth 100000 in
theorem rfind_bad1 (mb:Nat) (r:Rec) (hb1:0 ≤ r.bot) (hb2:r.bot ≤ 255) (n:Int) (w:World)
  (c3:w.cell? ⟨mb,3,none⟩=some (.int .i64 n))
  (hg:∀ W,Keeps w W → Calls Tryz.prog 133 #[.pointer (some ⟨mb,0,none⟩),.agg #[.int .u8 r.form,.int .u8 r.top,.int .u8 r.bot,.int .u8 r.lo.tag,.int .u32 r.lo.to,.int .u8 r.hi.tag,.int .u32 r.hi.to]] W fun e w'=>e=.returned (.int .u32 0) ∧ Keeps W w')
  (hr:∀ W,Calls Tryz.prog 134 #[.agg #[.int .u8 r.form,.int .u8 r.top,.int .u8 r.bot,.int .u8 r.lo.tag,.int .u32 r.lo.to,.int .u8 r.hi.tag,.int .u32 r.hi.to],.int .i64 n] W fun e w'=>e=.returned (.bool false) ∧ Keeps W w')
  : Calls Tryz.prog 65 #[.pointer (some ⟨mb,0,none⟩),.agg #[.int .u8 r.form,.int .u8 r.top,.int .u8 r.bot,.int .u8 r.lo.tag,.int .u32 r.lo.to,.int .u8 r.hi.tag,.int .u32 r.hi.to]] w fun e w'=>e=.returned (.tuple #[.int .u32 0,.int .i64 1]) ∧ Keeps w w':=by
 have hmb:mb < w.heap.size:=lt_of_cell c3
 have Hg:=Lib.hid hg
 have Hr:=Lib.hid hr
 clear hg hr
 go_enter Tryz.func65,Tryz.ntmps65
 go_wp2_with (first | (go_at_call 133;refine (Hg.out _ (by (exact kp))).mono ?_;rintro e w1 ⟨rfl,hb⟩;have hwb:Keeps (w.alloc (.cells #[.int .u8 r.form,.int .u8 r.top,.int .u8 r.bot,.int .u8 r.lo.tag,.int .u32 r.lo.to,.int .u8 r.hi.tag,.int .u32 r.hi.to] 125)) w1:=(by (exact kp));obtain ⟨y0,y1,y2,y3,y4,y5,y6⟩:=box7 hwb;have hk:Keeps w w1:=(((Keeps.refl _).alloc _).trans hwb);have hsz:=hwb.size;simp only [World.size_alloc] at hsz;have d3:=hk.cell c3) | fail)
 have d3k:=KWorld.cell d3
 have y0k:=KWorld.cell y0
 have y1k:=KWorld.cell y1
 have y2k:=KWorld.cell y2
 have y3k:=KWorld.cell y3
 have y4k:=KWorld.cell y4
 have y5k:=KWorld.cell y5
 have y6k:=KWorld.cell y6
 refine wp_region_keeps (w1) (by kernel_rfl) (by kernel_rfl) (by (exact kp)) ?_;(repeat (go_big_quiet_step ((first | (go_at_call 134;refine Calls.keepsK (Hr.out _))))));refine wpQuiet_nil ?_;rintro wq ⟨⟨_,hkq⟩,rfl⟩;try dsimp only
 go_wp2
 go_ret2
 exact ⟨rfl,by (exact kp)⟩

set_option maxRecDepth 100000 in
theorem rfind_bad2 (mb:Nat) (r:Rec) (hb1:0 ≤ r.bot) (hb2:r.bot ≤ 255) (n:Int) (w:World)
  (c3:w.cell? ⟨mb,3,none⟩=some (.int .i64 n))
  (hg:∀ W,Keeps w W → Calls Tryz.prog 133 #[.pointer (some ⟨mb,0,none⟩),.agg #[.int .u8 r.form,.int .u8 r.top,.int .u8 r.bot,.int .u8 r.lo.tag,.int .u32 r.lo.to,.int .u8 r.hi.tag,.int .u32 r.hi.to]] W fun e w'=>e=.returned (.int .u32 0) ∧ Keeps W w')
  (hr:∀ W,Calls Tryz.prog 134 #[.agg #[.int .u8 r.form,.int .u8 r.top,.int .u8 r.bot,.int .u8 r.lo.tag,.int .u32 r.lo.to,.int .u8 r.hi.tag,.int .u32 r.hi.to],.int .i64 n] W fun e w'=>e=.returned (.bool true) ∧ Keeps W w')
  (hlo:∀ W,Keeps w W → Calls Tryz.prog 71 #[.pointer (some ⟨mb,0,none⟩),.int .u8 r.form,.agg #[.int .u8 r.lo.tag,.int .u32 r.lo.to],.int .i64 (r.bot + 1)] W fun e w'=>e=.returned (.bool false) ∧ Keeps W w')
  : Calls Tryz.prog 65 #[.pointer (some ⟨mb,0,none⟩),.agg #[.int .u8 r.form,.int .u8 r.top,.int .u8 r.bot,.int .u8 r.lo.tag,.int .u32 r.lo.to,.int .u8 r.hi.tag,.int .u32 r.hi.to]] w fun e w'=>e=.returned (.tuple #[.int .u32 0,.int .i64 1]) ∧ Keeps w w':=by
 have hmb:mb < w.heap.size:=lt_of_cell c3
 have Hg:=Lib.hid hg
 have Hr:=Lib.hid hr
 have Hlo:=Lib.hid hlo
 clear hg hr hlo
 go_enter Tryz.func65,Tryz.ntmps65
 go_wp2_with (first | (go_at_call 133;refine (Hg.out _ (by (exact kp))).mono ?_;rintro e w1 ⟨rfl,hb⟩;have hwb:Keeps (w.alloc (.cells #[.int .u8 r.form,.int .u8 r.top,.int .u8 r.bot,.int .u8 r.lo.tag,.int .u32 r.lo.to,.int .u8 r.hi.tag,.int .u32 r.hi.to] 125)) w1:=(by (exact kp));obtain ⟨y0,y1,y2,y3,y4,y5,y6⟩:=box7 hwb;have hk:Keeps w w1:=(((Keeps.refl _).alloc _).trans hwb);have hsz:=hwb.size;simp only [World.size_alloc] at hsz;have d3:=hk.cell c3) | fail)
 have d3k:=KWorld.cell d3
 have y0k:=KWorld.cell y0
 have y1k:=KWorld.cell y1
 have y2k:=KWorld.cell y2
 have y3k:=KWorld.cell y3
 have y4k:=KWorld.cell y4
 have y5k:=KWorld.cell y5
 have y6k:=KWorld.cell y6
 refine wp_region_keeps (w1) (by kernel_rfl) (by kernel_rfl) (by (exact kp)) ?_;(repeat (go_big_quiet_step ((first | (go_at_call 134;refine Calls.keepsK (Hr.out _)) | (go_at_call 71;with_reducible refine Calls.keepsK (Hlo.out _ (hk.trans (KWorld.keep _))))))));refine wpQuiet_nil ?_;rintro wq ⟨⟨_,hkq⟩,rfl⟩;try dsimp only
 go_wp2
 go_ret2
 exact ⟨rfl,by (exact kp)⟩

set_option maxRecDepth 100000 in
theorem rfind_bad3 (mb:Nat) (r:Rec) (hb1:0 ≤ r.bot) (hb2:r.bot ≤ 255) (n:Int) (w:World)
  (c3:w.cell? ⟨mb,3,none⟩=some (.int .i64 n))
  (hg:∀ W,Keeps w W → Calls Tryz.prog 133 #[.pointer (some ⟨mb,0,none⟩),.agg #[.int .u8 r.form,.int .u8 r.top,.int .u8 r.bot,.int .u8 r.lo.tag,.int .u32 r.lo.to,.int .u8 r.hi.tag,.int .u32 r.hi.to]] W fun e w'=>e=.returned (.int .u32 0) ∧ Keeps W w')
  (hr:∀ W,Calls Tryz.prog 134 #[.agg #[.int .u8 r.form,.int .u8 r.top,.int .u8 r.bot,.int .u8 r.lo.tag,.int .u32 r.lo.to,.int .u8 r.hi.tag,.int .u32 r.hi.to],.int .i64 n] W fun e w'=>e=.returned (.bool true) ∧ Keeps W w')
  (hlo:∀ W,Keeps w W → Calls Tryz.prog 71 #[.pointer (some ⟨mb,0,none⟩),.int .u8 r.form,.agg #[.int .u8 r.lo.tag,.int .u32 r.lo.to],.int .i64 (r.bot + 1)] W fun e w'=>e=.returned (.bool true) ∧ Keeps W w')
  (hhi:∀ W,Keeps w W → Calls Tryz.prog 71 #[.pointer (some ⟨mb,0,none⟩),.int .u8 r.form,.agg #[.int .u8 r.hi.tag,.int .u32 r.hi.to],.int .i64 (r.bot + 1)] W fun e w'=>e=.returned (.bool false) ∧ Keeps W w')
  : Calls Tryz.prog 65 #[.pointer (some ⟨mb,0,none⟩),.agg #[.int .u8 r.form,.int .u8 r.top,.int .u8 r.bot,.int .u8 r.lo.tag,.int .u32 r.lo.to,.int .u8 r.hi.tag,.int .u32 r.hi.to]] w fun e w'=>e=.returned (.tuple #[.int .u32 0,.int .i64 1]) ∧ Keeps w w':=by
 have hmb:mb < w.heap.size:=lt_of_cell c3
 have Hg:=Lib.hid hg
 have Hr:=Lib.hid hr
 have Hlo:=Lib.hid hlo
 have Hhi:=Lib.hid hhi
 clear hg hr hlo hhi
 go_enter Tryz.func65,Tryz.ntmps65
 go_wp2_with (first | (go_at_call 133;refine (Hg.out _ (by (exact kp))).mono ?_;rintro e w1 ⟨rfl,hb⟩;have hwb:Keeps (w.alloc (.cells #[.int .u8 r.form,.int .u8 r.top,.int .u8 r.bot,.int .u8 r.lo.tag,.int .u32 r.lo.to,.int .u8 r.hi.tag,.int .u32 r.hi.to] 125)) w1:=(by (exact kp));obtain ⟨y0,y1,y2,y3,y4,y5,y6⟩:=box7 hwb;have hk:Keeps w w1:=(((Keeps.refl _).alloc _).trans hwb);have hsz:=hwb.size;simp only [World.size_alloc] at hsz;have d3:=hk.cell c3) | fail)
 have d3k:=KWorld.cell d3
 have y0k:=KWorld.cell y0
 have y1k:=KWorld.cell y1
 have y2k:=KWorld.cell y2
 have y3k:=KWorld.cell y3
 have y4k:=KWorld.cell y4
 have y5k:=KWorld.cell y5
 have y6k:=KWorld.cell y6
 refine wp_region_keeps (w1) (by kernel_rfl) (by kernel_rfl) (by (exact kp)) ?_;(repeat (go_big_quiet_step ((first | (go_at_call 134;refine Calls.keepsK (Hr.out _)) | (go_at_call 71;with_reducible refine Calls.keepsK (Hlo.out _ (hk.trans (KWorld.keep _)))) | (go_at_call 71;with_reducible refine Calls.keepsK (Hhi.out _ (hk.trans (KWorld.keep _))))))));refine wpQuiet_nil ?_;rintro wq ⟨⟨_,hkq⟩,rfl⟩;try dsimp only
 go_wp2
 go_ret2
 exact ⟨rfl,by (exact kp)⟩

set_option maxRecDepth 100000 in
theorem rfind_full (mb:Nat) (r:Rec) (hb1:0 ≤ r.bot) (hb2:r.bot ≤ 255) (n room:Int) (al:Option Addr) (len cap:Nat) (w:World)
  (c3:w.cell? ⟨mb,3,none⟩=some (.int .i64 n)) (c0:w.cell? ⟨mb,0,none⟩=some (.slice al len cap)) (c4:w.cell? ⟨mb,4,none⟩=some (.int .i64 room)) (hfull:room ≤ (len:Int))
  (hg:∀ W,Keeps w W → Calls Tryz.prog 133 #[.pointer (some ⟨mb,0,none⟩),.agg #[.int .u8 r.form,.int .u8 r.top,.int .u8 r.bot,.int .u8 r.lo.tag,.int .u32 r.lo.to,.int .u8 r.hi.tag,.int .u32 r.hi.to]] W fun e w'=>e=.returned (.int .u32 0) ∧ Keeps W w')
  (hr:∀ W,Calls Tryz.prog 134 #[.agg #[.int .u8 r.form,.int .u8 r.top,.int .u8 r.bot,.int .u8 r.lo.tag,.int .u32 r.lo.to,.int .u8 r.hi.tag,.int .u32 r.hi.to],.int .i64 n] W fun e w'=>e=.returned (.bool true) ∧ Keeps W w')
  (hlo:∀ W,Keeps w W → Calls Tryz.prog 71 #[.pointer (some ⟨mb,0,none⟩),.int .u8 r.form,.agg #[.int .u8 r.lo.tag,.int .u32 r.lo.to],.int .i64 (r.bot + 1)] W fun e w'=>e=.returned (.bool true) ∧ Keeps W w')
  (hhi:∀ W,Keeps w W → Calls Tryz.prog 71 #[.pointer (some ⟨mb,0,none⟩),.int .u8 r.form,.agg #[.int .u8 r.hi.tag,.int .u32 r.hi.to],.int .i64 (r.bot + 1)] W fun e w'=>e=.returned (.bool true) ∧ Keeps W w')
  : Calls Tryz.prog 65 #[.pointer (some ⟨mb,0,none⟩),.agg #[.int .u8 r.form,.int .u8 r.top,.int .u8 r.bot,.int .u8 r.lo.tag,.int .u32 r.lo.to,.int .u8 r.hi.tag,.int .u32 r.hi.to]] w fun e w'=>e=.returned (.tuple #[.int .u32 0,.int .i64 6]) ∧ Keeps w w':=by
 have hmb:mb < w.heap.size:=lt_of_cell c3
 have Hg:=Lib.hid hg
 have Hr:=Lib.hid hr
 have Hlo:=Lib.hid hlo
 have Hhi:=Lib.hid hhi
 clear hg hr hlo hhi
 go_enter Tryz.func65,Tryz.ntmps65
 go_wp2_with (first | (go_at_call 133;refine (Hg.out _ (by (exact kp))).mono ?_;rintro e w1 ⟨rfl,hb⟩;have hwb:Keeps (w.alloc (.cells #[.int .u8 r.form,.int .u8 r.top,.int .u8 r.bot,.int .u8 r.lo.tag,.int .u32 r.lo.to,.int .u8 r.hi.tag,.int .u32 r.hi.to] 125)) w1:=(by (exact kp));obtain ⟨y0,y1,y2,y3,y4,y5,y6⟩:=box7 hwb;have hk:Keeps w w1:=(((Keeps.refl _).alloc _).trans hwb);have hsz:=hwb.size;simp only [World.size_alloc] at hsz;have d3:=hk.cell c3) | fail)
 have d3k:=KWorld.cell d3
 have y0k:=KWorld.cell y0
 have y1k:=KWorld.cell y1
 have y2k:=KWorld.cell y2
 have y3k:=KWorld.cell y3
 have y4k:=KWorld.cell y4
 have y5k:=KWorld.cell y5
 have y6k:=KWorld.cell y6
 refine wp_region_keeps (w1) (by kernel_rfl) (by kernel_rfl) (by (exact kp)) ?_;(repeat (go_big_quiet_step ((first | (go_at_call 134;refine Calls.keepsK (Hr.out _)) | (go_at_call 71;with_reducible refine Calls.keepsK (Hlo.out _ (hk.trans (KWorld.keep _)))) | (go_at_call 71;with_reducible refine Calls.keepsK (Hhi.out _ (hk.trans (KWorld.keep _))))))));refine wpQuiet_nil ?_;rintro wq ⟨⟨_,hkq⟩,rfl⟩;try dsimp only
 have hkw:Keeps w wq:=hk.trans hkq
 have e0:=hkw.cell c0
 have e4:=hkw.cell c4
 go_wp2
 go_quiet (fail)
 go_wp2
 go_ret2
 exact ⟨rfl,by (exact kp)⟩

set_option maxRecDepth 100000 in
theorem rfind_more (mb:Nat) (r:Rec) (hb1:0 ≤ r.bot) (hb2:r.bot ≤ 255) (n room:Int) (lv:Value) (len N:Nat) (xs:List Value) (ga:Option Addr) (gcap:Nat) (w:World)
  (c3:w.cell? ⟨mb,3,none⟩=some (.int .i64 n)) (c0:w.cell? ⟨mb,0,none⟩=some lv) (c1:w.cell? ⟨mb,1,none⟩=some (.slice ga 0 gcap)) (c2:w.cell? ⟨mb,2,none⟩=some (.int .u32 (N:Int))) (c4:w.cell? ⟨mb,4,none⟩=some (.int .i64 room)) (hroom:(len:Int) < room) (hr2:room ≤ 1048576) (hN:N ≤ 1048576)
  (hf0:w.frozen? ⟨mb,0,none⟩=false) (hf2:w.frozen? ⟨mb,2,none⟩=false) (hown:w.ownsRow 0 145 8 lv len xs) (hne:lv.ownBlock ≠ some mb)
  (hg:∀ W,Keeps w W → Calls Tryz.prog 133 #[.pointer (some ⟨mb,0,none⟩),.agg #[.int .u8 r.form,.int .u8 r.top,.int .u8 r.bot,.int .u8 r.lo.tag,.int .u32 r.lo.to,.int .u8 r.hi.tag,.int .u32 r.hi.to]] W fun e w'=>e=.returned (.int .u32 0) ∧ Keeps W w')
  (hr:∀ W,Calls Tryz.prog 134 #[.agg #[.int .u8 r.form,.int .u8 r.top,.int .u8 r.bot,.int .u8 r.lo.tag,.int .u32 r.lo.to,.int .u8 r.hi.tag,.int .u32 r.hi.to],.int .i64 n] W fun e w'=>e=.returned (.bool true) ∧ Keeps W w')
  (hlo:∀ W,Keeps w W → Calls Tryz.prog 71 #[.pointer (some ⟨mb,0,none⟩),.int .u8 r.form,.agg #[.int .u8 r.lo.tag,.int .u32 r.lo.to],.int .i64 (r.bot + 1)] W fun e w'=>e=.returned (.bool true) ∧ Keeps W w')
  (hhi:∀ W,Keeps w W → Calls Tryz.prog 71 #[.pointer (some ⟨mb,0,none⟩),.int .u8 r.form,.agg #[.int .u8 r.hi.tag,.int .u32 r.hi.to],.int .i64 (r.bot + 1)] W fun e w'=>e=.returned (.bool true) ∧ Keeps W w')
  : Calls Tryz.prog 65 #[.pointer (some ⟨mb,0,none⟩),.agg #[.int .u8 r.form,.int .u8 r.top,.int .u8 r.bot,.int .u8 r.lo.tag,.int .u32 r.lo.to,.int .u8 r.hi.tag,.int .u32 r.hi.to]] w fun e w'=>e=.returned (.tuple #[.int .u32 ((N:Int) + 2),.int .i64 0]) ∧
   ∃ g cap w1 W,Upd (fun k=>k=mb) w W ∧ (∀ cs,w.heap[mb]?=some (.cells cs 121 (0,0)) → W.heap[mb]?=some (.cells (cs.setIfInBounds 2 (.int .u32 ((N:Int) + 1))) 121 (0,0))) ∧ W.grownBy w1 lv.ownBlock ∧ (lv.ownBlock=some g ∨ W.heap.size ≤ g) ∧ w1.ownsRow 0 145 8 (.slice (some ⟨g,0,none⟩) (len + 1) cap) (len + 1) (xs ++ nodeVals ((N:Int) + 2,r)) ∧ w'=w1.setCell ⟨mb,0,none⟩ (.slice (some ⟨g,0,none⟩) (len + 1) cap):=by
 obtain ⟨la,lcap,rfl,-⟩:=owns_slice hown
 obtain ⟨i0,hi,hz0,hz1,hz2⟩:=info_parts info_node
 have HN:=Lib.hid hne
 have HO:=Lib.hid hown
 clear hne hown
 have hmb:mb < w.heap.size:=lt_of_cell c3
 have Hg:=Lib.hid hg
 have Hr:=Lib.hid hr
 have Hlo:=Lib.hid hlo
 have Hhi:=Lib.hid hhi
 clear hg hr hlo hhi
 go_enter Tryz.func65,Tryz.ntmps65
 go_wp2_with (first | (go_at_call 133;refine (Hg.out _ (by (exact kp))).mono ?_;rintro e w1 ⟨rfl,hb⟩;have hwb:Keeps (w.alloc (.cells #[.int .u8 r.form,.int .u8 r.top,.int .u8 r.bot,.int .u8 r.lo.tag,.int .u32 r.lo.to,.int .u8 r.hi.tag,.int .u32 r.hi.to] 125)) w1:=(by (exact kp));obtain ⟨y0,y1,y2,y3,y4,y5,y6⟩:=box7 hwb;have hk:Keeps w w1:=(((Keeps.refl _).alloc _).trans hwb);have hsz:=hwb.size;simp only [World.size_alloc] at hsz;have d3:=hk.cell c3) | fail)
 have d3k:=KWorld.cell d3
 have y0k:=KWorld.cell y0
 have y1k:=KWorld.cell y1
 have y2k:=KWorld.cell y2
 have y3k:=KWorld.cell y3
 have y4k:=KWorld.cell y4
 have y5k:=KWorld.cell y5
 have y6k:=KWorld.cell y6
 refine wp_region_keeps (w1) (by kernel_rfl) (by kernel_rfl) (by (exact kp)) ?_;(repeat (go_big_quiet_step ((first | (go_at_call 134;refine Calls.keepsK (Hr.out _)) | (go_at_call 71;with_reducible refine Calls.keepsK (Hlo.out _ (hk.trans (KWorld.keep _)))) | (go_at_call 71;with_reducible refine Calls.keepsK (Hhi.out _ (hk.trans (KWorld.keep _))))))));refine wpQuiet_nil ?_;rintro wq ⟨⟨_,hkq⟩,rfl⟩;try dsimp only
 have hkw:Keeps w wq:=hk.trans hkq
 have e0:=hkw.cell c0
 have e1:=hkw.cell c1
 have e2:=hkw.cell c2
 have e4:=hkw.cell c4
 obtain ⟨z0,z1,z2,z3,z4,z5,z6⟩:=hkq.cell7 ⟨y0,y1,y2,y3,y4,y5,y6⟩
 have hfz:=hkw.cells.2
 have f0:=(hfz mb 0 hmb).trans hf0
 have f2:=(hfz mb 2 hmb).trans hf2
 have hq1:mb < wq.heap.size:=lt_of_cell e0
 have hq2:w.heap.size < wq.heap.size:=lt_of_cell z0
 have hq3:mb ≠ w.heap.size:=by omega
 have hq4:w.heap.size ≠ mb:=by omega
 have hq5:mb < wq.heap.size + 1:=by omega
 have HB:=Lib.hid hb
 have HZ:=Lib.hid hsz
 clear c0 c1 c2 c4 d3 d3k y0 y1 y2 y3 y4 y5 y6 y0k y1k y2k y3k y4k y5k y6k hfz hb hsz
 go_wp2
 go_quiet (fail)
 go_wp2
 go_region_law (refine step_append_own rfl (.tmp 104) (.tmp 108) 119 rfl 0 145 i0 _ 8 24 Tryz.underlying119 hi hz0 hz1 hz2 rfl (by decide) (.slice la len lcap) len xs rfl ?_ _ 1 1 (nodeVals ((N:Int) + 2,r)) rfl rfl ?_ ?_ ?_ ?_ (Nat.zero_le _) ?_;exact Upd.owns (F:=fun k=>k=mb) (by (exact up)) (fun k h e=>HN.out (e ▸ h)) HO.out;exact cell_newd _ _ _ _ (by simp);(intro u hu;simp [nodeVals,recVals] at hu;rcases hu with rfl | rfl | rfl | rfl | rfl | rfl | rfl | rfl <;> rfl);(unfold maxLen;omega);omega;intro v' w2 hown1 hgrow hfresh;(obtain ⟨g,cap,rfl⟩:=owns_shape hown1 (by omega));have k0:=grown_cell (o:=0) (v:=.slice la len lcap) hgrow HN.out (by simp [go_sem,e0,hq1,hq5]);have e9:=grown_frozen (o:=0) hgrow (by simp;omega) HN.out (by simp [go_sem,f0,hq1,hq5]))
 all_goals go_wp2
 all_goals go_ret2
 all_goals refine ⟨?_,g,cap,w2,_,?_,?_,hgrow,hfresh g rfl,hown1,rfl⟩
 all_goals first | ((exact up);done) | (simp;done) | skip
 all_goals (intro cs hcs;have q1:(wq.drewN nq).heap[mb]?=some (.cells cs 121 (0,0)):=hkw.heap hcs)
 all_goals (have q2:=heap_setCell_same _ mb 2 _ _ (.int .u32 ((N:Int) + 1)) q1;have q3:=lt_of_heap q2;(repeat (first | exact q2 | refine (Below.heap_alloc _ _ _ (by simp at q3 ⊢;omega)).trans ?_ | (show (World.alloc _ _).heap[mb]?=_))))

set_option maxRecDepth 100000 in
theorem rfind_free (mb:Nat) (r:Rec) (hb1:0 ≤ r.bot) (hb2:r.bot ≤ 255) (n room:Int) (lv:Value) (len k gb:Nat) (id:Int) (xs:List Value) (gcap:Nat) (N:Int) (w:World)
  (c3:w.cell? ⟨mb,3,none⟩=some (.int .i64 n)) (c0:w.cell? ⟨mb,0,none⟩=some lv) (c1:w.cell? ⟨mb,1,none⟩=some (.slice (some ⟨gb,0,none⟩) (k + 1) gcap)) (c2:w.cell? ⟨mb,2,none⟩=some (.int .u32 N)) (c4:w.cell? ⟨mb,4,none⟩=some (.int .i64 room)) (hroom:(len:Int) < room) (hr2:room ≤ 1048576) (hN:0 ≤ N ∧ N ≤ 1048576) (hk0:k < 1048576) (hkc:k + 1 ≤ gcap) (hid:w.cell? ⟨gb,k,none⟩=some (.int .u32 id)) (hgm:gb ≠ mb)
  (hf0:w.frozen? ⟨mb,0,none⟩=false) (hf1:w.frozen? ⟨mb,1,none⟩=false) (hown:w.ownsRow 0 145 8 lv len xs) (hne:lv.ownBlock ≠ some mb)
  (hg:∀ W,Keeps w W → Calls Tryz.prog 133 #[.pointer (some ⟨mb,0,none⟩),.agg #[.int .u8 r.form,.int .u8 r.top,.int .u8 r.bot,.int .u8 r.lo.tag,.int .u32 r.lo.to,.int .u8 r.hi.tag,.int .u32 r.hi.to]] W fun e w'=>e=.returned (.int .u32 0) ∧ Keeps W w')
  (hr:∀ W,Calls Tryz.prog 134 #[.agg #[.int .u8 r.form,.int .u8 r.top,.int .u8 r.bot,.int .u8 r.lo.tag,.int .u32 r.lo.to,.int .u8 r.hi.tag,.int .u32 r.hi.to],.int .i64 n] W fun e w'=>e=.returned (.bool true) ∧ Keeps W w')
  (hlo:∀ W,Keeps w W → Calls Tryz.prog 71 #[.pointer (some ⟨mb,0,none⟩),.int .u8 r.form,.agg #[.int .u8 r.lo.tag,.int .u32 r.lo.to],.int .i64 (r.bot + 1)] W fun e w'=>e=.returned (.bool true) ∧ Keeps W w')
  (hhi:∀ W,Keeps w W → Calls Tryz.prog 71 #[.pointer (some ⟨mb,0,none⟩),.int .u8 r.form,.agg #[.int .u8 r.hi.tag,.int .u32 r.hi.to],.int .i64 (r.bot + 1)] W fun e w'=>e=.returned (.bool true) ∧ Keeps W w')
  : Calls Tryz.prog 65 #[.pointer (some ⟨mb,0,none⟩),.agg #[.int .u8 r.form,.int .u8 r.top,.int .u8 r.bot,.int .u8 r.lo.tag,.int .u32 r.lo.to,.int .u8 r.hi.tag,.int .u32 r.hi.to]] w fun e w'=>e=.returned (.tuple #[.int .u32 id,.int .i64 0]) ∧
   ∃ g cap w1 W,Upd (fun k=>k=mb) w W ∧ (∀ cs,w.heap[mb]?=some (.cells cs 121 (0,0)) → W.heap[mb]?=some (.cells (cs.setIfInBounds 1 (.slice (some ⟨gb,0,none⟩) k gcap)) 121 (0,0))) ∧ W.grownBy w1 lv.ownBlock ∧ (lv.ownBlock=some g ∨ W.heap.size ≤ g) ∧ w1.ownsRow 0 145 8 (.slice (some ⟨g,0,none⟩) (len + 1) cap) (len + 1) (xs ++ nodeVals (id,r)) ∧ w'=w1.setCell ⟨mb,0,none⟩ (.slice (some ⟨g,0,none⟩) (len + 1) cap):=by
 obtain ⟨la,lcap,rfl,-⟩:=owns_slice hown
 obtain ⟨i0,hi,hz0,hz1,hz2⟩:=info_parts info_node
 have HN:=Lib.hid hne
 have HO:=Lib.hid hown
 clear hne hown
 have hmb:mb < w.heap.size:=lt_of_cell c3
 have Hg:=Lib.hid hg
 have Hr:=Lib.hid hr
 have Hlo:=Lib.hid hlo
 have Hhi:=Lib.hid hhi
 clear hg hr hlo hhi
 go_enter Tryz.func65,Tryz.ntmps65
 go_wp2_with (first | (go_at_call 133;refine (Hg.out _ (by (exact kp))).mono ?_;rintro e w1 ⟨rfl,hb⟩;have hwb:Keeps (w.alloc (.cells #[.int .u8 r.form,.int .u8 r.top,.int .u8 r.bot,.int .u8 r.lo.tag,.int .u32 r.lo.to,.int .u8 r.hi.tag,.int .u32 r.hi.to] 125)) w1:=(by (exact kp));obtain ⟨y0,y1,y2,y3,y4,y5,y6⟩:=box7 hwb;have hk:Keeps w w1:=(((Keeps.refl _).alloc _).trans hwb);have hsz:=hwb.size;simp only [World.size_alloc] at hsz;have d3:=hk.cell c3) | fail)
 have d3k:=KWorld.cell d3
 have y0k:=KWorld.cell y0
 have y1k:=KWorld.cell y1
 have y2k:=KWorld.cell y2
 have y3k:=KWorld.cell y3
 have y4k:=KWorld.cell y4
 have y5k:=KWorld.cell y5
 have y6k:=KWorld.cell y6
 refine wp_region_keeps (w1) (by kernel_rfl) (by kernel_rfl) (by (exact kp)) ?_;(repeat (go_big_quiet_step ((first | (go_at_call 134;refine Calls.keepsK (Hr.out _)) | (go_at_call 71;with_reducible refine Calls.keepsK (Hlo.out _ (hk.trans (KWorld.keep _)))) | (go_at_call 71;with_reducible refine Calls.keepsK (Hhi.out _ (hk.trans (KWorld.keep _))))))));refine wpQuiet_nil ?_;rintro wq ⟨⟨_,hkq⟩,rfl⟩;try dsimp only
 have hkw:Keeps w wq:=hk.trans hkq
 have e0:=hkw.cell c0
 have e1:=hkw.cell c1
 have e2:=hkw.cell c2
 have e4:=hkw.cell c4
 obtain ⟨z0,z1,z2,z3,z4,z5,z6⟩:=hkq.cell7 ⟨y0,y1,y2,y3,y4,y5,y6⟩
 have hfz:=hkw.cells.2
 have f0:=(hfz mb 0 hmb).trans hf0
 have f1:=(hfz mb 1 hmb).trans hf1
 have g1:=hkw.cell hid
 obtain ⟨N0,N1⟩:=hN
 have hgb:gb < wq.heap.size:=lt_of_cell g1
 have hq1:mb < wq.heap.size:=lt_of_cell e0
 have hq2:w.heap.size < wq.heap.size:=lt_of_cell z0
 have hq3:mb ≠ w.heap.size:=by omega
 have hq4:w.heap.size ≠ mb:=by omega
 have hq5:mb < wq.heap.size + 1:=by omega
 have HB:=Lib.hid hb
 have HZ:=Lib.hid hsz
 clear c0 c1 c2 c4 hid d3 d3k y0 y1 y2 y3 y4 y5 y6 y0k y1k y2k y3k y4k y5k y6k hfz hb hsz
 go_wp2
 go_quiet (fail)
 go_wp2
 go_quiet (fail)
 go_wp2
 go_region
 go_wp2
 go_region_law (refine step_append_own rfl (.tmp 104) (.tmp 108) 119 rfl 0 145 i0 _ 8 24 Tryz.underlying119 hi hz0 hz1 hz2 rfl (by decide) (.slice la len lcap) len xs rfl ?_ _ 1 1 (nodeVals (id,r)) rfl rfl ?_ ?_ ?_ ?_ (Nat.zero_le _) ?_;exact Upd.owns (F:=fun k=>k=mb) (by (exact up)) (fun k h e=>HN.out (e ▸ h)) HO.out;exact cell_newd _ _ _ _ (by simp);(intro u hu;simp [nodeVals,recVals] at hu;rcases hu with rfl | rfl | rfl | rfl | rfl | rfl | rfl | rfl <;> rfl);(unfold maxLen;omega);omega;intro v' w2 hown1 hgrow hfresh;(obtain ⟨g,cap,rfl⟩:=owns_shape hown1 (by omega));have k0:=grown_cell (o:=0) (v:=.slice la len lcap) hgrow HN.out (by simp [go_sem,e0,hq1,hq5]);have e9:=grown_frozen (o:=0) hgrow (by simp;omega) HN.out (by simp [go_sem,f0,hq1,hq5]))
 all_goals go_wp2
 all_goals go_ret2
 all_goals refine ⟨?_,g,cap,w2,_,?_,?_,hgrow,hfresh g rfl,hown1,rfl⟩
 all_goals first | ((exact up);done) | (simp;done) | skip
 all_goals (intro cs hcs;have q1:(wq.drewN nq).heap[mb]?=some (.cells cs 121 (0,0)):=hkw.heap hcs)
 all_goals (have q2:=heap_setCell_same _ mb 1 _ _ (.slice (some ⟨gb,0,none⟩) k gcap) q1;have q3:=lt_of_heap q2;(repeat (first | exact q2 | refine (Below.heap_alloc _ _ _ (by simp at q3 ⊢;omega)).trans ?_ | (show (World.alloc _ _).heap[mb]?=_))))

structure RefRep (F:Nat → Prop) (w:World) (mb:Nat) (M:St) (L:List (Int × Rec)):Prop where
 lies:∃ lv gv,w.heap[mb]?=some (.cells #[lv,gv,.int .u32 (M.cs.length:Int),.int .i64 M.n,.int .i64 M.room] 121 (0,0)) ∧
  w.ownsRow 0 145 8 lv L.length (L.flatMap nodeVals) ∧ w.ownsRow 0 23 1 gv M.gone.length (M.gone.map (Value.int .u32)) ∧
  (∀ k,lv.ownBlock=some k → F k) ∧ (∀ k,gv.ownBlock=some k → F k)
 own:F mb
 lt:∀ k,F k → k < w.heap.size
 wf:M.wf
 mem:∀ id r,(id,r) ∈ L ↔ look M.cs id=some r
 ids:(L.map Prod.fst).Nodup
 len:(L.length:Int)=M.len
 few:M.cs.length ≤ 1048576
 fit:∀ p ∈ L,p.2.ok

theorem RefRep.keep {F G:Nat → Prop} {w W:World} {mb:Nat} {M:St} {L:List (Int × Rec)} (h:RefRep F w mb M L) (hu:Upd G w W) (hd:∀ k,F k → ¬ G k):RefRep F W mb M L:=by
 obtain ⟨⟨lv,gv,h1,h2,h3,h4,h5⟩,a1,a2,a3⟩:=h
 exact ⟨⟨lv,gv,(hu.block mb (lt_of_heap h1) (hd _ a1)).trans h1,hu.owns (fun k hk=>hd _ (h4 k hk)) h2,hu.owns (fun k hk=>hd _ (h5 k hk)) h3,h4,h5⟩,a1,fun k hk=>Nat.lt_of_lt_of_le (a2 k hk) hu.size,a3,by assumption,by assumption,by assumption,by assumption,by assumption⟩

theorem RefRep.keeps {F:Nat → Prop} {w W:World} {mb:Nat} {M:St} {L:List (Int × Rec)} (h:RefRep F w mb M L) (hu:Keeps w W):RefRep F W mb M L:=
 h.keep (hu.upd (fun _=>False)) (fun _ _ h=>h)

theorem RefRep.le {F:Nat → Prop} {w:World} {mb:Nat} {M:St} {L:List (Int × Rec)} (h:RefRep F w mb M L):L.length ≤ 1048576:=by
 have h1:=h.len
 have h2:=h.wf.full
 have h3:=h.wf.room1
 omega

theorem RefRep.mono {F G:Nat → Prop} {w:World} {mb:Nat} {M:St} {L:List (Int × Rec)} (h:RefRep F w mb M L) (hg:∀ k,F k → G k) (hl:∀ k,G k → k < w.heap.size):RefRep G w mb M L:=by
 obtain ⟨⟨lv,gv,h1,h2,h3,h4,h5⟩,a1,a2,a3,a4,a5,a6,a7,a8⟩:=h
 exact ⟨⟨lv,gv,h1,h2,h3,fun k hk=>hg k (h4 k hk),fun k hk=>hg k (h5 k hk)⟩,hg _ a1,hl,a3,a4,a5,a6,a7,a8⟩

theorem RefRep.cell {F:Nat → Prop} {w:World} {mb:Nat} {M:St} {L:List (Int × Rec)} (h:RefRep F w mb M L) :
  ∃ a cap,w.cell? ⟨mb,0,none⟩=some (.slice a L.length cap) ∧ (L.length ≠ 0 → ∃ lb,a=some ⟨lb,0,none⟩ ∧ F lb ∧
   (∀ i p,L[i]?=some p → ∀ j,j < 8 → w.cell? ⟨lb,i * 8 + j,none⟩=(nodeVals p)[j]?)):=by
 obtain ⟨⟨lv,gv,h1,h2,h3,h4,h5⟩,-⟩:=h
 obtain ⟨a,cap,rfl,hs⟩:=owns_slice h2
 refine ⟨a,cap,by rw [cell_of_row w mb 0 _ _ _ h1];rfl,fun hn=>?_⟩
 obtain ⟨lb,rfl⟩:=hs hn
 refine ⟨lb,rfl,h4 lb rfl,fun i c hc j hj=>?_⟩
 have hi:=(List.getElem?_eq_some_iff.1 hc).1
 rw [h2.cellAt (i * 8 + j) (by omega)]
 exact flat_get nodeVals 8 nodeVals_length L i j c hc hj

def atI (L:List (Int × Rec)) (id:Int):Int:=if L.findIdx (fun p=>decide (p.1=id)) < L.length then (L.findIdx (fun p=>decide (p.1=id)):Int) else -1

theorem ref_at {F:Nat → Prop} {w:World} {mb:Nat} {M:St} {L:List (Int × Rec)} (h:RefRep F w mb M L) (id:Int) :
  Calls Tryz.prog 89 #[.pointer (some ⟨mb,0,none⟩),.int .u32 id] w fun e w'=>e=.returned (.int .i64 (atI L id)) ∧ w=w':=by
 obtain ⟨a,cap,c0,hc⟩:=h.cell
 refine ref_at_low mb a L.length cap (L.findIdx (fun p=>decide (p.1=id))) id (fun i=>(L[i]?.getD (0,Rec.zero)).1) w c0 h.le ?_ List.findIdx_le_length ?_ ?_
 ·intro i hi
  obtain ⟨lb,rfl,_,hv⟩:=hc (by omega)
  refine ⟨lb,rfl,?_⟩
  have:=hv i _ (List.getElem?_eq_getElem hi) 0 (by omega)
  rw [Nat.add_zero] at this
  rw [this,List.getElem?_eq_getElem hi]
  rfl
 ·intro d hd
  have hl:d < L.length:=Nat.lt_of_lt_of_le hd List.findIdx_le_length
  have:=List.not_of_lt_findIdx hd
  rw [List.getElem?_eq_getElem hl]
  simpa using this
 ·intro hD
  have:=List.findIdx_getElem (w:=hD)
  rw [List.getElem?_eq_getElem hD]
  simpa using this

theorem ref_has {F:Nat → Prop} {w:World} {mb:Nat} {M:St} {L:List (Int × Rec)} (h:RefRep F w mb M L) (r:Rec) :
  Calls Tryz.prog 133 #[.pointer (some ⟨mb,0,none⟩),.agg #[.int .u8 r.form,.int .u8 r.top,.int .u8 r.bot,.int .u8 r.lo.tag,.int .u32 r.lo.to,.int .u8 r.hi.tag,.int .u32 r.hi.to]] w fun e w'=>e=.returned (.int .u32 ((M.idOf r).getD 0)) ∧ Keeps w w':=by
 obtain ⟨a,cap,c0,hc⟩:=h.cell
 have hD:=fun (hD:L.findIdx (fun p=>decide (p.2=r)) < L.length)=>List.findIdx_getElem (w:=hD)
 have hval:(M.idOf r).getD 0=if L.findIdx (fun p=>decide (p.2=r)) < L.length then (L[L.findIdx (fun p=>decide (p.2=r))]?.getD (0,Rec.zero)).1 else 0:=by
  by_cases hlt:L.findIdx (fun p=>decide (p.2=r)) < L.length
  ·rw [if_pos hlt,List.getElem?_eq_getElem hlt]
   have h2:(L[L.findIdx (fun p=>decide (p.2=r))]).2=r:=by simpa using hD hlt
   have h3:=(h.mem (L[L.findIdx (fun p=>decide (p.2=r))]).1 r).1 (by
    have:=List.getElem_mem hlt
    rwa [show L[L.findIdx (fun p=>decide (p.2=r))]=((L[L.findIdx (fun p=>decide (p.2=r))]).1,r) from Prod.ext rfl h2] at this)
   rw [(idOf_iff h.wf.once r _).1 h3]
   rfl
  ·rw [if_neg hlt]
   cases hi:M.idOf r with
   | none=>rfl
   | some id=>
    exfalso
    have:=(h.mem id r).2 (idOf_look hi)
    exact hlt (List.findIdx_lt_length.2 ⟨_,this,by simp⟩)
 rw [hval]
 refine ref_has_low mb a L.length cap (L.findIdx (fun p=>decide (p.2=r))) r (fun i=>(L[i]?.getD (0,Rec.zero)).1) (fun i=>(L[i]?.getD (0,Rec.zero)).2) w c0 h.le ?_ List.findIdx_le_length ?_ ?_
 ·intro i hi
  obtain ⟨lb,rfl,_,hv⟩:=hc (by omega)
  refine ⟨lb,rfl,fun j hj=>?_⟩
  rw [hv i _ (List.getElem?_eq_getElem hi) j hj,List.getElem?_eq_getElem hi]
  rfl
 ·intro d hd
  have hl:d < L.length:=Nat.lt_of_lt_of_le hd List.findIdx_le_length
  have:=List.not_of_lt_findIdx hd
  rw [List.getElem?_eq_getElem hl]
  simpa using this
 ·intro hlt
  rw [List.getElem?_eq_getElem hlt]
  simpa using hD hlt

theorem atI_look {F:Nat → Prop} {w:World} {mb:Nat} {M:St} {L:List (Int × Rec)} (h:RefRep F w mb M L) (id:Int) :
  (∃ r,look M.cs id=some r ∧ ∃ D:Nat,L[D]?=some (id,r) ∧ D=L.findIdx (fun p=>decide (p.1=id)) ∧ D < L.length ∧ atI L id=(D:Int)) ∨ (look M.cs id=none ∧ ¬ L.findIdx (fun p=>decide (p.1=id)) < L.length ∧ atI L id=-1):=by
 by_cases hlt:L.findIdx (fun p=>decide (p.1=id)) < L.length
 ·left
  have h1:(L[L.findIdx (fun p=>decide (p.1=id))]).1=id:=by simpa using List.findIdx_getElem (w:=hlt)
  have h2:=(h.mem id (L[L.findIdx (fun p=>decide (p.1=id))]).2).1 (by
    have:=List.getElem_mem hlt
    rwa [show L[L.findIdx (fun p=>decide (p.1=id))]=(id,(L[L.findIdx (fun p=>decide (p.1=id))]).2) from Prod.ext h1 rfl] at this)
  refine ⟨_,h2,_,?_,rfl,hlt,by unfold atI;rw [if_pos hlt]⟩
  rw [List.getElem?_eq_getElem hlt]
  exact congrArg some (Prod.ext h1 rfl)
 ·right
  refine ⟨?_,hlt,by unfold atI;rw [if_neg hlt]⟩
  cases hl:look M.cs id with
  | none=>rfl
  | some r=>
   exact (hlt (List.findIdx_lt_length.2 ⟨_,(h.mem id r).2 hl,by simp⟩)).elim

theorem ref_leads {F:Nat → Prop} {w:World} {mb:Nat} {M:St} {L:List (Int × Rec)} (h:RefRep F w mb M L) (f:Int) (e:Edge) (l:Int) (he:e.ok) :
  Calls Tryz.prog 71 #[.pointer (some ⟨mb,0,none⟩),.int .u8 f,.agg #[.int .u8 e.tag,.int .u32 e.to],.int .i64 l] w fun r w'=>r=.returned (.bool (M.leads f e l)) ∧ Keeps w w':=by
 obtain ⟨a,cap,c0,hc⟩:=h.cell
 have hfit:=h.fit
 have hle:=h.le
 have hat:=fun (W:World) (hW:Keeps w W)=>ref_at (h.keeps hW) e.to
 have hloc:=atI_look h e.to
 obtain ⟨⟨lv,gv,h1,-⟩,-⟩:=h
 have c3:w.cell? ⟨mb,3,none⟩=some (.int .i64 M.n):=by rw [cell_of_row w mb 3 _ _ _ h1];rfl
 unfold atI at hat
 rcases hloc with ⟨r,hl,D,hD,rfl,hlt,-⟩ | ⟨hl,hlt,-⟩
 ·have hr:r.ok:=hfit _ (List.mem_of_getElem? hD)
  refine (rleads_low mb f e.tag e.to l M.n a L.length cap _ r w he.1.1 he.1.2 hr hle c3 c0 hat (fun _=>?_)).mono ?_
  ·obtain ⟨lb,rfl,_,hv⟩:=hc (by omega)
   refine ⟨lb,rfl,fun j hj=>?_⟩
   rw [hv _ _ hD (1 + j) (by omega),Nat.add_comm 1 j]
   rfl
  ·rintro r' w' ⟨rfl,hk⟩
   refine ⟨?_,hk⟩
   congr 2
   unfold St.leads
   rw [hl]
   simp [hlt]
 ·refine (rleads_low mb f e.tag e.to l M.n a L.length cap _ Rec.zero w he.1.1 he.1.2 Rec.zero_ok hle c3 c0 hat (fun h=>(hlt h).elim)).mono ?_
  rintro r' w' ⟨rfl,hk⟩
  refine ⟨?_,hk⟩
  congr 2
  unfold St.leads
  rw [hl]
  simp [hlt]

def refL (M:St) (L:List (Int × Rec)) (r:Rec):List (Int × Rec):=
 match M.idOf r with
 | some _=>L
 | none=>if M.bad r then L else if M.room ≤ M.len then L else L ++ [(putId M.gone M.cs.length,r)]

theorem ref_add {F:Nat → Prop} {M:St} {L:List (Int × Rec)} {r:Rec} (hr:r.ok) (hwf:M.wf) (hmem:∀ id r,(id,r) ∈ L ↔ look M.cs id=some r) (hids:(L.map Prod.fst).Nodup) (hlen:(L.length:Int)=M.len) (hfew:M.cs.length ≤ 1048576)
  (hfit:∀ p ∈ L,p.2.ok) (hroom:M.len < M.room) :
  (∀ id r',(id,r') ∈ L ++ [(putId M.gone M.cs.length,r)] ↔ look (M.add r).cs id=some r') ∧ ((L ++ [(putId M.gone M.cs.length,r)]).map Prod.fst).Nodup ∧ ((L ++ [(putId M.gone M.cs.length,r)]).length:Int)=(M.add r).len ∧
   (M.add r).cs.length ≤ 1048576 ∧ ∀ p ∈ L ++ [(putId M.gone M.cs.length,r)],p.2.ok:=by
 refine ⟨fun id r'=>?_,?_,?_,?_,?_⟩
 ·rw [hwf.look_add r id r',List.mem_append,hmem]
  simp only [List.mem_singleton,Prod.mk.injEq]
  exact Or.comm
 ·rw [List.map_append,List.nodup_append]
  refine ⟨hids,by simp,?_⟩
  intro x hx y hy
  simp at hy
  obtain ⟨p,hp,rfl⟩:=List.mem_map.1 hx
  have h1:=(hmem p.1 p.2).1 hp
  have h2:=(putId_range hwf.gone).2.2
  intro e
  rw [e,hy,h2] at h1
  cases h1
 ·rw [M.len_add r]
  simp
  omega
 ·have h1:=hwf.len0
  have h2:=hwf.room1
  have h3:=hwf.full
  unfold St.add putCs
  cases hg:M.gone.getLast? with
  | none=>
   have hg0:M.gone=[]:=by simpa using hg
   have:M.len=(M.cs.length:Int):=by unfold St.len;rw [hg0];simp
   simp
   omega
  | some x=>simpa using hfew
 ·intro p hp
  rcases List.mem_append.1 hp with hp | hp
  ·exact hfit p hp
  ·simp at hp
   rw [hp]
   exact hr

theorem ref_find {F:Nat → Prop} {w:World} {mb:Nat} {M:St} {L:List (Int × Rec)} (h:RefRep F w mb M L) (r:Rec) (hr:r.ok) :
  Calls Tryz.prog 65 #[.pointer (some ⟨mb,0,none⟩),.agg #[.int .u8 r.form,.int .u8 r.top,.int .u8 r.bot,.int .u8 r.lo.tag,.int .u32 r.lo.to,.int .u8 r.hi.tag,.int .u32 r.hi.to]] w fun e w'=>
   e=.returned (.tuple #[.int .u32 (M.findId r),.int .i64 (M.findErr r)]) ∧ Upd F w w' ∧ RefRep (Grow F w w') w' mb (M.findSt r) (refL M L r):=by
 have hlead:=fun (W:World) (hW:Keeps w W) (e:Edge) (he:e.ok)=>ref_leads (h.keeps hW) r.form e (r.bot + 1) he
 have hg:=fun (W:World) (hW:Keeps w W)=>ref_has (h.keeps hW) r
 have hsame:∀ {e:Ending} {w':World} {i er:Int},M.findSt r=M → refL M L r=L → M.findId r=i → M.findErr r=er → e=.returned (.tuple #[.int .u32 i,.int .i64 er]) ∧ Keeps w w' →
   e=.returned (.tuple #[.int .u32 (M.findId r),.int .i64 (M.findErr r)]) ∧ Upd F w w' ∧ RefRep (Grow F w w') w' mb (M.findSt r) (refL M L r):=by
  intro e w' i er h1 hL h2 h3 ⟨h4,h5⟩
  rw [h1,h2,h3,hL]
  have hk:=h.keeps h5
  refine ⟨h4,h5.upd F,hk.mono (fun k hk=>.inl hk) (fun k hk'=>?_)⟩
  rcases hk' with hk' | hk'
  ·exact hk.lt k hk'
  ·exact hk'.2
 have hwf:=h.wf
 have hle:=h.le
 have hlt:=h.lt
 have hadd:=fun hroom=>ref_add (F:=F) hr h.wf h.mem h.ids h.len h.few h.fit hroom
 have hb1:=hr.bot.1
 have hb2:=hr.bot.2
 have hright:=fun W=>refright_calls r hr M.n W
 obtain ⟨⟨lv,gv,h1,h2,h3,h4,h5⟩,a1,a2,a3,a4,a5,a6,a7,a8⟩:=h
 have c0:w.cell? ⟨mb,0,none⟩=some lv:=by rw [cell_of_row w mb 0 _ _ _ h1];rfl
 have c1:w.cell? ⟨mb,1,none⟩=some gv:=by rw [cell_of_row w mb 1 _ _ _ h1];rfl
 have c2:w.cell? ⟨mb,2,none⟩=some (.int .u32 (M.cs.length:Int)):=by rw [cell_of_row w mb 2 _ _ _ h1];rfl
 have c3:w.cell? ⟨mb,3,none⟩=some (.int .i64 M.n):=by rw [cell_of_row w mb 3 _ _ _ h1];rfl
 have c4:w.cell? ⟨mb,4,none⟩=some (.int .i64 M.room):=by rw [cell_of_row w mb 4 _ _ _ h1];rfl
 have hfz:∀ o,w.frozen? ⟨mb,o,none⟩=false:=fun o=>frozen_of_row w mb o _ _ h1
 have hmb:=lt_of_heap h1
 cases hi:M.idOf r with
 | some id=>
  rw [hi] at hg
  have h2:=(look_some (idOf_look hi)).1
  refine (rfind_old mb r id M.n w (by omega) c3 hg).mono fun e w' he=>?_
  exact hsame (by unfold St.findSt;rw [hi]) (by unfold refL;rw [hi]) (by unfold St.findId;rw [hi]) (by unfold St.findErr;rw [hi]) he
 | none=>
  rw [hi] at hg
  have hlo:=fun W hW=>hlead W hW r.lo hr.lo
  have hhi:=fun W hW=>hlead W hW r.hi hr.hi
  cases hbad:M.bad r with
  | true=>
   have fin:∀ {e:Ending} {w':World},e=.returned (.tuple #[.int .u32 0,.int .i64 1]) ∧ Keeps w w' → e=.returned (.tuple #[.int .u32 (M.findId r),.int .i64 (M.findErr r)]) ∧ Upd F w w' ∧ RefRep (Grow F w w') w' mb (M.findSt r) (refL M L r):=
    hsame (by unfold St.findSt;rw [hi,hbad];rfl) (by unfold refL;rw [hi,hbad];rfl) (by unfold St.findId;rw [hi,hbad];rfl) (by unfold St.findErr;rw [hi,hbad];rfl)
   unfold St.bad at hbad
   cases hR:rightB r M.n with
   | false=>
    rw [hR] at hright
    exact (rfind_bad1 mb r hb1 hb2 M.n w c3 hg hright).mono fun e w' he=>fin he
   | true=>
    rw [hR] at hright hbad
    cases hL:M.leads r.form r.lo (r.bot + 1) with
    | false=>
     rw [hL] at hlo
     exact (rfind_bad2 mb r hb1 hb2 M.n w c3 hg hright hlo).mono fun e w' he=>fin he
    | true=>
     rw [hL] at hlo hbad
     have hH:M.leads r.form r.hi (r.bot + 1)=false:=by simpa using hbad
     rw [hH] at hhi
     exact (rfind_bad3 mb r hb1 hb2 M.n w c3 hg hright hlo hhi).mono fun e w' he=>fin he
  | false=>
   have hb:=hbad
   unfold St.bad at hb
   simp only [Bool.or_eq_false_iff,Bool.not_eq_false'] at hb
   rw [hb.1.1] at hright
   rw [hb.1.2] at hlo
   rw [hb.2] at hhi
   by_cases hfull:M.room ≤ M.len
   ·obtain ⟨la,lcap,rfl,-⟩:=owns_slice h2
    refine (rfind_full mb r hb1 hb2 M.n M.room la L.length lcap w c3 c0 c4 (by omega) hg hright hlo hhi).mono fun e w' he=>?_
    exact hsame (by unfold St.findSt;rw [hi,hbad];simp [hfull]) (by unfold refL;rw [hi,hbad];simp [hfull]) (by unfold St.findId;rw [hi,hbad];simp [hfull]) (by unfold St.findErr;rw [hi,hbad];simp [hfull]) he
   ·have hroom:M.len < M.room:=by omega
    have e1:M.findSt r=M.add r:=by unfold St.findSt;rw [hi,hbad];simp [hfull,St.add]
    have e2:M.findId r=putId M.gone M.cs.length:=by unfold St.findId;rw [hi,hbad];simp [hfull]
    have e3:M.findErr r=0:=by unfold St.findErr;rw [hi,hbad];simp [hfull]
    have e4:refL M L r=L ++ [(putId M.gone M.cs.length,r)]:=by unfold refL;rw [hi,hbad];simp [hfull]
    obtain ⟨b1,b2,b3,b4,b5⟩:=hadd hroom
    have hwf':=hwf.add hi hbad hroom
    have hr1:=hwf.room1
    have hne:lv.ownBlock ≠ some mb:=by
     intro e
     obtain ⟨cur,hcur⟩:=owns_type h2 e
     exact ne_of_type hcur h1 (by decide) rfl
    rw [e1,e2,e3,e4]
    cases hgo:M.gone.getLast? with
    | none=>
     have hg0:M.gone=[]:=by simpa using hgo
     rw [hg0] at h3
     obtain ⟨ga,gcap,rfl,-⟩:=owns_slice h3
     have ep:putId M.gone M.cs.length=(M.cs.length:Int) + 2:=by unfold putId;rw [hgo]
     have ec:(M.add r).cs=M.cs ++ [some r]:=by unfold St.add putCs;rw [hgo]
     have eg:(M.add r).gone=[]:=by unfold St.add;rw [hg0];rfl
     refine (rfind_more mb r hb1 hb2 M.n M.room lv L.length M.cs.length (L.flatMap nodeVals) ga gcap w c3 c0 c1 c2 c4 (by omega) hr1 a7 (hfz 0) (hfz 2) h2 hne hg hright hlo hhi).mono ?_
     rintro e w' ⟨rfl,g,cap,w1,W,hu,hW,hgr,hfr,hown,rfl⟩
     have hW:=hW _ h1
     simp at hW
     have hmW:mb < W.heap.size:=Nat.lt_of_lt_of_le hmb hu.size
     have h1W:=(hgr.block mb hmW (fun e=>hne e.symm)).trans hW
     have hgne:mb ≠ g:=by
      intro e
      obtain ⟨cur,hcur⟩:=owns_type hown (k:=g) rfl
      exact ne_of_type h1W hcur (by decide) e
     have hupd:Upd F w w1:=(hu.mono (fun k _ e=>by simpa [e] using a1)).grown hgr (fun k hk=>.inl (h4 k hk))
     rw [ep]
     refine ⟨rfl,hupd.setCell (p:=⟨mb,0,none⟩) (.inl a1) _,⟨⟨.slice (some ⟨g,0,none⟩) (L.length + 1) cap,.slice ga 0 gcap,?_,?_,?_,?_,?_⟩,?_,?_,hwf',?_,?_,?_,b4,?_⟩⟩
     ·have:=heap_setCell_same _ mb 0 _ _ (.slice (some ⟨g,0,none⟩) (L.length + 1) cap) h1W
      rw [ec,show (M.add r).n=M.n from rfl,show (M.add r).room=M.room from rfl]
      simpa using this
     ·have:=Upd.owns (F:=fun k=>k=mb) (Upd.setCell (F:=fun k=>k=mb) (p:=⟨mb,0,none⟩) (Upd.refl _ w1) (Or.inl rfl) (.slice (some ⟨g,0,none⟩) (L.length + 1) cap)) (fun k hk e=>hgne (by simp [Value.ownBlock] at hk;omega)) hown
      simpa [List.flatMap_append] using this
     ·rw [eg]
      obtain ⟨q1,q2⟩:=h3
      refine ⟨by simp,?_⟩
      rcases q2 with ⟨q2,_⟩ | ⟨fg,fcap,fcur,q2,q3,q4,q5⟩
      ·exact .inl ⟨by simpa using q2,rfl⟩
      ·simp at q2
       obtain ⟨rfl,rfl⟩:=q2
       have hfa:fg ≠ mb:=ne_of_type q4 h1 (by decide)
       refine .inr ⟨fg,gcap,fcur,rfl,q3,?_,by simpa using q5⟩
       rw [heap_setCell_other _ _ _ _ hfa]
       have hfc:some fg ≠ lv.ownBlock:=by
        intro e
        obtain ⟨cur,hcur⟩:=owns_type h2 e.symm
        exact ne_of_type q4 hcur (by decide) rfl
       rw [hgr.block fg (Nat.lt_of_lt_of_le (lt_of_heap q4) hu.size) hfc,hu.block fg (lt_of_heap q4) hfa]
       exact q4
     ·intro k hk
      simp [Value.ownBlock] at hk
      subst hk
      rcases hfr with hfr | hfr
      ·exact .inl (h4 _ hfr)
      ·refine .inr ⟨Nat.le_trans hu.size hfr,?_⟩
       obtain ⟨cur,hcur⟩:=owns_type hown (k:=g) rfl
       have:=lt_of_heap hcur
       rw [World.size_setCell]
       exact this
     ·intro k hk
      exact .inl (h5 k hk)
     ·exact .inl a1
     ·intro k hk
      rcases hk with hk | hk
      ·have:=a2 k hk
       have:=hupd.size
       rw [World.size_setCell]
       omega
      ·exact hk.2
     ·rw [← ep];exact b1
     ·rw [← ep];exact b2
     ·rw [← ep];exact b3
     ·rw [← ep];exact b5
    | some id=>
     obtain ⟨gs,hgs⟩:∃ gs,M.gone=gs ++ [id]:=List.getLast?_eq_some_iff.1 hgo
     have hid:=hwf.gone id (by rw [hgs];simp)
     have ep:putId M.gone M.cs.length=id:=by unfold putId;rw [hgo]
     have ec:(M.add r).cs.length=M.cs.length:=by unfold St.add putCs;rw [hgo];simp
     have eg:(M.add r).gone=gs:=by unfold St.add;rw [hgs];simp
     rw [hgs] at h3
     have hlen:(gs ++ [id]).length=gs.length + 1:=by simp
     rw [hlen] at h3
     obtain ⟨fa,gcap,rfl,hfs⟩:=owns_slice h3
     obtain ⟨gb,rfl⟩:=hfs (by simp)
     obtain ⟨fcur,hfcur⟩:=owns_type h3 (k:=gb) rfl
     have hgm:gb ≠ mb:=ne_of_type hfcur h1 (by decide)
     have hidc:w.cell? ⟨gb,gs.length,none⟩=some (.int .u32 id):=by
      rw [h3.cellAt gs.length (by omega)]
      simp
     have hgcap:gs.length + 1 ≤ gcap:=by
      rcases h3.2 with ⟨q,_⟩ | ⟨_,_,_,q,_,_,q5,_⟩
      ·simp at q
      ·simp at q
       omega
     have hgl:gs.length < 1048576:=by
      have h6:M.len=(M.cs.length:Int) - (gs.length + 1:Nat):=by unfold St.len;rw [hgs];simp
      have:=hwf.len0
      omega
     refine (rfind_free mb r hb1 hb2 M.n M.room lv L.length gs.length gb id (L.flatMap nodeVals) gcap (M.cs.length:Int) w c3 c0 c1 c2 c4 (by omega) hr1 ⟨by omega,by omega⟩ hgl hgcap hidc hgm (hfz 0) (hfz 1) h2 hne hg hright hlo hhi).mono ?_
     rintro e w' ⟨rfl,g,cap,w1,W,hu,hW,hgr,hfr,hown,rfl⟩
     have hW:=hW _ h1
     simp at hW
     have hmW:mb < W.heap.size:=Nat.lt_of_lt_of_le hmb hu.size
     have h1W:=(hgr.block mb hmW (fun e=>hne e.symm)).trans hW
     have hgne:mb ≠ g:=by
      intro e
      obtain ⟨cur,hcur⟩:=owns_type hown (k:=g) rfl
      exact ne_of_type h1W hcur (by decide) e
     have hupd:Upd F w w1:=(hu.mono (fun k _ e=>by simpa [e] using a1)).grown hgr (fun k hk=>.inl (h4 k hk))
     rw [ep]
     refine ⟨rfl,hupd.setCell (p:=⟨mb,0,none⟩) (.inl a1) _,⟨⟨.slice (some ⟨g,0,none⟩) (L.length + 1) cap,.slice (some ⟨gb,0,none⟩) gs.length gcap,?_,?_,?_,?_,?_⟩,?_,?_,hwf',?_,?_,?_,b4,?_⟩⟩
     ·have:=heap_setCell_same _ mb 0 _ _ (.slice (some ⟨g,0,none⟩) (L.length + 1) cap) h1W
      rw [ec,show (M.add r).n=M.n from rfl,show (M.add r).room=M.room from rfl]
      simpa using this
     ·have:=Upd.owns (F:=fun k=>k=mb) (Upd.setCell (F:=fun k=>k=mb) (p:=⟨mb,0,none⟩) (Upd.refl _ w1) (Or.inl rfl) (.slice (some ⟨g,0,none⟩) (L.length + 1) cap)) (fun k hk e=>hgne (by simp [Value.ownBlock] at hk;omega)) hown
      simpa [List.flatMap_append] using this
     ·rw [eg]
      refine ⟨by simp,?_⟩
      rcases h3.2 with ⟨q2,_⟩ | ⟨fg,fcap',fcur',q2,q3,q4,q5,q6,q7,q8⟩
      ·simp at q2
      ·simp at q2
       obtain ⟨rfl,rfl⟩:=q2
       have hfc:some gb ≠ lv.ownBlock:=by
        intro e
        obtain ⟨cur,hcur⟩:=owns_type h2 e.symm
        exact ne_of_type q4 hcur (by decide) rfl
       refine .inr ⟨gb,gcap,fcur',by simp,q3,?_,by first | omega | (simp;omega),q6,q7,?_⟩
       ·rw [heap_setCell_other _ _ _ _ hgm,hgr.block gb (Nat.lt_of_lt_of_le (lt_of_heap q4) hu.size) hfc,hu.block gb (lt_of_heap q4) hgm]
        exact q4
       ·have:=congrArg (List.take gs.length) q8
        rw [List.take_take] at this
        simpa [Nat.min_eq_left] using this
     ·intro k hk
      simp [Value.ownBlock] at hk
      subst hk
      rcases hfr with hfr | hfr
      ·exact .inl (h4 _ hfr)
      ·refine .inr ⟨Nat.le_trans hu.size hfr,?_⟩
       obtain ⟨cur,hcur⟩:=owns_type hown (k:=g) rfl
       have:=lt_of_heap hcur
       rw [World.size_setCell]
       exact this
     ·intro k hk
      exact .inl (h5 k (by simpa [Value.ownBlock] using hk))
     ·exact .inl a1
     ·intro k hk
      rcases hk with hk | hk
      ·have:=a2 k hk
       have:=hupd.size
       rw [World.size_setCell]
       omega
      ·exact hk.2
     ·rw [← ep];exact b1
     ·rw [← ep];exact b2
     ·rw [← ep];exact b3
     ·rw [← ep];exact b5

end Go.Proofs.YtpgcbmbnognieaaGreat
