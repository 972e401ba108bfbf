/-
  The walk of bdd.View, case by case (printed by wip/mk_view.py).
-/
import Derived.Test.YtpgcbmbnognieaaGreatPOrderB
import Derived.BigRegion
namespace Go.Proofs.YtpgcbmbnognieaaGreat
set_option maxRecDepth 1000000
set_option maxHeartbeats 8000000
set_option linter.unusedSimpArgs false
set_option linter.unusedVariables false
open Go.RowKit

theorem bview_neg (sb:Nat)(l n:Int)(v:Edge)(w:World)(hn:n≤16)(hsb:sb<w.heap.size)
  (hv:∀ W,Keeps w W→Calls Tryz.prog 67 #[.pointer (some ⟨sb,0,none⟩)] W fun e w'=>e=.returned (.int .i64 n)∧W=w')
  (h0:l<0)
  : Calls Tryz.prog 294 #[.pointer (some ⟨sb,0,none⟩),.agg #[.int .u8 v.tag,.int .u32 v.to],.int .i64 l] w fun e w'=>e=.returned (.tuple #[.agg #[.int .u8 0,.int .u32 0],.agg #[.int .u8 0,.int .u32 0],.int .u8 3])∧Keeps w w':=by
 have HV:=Lib.hid hv
 clear hv
 go_enter Tryz.func294,Tryz.ntmps294
 go_wp2_with (first|(go_at_call 67;refine(HV.out _ (by(exact kp))).mono ?_;rintro e w' ⟨rfl,rfl⟩)|fail)
 go_region
 all_goals go_wp2
 all_goals refine bodyPost_ret (v:=.tuple #[.agg #[.int .u8 0,.int .u32 0],.agg #[.int .u8 0,.int .u32 0],.int .u8 3]) (by simp [results,Tryz.results294,go_sem]) rfl ⟨rfl,by(exact kp)⟩

theorem bview_big (sb:Nat)(l n:Int)(v:Edge)(w:World)(hn:n≤16)(hsb:sb<w.heap.size)
  (hv:∀ W,Keeps w W→Calls Tryz.prog 67 #[.pointer (some ⟨sb,0,none⟩)] W fun e w'=>e=.returned (.int .i64 n)∧W=w')
  (h0:0≤l) (h1:n≤l)
  : Calls Tryz.prog 294 #[.pointer (some ⟨sb,0,none⟩),.agg #[.int .u8 v.tag,.int .u32 v.to],.int .i64 l] w fun e w'=>e=.returned (.tuple #[.agg #[.int .u8 0,.int .u32 0],.agg #[.int .u8 0,.int .u32 0],.int .u8 3])∧Keeps w w':=by
 have HV:=Lib.hid hv
 clear hv
 go_enter Tryz.func294,Tryz.ntmps294
 go_wp2_with (first|(go_at_call 67;refine(HV.out _ (by(exact kp))).mono ?_;rintro e w' ⟨rfl,rfl⟩)|fail)
 go_region
 all_goals go_wp2
 all_goals refine bodyPost_ret (v:=.tuple #[.agg #[.int .u8 0,.int .u32 0],.agg #[.int .u8 0,.int .u32 0],.int .u8 3]) (by simp [results,Tryz.results294,go_sem]) rfl ⟨rfl,by(exact kp)⟩

theorem bview_no (sb:Nat)(l n:Int)(v:Edge)(w:World)(hn:n≤16)(hsb:sb<w.heap.size)
  (hv:∀ W,Keeps w W→Calls Tryz.prog 67 #[.pointer (some ⟨sb,0,none⟩)] W fun e w'=>e=.returned (.int .i64 n)∧W=w')
  (h0:0≤l) (h1:l<n)
  (hl:∀ W,Keeps w W→Calls Tryz.prog 130 #[.pointer (some ⟨sb,0,none⟩),.int .u8 1,.agg #[.int .u8 v.tag,.int .u32 v.to],.int .i64 l] W fun e w'=>e=.returned (.bool false)∧Keeps W w')
  : Calls Tryz.prog 294 #[.pointer (some ⟨sb,0,none⟩),.agg #[.int .u8 v.tag,.int .u32 v.to],.int .i64 l] w fun e w'=>e=.returned (.tuple #[.agg #[.int .u8 0,.int .u32 0],.agg #[.int .u8 0,.int .u32 0],.int .u8 1])∧Keeps w w':=by
 have HV:=Lib.hid hv
 clear hv
 have HL:=Lib.hid hl
 clear hl
 go_enter Tryz.func294,Tryz.ntmps294
 go_wp2_with (first|(go_at_call 67;refine(HV.out _ (by(exact kp))).mono ?_;rintro e w' ⟨rfl,rfl⟩)|fail)
 (go_at_call 130;refine(HL.out _ (by(exact kp))).mono ?_;rintro e w1 ⟨rfl,hb⟩;have hsz:=hb.size;simp only [World.size_alloc] at hsz;have hz0:w.heap.size<w1.heap.size:=(by omega);have hz1:w.heap.size+1<w1.heap.size:=(by omega);have hz2:w.heap.size+2<w1.heap.size:=(by omega);have y0:=hb.cell (a:=⟨w.heap.size,0,none⟩) (v:=.int .u8 v.tag) (by simp [go_sem]);have y1:=hb.cell (a:=⟨w.heap.size,1,none⟩) (v:=.int .u32 v.to) (by simp [go_sem]);have x0:=hb.cell (a:=⟨w.heap.size+1,0,none⟩) (v:=.int .u8 0) (by simp [go_sem]);have x1:=hb.cell (a:=⟨w.heap.size+1,1,none⟩) (v:=.int .u32 0) (by simp [go_sem]);have z0:=hb.cell (a:=⟨w.heap.size+2,0,none⟩) (v:=.int .u8 0) (by simp [go_sem]);have z1:=hb.cell (a:=⟨w.heap.size+2,1,none⟩) (v:=.int .u32 0) (by simp [go_sem]);have xf:=fun o:Nat=>hb.frz (a:=⟨w.heap.size+1,o,none⟩) (by simp [go_sem]) (by simp [go_sem]);have zf:=fun o:Nat=>hb.frz (a:=⟨w.heap.size+2,o,none⟩) (by simp [go_sem]) (by simp [go_sem]);have hk:Keeps w w1:=(by(exact kp)))
 go_wp2_with fail
 go_region
 all_goals go_wp2
 all_goals refine bodyPost_ret (v:=.tuple #[.agg #[.int .u8 0,.int .u32 0],.agg #[.int .u8 0,.int .u32 0],.int .u8 1]) (by simp [results,Tryz.results294,go_sem,hz1,hz2,x0,x1,z0,z1]) rfl ⟨rfl,by(exact kp)⟩

theorem bview_none (sb:Nat)(l n:Int)(v:Edge)(x:Rec)(w:World)(hn:n≤16)(hsb:sb<w.heap.size)
  (hv:∀ W,Keeps w W→Calls Tryz.prog 67 #[.pointer (some ⟨sb,0,none⟩)] W fun e w'=>e=.returned (.int .i64 n)∧W=w')
  (h0:0≤l) (h1:l<n)
  (hl:∀ W,Keeps w W→Calls Tryz.prog 130 #[.pointer (some ⟨sb,0,none⟩),.int .u8 1,.agg #[.int .u8 v.tag,.int .u32 v.to],.int .i64 l] W fun e w'=>e=.returned (.bool true)∧Keeps W w')
  (hg:∀ W,Keeps w W→Calls Tryz.prog 80 #[.pointer (some ⟨sb,0,none⟩),.int .u32 v.to] W fun e w'=>e=.returned (.tuple #[.agg #[.int .u8 x.form,.int .u8 x.top,.int .u8 x.bot,.int .u8 x.lo.tag,.int .u32 x.lo.to,.int .u8 x.hi.tag,.int .u32 x.hi.to],.bool false])∧Keeps W w')
  : Calls Tryz.prog 294 #[.pointer (some ⟨sb,0,none⟩),.agg #[.int .u8 v.tag,.int .u32 v.to],.int .i64 l] w fun e w'=>e=.returned (.tuple #[.agg #[.int .u8 v.tag,.int .u32 v.to],.agg #[.int .u8 v.tag,.int .u32 v.to],.int .u8 0])∧Keeps w w':=by
 have HV:=Lib.hid hv
 clear hv
 have HL:=Lib.hid hl
 clear hl
 have HG:=Lib.hid hg
 clear hg
 go_enter Tryz.func294,Tryz.ntmps294
 go_wp2_with (first|(go_at_call 67;refine(HV.out _ (by(exact kp))).mono ?_;rintro e w' ⟨rfl,rfl⟩)|fail)
 (go_at_call 130;refine(HL.out _ (by(exact kp))).mono ?_;rintro e w1 ⟨rfl,hb⟩;have hsz:=hb.size;simp only [World.size_alloc] at hsz;have hz0:w.heap.size<w1.heap.size:=(by omega);have hz1:w.heap.size+1<w1.heap.size:=(by omega);have hz2:w.heap.size+2<w1.heap.size:=(by omega);have y0:=hb.cell (a:=⟨w.heap.size,0,none⟩) (v:=.int .u8 v.tag) (by simp [go_sem]);have y1:=hb.cell (a:=⟨w.heap.size,1,none⟩) (v:=.int .u32 v.to) (by simp [go_sem]);have x0:=hb.cell (a:=⟨w.heap.size+1,0,none⟩) (v:=.int .u8 0) (by simp [go_sem]);have x1:=hb.cell (a:=⟨w.heap.size+1,1,none⟩) (v:=.int .u32 0) (by simp [go_sem]);have z0:=hb.cell (a:=⟨w.heap.size+2,0,none⟩) (v:=.int .u8 0) (by simp [go_sem]);have z1:=hb.cell (a:=⟨w.heap.size+2,1,none⟩) (v:=.int .u32 0) (by simp [go_sem]);have xf:=fun o:Nat=>hb.frz (a:=⟨w.heap.size+1,o,none⟩) (by simp [go_sem]) (by simp [go_sem]);have zf:=fun o:Nat=>hb.frz (a:=⟨w.heap.size+2,o,none⟩) (by simp [go_sem]) (by simp [go_sem]);have hk:Keeps w w1:=(by(exact kp)))
 go_wp2_with fail
 (go_at_call 80;refine(HG.out _ (by(exact kp))).mono ?_;rintro e w2 ⟨rfl,hb2⟩;have hs2:=hb2.size;have xf:=fun o:Nat=>hb2.frz (a:=⟨w.heap.size+1,o,none⟩) (by dsimp only;omega) (xf o);have zf:=fun o:Nat=>hb2.frz (a:=⟨w.heap.size+2,o,none⟩) (by dsimp only;omega) (zf o);have y0:=hb2.cell y0;have y1:=hb2.cell y1;have x0:=hb2.cell x0;have x1:=hb2.cell x1;have z0:=hb2.cell z0;have z1:=hb2.cell z1;have hz0:w.heap.size<w2.heap.size:=(by omega);have hz1:w.heap.size+1<w2.heap.size:=(by omega);have hz2:w.heap.size+2<w2.heap.size:=(by omega);have hk2:Keeps w w2:=hk.trans hb2)
 go_wp2_with fail
 go_region
 all_goals go_wp2
 all_goals refine bodyPost_ret (v:=.tuple #[.agg #[.int .u8 v.tag,.int .u32 v.to],.agg #[.int .u8 v.tag,.int .u32 v.to],.int .u8 0]) (by simp [results,Tryz.results294,go_sem,hz1,hz2,x0,x1,z0,z1]) rfl ⟨rfl,by(exact kp)⟩

theorem bview_up (sb:Nat)(l n:Int)(v:Edge)(x:Rec)(w:World)(hn:n≤16)(hsb:sb<w.heap.size)
  (hv:∀ W,Keeps w W→Calls Tryz.prog 67 #[.pointer (some ⟨sb,0,none⟩)] W fun e w'=>e=.returned (.int .i64 n)∧W=w')
  (h0:0≤l) (h1:l<n)
  (hl:∀ W,Keeps w W→Calls Tryz.prog 130 #[.pointer (some ⟨sb,0,none⟩),.int .u8 1,.agg #[.int .u8 v.tag,.int .u32 v.to],.int .i64 l] W fun e w'=>e=.returned (.bool true)∧Keeps W w')
  (hx:l<x.top) (hx1:0≤x.top) (hx2:x.top≤255) (hx3:0≤x.bot) (hx4:x.bot≤255)
  (hg:∀ W,Keeps w W→Calls Tryz.prog 80 #[.pointer (some ⟨sb,0,none⟩),.int .u32 v.to] W fun e w'=>e=.returned (.tuple #[.agg #[.int .u8 x.form,.int .u8 x.top,.int .u8 x.bot,.int .u8 x.lo.tag,.int .u32 x.lo.to,.int .u8 x.hi.tag,.int .u32 x.hi.to],.bool true])∧Keeps W w')
  : Calls Tryz.prog 294 #[.pointer (some ⟨sb,0,none⟩),.agg #[.int .u8 v.tag,.int .u32 v.to],.int .i64 l] w fun e w'=>e=.returned (.tuple #[.agg #[.int .u8 v.tag,.int .u32 v.to],.agg #[.int .u8 v.tag,.int .u32 v.to],.int .u8 0])∧Keeps w w':=by
 have HV:=Lib.hid hv
 clear hv
 have HL:=Lib.hid hl
 clear hl
 have HG:=Lib.hid hg
 clear hg
 go_enter Tryz.func294,Tryz.ntmps294
 go_wp2_with (first|(go_at_call 67;refine(HV.out _ (by(exact kp))).mono ?_;rintro e w' ⟨rfl,rfl⟩)|fail)
 (go_at_call 130;refine(HL.out _ (by(exact kp))).mono ?_;rintro e w1 ⟨rfl,hb⟩;have hsz:=hb.size;simp only [World.size_alloc] at hsz;have hz0:w.heap.size<w1.heap.size:=(by omega);have hz1:w.heap.size+1<w1.heap.size:=(by omega);have hz2:w.heap.size+2<w1.heap.size:=(by omega);have y0:=hb.cell (a:=⟨w.heap.size,0,none⟩) (v:=.int .u8 v.tag) (by simp [go_sem]);have y1:=hb.cell (a:=⟨w.heap.size,1,none⟩) (v:=.int .u32 v.to) (by simp [go_sem]);have x0:=hb.cell (a:=⟨w.heap.size+1,0,none⟩) (v:=.int .u8 0) (by simp [go_sem]);have x1:=hb.cell (a:=⟨w.heap.size+1,1,none⟩) (v:=.int .u32 0) (by simp [go_sem]);have z0:=hb.cell (a:=⟨w.heap.size+2,0,none⟩) (v:=.int .u8 0) (by simp [go_sem]);have z1:=hb.cell (a:=⟨w.heap.size+2,1,none⟩) (v:=.int .u32 0) (by simp [go_sem]);have xf:=fun o:Nat=>hb.frz (a:=⟨w.heap.size+1,o,none⟩) (by simp [go_sem]) (by simp [go_sem]);have zf:=fun o:Nat=>hb.frz (a:=⟨w.heap.size+2,o,none⟩) (by simp [go_sem]) (by simp [go_sem]);have hk:Keeps w w1:=(by(exact kp)))
 go_wp2_with fail
 (go_at_call 80;refine(HG.out _ (by(exact kp))).mono ?_;rintro e w2 ⟨rfl,hb2⟩;have hs2:=hb2.size;have xf:=fun o:Nat=>hb2.frz (a:=⟨w.heap.size+1,o,none⟩) (by dsimp only;omega) (xf o);have zf:=fun o:Nat=>hb2.frz (a:=⟨w.heap.size+2,o,none⟩) (by dsimp only;omega) (zf o);have y0:=hb2.cell y0;have y1:=hb2.cell y1;have x0:=hb2.cell x0;have x1:=hb2.cell x1;have z0:=hb2.cell z0;have z1:=hb2.cell z1;have hz0:w.heap.size<w2.heap.size:=(by omega);have hz1:w.heap.size+1<w2.heap.size:=(by omega);have hz2:w.heap.size+2<w2.heap.size:=(by omega);have hk2:Keeps w w2:=hk.trans hb2)
 go_wp2_with fail
 go_region
 all_goals go_wp2
 all_goals refine bodyPost_ret (v:=.tuple #[.agg #[.int .u8 v.tag,.int .u32 v.to],.agg #[.int .u8 v.tag,.int .u32 v.to],.int .u8 0]) (by simp [results,Tryz.results294,go_sem,hz1,hz2,x0,x1,z0,z1]) rfl ⟨rfl,by(exact kp)⟩

theorem bview_at (sb:Nat)(l n:Int)(v:Edge)(x:Rec)(w:World)(hn:n≤16)(hsb:sb<w.heap.size)
  (hv:∀ W,Keeps w W→Calls Tryz.prog 67 #[.pointer (some ⟨sb,0,none⟩)] W fun e w'=>e=.returned (.int .i64 n)∧W=w')
  (h0:0≤l) (h1:l<n)
  (hl:∀ W,Keeps w W→Calls Tryz.prog 130 #[.pointer (some ⟨sb,0,none⟩),.int .u8 1,.agg #[.int .u8 v.tag,.int .u32 v.to],.int .i64 l] W fun e w'=>e=.returned (.bool true)∧Keeps W w')
   (hx1:0≤x.top) (hx2:x.top≤255) (hx3:0≤x.bot) (hx4:x.bot≤255)
  (hg:∀ W,Keeps w W→Calls Tryz.prog 80 #[.pointer (some ⟨sb,0,none⟩),.int .u32 v.to] W fun e w'=>e=.returned (.tuple #[.agg #[.int .u8 x.form,.int .u8 l,.int .u8 x.bot,.int .u8 x.lo.tag,.int .u32 x.lo.to,.int .u8 x.hi.tag,.int .u32 x.hi.to],.bool true])∧Keeps W w')
  : Calls Tryz.prog 294 #[.pointer (some ⟨sb,0,none⟩),.agg #[.int .u8 v.tag,.int .u32 v.to],.int .i64 l] w fun e w'=>e=.returned (.tuple #[.agg #[.int .u8 x.lo.tag,.int .u32 x.lo.to],.agg #[.int .u8 x.hi.tag,.int .u32 x.hi.to],.int .u8 0])∧Keeps w w':=by
 have HV:=Lib.hid hv
 clear hv
 have HL:=Lib.hid hl
 clear hl
 have HG:=Lib.hid hg
 clear hg
 go_enter Tryz.func294,Tryz.ntmps294
 go_wp2_with (first|(go_at_call 67;refine(HV.out _ (by(exact kp))).mono ?_;rintro e w' ⟨rfl,rfl⟩)|fail)
 (go_at_call 130;refine(HL.out _ (by(exact kp))).mono ?_;rintro e w1 ⟨rfl,hb⟩;have hsz:=hb.size;simp only [World.size_alloc] at hsz;have hz0:w.heap.size<w1.heap.size:=(by omega);have hz1:w.heap.size+1<w1.heap.size:=(by omega);have hz2:w.heap.size+2<w1.heap.size:=(by omega);have y0:=hb.cell (a:=⟨w.heap.size,0,none⟩) (v:=.int .u8 v.tag) (by simp [go_sem]);have y1:=hb.cell (a:=⟨w.heap.size,1,none⟩) (v:=.int .u32 v.to) (by simp [go_sem]);have x0:=hb.cell (a:=⟨w.heap.size+1,0,none⟩) (v:=.int .u8 0) (by simp [go_sem]);have x1:=hb.cell (a:=⟨w.heap.size+1,1,none⟩) (v:=.int .u32 0) (by simp [go_sem]);have z0:=hb.cell (a:=⟨w.heap.size+2,0,none⟩) (v:=.int .u8 0) (by simp [go_sem]);have z1:=hb.cell (a:=⟨w.heap.size+2,1,none⟩) (v:=.int .u32 0) (by simp [go_sem]);have xf:=fun o:Nat=>hb.frz (a:=⟨w.heap.size+1,o,none⟩) (by simp [go_sem]) (by simp [go_sem]);have zf:=fun o:Nat=>hb.frz (a:=⟨w.heap.size+2,o,none⟩) (by simp [go_sem]) (by simp [go_sem]);have hk:Keeps w w1:=(by(exact kp)))
 go_wp2_with fail
 (go_at_call 80;refine(HG.out _ (by(exact kp))).mono ?_;rintro e w2 ⟨rfl,hb2⟩;have hs2:=hb2.size;have xf:=fun o:Nat=>hb2.frz (a:=⟨w.heap.size+1,o,none⟩) (by dsimp only;omega) (xf o);have zf:=fun o:Nat=>hb2.frz (a:=⟨w.heap.size+2,o,none⟩) (by dsimp only;omega) (zf o);have y0:=hb2.cell y0;have y1:=hb2.cell y1;have x0:=hb2.cell x0;have x1:=hb2.cell x1;have z0:=hb2.cell z0;have z1:=hb2.cell z1;have hz0:w.heap.size<w2.heap.size:=(by omega);have hz1:w.heap.size+1<w2.heap.size:=(by omega);have hz2:w.heap.size+2<w2.heap.size:=(by omega);have hk2:Keeps w w2:=hk.trans hb2)
 go_wp2_with fail
 go_region
 all_goals go_wp2
 all_goals refine bodyPost_ret (v:=.tuple #[.agg #[.int .u8 x.lo.tag,.int .u32 x.lo.to],.agg #[.int .u8 x.hi.tag,.int .u32 x.hi.to],.int .u8 0]) (by simp [results,Tryz.results294,go_sem,hz1,hz2,x0,x1,z0,z1]) rfl ⟨rfl,by(exact kp)⟩

theorem zview_neg (sb:Nat)(l n:Int)(v:Edge)(w:World)(hn:n≤16)(hsb:sb<w.heap.size)
  (hv:∀ W,Keeps w W→Calls Tryz.prog 67 #[.pointer (some ⟨sb,0,none⟩)] W fun e w'=>e=.returned (.int .i64 n)∧W=w')
  (h0:l<0)
  : Calls Tryz.prog 295 #[.pointer (some ⟨sb,0,none⟩),.agg #[.int .u8 v.tag,.int .u32 v.to],.int .i64 l] w fun e w'=>e=.returned (.tuple #[.agg #[.int .u8 0,.int .u32 0],.agg #[.int .u8 0,.int .u32 0],.int .u8 3])∧Keeps w w':=by
 have HV:=Lib.hid hv
 clear hv
 go_enter Tryz.func295,Tryz.ntmps295
 go_wp2_with (first|(go_at_call 67;refine(HV.out _ (by(exact kp))).mono ?_;rintro e w' ⟨rfl,rfl⟩)|fail)
 go_region
 all_goals go_wp2
 all_goals refine bodyPost_ret (v:=.tuple #[.agg #[.int .u8 0,.int .u32 0],.agg #[.int .u8 0,.int .u32 0],.int .u8 3]) (by simp [results,Tryz.results295,go_sem]) rfl ⟨rfl,by(exact kp)⟩

theorem zview_big (sb:Nat)(l n:Int)(v:Edge)(w:World)(hn:n≤16)(hsb:sb<w.heap.size)
  (hv:∀ W,Keeps w W→Calls Tryz.prog 67 #[.pointer (some ⟨sb,0,none⟩)] W fun e w'=>e=.returned (.int .i64 n)∧W=w')
  (h0:0≤l) (h1:n≤l)
  : Calls Tryz.prog 295 #[.pointer (some ⟨sb,0,none⟩),.agg #[.int .u8 v.tag,.int .u32 v.to],.int .i64 l] w fun e w'=>e=.returned (.tuple #[.agg #[.int .u8 0,.int .u32 0],.agg #[.int .u8 0,.int .u32 0],.int .u8 3])∧Keeps w w':=by
 have HV:=Lib.hid hv
 clear hv
 go_enter Tryz.func295,Tryz.ntmps295
 go_wp2_with (first|(go_at_call 67;refine(HV.out _ (by(exact kp))).mono ?_;rintro e w' ⟨rfl,rfl⟩)|fail)
 go_region
 all_goals go_wp2
 all_goals refine bodyPost_ret (v:=.tuple #[.agg #[.int .u8 0,.int .u32 0],.agg #[.int .u8 0,.int .u32 0],.int .u8 3]) (by simp [results,Tryz.results295,go_sem]) rfl ⟨rfl,by(exact kp)⟩

theorem zview_no (sb:Nat)(l n:Int)(v:Edge)(w:World)(hn:n≤16)(hsb:sb<w.heap.size)
  (hv:∀ W,Keeps w W→Calls Tryz.prog 67 #[.pointer (some ⟨sb,0,none⟩)] W fun e w'=>e=.returned (.int .i64 n)∧W=w')
  (h0:0≤l) (h1:l<n)
  (hl:∀ W,Keeps w W→Calls Tryz.prog 130 #[.pointer (some ⟨sb,0,none⟩),.int .u8 2,.agg #[.int .u8 v.tag,.int .u32 v.to],.int .i64 l] W fun e w'=>e=.returned (.bool false)∧Keeps W w')
  : Calls Tryz.prog 295 #[.pointer (some ⟨sb,0,none⟩),.agg #[.int .u8 v.tag,.int .u32 v.to],.int .i64 l] w fun e w'=>e=.returned (.tuple #[.agg #[.int .u8 0,.int .u32 0],.agg #[.int .u8 0,.int .u32 0],.int .u8 1])∧Keeps w w':=by
 have HV:=Lib.hid hv
 clear hv
 have HL:=Lib.hid hl
 clear hl
 go_enter Tryz.func295,Tryz.ntmps295
 go_wp2_with (first|(go_at_call 67;refine(HV.out _ (by(exact kp))).mono ?_;rintro e w' ⟨rfl,rfl⟩)|fail)
 (go_at_call 130;refine(HL.out _ (by(exact kp))).mono ?_;rintro e w1 ⟨rfl,hb⟩;have hsz:=hb.size;simp only [World.size_alloc] at hsz;have hz0:w.heap.size<w1.heap.size:=(by omega);have hz1:w.heap.size+1<w1.heap.size:=(by omega);have hz2:w.heap.size+2<w1.heap.size:=(by omega);have y0:=hb.cell (a:=⟨w.heap.size,0,none⟩) (v:=.int .u8 v.tag) (by simp [go_sem]);have y1:=hb.cell (a:=⟨w.heap.size,1,none⟩) (v:=.int .u32 v.to) (by simp [go_sem]);have x0:=hb.cell (a:=⟨w.heap.size+1,0,none⟩) (v:=.int .u8 0) (by simp [go_sem]);have x1:=hb.cell (a:=⟨w.heap.size+1,1,none⟩) (v:=.int .u32 0) (by simp [go_sem]);have z0:=hb.cell (a:=⟨w.heap.size+2,0,none⟩) (v:=.int .u8 0) (by simp [go_sem]);have z1:=hb.cell (a:=⟨w.heap.size+2,1,none⟩) (v:=.int .u32 0) (by simp [go_sem]);have xf:=fun o:Nat=>hb.frz (a:=⟨w.heap.size+1,o,none⟩) (by simp [go_sem]) (by simp [go_sem]);have zf:=fun o:Nat=>hb.frz (a:=⟨w.heap.size+2,o,none⟩) (by simp [go_sem]) (by simp [go_sem]);have hk:Keeps w w1:=(by(exact kp)))
 go_wp2_with fail
 go_region
 all_goals go_wp2
 all_goals refine bodyPost_ret (v:=.tuple #[.agg #[.int .u8 0,.int .u32 0],.agg #[.int .u8 0,.int .u32 0],.int .u8 1]) (by simp [results,Tryz.results295,go_sem,hz1,hz2,x0,x1,z0,z1]) rfl ⟨rfl,by(exact kp)⟩

theorem zview_none (sb:Nat)(l n:Int)(v:Edge)(x:Rec)(w:World)(hn:n≤16)(hsb:sb<w.heap.size)
  (hv:∀ W,Keeps w W→Calls Tryz.prog 67 #[.pointer (some ⟨sb,0,none⟩)] W fun e w'=>e=.returned (.int .i64 n)∧W=w')
  (h0:0≤l) (h1:l<n)
  (hl:∀ W,Keeps w W→Calls Tryz.prog 130 #[.pointer (some ⟨sb,0,none⟩),.int .u8 2,.agg #[.int .u8 v.tag,.int .u32 v.to],.int .i64 l] W fun e w'=>e=.returned (.bool true)∧Keeps W w')
  (hg:∀ W,Keeps w W→Calls Tryz.prog 80 #[.pointer (some ⟨sb,0,none⟩),.int .u32 v.to] W fun e w'=>e=.returned (.tuple #[.agg #[.int .u8 x.form,.int .u8 x.top,.int .u8 x.bot,.int .u8 x.lo.tag,.int .u32 x.lo.to,.int .u8 x.hi.tag,.int .u32 x.hi.to],.bool false])∧Keeps W w')
  : Calls Tryz.prog 295 #[.pointer (some ⟨sb,0,none⟩),.agg #[.int .u8 v.tag,.int .u32 v.to],.int .i64 l] w fun e w'=>e=.returned (.tuple #[.agg #[.int .u8 v.tag,.int .u32 v.to],.agg #[.int .u8 0,.int .u32 0],.int .u8 0])∧Keeps w w':=by
 have HV:=Lib.hid hv
 clear hv
 have HL:=Lib.hid hl
 clear hl
 have HG:=Lib.hid hg
 clear hg
 go_enter Tryz.func295,Tryz.ntmps295
 go_wp2_with (first|(go_at_call 67;refine(HV.out _ (by(exact kp))).mono ?_;rintro e w' ⟨rfl,rfl⟩)|fail)
 (go_at_call 130;refine(HL.out _ (by(exact kp))).mono ?_;rintro e w1 ⟨rfl,hb⟩;have hsz:=hb.size;simp only [World.size_alloc] at hsz;have hz0:w.heap.size<w1.heap.size:=(by omega);have hz1:w.heap.size+1<w1.heap.size:=(by omega);have hz2:w.heap.size+2<w1.heap.size:=(by omega);have y0:=hb.cell (a:=⟨w.heap.size,0,none⟩) (v:=.int .u8 v.tag) (by simp [go_sem]);have y1:=hb.cell (a:=⟨w.heap.size,1,none⟩) (v:=.int .u32 v.to) (by simp [go_sem]);have x0:=hb.cell (a:=⟨w.heap.size+1,0,none⟩) (v:=.int .u8 0) (by simp [go_sem]);have x1:=hb.cell (a:=⟨w.heap.size+1,1,none⟩) (v:=.int .u32 0) (by simp [go_sem]);have z0:=hb.cell (a:=⟨w.heap.size+2,0,none⟩) (v:=.int .u8 0) (by simp [go_sem]);have z1:=hb.cell (a:=⟨w.heap.size+2,1,none⟩) (v:=.int .u32 0) (by simp [go_sem]);have xf:=fun o:Nat=>hb.frz (a:=⟨w.heap.size+1,o,none⟩) (by simp [go_sem]) (by simp [go_sem]);have zf:=fun o:Nat=>hb.frz (a:=⟨w.heap.size+2,o,none⟩) (by simp [go_sem]) (by simp [go_sem]);have hk:Keeps w w1:=(by(exact kp)))
 go_wp2_with fail
 (go_at_call 80;refine(HG.out _ (by(exact kp))).mono ?_;rintro e w2 ⟨rfl,hb2⟩;have hs2:=hb2.size;have xf:=fun o:Nat=>hb2.frz (a:=⟨w.heap.size+1,o,none⟩) (by dsimp only;omega) (xf o);have zf:=fun o:Nat=>hb2.frz (a:=⟨w.heap.size+2,o,none⟩) (by dsimp only;omega) (zf o);have y0:=hb2.cell y0;have y1:=hb2.cell y1;have x0:=hb2.cell x0;have x1:=hb2.cell x1;have z0:=hb2.cell z0;have z1:=hb2.cell z1;have hz0:w.heap.size<w2.heap.size:=(by omega);have hz1:w.heap.size+1<w2.heap.size:=(by omega);have hz2:w.heap.size+2<w2.heap.size:=(by omega);have hk2:Keeps w w2:=hk.trans hb2)
 go_wp2_with fail
 all_goals refine bodyPost_ret (v:=.tuple #[.agg #[.int .u8 v.tag,.int .u32 v.to],.agg #[.int .u8 0,.int .u32 0],.int .u8 0]) (by simp [results,Tryz.results295,go_sem,hz1,hz2,x0,x1,z0,z1]) rfl ⟨rfl,by(exact kp)⟩

theorem zview_up (sb:Nat)(l n:Int)(v:Edge)(x:Rec)(w:World)(hn:n≤16)(hsb:sb<w.heap.size)
  (hv:∀ W,Keeps w W→Calls Tryz.prog 67 #[.pointer (some ⟨sb,0,none⟩)] W fun e w'=>e=.returned (.int .i64 n)∧W=w')
  (h0:0≤l) (h1:l<n)
  (hl:∀ W,Keeps w W→Calls Tryz.prog 130 #[.pointer (some ⟨sb,0,none⟩),.int .u8 2,.agg #[.int .u8 v.tag,.int .u32 v.to],.int .i64 l] W fun e w'=>e=.returned (.bool true)∧Keeps W w')
  (hx:l<x.top) (hx1:0≤x.top) (hx2:x.top≤255) (hx3:0≤x.bot) (hx4:x.bot≤255)
  (hg:∀ W,Keeps w W→Calls Tryz.prog 80 #[.pointer (some ⟨sb,0,none⟩),.int .u32 v.to] W fun e w'=>e=.returned (.tuple #[.agg #[.int .u8 x.form,.int .u8 x.top,.int .u8 x.bot,.int .u8 x.lo.tag,.int .u32 x.lo.to,.int .u8 x.hi.tag,.int .u32 x.hi.to],.bool true])∧Keeps W w')
  : Calls Tryz.prog 295 #[.pointer (some ⟨sb,0,none⟩),.agg #[.int .u8 v.tag,.int .u32 v.to],.int .i64 l] w fun e w'=>e=.returned (.tuple #[.agg #[.int .u8 v.tag,.int .u32 v.to],.agg #[.int .u8 0,.int .u32 0],.int .u8 0])∧Keeps w w':=by
 have HV:=Lib.hid hv
 clear hv
 have HL:=Lib.hid hl
 clear hl
 have HG:=Lib.hid hg
 clear hg
 go_enter Tryz.func295,Tryz.ntmps295
 go_wp2_with (first|(go_at_call 67;refine(HV.out _ (by(exact kp))).mono ?_;rintro e w' ⟨rfl,rfl⟩)|fail)
 (go_at_call 130;refine(HL.out _ (by(exact kp))).mono ?_;rintro e w1 ⟨rfl,hb⟩;have hsz:=hb.size;simp only [World.size_alloc] at hsz;have hz0:w.heap.size<w1.heap.size:=(by omega);have hz1:w.heap.size+1<w1.heap.size:=(by omega);have hz2:w.heap.size+2<w1.heap.size:=(by omega);have y0:=hb.cell (a:=⟨w.heap.size,0,none⟩) (v:=.int .u8 v.tag) (by simp [go_sem]);have y1:=hb.cell (a:=⟨w.heap.size,1,none⟩) (v:=.int .u32 v.to) (by simp [go_sem]);have x0:=hb.cell (a:=⟨w.heap.size+1,0,none⟩) (v:=.int .u8 0) (by simp [go_sem]);have x1:=hb.cell (a:=⟨w.heap.size+1,1,none⟩) (v:=.int .u32 0) (by simp [go_sem]);have z0:=hb.cell (a:=⟨w.heap.size+2,0,none⟩) (v:=.int .u8 0) (by simp [go_sem]);have z1:=hb.cell (a:=⟨w.heap.size+2,1,none⟩) (v:=.int .u32 0) (by simp [go_sem]);have xf:=fun o:Nat=>hb.frz (a:=⟨w.heap.size+1,o,none⟩) (by simp [go_sem]) (by simp [go_sem]);have zf:=fun o:Nat=>hb.frz (a:=⟨w.heap.size+2,o,none⟩) (by simp [go_sem]) (by simp [go_sem]);have hk:Keeps w w1:=(by(exact kp)))
 go_wp2_with fail
 (go_at_call 80;refine(HG.out _ (by(exact kp))).mono ?_;rintro e w2 ⟨rfl,hb2⟩;have hs2:=hb2.size;have xf:=fun o:Nat=>hb2.frz (a:=⟨w.heap.size+1,o,none⟩) (by dsimp only;omega) (xf o);have zf:=fun o:Nat=>hb2.frz (a:=⟨w.heap.size+2,o,none⟩) (by dsimp only;omega) (zf o);have y0:=hb2.cell y0;have y1:=hb2.cell y1;have x0:=hb2.cell x0;have x1:=hb2.cell x1;have z0:=hb2.cell z0;have z1:=hb2.cell z1;have hz0:w.heap.size<w2.heap.size:=(by omega);have hz1:w.heap.size+1<w2.heap.size:=(by omega);have hz2:w.heap.size+2<w2.heap.size:=(by omega);have hk2:Keeps w w2:=hk.trans hb2)
 go_wp2_with fail
 all_goals refine bodyPost_ret (v:=.tuple #[.agg #[.int .u8 v.tag,.int .u32 v.to],.agg #[.int .u8 0,.int .u32 0],.int .u8 0]) (by simp [results,Tryz.results295,go_sem,hz1,hz2,x0,x1,z0,z1]) rfl ⟨rfl,by(exact kp)⟩

theorem zview_at (sb:Nat)(l n:Int)(v:Edge)(x:Rec)(w:World)(hn:n≤16)(hsb:sb<w.heap.size)
  (hv:∀ W,Keeps w W→Calls Tryz.prog 67 #[.pointer (some ⟨sb,0,none⟩)] W fun e w'=>e=.returned (.int .i64 n)∧W=w')
  (h0:0≤l) (h1:l<n)
  (hl:∀ W,Keeps w W→Calls Tryz.prog 130 #[.pointer (some ⟨sb,0,none⟩),.int .u8 2,.agg #[.int .u8 v.tag,.int .u32 v.to],.int .i64 l] W fun e w'=>e=.returned (.bool true)∧Keeps W w')
   (hx1:0≤x.top) (hx2:x.top≤255) (hx3:0≤x.bot) (hx4:x.bot≤255)
  (hg:∀ W,Keeps w W→Calls Tryz.prog 80 #[.pointer (some ⟨sb,0,none⟩),.int .u32 v.to] W fun e w'=>e=.returned (.tuple #[.agg #[.int .u8 x.form,.int .u8 l,.int .u8 x.bot,.int .u8 x.lo.tag,.int .u32 x.lo.to,.int .u8 x.hi.tag,.int .u32 x.hi.to],.bool true])∧Keeps W w')
  : Calls Tryz.prog 295 #[.pointer (some ⟨sb,0,none⟩),.agg #[.int .u8 v.tag,.int .u32 v.to],.int .i64 l] w fun e w'=>e=.returned (.tuple #[.agg #[.int .u8 x.lo.tag,.int .u32 x.lo.to],.agg #[.int .u8 x.hi.tag,.int .u32 x.hi.to],.int .u8 0])∧Keeps w w':=by
 have HV:=Lib.hid hv
 clear hv
 have HL:=Lib.hid hl
 clear hl
 have HG:=Lib.hid hg
 clear hg
 go_enter Tryz.func295,Tryz.ntmps295
 go_wp2_with (first|(go_at_call 67;refine(HV.out _ (by(exact kp))).mono ?_;rintro e w' ⟨rfl,rfl⟩)|fail)
 (go_at_call 130;refine(HL.out _ (by(exact kp))).mono ?_;rintro e w1 ⟨rfl,hb⟩;have hsz:=hb.size;simp only [World.size_alloc] at hsz;have hz0:w.heap.size<w1.heap.size:=(by omega);have hz1:w.heap.size+1<w1.heap.size:=(by omega);have hz2:w.heap.size+2<w1.heap.size:=(by omega);have y0:=hb.cell (a:=⟨w.heap.size,0,none⟩) (v:=.int .u8 v.tag) (by simp [go_sem]);have y1:=hb.cell (a:=⟨w.heap.size,1,none⟩) (v:=.int .u32 v.to) (by simp [go_sem]);have x0:=hb.cell (a:=⟨w.heap.size+1,0,none⟩) (v:=.int .u8 0) (by simp [go_sem]);have x1:=hb.cell (a:=⟨w.heap.size+1,1,none⟩) (v:=.int .u32 0) (by simp [go_sem]);have z0:=hb.cell (a:=⟨w.heap.size+2,0,none⟩) (v:=.int .u8 0) (by simp [go_sem]);have z1:=hb.cell (a:=⟨w.heap.size+2,1,none⟩) (v:=.int .u32 0) (by simp [go_sem]);have xf:=fun o:Nat=>hb.frz (a:=⟨w.heap.size+1,o,none⟩) (by simp [go_sem]) (by simp [go_sem]);have zf:=fun o:Nat=>hb.frz (a:=⟨w.heap.size+2,o,none⟩) (by simp [go_sem]) (by simp [go_sem]);have hk:Keeps w w1:=(by(exact kp)))
 go_wp2_with fail
 (go_at_call 80;refine(HG.out _ (by(exact kp))).mono ?_;rintro e w2 ⟨rfl,hb2⟩;have hs2:=hb2.size;have xf:=fun o:Nat=>hb2.frz (a:=⟨w.heap.size+1,o,none⟩) (by dsimp only;omega) (xf o);have zf:=fun o:Nat=>hb2.frz (a:=⟨w.heap.size+2,o,none⟩) (by dsimp only;omega) (zf o);have y0:=hb2.cell y0;have y1:=hb2.cell y1;have x0:=hb2.cell x0;have x1:=hb2.cell x1;have z0:=hb2.cell z0;have z1:=hb2.cell z1;have hz0:w.heap.size<w2.heap.size:=(by omega);have hz1:w.heap.size+1<w2.heap.size:=(by omega);have hz2:w.heap.size+2<w2.heap.size:=(by omega);have hk2:Keeps w w2:=hk.trans hb2)
 go_wp2_with fail
 go_region
 all_goals go_wp2
 all_goals refine bodyPost_ret (v:=.tuple #[.agg #[.int .u8 x.lo.tag,.int .u32 x.lo.to],.agg #[.int .u8 x.hi.tag,.int .u32 x.hi.to],.int .u8 0]) (by simp [results,Tryz.results295,go_sem,hz1,hz2,x0,x1,z0,z1]) rfl ⟨rfl,by(exact kp)⟩

end Go.Proofs.YtpgcbmbnognieaaGreat
