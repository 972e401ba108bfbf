/-
  The walk of czdd.View, case by case (printed by wip/mk_view.py).
-/
import Derived.Test.YtpgcbmbnognieaaGreatPOrderB
import Derived.BigRegion
namespace Go.Proofs.YtpgcbmbnognieaaGreat
set_option maxRecDepth 1000000
set_option maxHeartbeats 8000000
set_option linter.unusedSimpArgs false
set_option linter.unusedVariables false
open Go.RowKit

theorem qview_neg (sb:Nat)(l n:Int)(v:Edge)(w:World)(hn:n≤16)(hsb:sb<w.heap.size)
  (hv:∀ W,Keeps w W→Calls Tryz.prog 67 #[.pointer (some ⟨sb,0,none⟩)] W fun e w'=>e=.returned (.int .i64 n)∧W=w')
  (h0:l<0)
  : Calls Tryz.prog 297 #[.pointer (some ⟨sb,0,none⟩),.agg #[.int .u8 v.tag,.int .u32 v.to],.int .i64 l] w fun e w'=>e=.returned (.tuple #[.agg #[.int .u8 0,.int .u32 0],.agg #[.int .u8 0,.int .u32 0],.int .u8 3])∧Keeps w w':=by
 have HV:=Lib.hid hv
 clear hv
 go_enter Tryz.func297,Tryz.ntmps297
 go_wp2_with (first|(go_at_call 67;refine(HV.out _ (by(exact kp))).mono ?_;rintro e w' ⟨rfl,rfl⟩)|fail)
 go_region
 all_goals go_wp2
 all_goals refine bodyPost_ret (v:=.tuple #[.agg #[.int .u8 0,.int .u32 0],.agg #[.int .u8 0,.int .u32 0],.int .u8 3]) (by simp [results,Tryz.results297,go_sem]) rfl ⟨rfl,by(exact kp)⟩

theorem qview_big (sb:Nat)(l n:Int)(v:Edge)(w:World)(hn:n≤16)(hsb:sb<w.heap.size)
  (hv:∀ W,Keeps w W→Calls Tryz.prog 67 #[.pointer (some ⟨sb,0,none⟩)] W fun e w'=>e=.returned (.int .i64 n)∧W=w')
  (h0:0≤l) (h1:n≤l)
  : Calls Tryz.prog 297 #[.pointer (some ⟨sb,0,none⟩),.agg #[.int .u8 v.tag,.int .u32 v.to],.int .i64 l] w fun e w'=>e=.returned (.tuple #[.agg #[.int .u8 0,.int .u32 0],.agg #[.int .u8 0,.int .u32 0],.int .u8 3])∧Keeps w w':=by
 have HV:=Lib.hid hv
 clear hv
 go_enter Tryz.func297,Tryz.ntmps297
 go_wp2_with (first|(go_at_call 67;refine(HV.out _ (by(exact kp))).mono ?_;rintro e w' ⟨rfl,rfl⟩)|fail)
 go_region
 all_goals go_wp2
 all_goals refine bodyPost_ret (v:=.tuple #[.agg #[.int .u8 0,.int .u32 0],.agg #[.int .u8 0,.int .u32 0],.int .u8 3]) (by simp [results,Tryz.results297,go_sem]) rfl ⟨rfl,by(exact kp)⟩

theorem qview_no (sb:Nat)(l n:Int)(v:Edge)(w:World)(hn:n≤16)(hsb:sb<w.heap.size)
  (hv:∀ W,Keeps w W→Calls Tryz.prog 67 #[.pointer (some ⟨sb,0,none⟩)] W fun e w'=>e=.returned (.int .i64 n)∧W=w')
  (h0:0≤l) (h1:l<n)
  (hl:∀ W,Keeps w W→Calls Tryz.prog 130 #[.pointer (some ⟨sb,0,none⟩),.int .u8 4,.agg #[.int .u8 v.tag,.int .u32 v.to],.int .i64 l] W fun e w'=>e=.returned (.bool false)∧Keeps W w')
  : Calls Tryz.prog 297 #[.pointer (some ⟨sb,0,none⟩),.agg #[.int .u8 v.tag,.int .u32 v.to],.int .i64 l] w fun e w'=>e=.returned (.tuple #[.agg #[.int .u8 0,.int .u32 0],.agg #[.int .u8 0,.int .u32 0],.int .u8 1])∧Keeps w w':=by
 have HV:=Lib.hid hv
 clear hv
 have HL:=Lib.hid hl
 clear hl
 go_enter Tryz.func297,Tryz.ntmps297
 go_wp2_with (first|(go_at_call 67;refine(HV.out _ (by(exact kp))).mono ?_;rintro e w' ⟨rfl,rfl⟩)|fail)
 (go_at_call 130;refine(HL.out _ (by(exact kp))).mono ?_;rintro e w1 ⟨rfl,hb⟩;have hsz:=hb.size;simp only [World.size_alloc] at hsz;have hz0:w.heap.size<w1.heap.size:=(by omega);have hz1:w.heap.size+1<w1.heap.size:=(by omega);have hz2:w.heap.size+2<w1.heap.size:=(by omega);have y0:=hb.cell (a:=⟨w.heap.size,0,none⟩) (v:=.int .u8 v.tag) (by simp [go_sem]);have y1:=hb.cell (a:=⟨w.heap.size,1,none⟩) (v:=.int .u32 v.to) (by simp [go_sem]);have x0:=hb.cell (a:=⟨w.heap.size+1,0,none⟩) (v:=.int .u8 0) (by simp [go_sem]);have x1:=hb.cell (a:=⟨w.heap.size+1,1,none⟩) (v:=.int .u32 0) (by simp [go_sem]);have z0:=hb.cell (a:=⟨w.heap.size+2,0,none⟩) (v:=.int .u8 0) (by simp [go_sem]);have z1:=hb.cell (a:=⟨w.heap.size+2,1,none⟩) (v:=.int .u32 0) (by simp [go_sem]);have xf:=fun o:Nat=>hb.frz (a:=⟨w.heap.size+1,o,none⟩) (by simp [go_sem]) (by simp [go_sem]);have zf:=fun o:Nat=>hb.frz (a:=⟨w.heap.size+2,o,none⟩) (by simp [go_sem]) (by simp [go_sem]);have hk:Keeps w w1:=(by(exact kp)))
 go_wp2_with fail
 go_region
 all_goals go_wp2
 all_goals refine bodyPost_ret (v:=.tuple #[.agg #[.int .u8 0,.int .u32 0],.agg #[.int .u8 0,.int .u32 0],.int .u8 1]) (by simp [results,Tryz.results297,go_sem,hz1,hz2,x0,x1,z0,z1]) rfl ⟨rfl,by(exact kp)⟩

theorem qview_none (sb:Nat)(l n:Int)(v:Edge)(x:Rec)(w:World)(hn:n≤16)(hsb:sb<w.heap.size)
  (hv:∀ W,Keeps w W→Calls Tryz.prog 67 #[.pointer (some ⟨sb,0,none⟩)] W fun e w'=>e=.returned (.int .i64 n)∧W=w')
  (h0:0≤l) (h1:l<n)
  (hl:∀ W,Keeps w W→Calls Tryz.prog 130 #[.pointer (some ⟨sb,0,none⟩),.int .u8 4,.agg #[.int .u8 v.tag,.int .u32 v.to],.int .i64 l] W fun e w'=>e=.returned (.bool true)∧Keeps W w')
  (hg:∀ W,Keeps w W→Calls Tryz.prog 80 #[.pointer (some ⟨sb,0,none⟩),.int .u32 v.to] W fun e w'=>e=.returned (.tuple #[.agg #[.int .u8 x.form,.int .u8 x.top,.int .u8 x.bot,.int .u8 x.lo.tag,.int .u32 x.lo.to,.int .u8 x.hi.tag,.int .u32 x.hi.to],.bool false])∧Keeps W w')
  : Calls Tryz.prog 297 #[.pointer (some ⟨sb,0,none⟩),.agg #[.int .u8 v.tag,.int .u32 v.to],.int .i64 l] w fun e w'=>e=.returned (.tuple #[.agg #[.int .u8 v.tag,.int .u32 v.to],.agg #[.int .u8 0,.int .u32 0],.int .u8 0])∧Keeps w w':=by
 have HV:=Lib.hid hv
 clear hv
 have HL:=Lib.hid hl
 clear hl
 have HG:=Lib.hid hg
 clear hg
 go_enter Tryz.func297,Tryz.ntmps297
 go_wp2_with (first|(go_at_call 67;refine(HV.out _ (by(exact kp))).mono ?_;rintro e w' ⟨rfl,rfl⟩)|fail)
 (go_at_call 130;refine(HL.out _ (by(exact kp))).mono ?_;rintro e w1 ⟨rfl,hb⟩;have hsz:=hb.size;simp only [World.size_alloc] at hsz;have hz0:w.heap.size<w1.heap.size:=(by omega);have hz1:w.heap.size+1<w1.heap.size:=(by omega);have hz2:w.heap.size+2<w1.heap.size:=(by omega);have y0:=hb.cell (a:=⟨w.heap.size,0,none⟩) (v:=.int .u8 v.tag) (by simp [go_sem]);have y1:=hb.cell (a:=⟨w.heap.size,1,none⟩) (v:=.int .u32 v.to) (by simp [go_sem]);have x0:=hb.cell (a:=⟨w.heap.size+1,0,none⟩) (v:=.int .u8 0) (by simp [go_sem]);have x1:=hb.cell (a:=⟨w.heap.size+1,1,none⟩) (v:=.int .u32 0) (by simp [go_sem]);have z0:=hb.cell (a:=⟨w.heap.size+2,0,none⟩) (v:=.int .u8 0) (by simp [go_sem]);have z1:=hb.cell (a:=⟨w.heap.size+2,1,none⟩) (v:=.int .u32 0) (by simp [go_sem]);have xf:=fun o:Nat=>hb.frz (a:=⟨w.heap.size+1,o,none⟩) (by simp [go_sem]) (by simp [go_sem]);have zf:=fun o:Nat=>hb.frz (a:=⟨w.heap.size+2,o,none⟩) (by simp [go_sem]) (by simp [go_sem]);have hk:Keeps w w1:=(by(exact kp)))
 go_wp2_with fail
 (go_at_call 80;refine(HG.out _ (by(exact kp))).mono ?_;rintro e w2 ⟨rfl,hb2⟩;have hs2:=hb2.size;have xf:=fun o:Nat=>hb2.frz (a:=⟨w.heap.size+1,o,none⟩) (by dsimp only;omega) (xf o);have zf:=fun o:Nat=>hb2.frz (a:=⟨w.heap.size+2,o,none⟩) (by dsimp only;omega) (zf o);have y0:=hb2.cell y0;have y1:=hb2.cell y1;have x0:=hb2.cell x0;have x1:=hb2.cell x1;have z0:=hb2.cell z0;have z1:=hb2.cell z1;have hz0:w.heap.size<w2.heap.size:=(by omega);have hz1:w.heap.size+1<w2.heap.size:=(by omega);have hz2:w.heap.size+2<w2.heap.size:=(by omega);have hk2:Keeps w w2:=hk.trans hb2)
 go_wp2_with fail
 all_goals refine bodyPost_ret (v:=.tuple #[.agg #[.int .u8 v.tag,.int .u32 v.to],.agg #[.int .u8 0,.int .u32 0],.int .u8 0]) (by simp [results,Tryz.results297,go_sem,hz1,hz2,x0,x1,z0,z1]) rfl ⟨rfl,by(exact kp)⟩

theorem qview_up (sb:Nat)(l n:Int)(v:Edge)(x:Rec)(w:World)(hn:n≤16)(hsb:sb<w.heap.size)
  (hv:∀ W,Keeps w W→Calls Tryz.prog 67 #[.pointer (some ⟨sb,0,none⟩)] W fun e w'=>e=.returned (.int .i64 n)∧W=w')
  (h0:0≤l) (h1:l<n)
  (hl:∀ W,Keeps w W→Calls Tryz.prog 130 #[.pointer (some ⟨sb,0,none⟩),.int .u8 4,.agg #[.int .u8 v.tag,.int .u32 v.to],.int .i64 l] W fun e w'=>e=.returned (.bool true)∧Keeps W w')
  (hx:l<x.top) (hx1:0≤x.top) (hx2:x.top≤255) (hx3:0≤x.bot) (hx4:x.bot≤255)
  (hg:∀ W,Keeps w W→Calls Tryz.prog 80 #[.pointer (some ⟨sb,0,none⟩),.int .u32 v.to] W fun e w'=>e=.returned (.tuple #[.agg #[.int .u8 x.form,.int .u8 x.top,.int .u8 x.bot,.int .u8 x.lo.tag,.int .u32 x.lo.to,.int .u8 x.hi.tag,.int .u32 x.hi.to],.bool true])∧Keeps W w')
  : Calls Tryz.prog 297 #[.pointer (some ⟨sb,0,none⟩),.agg #[.int .u8 v.tag,.int .u32 v.to],.int .i64 l] w fun e w'=>e=.returned (.tuple #[.agg #[.int .u8 v.tag,.int .u32 v.to],.agg #[.int .u8 0,.int .u32 0],.int .u8 0])∧Keeps w w':=by
 have HV:=Lib.hid hv
 clear hv
 have HL:=Lib.hid hl
 clear hl
 have HG:=Lib.hid hg
 clear hg
 go_enter Tryz.func297,Tryz.ntmps297
 go_wp2_with (first|(go_at_call 67;refine(HV.out _ (by(exact kp))).mono ?_;rintro e w' ⟨rfl,rfl⟩)|fail)
 (go_at_call 130;refine(HL.out _ (by(exact kp))).mono ?_;rintro e w1 ⟨rfl,hb⟩;have hsz:=hb.size;simp only [World.size_alloc] at hsz;have hz0:w.heap.size<w1.heap.size:=(by omega);have hz1:w.heap.size+1<w1.heap.size:=(by omega);have hz2:w.heap.size+2<w1.heap.size:=(by omega);have y0:=hb.cell (a:=⟨w.heap.size,0,none⟩) (v:=.int .u8 v.tag) (by simp [go_sem]);have y1:=hb.cell (a:=⟨w.heap.size,1,none⟩) (v:=.int .u32 v.to) (by simp [go_sem]);have x0:=hb.cell (a:=⟨w.heap.size+1,0,none⟩) (v:=.int .u8 0) (by simp [go_sem]);have x1:=hb.cell (a:=⟨w.heap.size+1,1,none⟩) (v:=.int .u32 0) (by simp [go_sem]);have z0:=hb.cell (a:=⟨w.heap.size+2,0,none⟩) (v:=.int .u8 0) (by simp [go_sem]);have z1:=hb.cell (a:=⟨w.heap.size+2,1,none⟩) (v:=.int .u32 0) (by simp [go_sem]);have xf:=fun o:Nat=>hb.frz (a:=⟨w.heap.size+1,o,none⟩) (by simp [go_sem]) (by simp [go_sem]);have zf:=fun o:Nat=>hb.frz (a:=⟨w.heap.size+2,o,none⟩) (by simp [go_sem]) (by simp [go_sem]);have hk:Keeps w w1:=(by(exact kp)))
 go_wp2_with fail
 (go_at_call 80;refine(HG.out _ (by(exact kp))).mono ?_;rintro e w2 ⟨rfl,hb2⟩;have hs2:=hb2.size;have xf:=fun o:Nat=>hb2.frz (a:=⟨w.heap.size+1,o,none⟩) (by dsimp only;omega) (xf o);have zf:=fun o:Nat=>hb2.frz (a:=⟨w.heap.size+2,o,none⟩) (by dsimp only;omega) (zf o);have y0:=hb2.cell y0;have y1:=hb2.cell y1;have x0:=hb2.cell x0;have x1:=hb2.cell x1;have z0:=hb2.cell z0;have z1:=hb2.cell z1;have hz0:w.heap.size<w2.heap.size:=(by omega);have hz1:w.heap.size+1<w2.heap.size:=(by omega);have hz2:w.heap.size+2<w2.heap.size:=(by omega);have hk2:Keeps w w2:=hk.trans hb2)
 go_wp2_with fail
 all_goals refine bodyPost_ret (v:=.tuple #[.agg #[.int .u8 v.tag,.int .u32 v.to],.agg #[.int .u8 0,.int .u32 0],.int .u8 0]) (by simp [results,Tryz.results297,go_sem,hz1,hz2,x0,x1,z0,z1]) rfl ⟨rfl,by(exact kp)⟩

theorem qview_at (sb:Nat)(l n:Int)(v:Edge)(x:Rec)(w:World)(hn:n≤16)(hsb:sb<w.heap.size)
  (hv:∀ W,Keeps w W→Calls Tryz.prog 67 #[.pointer (some ⟨sb,0,none⟩)] W fun e w'=>e=.returned (.int .i64 n)∧W=w')
  (h0:0≤l) (h1:l<n)
  (hl:∀ W,Keeps w W→Calls Tryz.prog 130 #[.pointer (some ⟨sb,0,none⟩),.int .u8 4,.agg #[.int .u8 v.tag,.int .u32 v.to],.int .i64 l] W fun e w'=>e=.returned (.bool true)∧Keeps W w')
   (hx1:0≤x.top) (hx2:x.top≤255) (hx3:0≤x.bot) (hx4:x.bot≤255)
  (hg:∀ W,Keeps w W→Calls Tryz.prog 80 #[.pointer (some ⟨sb,0,none⟩),.int .u32 v.to] W fun e w'=>e=.returned (.tuple #[.agg #[.int .u8 x.form,.int .u8 l,.int .u8 l,.int .u8 x.lo.tag,.int .u32 x.lo.to,.int .u8 x.hi.tag,.int .u32 x.hi.to],.bool true])∧Keeps W w')
  : Calls Tryz.prog 297 #[.pointer (some ⟨sb,0,none⟩),.agg #[.int .u8 v.tag,.int .u32 v.to],.int .i64 l] w fun e w'=>e=.returned (.tuple #[.agg #[.int .u8 x.lo.tag,.int .u32 x.lo.to],.agg #[.int .u8 x.hi.tag,.int .u32 x.hi.to],.int .u8 0])∧Keeps w w':=by
 have HV:=Lib.hid hv
 clear hv
 have HL:=Lib.hid hl
 clear hl
 have HG:=Lib.hid hg
 clear hg
 go_enter Tryz.func297,Tryz.ntmps297
 go_wp2_with (first|(go_at_call 67;refine(HV.out _ (by(exact kp))).mono ?_;rintro e w' ⟨rfl,rfl⟩)|fail)
 (go_at_call 130;refine(HL.out _ (by(exact kp))).mono ?_;rintro e w1 ⟨rfl,hb⟩;have hsz:=hb.size;simp only [World.size_alloc] at hsz;have hz0:w.heap.size<w1.heap.size:=(by omega);have hz1:w.heap.size+1<w1.heap.size:=(by omega);have hz2:w.heap.size+2<w1.heap.size:=(by omega);have y0:=hb.cell (a:=⟨w.heap.size,0,none⟩) (v:=.int .u8 v.tag) (by simp [go_sem]);have y1:=hb.cell (a:=⟨w.heap.size,1,none⟩) (v:=.int .u32 v.to) (by simp [go_sem]);have x0:=hb.cell (a:=⟨w.heap.size+1,0,none⟩) (v:=.int .u8 0) (by simp [go_sem]);have x1:=hb.cell (a:=⟨w.heap.size+1,1,none⟩) (v:=.int .u32 0) (by simp [go_sem]);have z0:=hb.cell (a:=⟨w.heap.size+2,0,none⟩) (v:=.int .u8 0) (by simp [go_sem]);have z1:=hb.cell (a:=⟨w.heap.size+2,1,none⟩) (v:=.int .u32 0) (by simp [go_sem]);have xf:=fun o:Nat=>hb.frz (a:=⟨w.heap.size+1,o,none⟩) (by simp [go_sem]) (by simp [go_sem]);have zf:=fun o:Nat=>hb.frz (a:=⟨w.heap.size+2,o,none⟩) (by simp [go_sem]) (by simp [go_sem]);have hk:Keeps w w1:=(by(exact kp)))
 go_wp2_with fail
 (go_at_call 80;refine(HG.out _ (by(exact kp))).mono ?_;rintro e w2 ⟨rfl,hb2⟩;have hs2:=hb2.size;have xf:=fun o:Nat=>hb2.frz (a:=⟨w.heap.size+1,o,none⟩) (by dsimp only;omega) (xf o);have zf:=fun o:Nat=>hb2.frz (a:=⟨w.heap.size+2,o,none⟩) (by dsimp only;omega) (zf o);have y0:=hb2.cell y0;have y1:=hb2.cell y1;have x0:=hb2.cell x0;have x1:=hb2.cell x1;have z0:=hb2.cell z0;have z1:=hb2.cell z1;have hz0:w.heap.size<w2.heap.size:=(by omega);have hz1:w.heap.size+1<w2.heap.size:=(by omega);have hz2:w.heap.size+2<w2.heap.size:=(by omega);have hk2:Keeps w w2:=hk.trans hb2)
 go_wp2_with fail
 go_region
 all_goals go_wp2
 all_goals refine bodyPost_ret (v:=.tuple #[.agg #[.int .u8 x.lo.tag,.int .u32 x.lo.to],.agg #[.int .u8 x.hi.tag,.int .u32 x.hi.to],.int .u8 0]) (by simp [results,Tryz.results297,go_sem,hz1,hz2,x0,x1,z0,z1]) rfl ⟨rfl,by(exact kp)⟩

theorem qview_chain {F:Nat→Prop}(R:World→World→Prop)(sb:Nat)(l n:Int)(v:Edge)(x:Rec)(a b:Int)(w:World)(hn:n≤16)(hsb:sb<w.heap.size)
  (hv:∀ W,Keeps w W→Calls Tryz.prog 67 #[.pointer (some ⟨sb,0,none⟩)] W fun e w'=>e=.returned (.int .i64 n)∧W=w')
  (h0:0≤l) (h1:l<n)
  (hl:∀ W,Keeps w W→Calls Tryz.prog 130 #[.pointer (some ⟨sb,0,none⟩),.int .u8 4,.agg #[.int .u8 v.tag,.int .u32 v.to],.int .i64 l] W fun e w'=>e=.returned (.bool true)∧Keeps W w')
  (hxb:¬x.bot=l) (hx1:0≤x.top) (hx2:x.top≤255) (hx3:0≤x.bot) (hx4:x.bot≤255)
  (hg:∀ W,Keeps w W→Calls Tryz.prog 80 #[.pointer (some ⟨sb,0,none⟩),.int .u32 v.to] W fun e w'=>e=.returned (.tuple #[.agg #[.int .u8 4,.int .u8 l,.int .u8 x.bot,.int .u8 x.lo.tag,.int .u32 x.lo.to,.int .u8 x.hi.tag,.int .u32 x.hi.to],.bool true])∧Keeps W w')
  (hlt:∀ k,F k→k<w.heap.size) (hf:∀ W,Keeps w W→Calls Tryz.prog 230 #[.pointer (some ⟨sb,0,none⟩),.agg #[.int .u8 4,.int .u8 (l+1),.int .u8 x.bot,.int .u8 x.lo.tag,.int .u32 x.lo.to,.int .u8 x.hi.tag,.int .u32 x.hi.to]] W fun e w'=>e=.returned (.tuple #[.agg #[.int .u8 a,.int .u32 b],.int .u8 0])∧Upd F W w'∧R W w')
  : Calls Tryz.prog 297 #[.pointer (some ⟨sb,0,none⟩),.agg #[.int .u8 v.tag,.int .u32 v.to],.int .i64 l] w fun e w'=>e=.returned (.tuple #[.agg #[.int .u8 a,.int .u32 b],.agg #[.int .u8 a,.int .u32 b],.int .u8 0]) ∧ 
   ∃ W W1,Keeps w W∧Upd F W W1∧R W W1∧Upd (fun k=>w.heap.size≤k∧k<W.heap.size) W1 w':=by
 have HV:=Lib.hid hv
 clear hv
 have HL:=Lib.hid hl
 clear hl
 have HF:=Lib.hid hf
 have nF:∀ k,w.heap.size≤k→¬F k:=fun k hk h=>by have:=hlt k h;omega
 have nF1:=nF (w.heap.size+1) (by omega)
 have nF2:=nF (w.heap.size+2) (by omega)
 have NF:=Lib.hid nF
 clear hf hlt nF
 have HG:=Lib.hid hg
 clear hg
 go_enter Tryz.func297,Tryz.ntmps297
 go_wp2_with (first|(go_at_call 67;refine(HV.out _ (by(exact kp))).mono ?_;rintro e w' ⟨rfl,rfl⟩)|fail)
 (go_at_call 130;refine(HL.out _ (by(exact kp))).mono ?_;rintro e w1 ⟨rfl,hb⟩;have hsz:=hb.size;simp only [World.size_alloc] at hsz;have hz0:w.heap.size<w1.heap.size:=(by omega);have hz1:w.heap.size+1<w1.heap.size:=(by omega);have hz2:w.heap.size+2<w1.heap.size:=(by omega);have y0:=hb.cell (a:=⟨w.heap.size,0,none⟩) (v:=.int .u8 v.tag) (by simp [go_sem]);have y1:=hb.cell (a:=⟨w.heap.size,1,none⟩) (v:=.int .u32 v.to) (by simp [go_sem]);have x0:=hb.cell (a:=⟨w.heap.size+1,0,none⟩) (v:=.int .u8 0) (by simp [go_sem]);have x1:=hb.cell (a:=⟨w.heap.size+1,1,none⟩) (v:=.int .u32 0) (by simp [go_sem]);have z0:=hb.cell (a:=⟨w.heap.size+2,0,none⟩) (v:=.int .u8 0) (by simp [go_sem]);have z1:=hb.cell (a:=⟨w.heap.size+2,1,none⟩) (v:=.int .u32 0) (by simp [go_sem]);have xf:=fun o:Nat=>hb.frz (a:=⟨w.heap.size+1,o,none⟩) (by simp [go_sem]) (by simp [go_sem]);have zf:=fun o:Nat=>hb.frz (a:=⟨w.heap.size+2,o,none⟩) (by simp [go_sem]) (by simp [go_sem]);have hk:Keeps w w1:=(by(exact kp)))
 go_wp2_with fail
 (go_at_call 80;refine(HG.out _ (by(exact kp))).mono ?_;rintro e w2 ⟨rfl,hb2⟩;have hs2:=hb2.size;have xf:=fun o:Nat=>hb2.frz (a:=⟨w.heap.size+1,o,none⟩) (by dsimp only;omega) (xf o);have zf:=fun o:Nat=>hb2.frz (a:=⟨w.heap.size+2,o,none⟩) (by dsimp only;omega) (zf o);have y0:=hb2.cell y0;have y1:=hb2.cell y1;have x0:=hb2.cell x0;have x1:=hb2.cell x1;have z0:=hb2.cell z0;have z1:=hb2.cell z1;have hz0:w.heap.size<w2.heap.size:=(by omega);have hz1:w.heap.size+1<w2.heap.size:=(by omega);have hz2:w.heap.size+2<w2.heap.size:=(by omega);have hk2:Keeps w w2:=hk.trans hb2)
 go_wp2_with fail
 (go_at_call 230;refine(HF.out _ (by(exact kp))).mono ?_;rintro e w3 ⟨rfl,hu,hR⟩;have hs3:=hu.size;(try simp only [World.size_alloc,World.size_setCell,World.size_drew] at hs3);have x0:=hu.cell (a:=⟨w.heap.size+1,0,none⟩) nF1 (v:=.int .u8 0) (by simp [go_sem,hz1,hz2,x0,x1]);have x1:=hu.cell (a:=⟨w.heap.size+1,1,none⟩) nF1 (v:=.int .u32 0) (by simp [go_sem,hz1,hz2,x0,x1]);have z0:=hu.cell (a:=⟨w.heap.size+2,0,none⟩) nF2 (v:=.int .u8 0) (by simp [go_sem,hz1,hz2,z0,z1]);have z1:=hu.cell (a:=⟨w.heap.size+2,1,none⟩) nF2 (v:=.int .u32 0) (by simp [go_sem,hz1,hz2,z0,z1]);have xf:=fun o:Nat=>hu.frozen (a:=⟨w.heap.size+1,o,none⟩) (by(try simp only [World.size_alloc,World.size_setCell,World.size_drew]);omega) nF1 (by(try simp only [World.frozen?_setCell,frozen?_alloc_cells]);exact xf o);have zf:=fun o:Nat=>hu.frozen (a:=⟨w.heap.size+2,o,none⟩) (by(try simp only [World.size_alloc,World.size_setCell,World.size_drew]);omega) nF2 (by(try simp only [World.frozen?_setCell,frozen?_alloc_cells]);exact zf o);have hz1:w.heap.size+1<w3.heap.size:=(by omega);have hz2:w.heap.size+2<w3.heap.size:=(by omega))
 go_wp2_with fail
 obtain⟨w4,hw4⟩:∃ w4,w4=((w3.setCell ⟨w.heap.size+1,0,none⟩ (.int .u8 a)).setCell ⟨w.heap.size+1,1,none⟩ (.int .u32 b)):=⟨_,rfl⟩
 have p0:w4.cell? ⟨w.heap.size+1,0,none⟩=some (.int .u8 a):=by rw [hw4];simp [go_sem,x0,x1,hz1]
 have p1:w4.cell? ⟨w.heap.size+1,1,none⟩=some (.int .u32 b):=by rw [hw4];simp [go_sem,x0,x1,hz1]
 have q0:w4.cell? ⟨w.heap.size+2,0,none⟩=some (.int .u8 0):=by rw [hw4];simp [go_sem,z0,z1,hz2]
 have q1:w4.cell? ⟨w.heap.size+2,1,none⟩=some (.int .u32 0):=by rw [hw4];simp [go_sem,z0,z1,hz2]
 have g1:∀ o,w4.frozen? ⟨w.heap.size+1,o,none⟩=false:=by intro o;rw [hw4];simp only [World.frozen?_setCell];exact xf o
 have g2:∀ o,w4.frozen? ⟨w.heap.size+2,o,none⟩=false:=by intro o;rw [hw4];simp only [World.frozen?_setCell];exact zf o
 have hs4:w4.heap.size=w3.heap.size:=by rw [hw4];simp only [World.size_setCell]
 have hu4:Upd (fun k=>w.heap.size≤k∧k<w.heap.size+3) w3 w4:=by rw [hw4];exact((Upd.refl _ _).setCell (Or.inl (by dsimp only;omega)) _).setCell (Or.inl (by dsimp only;omega)) _
 rw [← hw4]
 have hy1:w.heap.size+1<w4.heap.size:=by omega
 have hy2:w.heap.size+2<w4.heap.size:=by omega
 clear hw4 x0 x1 z0 z1 xf zf hs4
 all_goals refine bodyPost_ret (v:=.tuple #[.agg #[.int .u8 a,.int .u32 b],.agg #[.int .u8 a,.int .u32 b],.int .u8 0]) (by simp [results,Tryz.results297,go_sem,hy1,hy2,p0,p1,q0,q1]) rfl ⟨rfl,_,w3,by(exact kp),hu,hR,?_⟩
 all_goals(try simp only [World.size_alloc,World.size_setCell,World.size_drew])
 all_goals(repeat (first|with_reducible exact Upd.refl _ _|exact Upd.mono hu4 (fun k _ hk=>⟨hk.1,by(try simp only [World.size_alloc,World.size_setCell,World.size_drew]);have:=hk.2;omega⟩)|refine Upd.setCell ?_ (Or.inl (by dsimp only;omega)) _|refine Upd.setCell ?_ (Or.inr (by dsimp only;omega)) _|with_reducible refine Upd.drewN ?_ _|with_reducible refine Upd.drew ?_|with_reducible refine Upd.alloc ?_ _))

theorem qview_full {F:Nat→Prop}(R:World→World→Prop)(sb:Nat)(l n:Int)(v:Edge)(x:Rec)(a b er:Int)(her:er≠0)(w:World)(hn:n≤16)(hsb:sb<w.heap.size)
  (hv:∀ W,Keeps w W→Calls Tryz.prog 67 #[.pointer (some ⟨sb,0,none⟩)] W fun e w'=>e=.returned (.int .i64 n)∧W=w')
  (h0:0≤l) (h1:l<n)
  (hl:∀ W,Keeps w W→Calls Tryz.prog 130 #[.pointer (some ⟨sb,0,none⟩),.int .u8 4,.agg #[.int .u8 v.tag,.int .u32 v.to],.int .i64 l] W fun e w'=>e=.returned (.bool true)∧Keeps W w')
  (hxb:¬x.bot=l) (hx1:0≤x.top) (hx2:x.top≤255) (hx3:0≤x.bot) (hx4:x.bot≤255)
  (hg:∀ W,Keeps w W→Calls Tryz.prog 80 #[.pointer (some ⟨sb,0,none⟩),.int .u32 v.to] W fun e w'=>e=.returned (.tuple #[.agg #[.int .u8 4,.int .u8 l,.int .u8 x.bot,.int .u8 x.lo.tag,.int .u32 x.lo.to,.int .u8 x.hi.tag,.int .u32 x.hi.to],.bool true])∧Keeps W w')
  (hlt:∀ k,F k→k<w.heap.size) (hf:∀ W,Keeps w W→Calls Tryz.prog 230 #[.pointer (some ⟨sb,0,none⟩),.agg #[.int .u8 4,.int .u8 (l+1),.int .u8 x.bot,.int .u8 x.lo.tag,.int .u32 x.lo.to,.int .u8 x.hi.tag,.int .u32 x.hi.to]] W fun e w'=>e=.returned (.tuple #[.agg #[.int .u8 a,.int .u32 b],.int .u8 er])∧Upd F W w'∧R W w')
  : Calls Tryz.prog 297 #[.pointer (some ⟨sb,0,none⟩),.agg #[.int .u8 v.tag,.int .u32 v.to],.int .i64 l] w fun e w'=>e=.returned (.tuple #[.agg #[.int .u8 0,.int .u32 0],.agg #[.int .u8 0,.int .u32 0],.int .u8 er]) ∧ 
   ∃ W W1,Keeps w W∧Upd F W W1∧R W W1∧Upd (fun k=>w.heap.size≤k∧k<W.heap.size) W1 w':=by
 have HV:=Lib.hid hv
 clear hv
 have HL:=Lib.hid hl
 clear hl
 have HF:=Lib.hid hf
 have nF:∀ k,w.heap.size≤k→¬F k:=fun k hk h=>by have:=hlt k h;omega
 have nF1:=nF (w.heap.size+1) (by omega)
 have nF2:=nF (w.heap.size+2) (by omega)
 have NF:=Lib.hid nF
 clear hf hlt nF
 have HG:=Lib.hid hg
 clear hg
 go_enter Tryz.func297,Tryz.ntmps297
 go_wp2_with (first|(go_at_call 67;refine(HV.out _ (by(exact kp))).mono ?_;rintro e w' ⟨rfl,rfl⟩)|fail)
 (go_at_call 130;refine(HL.out _ (by(exact kp))).mono ?_;rintro e w1 ⟨rfl,hb⟩;have hsz:=hb.size;simp only [World.size_alloc] at hsz;have hz0:w.heap.size<w1.heap.size:=(by omega);have hz1:w.heap.size+1<w1.heap.size:=(by omega);have hz2:w.heap.size+2<w1.heap.size:=(by omega);have y0:=hb.cell (a:=⟨w.heap.size,0,none⟩) (v:=.int .u8 v.tag) (by simp [go_sem]);have y1:=hb.cell (a:=⟨w.heap.size,1,none⟩) (v:=.int .u32 v.to) (by simp [go_sem]);have x0:=hb.cell (a:=⟨w.heap.size+1,0,none⟩) (v:=.int .u8 0) (by simp [go_sem]);have x1:=hb.cell (a:=⟨w.heap.size+1,1,none⟩) (v:=.int .u32 0) (by simp [go_sem]);have z0:=hb.cell (a:=⟨w.heap.size+2,0,none⟩) (v:=.int .u8 0) (by simp [go_sem]);have z1:=hb.cell (a:=⟨w.heap.size+2,1,none⟩) (v:=.int .u32 0) (by simp [go_sem]);have xf:=fun o:Nat=>hb.frz (a:=⟨w.heap.size+1,o,none⟩) (by simp [go_sem]) (by simp [go_sem]);have zf:=fun o:Nat=>hb.frz (a:=⟨w.heap.size+2,o,none⟩) (by simp [go_sem]) (by simp [go_sem]);have hk:Keeps w w1:=(by(exact kp)))
 go_wp2_with fail
 (go_at_call 80;refine(HG.out _ (by(exact kp))).mono ?_;rintro e w2 ⟨rfl,hb2⟩;have hs2:=hb2.size;have xf:=fun o:Nat=>hb2.frz (a:=⟨w.heap.size+1,o,none⟩) (by dsimp only;omega) (xf o);have zf:=fun o:Nat=>hb2.frz (a:=⟨w.heap.size+2,o,none⟩) (by dsimp only;omega) (zf o);have y0:=hb2.cell y0;have y1:=hb2.cell y1;have x0:=hb2.cell x0;have x1:=hb2.cell x1;have z0:=hb2.cell z0;have z1:=hb2.cell z1;have hz0:w.heap.size<w2.heap.size:=(by omega);have hz1:w.heap.size+1<w2.heap.size:=(by omega);have hz2:w.heap.size+2<w2.heap.size:=(by omega);have hk2:Keeps w w2:=hk.trans hb2)
 go_wp2_with fail
 (go_at_call 230;refine(HF.out _ (by(exact kp))).mono ?_;rintro e w3 ⟨rfl,hu,hR⟩;have hs3:=hu.size;(try simp only [World.size_alloc,World.size_setCell,World.size_drew] at hs3);have x0:=hu.cell (a:=⟨w.heap.size+1,0,none⟩) nF1 (v:=.int .u8 0) (by simp [go_sem,hz1,hz2,x0,x1]);have x1:=hu.cell (a:=⟨w.heap.size+1,1,none⟩) nF1 (v:=.int .u32 0) (by simp [go_sem,hz1,hz2,x0,x1]);have z0:=hu.cell (a:=⟨w.heap.size+2,0,none⟩) nF2 (v:=.int .u8 0) (by simp [go_sem,hz1,hz2,z0,z1]);have z1:=hu.cell (a:=⟨w.heap.size+2,1,none⟩) nF2 (v:=.int .u32 0) (by simp [go_sem,hz1,hz2,z0,z1]);have xf:=fun o:Nat=>hu.frozen (a:=⟨w.heap.size+1,o,none⟩) (by(try simp only [World.size_alloc,World.size_setCell,World.size_drew]);omega) nF1 (by(try simp only [World.frozen?_setCell,frozen?_alloc_cells]);exact xf o);have zf:=fun o:Nat=>hu.frozen (a:=⟨w.heap.size+2,o,none⟩) (by(try simp only [World.size_alloc,World.size_setCell,World.size_drew]);omega) nF2 (by(try simp only [World.frozen?_setCell,frozen?_alloc_cells]);exact zf o);have hz1:w.heap.size+1<w3.heap.size:=(by omega);have hz2:w.heap.size+2<w3.heap.size:=(by omega))
 go_wp2_with fail
 obtain⟨w4,hw4⟩:∃ w4,w4=((w3.setCell ⟨w.heap.size+1,0,none⟩ (.int .u8 a)).setCell ⟨w.heap.size+1,1,none⟩ (.int .u32 b)):=⟨_,rfl⟩
 have p0:w4.cell? ⟨w.heap.size+1,0,none⟩=some (.int .u8 a):=by rw [hw4];simp [go_sem,x0,x1,hz1]
 have p1:w4.cell? ⟨w.heap.size+1,1,none⟩=some (.int .u32 b):=by rw [hw4];simp [go_sem,x0,x1,hz1]
 have q0:w4.cell? ⟨w.heap.size+2,0,none⟩=some (.int .u8 0):=by rw [hw4];simp [go_sem,z0,z1,hz2]
 have q1:w4.cell? ⟨w.heap.size+2,1,none⟩=some (.int .u32 0):=by rw [hw4];simp [go_sem,z0,z1,hz2]
 have g1:∀ o,w4.frozen? ⟨w.heap.size+1,o,none⟩=false:=by intro o;rw [hw4];simp only [World.frozen?_setCell];exact xf o
 have g2:∀ o,w4.frozen? ⟨w.heap.size+2,o,none⟩=false:=by intro o;rw [hw4];simp only [World.frozen?_setCell];exact zf o
 have hs4:w4.heap.size=w3.heap.size:=by rw [hw4];simp only [World.size_setCell]
 have hu4:Upd (fun k=>w.heap.size≤k∧k<w.heap.size+3) w3 w4:=by rw [hw4];exact((Upd.refl _ _).setCell (Or.inl (by dsimp only;omega)) _).setCell (Or.inl (by dsimp only;omega)) _
 rw [← hw4]
 have hy1:w.heap.size+1<w4.heap.size:=by omega
 have hy2:w.heap.size+2<w4.heap.size:=by omega
 clear hw4 x0 x1 z0 z1 xf zf hs4
 all_goals refine bodyPost_ret (v:=.tuple #[.agg #[.int .u8 0,.int .u32 0],.agg #[.int .u8 0,.int .u32 0],.int .u8 er]) (by simp [results,Tryz.results297,go_sem,hy1,hy2,p0,p1,q0,q1]) rfl ⟨rfl,_,w3,by(exact kp),hu,hR,?_⟩
 all_goals(try simp only [World.size_alloc,World.size_setCell,World.size_drew])
 all_goals(repeat (first|with_reducible exact Upd.refl _ _|exact Upd.mono hu4 (fun k _ hk=>⟨hk.1,by(try simp only [World.size_alloc,World.size_setCell,World.size_drew]);have:=hk.2;omega⟩)|refine Upd.setCell ?_ (Or.inl (by dsimp only;omega)) _|refine Upd.setCell ?_ (Or.inr (by dsimp only;omega)) _|with_reducible refine Upd.drewN ?_ _|with_reducible refine Upd.drew ?_|with_reducible refine Upd.alloc ?_ _))

end Go.Proofs.YtpgcbmbnognieaaGreat
