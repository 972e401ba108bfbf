/-
  The walk of cbdd.Make, case by case (printed by wip/mk_make2.py).
-/
import Derived.Test.YtpgcbmbnognieaaGreatPOrderB
import Derived.BigRegion
import Derived.IntWalk
namespace Go.Proofs.YtpgcbmbnognieaaGreat
set_option maxRecDepth 1000000
set_option maxHeartbeats 8000000
set_option linter.unusedSimpArgs false
set_option linter.unusedVariables false
open Go.RowKit

theorem cmake_neg (sb:Nat)(l n:Int)(lo hi:Edge)(w:World)(hn:n≤16)(hsb:sb<w.heap.size)
  (hv:∀ W,Keeps w W→Calls Tryz.prog 67 #[.pointer (some ⟨sb,0,none⟩)] W fun e w'=>e=.returned (.int .i64 n)∧W=w')
  (h0:l<0)
  : Calls Tryz.prog 171 #[.pointer (some ⟨sb,0,none⟩),.int .i64 l,.agg #[.int .u8 lo.tag,.int .u32 lo.to],.agg #[.int .u8 hi.tag,.int .u32 hi.to]] w fun e w'=>e=.returned (.tuple #[.agg #[.int .u8 0,.int .u32 0],.int .u8 3])∧Keeps w w':=by
 have hsb1:sb<w.heap.size+1:=by omega
 have hsb2:sb<w.heap.size+1+1:=by omega
 have HV:=Lib.hid hv
 clear hv
 go_enter Tryz.func171,Tryz.ntmps171
 go_wp2_with (first|(go_at_call 67;refine(HV.out _ (by(exact kp))).mono ?_;rintro e w' ⟨rfl,rfl⟩)|fail)
 all_goals refine bodyPost_ret (v:=.tuple #[.agg #[.int .u8 0,.int .u32 0],.int .u8 3]) (by simp [results,Tryz.results171,go_sem]) rfl ⟨rfl,by(exact kp)⟩

theorem cmake_big (sb:Nat)(l n:Int)(lo hi:Edge)(w:World)(hn:n≤16)(hsb:sb<w.heap.size)
  (hv:∀ W,Keeps w W→Calls Tryz.prog 67 #[.pointer (some ⟨sb,0,none⟩)] W fun e w'=>e=.returned (.int .i64 n)∧W=w')
  (h0:0≤l) (h1:n≤l)
  : Calls Tryz.prog 171 #[.pointer (some ⟨sb,0,none⟩),.int .i64 l,.agg #[.int .u8 lo.tag,.int .u32 lo.to],.agg #[.int .u8 hi.tag,.int .u32 hi.to]] w fun e w'=>e=.returned (.tuple #[.agg #[.int .u8 0,.int .u32 0],.int .u8 3])∧Keeps w w':=by
 have hsb1:sb<w.heap.size+1:=by omega
 have hsb2:sb<w.heap.size+1+1:=by omega
 have HV:=Lib.hid hv
 clear hv
 go_enter Tryz.func171,Tryz.ntmps171
 go_wp2_with (first|(go_at_call 67;refine(HV.out _ (by(exact kp))).mono ?_;rintro e w' ⟨rfl,rfl⟩)|fail)
 all_goals refine bodyPost_ret (v:=.tuple #[.agg #[.int .u8 0,.int .u32 0],.int .u8 3]) (by simp [results,Tryz.results171,go_sem]) rfl ⟨rfl,by(exact kp)⟩

theorem cmake_lo (sb:Nat)(l n:Int)(lo hi:Edge)(w:World)(hn:n≤16)(hsb:sb<w.heap.size)
  (hv:∀ W,Keeps w W→Calls Tryz.prog 67 #[.pointer (some ⟨sb,0,none⟩)] W fun e w'=>e=.returned (.int .i64 n)∧W=w')
  (h0:0≤l) (h1:l<n)
  (hlo:∀ W,Keeps w W→Calls Tryz.prog 130 #[.pointer (some ⟨sb,0,none⟩),.int .u8 3,.agg #[.int .u8 lo.tag,.int .u32 lo.to],.int .i64 (l+1)] W fun e w'=>e=.returned (.bool false)∧Keeps W w')
  : Calls Tryz.prog 171 #[.pointer (some ⟨sb,0,none⟩),.int .i64 l,.agg #[.int .u8 lo.tag,.int .u32 lo.to],.agg #[.int .u8 hi.tag,.int .u32 hi.to]] w fun e w'=>e=.returned (.tuple #[.agg #[.int .u8 0,.int .u32 0],.int .u8 1])∧Keeps w w':=by
 have hsb1:sb<w.heap.size+1:=by omega
 have hsb2:sb<w.heap.size+1+1:=by omega
 have HV:=Lib.hid hv
 clear hv
 have HLo:=Lib.hid hlo
 clear hlo
 go_enter Tryz.func171,Tryz.ntmps171
 go_wp2_with (first|(go_at_call 67;refine(HV.out _ (by(exact kp))).mono ?_;rintro e w' ⟨rfl,rfl⟩)|fail)
 (go_at_call 130;refine(HLo.out _ (by(exact kp))).mono ?_;rintro e w1 ⟨rfl,hb⟩;have hsz:=hb.size;simp only [World.size_alloc] at hsz;have hz0:w.heap.size<w1.heap.size:=(by omega);have hz1:w.heap.size+1<w1.heap.size:=(by omega);have hz2:w.heap.size+2<w1.heap.size:=(by omega);have y0:=hb.cell (a:=⟨w.heap.size,0,none⟩) (v:=.int .u8 lo.tag) (by simp [go_sem]);have y1:=hb.cell (a:=⟨w.heap.size,1,none⟩) (v:=.int .u32 lo.to) (by simp [go_sem]);have x0:=hb.cell (a:=⟨w.heap.size+1,0,none⟩) (v:=.int .u8 hi.tag) (by simp [go_sem]);have x1:=hb.cell (a:=⟨w.heap.size+1,1,none⟩) (v:=.int .u32 hi.to) (by simp [go_sem]);have z0:=hb.cell (a:=⟨w.heap.size+2,0,none⟩) (v:=.int .u8 0) (by simp [go_sem]);have z1:=hb.cell (a:=⟨w.heap.size+2,1,none⟩) (v:=.int .u32 0) (by simp [go_sem]);have zf:=fun o:Nat=>hb.frz (a:=⟨w.heap.size+2,o,none⟩) (by simp [go_sem]) (by simp [go_sem]);have hk:Keeps w w1:=(by(exact kp)))
 go_wp2_with fail
 all_goals refine bodyPost_ret (v:=.tuple #[.agg #[.int .u8 0,.int .u32 0],.int .u8 1]) (by simp [results,Tryz.results171,go_sem,hz2,z0,z1]) rfl ⟨rfl,by(exact kp)⟩

theorem cmake_hi (sb:Nat)(l n:Int)(lo hi:Edge)(w:World)(hn:n≤16)(hsb:sb<w.heap.size)
  (hv:∀ W,Keeps w W→Calls Tryz.prog 67 #[.pointer (some ⟨sb,0,none⟩)] W fun e w'=>e=.returned (.int .i64 n)∧W=w')
  (h0:0≤l) (h1:l<n)
  (hlo:∀ W,Keeps w W→Calls Tryz.prog 130 #[.pointer (some ⟨sb,0,none⟩),.int .u8 3,.agg #[.int .u8 lo.tag,.int .u32 lo.to],.int .i64 (l+1)] W fun e w'=>e=.returned (.bool true)∧Keeps W w')
  (hhi:∀ W,Keeps w W→Calls Tryz.prog 130 #[.pointer (some ⟨sb,0,none⟩),.int .u8 3,.agg #[.int .u8 hi.tag,.int .u32 hi.to],.int .i64 (l+1)] W fun e w'=>e=.returned (.bool false)∧Keeps W w')
  : Calls Tryz.prog 171 #[.pointer (some ⟨sb,0,none⟩),.int .i64 l,.agg #[.int .u8 lo.tag,.int .u32 lo.to],.agg #[.int .u8 hi.tag,.int .u32 hi.to]] w fun e w'=>e=.returned (.tuple #[.agg #[.int .u8 0,.int .u32 0],.int .u8 1])∧Keeps w w':=by
 have hsb1:sb<w.heap.size+1:=by omega
 have hsb2:sb<w.heap.size+1+1:=by omega
 have HV:=Lib.hid hv
 clear hv
 have HLo:=Lib.hid hlo
 clear hlo
 have HHi:=Lib.hid hhi
 clear hhi
 go_enter Tryz.func171,Tryz.ntmps171
 go_wp2_with (first|(go_at_call 67;refine(HV.out _ (by(exact kp))).mono ?_;rintro e w' ⟨rfl,rfl⟩)|fail)
 (go_at_call 130;refine(HLo.out _ (by(exact kp))).mono ?_;rintro e w1 ⟨rfl,hb⟩;have hsz:=hb.size;simp only [World.size_alloc] at hsz;have hz0:w.heap.size<w1.heap.size:=(by omega);have hz1:w.heap.size+1<w1.heap.size:=(by omega);have hz2:w.heap.size+2<w1.heap.size:=(by omega);have y0:=hb.cell (a:=⟨w.heap.size,0,none⟩) (v:=.int .u8 lo.tag) (by simp [go_sem]);have y1:=hb.cell (a:=⟨w.heap.size,1,none⟩) (v:=.int .u32 lo.to) (by simp [go_sem]);have x0:=hb.cell (a:=⟨w.heap.size+1,0,none⟩) (v:=.int .u8 hi.tag) (by simp [go_sem]);have x1:=hb.cell (a:=⟨w.heap.size+1,1,none⟩) (v:=.int .u32 hi.to) (by simp [go_sem]);have z0:=hb.cell (a:=⟨w.heap.size+2,0,none⟩) (v:=.int .u8 0) (by simp [go_sem]);have z1:=hb.cell (a:=⟨w.heap.size+2,1,none⟩) (v:=.int .u32 0) (by simp [go_sem]);have zf:=fun o:Nat=>hb.frz (a:=⟨w.heap.size+2,o,none⟩) (by simp [go_sem]) (by simp [go_sem]);have hk:Keeps w w1:=(by(exact kp)))
 go_wp2_with fail
 (go_at_call 130;refine(HHi.out _ (by(exact kp))).mono ?_;rintro e w1 ⟨rfl,hb⟩;have hsz:=hb.size;have zf:=fun o:Nat=>hb.frz (a:=⟨w.heap.size+2,o,none⟩) (by dsimp only;omega) (zf o);have y0:=hb.cell y0;have y1:=hb.cell y1;have x0:=hb.cell x0;have x1:=hb.cell x1;have z0:=hb.cell z0;have z1:=hb.cell z1;have hz0:w.heap.size<w1.heap.size:=(by omega);have hz1:w.heap.size+1<w1.heap.size:=(by omega);have hz2:w.heap.size+2<w1.heap.size:=(by omega);have hk:Keeps w w1:=(by(exact kp)))
 go_wp2_with fail
 all_goals refine bodyPost_ret (v:=.tuple #[.agg #[.int .u8 0,.int .u32 0],.int .u8 1]) (by simp [results,Tryz.results171,go_sem,hz2,z0,z1]) rfl ⟨rfl,by(exact kp)⟩

theorem cmake_same (sb:Nat)(l n:Int)(lo hi:Edge)(w:World)(hn:n≤16)(hsb:sb<w.heap.size)
  (hv:∀ W,Keeps w W→Calls Tryz.prog 67 #[.pointer (some ⟨sb,0,none⟩)] W fun e w'=>e=.returned (.int .i64 n)∧W=w')
  (h0:0≤l) (h1:l<n)
  (hlo:∀ W,Keeps w W→Calls Tryz.prog 130 #[.pointer (some ⟨sb,0,none⟩),.int .u8 3,.agg #[.int .u8 lo.tag,.int .u32 lo.to],.int .i64 (l+1)] W fun e w'=>e=.returned (.bool true)∧Keeps W w')
  (hhi:∀ W,Keeps w W→Calls Tryz.prog 130 #[.pointer (some ⟨sb,0,none⟩),.int .u8 3,.agg #[.int .u8 hi.tag,.int .u32 hi.to],.int .i64 (l+1)] W fun e w'=>e=.returned (.bool true)∧Keeps W w')
  (hs:lo=hi)
  : Calls Tryz.prog 171 #[.pointer (some ⟨sb,0,none⟩),.int .i64 l,.agg #[.int .u8 lo.tag,.int .u32 lo.to],.agg #[.int .u8 hi.tag,.int .u32 hi.to]] w fun e w'=>e=.returned (.tuple #[.agg #[.int .u8 lo.tag,.int .u32 lo.to],.int .u8 0])∧Keeps w w':=by
 have hsb1:sb<w.heap.size+1:=by omega
 have hsb2:sb<w.heap.size+1+1:=by omega
 have HV:=Lib.hid hv
 clear hv
 have HLo:=Lib.hid hlo
 clear hlo
 have HHi:=Lib.hid hhi
 clear hhi
 have hq:=eql_same lo hi hs
 have HS:=Lib.hid hs
 clear hs
 go_enter Tryz.func171,Tryz.ntmps171
 go_wp2_with (first|(go_at_call 67;refine(HV.out _ (by(exact kp))).mono ?_;rintro e w' ⟨rfl,rfl⟩)|fail)
 (go_at_call 130;refine(HLo.out _ (by(exact kp))).mono ?_;rintro e w1 ⟨rfl,hb⟩;have hsz:=hb.size;simp only [World.size_alloc] at hsz;have hz0:w.heap.size<w1.heap.size:=(by omega);have hz1:w.heap.size+1<w1.heap.size:=(by omega);have hz2:w.heap.size+2<w1.heap.size:=(by omega);have y0:=hb.cell (a:=⟨w.heap.size,0,none⟩) (v:=.int .u8 lo.tag) (by simp [go_sem]);have y1:=hb.cell (a:=⟨w.heap.size,1,none⟩) (v:=.int .u32 lo.to) (by simp [go_sem]);have x0:=hb.cell (a:=⟨w.heap.size+1,0,none⟩) (v:=.int .u8 hi.tag) (by simp [go_sem]);have x1:=hb.cell (a:=⟨w.heap.size+1,1,none⟩) (v:=.int .u32 hi.to) (by simp [go_sem]);have z0:=hb.cell (a:=⟨w.heap.size+2,0,none⟩) (v:=.int .u8 0) (by simp [go_sem]);have z1:=hb.cell (a:=⟨w.heap.size+2,1,none⟩) (v:=.int .u32 0) (by simp [go_sem]);have zf:=fun o:Nat=>hb.frz (a:=⟨w.heap.size+2,o,none⟩) (by simp [go_sem]) (by simp [go_sem]);have hk:Keeps w w1:=(by(exact kp)))
 go_wp2_with fail
 (go_at_call 130;refine(HHi.out _ (by(exact kp))).mono ?_;rintro e w1 ⟨rfl,hb⟩;have hsz:=hb.size;have zf:=fun o:Nat=>hb.frz (a:=⟨w.heap.size+2,o,none⟩) (by dsimp only;omega) (zf o);have y0:=hb.cell y0;have y1:=hb.cell y1;have x0:=hb.cell x0;have x1:=hb.cell x1;have z0:=hb.cell z0;have z1:=hb.cell z1;have hz0:w.heap.size<w1.heap.size:=(by omega);have hz1:w.heap.size+1<w1.heap.size:=(by omega);have hz2:w.heap.size+2<w1.heap.size:=(by omega);have hk:Keeps w w1:=(by(exact kp)))
 go_wp2_with fail
 all_goals refine bodyPost_ret (v:=.tuple #[.agg #[.int .u8 lo.tag,.int .u32 lo.to],.int .u8 0]) (by simp [results,Tryz.results171,go_sem,hz2,z0,z1]) rfl ⟨rfl,by(exact kp)⟩

theorem cmake_none {F:Nat→Prop}(R:World→World→Prop)(sb:Nat)(l n:Int)(lo hi:Edge)(x:Rec)(a b er:Int)(w:World)(hn:n≤16)(hsb:sb<w.heap.size)
  (hv:∀ W,Keeps w W→Calls Tryz.prog 67 #[.pointer (some ⟨sb,0,none⟩)] W fun e w'=>e=.returned (.int .i64 n)∧W=w')
  (h0:0≤l) (h1:l<n)
  (hlo:∀ W,Keeps w W→Calls Tryz.prog 130 #[.pointer (some ⟨sb,0,none⟩),.int .u8 3,.agg #[.int .u8 lo.tag,.int .u32 lo.to],.int .i64 (l+1)] W fun e w'=>e=.returned (.bool true)∧Keeps W w')
  (hhi:∀ W,Keeps w W→Calls Tryz.prog 130 #[.pointer (some ⟨sb,0,none⟩),.int .u8 3,.agg #[.int .u8 hi.tag,.int .u32 hi.to],.int .i64 (l+1)] W fun e w'=>e=.returned (.bool true)∧Keeps W w')
  (hs:¬lo=hi)
  (hg:∀ W,Keeps w W→Calls Tryz.prog 80 #[.pointer (some ⟨sb,0,none⟩),.int .u32 lo.to] W fun e w'=>e=.returned (.tuple #[.agg #[.int .u8 x.form,.int .u8 x.top,.int .u8 x.bot,.int .u8 x.lo.tag,.int .u32 x.lo.to,.int .u8 x.hi.tag,.int .u32 x.hi.to],.bool false])∧Keeps W w')
  (hlt:∀ k,F k→k<w.heap.size) (hf:∀ W,Keeps w W→Calls Tryz.prog 229 #[.pointer (some ⟨sb,0,none⟩),.agg #[.int .u8 3,.int .u8 l,.int .u8 l,.int .u8 lo.tag,.int .u32 lo.to,.int .u8 hi.tag,.int .u32 hi.to]] W fun e w'=>e=.returned (.tuple #[.agg #[.int .u8 a,.int .u32 b],.int .u8 er])∧Upd F W w'∧R W w')
  : Calls Tryz.prog 171 #[.pointer (some ⟨sb,0,none⟩),.int .i64 l,.agg #[.int .u8 lo.tag,.int .u32 lo.to],.agg #[.int .u8 hi.tag,.int .u32 hi.to]] w fun e w'=>e=.returned (.tuple #[.agg #[.int .u8 a,.int .u32 b],.int .u8 er]) ∧ 
   ∃ W W1,Keeps w W∧Upd F W W1∧R W W1∧Upd (fun k=>w.heap.size≤k∧k<W.heap.size) W1 w':=by
 have hsb1:sb<w.heap.size+1:=by omega
 have hsb2:sb<w.heap.size+1+1:=by omega
 have HV:=Lib.hid hv
 clear hv
 have HLo:=Lib.hid hlo
 clear hlo
 have HHi:=Lib.hid hhi
 clear hhi
 have HF:=Lib.hid hf
 have nF:∀ k,w.heap.size≤k→¬F k:=fun k hk h=>by have:=hlt k h;omega
 have n2:=nF (w.heap.size+2) (by omega)
 clear hf hlt nF
 have hq:=eql_other lo hi hs
 have HS:=Lib.hid hs
 clear hs
 have HG:=Lib.hid hg
 clear hg
 go_enter Tryz.func171,Tryz.ntmps171
 go_wp2_with (first|(go_at_call 67;refine(HV.out _ (by(exact kp))).mono ?_;rintro e w' ⟨rfl,rfl⟩)|fail)
 (go_at_call 130;refine(HLo.out _ (by(exact kp))).mono ?_;rintro e w1 ⟨rfl,hb⟩;have hsz:=hb.size;simp only [World.size_alloc] at hsz;have hz0:w.heap.size<w1.heap.size:=(by omega);have hz1:w.heap.size+1<w1.heap.size:=(by omega);have hz2:w.heap.size+2<w1.heap.size:=(by omega);have y0:=hb.cell (a:=⟨w.heap.size,0,none⟩) (v:=.int .u8 lo.tag) (by simp [go_sem]);have y1:=hb.cell (a:=⟨w.heap.size,1,none⟩) (v:=.int .u32 lo.to) (by simp [go_sem]);have x0:=hb.cell (a:=⟨w.heap.size+1,0,none⟩) (v:=.int .u8 hi.tag) (by simp [go_sem]);have x1:=hb.cell (a:=⟨w.heap.size+1,1,none⟩) (v:=.int .u32 hi.to) (by simp [go_sem]);have z0:=hb.cell (a:=⟨w.heap.size+2,0,none⟩) (v:=.int .u8 0) (by simp [go_sem]);have z1:=hb.cell (a:=⟨w.heap.size+2,1,none⟩) (v:=.int .u32 0) (by simp [go_sem]);have zf:=fun o:Nat=>hb.frz (a:=⟨w.heap.size+2,o,none⟩) (by simp [go_sem]) (by simp [go_sem]);have hk:Keeps w w1:=(by(exact kp)))
 go_wp2_with fail
 (go_at_call 130;refine(HHi.out _ (by(exact kp))).mono ?_;rintro e w1 ⟨rfl,hb⟩;have hsz:=hb.size;have zf:=fun o:Nat=>hb.frz (a:=⟨w.heap.size+2,o,none⟩) (by dsimp only;omega) (zf o);have y0:=hb.cell y0;have y1:=hb.cell y1;have x0:=hb.cell x0;have x1:=hb.cell x1;have z0:=hb.cell z0;have z1:=hb.cell z1;have hz0:w.heap.size<w1.heap.size:=(by omega);have hz1:w.heap.size+1<w1.heap.size:=(by omega);have hz2:w.heap.size+2<w1.heap.size:=(by omega);have hk:Keeps w w1:=(by(exact kp)))
 go_wp2_with fail
 (go_at_call 80;refine(HG.out _ (by(exact kp))).mono ?_;rintro e w2 ⟨rfl,hb2⟩;have hs2:=hb2.size;simp only [World.size_alloc] at hs2;have t0:=hb2.cell (a:=⟨w1.heap.size,0,none⟩) (v:=.int .u8 3) (by simp [go_sem]);have t1:=hb2.cell (a:=⟨w1.heap.size,1,none⟩) (v:=.int .u8 l) (by simp [go_sem]);have t2:=hb2.cell (a:=⟨w1.heap.size,2,none⟩) (v:=.int .u8 l) (by simp [go_sem]);have t3:=hb2.cell (a:=⟨w1.heap.size,3,none⟩) (v:=.int .u8 lo.tag) (by simp [go_sem]);have t4:=hb2.cell (a:=⟨w1.heap.size,4,none⟩) (v:=.int .u32 lo.to) (by simp [go_sem]);have t5:=hb2.cell (a:=⟨w1.heap.size,5,none⟩) (v:=.int .u8 hi.tag) (by simp [go_sem]);have t6:=hb2.cell (a:=⟨w1.heap.size,6,none⟩) (v:=.int .u32 hi.to) (by simp [go_sem]);have tf:=fun o:Nat=>hb2.frz (a:=⟨w1.heap.size,o,none⟩) (by simp [go_sem]) (by simp [go_sem]);have hb3:Keeps w1 w2:=((Keeps.refl _).alloc _).trans hb2;have zf:=fun o:Nat=>hb3.frz (a:=⟨w.heap.size+2,o,none⟩) (by dsimp only;omega) (zf o);have y0:=hb3.cell y0;have y1:=hb3.cell y1;have x0:=hb3.cell x0;have x1:=hb3.cell x1;have z0:=hb3.cell z0;have z1:=hb3.cell z1;have hz0:w.heap.size<w2.heap.size:=(by omega);have hz1:w.heap.size+1<w2.heap.size:=(by omega);have hz2:w.heap.size+2<w2.heap.size:=(by omega);have hz3:w1.heap.size<w2.heap.size:=(by omega);have hk2:Keeps w w2:=hk.trans hb3)
 all_goals go_wp2_with (first|(go_at_call 229;refine(HF.out _ (by(exact kp))).mono ?_;rintro e w3 ⟨rfl,hu,hR⟩;have hs3:=hu.size;(try simp only [World.size_alloc,World.size_setCell,World.size_drew] at hs3);have v0:=hu.cell (a:=⟨w.heap.size+2,0,none⟩) n2 (v:=.int .u8 0) (by simp [go_sem,hz2,z0]);have v1:=hu.cell (a:=⟨w.heap.size+2,1,none⟩) n2 (v:=.int .u32 0) (by simp [go_sem,hz2,z1]);have vf:=fun o:Nat=>hu.frozen (a:=⟨w.heap.size+2,o,none⟩) (by(try simp only [World.size_alloc,World.size_setCell,World.size_drew]);omega) n2 (by(try simp only [World.frozen?_setCell,World.frozen?_drew,frozen?_alloc_cells]);exact zf o);have hv2:w.heap.size+2<w3.heap.size:=(by omega))|fail)
 all_goals refine bodyPost_ret (v:=.tuple #[.agg #[.int .u8 a,.int .u32 b],.int .u8 er]) (by simp [results,Tryz.results171,go_sem,hv2,v0,v1]) rfl ⟨rfl,_,w3,by(exact kp),hu,hR,?_⟩
 all_goals(try simp only [World.size_alloc,World.size_setCell,World.size_drew])
 all_goals(repeat (first|with_reducible exact Upd.refl _ _|exact Upd.mono hu4 (fun k _ hk=>⟨hk.1,by(try simp only [World.size_alloc,World.size_setCell,World.size_drew]);have:=hk.2;omega⟩)|refine Upd.setCell ?_ (Or.inl (by dsimp only;omega)) _|refine Upd.setCell ?_ (Or.inr (by dsimp only;omega)) _|with_reducible refine Upd.drewN ?_ _|with_reducible refine Upd.drew ?_|with_reducible refine Upd.alloc ?_ _))

theorem cmake_top {F:Nat→Prop}(R:World→World→Prop)(sb:Nat)(l n:Int)(lo hi:Edge)(x:Rec)(a b er:Int)(w:World)(hn:n≤16)(hsb:sb<w.heap.size)
  (hv:∀ W,Keeps w W→Calls Tryz.prog 67 #[.pointer (some ⟨sb,0,none⟩)] W fun e w'=>e=.returned (.int .i64 n)∧W=w')
  (h0:0≤l) (h1:l<n)
  (hlo:∀ W,Keeps w W→Calls Tryz.prog 130 #[.pointer (some ⟨sb,0,none⟩),.int .u8 3,.agg #[.int .u8 lo.tag,.int .u32 lo.to],.int .i64 (l+1)] W fun e w'=>e=.returned (.bool true)∧Keeps W w')
  (hhi:∀ W,Keeps w W→Calls Tryz.prog 130 #[.pointer (some ⟨sb,0,none⟩),.int .u8 3,.agg #[.int .u8 hi.tag,.int .u32 hi.to],.int .i64 (l+1)] W fun e w'=>e=.returned (.bool true)∧Keeps W w')
  (hs:¬lo=hi)
  (hx:¬x.top=l+1) (hx1:0≤x.top) (hx2:x.top≤255)
  (hg:∀ W,Keeps w W→Calls Tryz.prog 80 #[.pointer (some ⟨sb,0,none⟩),.int .u32 lo.to] W fun e w'=>e=.returned (.tuple #[.agg #[.int .u8 x.form,.int .u8 x.top,.int .u8 x.bot,.int .u8 x.lo.tag,.int .u32 x.lo.to,.int .u8 x.hi.tag,.int .u32 x.hi.to],.bool true])∧Keeps W w')
  (hlt:∀ k,F k→k<w.heap.size) (hf:∀ W,Keeps w W→Calls Tryz.prog 229 #[.pointer (some ⟨sb,0,none⟩),.agg #[.int .u8 3,.int .u8 l,.int .u8 l,.int .u8 lo.tag,.int .u32 lo.to,.int .u8 hi.tag,.int .u32 hi.to]] W fun e w'=>e=.returned (.tuple #[.agg #[.int .u8 a,.int .u32 b],.int .u8 er])∧Upd F W w'∧R W w')
  : Calls Tryz.prog 171 #[.pointer (some ⟨sb,0,none⟩),.int .i64 l,.agg #[.int .u8 lo.tag,.int .u32 lo.to],.agg #[.int .u8 hi.tag,.int .u32 hi.to]] w fun e w'=>e=.returned (.tuple #[.agg #[.int .u8 a,.int .u32 b],.int .u8 er]) ∧ 
   ∃ W W1,Keeps w W∧Upd F W W1∧R W W1∧Upd (fun k=>w.heap.size≤k∧k<W.heap.size) W1 w':=by
 have hsb1:sb<w.heap.size+1:=by omega
 have hsb2:sb<w.heap.size+1+1:=by omega
 have HV:=Lib.hid hv
 clear hv
 have HLo:=Lib.hid hlo
 clear hlo
 have HHi:=Lib.hid hhi
 clear hhi
 have HF:=Lib.hid hf
 have nF:∀ k,w.heap.size≤k→¬F k:=fun k hk h=>by have:=hlt k h;omega
 have n2:=nF (w.heap.size+2) (by omega)
 clear hf hlt nF
 have hq:=eql_other lo hi hs
 have HS:=Lib.hid hs
 clear hs
 have hxe:(x.top==l+1)=false:=by simp [hx]
 have HG:=Lib.hid hg
 clear hg
 go_enter Tryz.func171,Tryz.ntmps171
 go_wp2_with (first|(go_at_call 67;refine(HV.out _ (by(exact kp))).mono ?_;rintro e w' ⟨rfl,rfl⟩)|fail)
 (go_at_call 130;refine(HLo.out _ (by(exact kp))).mono ?_;rintro e w1 ⟨rfl,hb⟩;have hsz:=hb.size;simp only [World.size_alloc] at hsz;have hz0:w.heap.size<w1.heap.size:=(by omega);have hz1:w.heap.size+1<w1.heap.size:=(by omega);have hz2:w.heap.size+2<w1.heap.size:=(by omega);have y0:=hb.cell (a:=⟨w.heap.size,0,none⟩) (v:=.int .u8 lo.tag) (by simp [go_sem]);have y1:=hb.cell (a:=⟨w.heap.size,1,none⟩) (v:=.int .u32 lo.to) (by simp [go_sem]);have x0:=hb.cell (a:=⟨w.heap.size+1,0,none⟩) (v:=.int .u8 hi.tag) (by simp [go_sem]);have x1:=hb.cell (a:=⟨w.heap.size+1,1,none⟩) (v:=.int .u32 hi.to) (by simp [go_sem]);have z0:=hb.cell (a:=⟨w.heap.size+2,0,none⟩) (v:=.int .u8 0) (by simp [go_sem]);have z1:=hb.cell (a:=⟨w.heap.size+2,1,none⟩) (v:=.int .u32 0) (by simp [go_sem]);have zf:=fun o:Nat=>hb.frz (a:=⟨w.heap.size+2,o,none⟩) (by simp [go_sem]) (by simp [go_sem]);have hk:Keeps w w1:=(by(exact kp)))
 go_wp2_with fail
 (go_at_call 130;refine(HHi.out _ (by(exact kp))).mono ?_;rintro e w1 ⟨rfl,hb⟩;have hsz:=hb.size;have zf:=fun o:Nat=>hb.frz (a:=⟨w.heap.size+2,o,none⟩) (by dsimp only;omega) (zf o);have y0:=hb.cell y0;have y1:=hb.cell y1;have x0:=hb.cell x0;have x1:=hb.cell x1;have z0:=hb.cell z0;have z1:=hb.cell z1;have hz0:w.heap.size<w1.heap.size:=(by omega);have hz1:w.heap.size+1<w1.heap.size:=(by omega);have hz2:w.heap.size+2<w1.heap.size:=(by omega);have hk:Keeps w w1:=(by(exact kp)))
 go_wp2_with fail
 (go_at_call 80;refine(HG.out _ (by(exact kp))).mono ?_;rintro e w2 ⟨rfl,hb2⟩;have hs2:=hb2.size;simp only [World.size_alloc] at hs2;have t0:=hb2.cell (a:=⟨w1.heap.size,0,none⟩) (v:=.int .u8 3) (by simp [go_sem]);have t1:=hb2.cell (a:=⟨w1.heap.size,1,none⟩) (v:=.int .u8 l) (by simp [go_sem]);have t2:=hb2.cell (a:=⟨w1.heap.size,2,none⟩) (v:=.int .u8 l) (by simp [go_sem]);have t3:=hb2.cell (a:=⟨w1.heap.size,3,none⟩) (v:=.int .u8 lo.tag) (by simp [go_sem]);have t4:=hb2.cell (a:=⟨w1.heap.size,4,none⟩) (v:=.int .u32 lo.to) (by simp [go_sem]);have t5:=hb2.cell (a:=⟨w1.heap.size,5,none⟩) (v:=.int .u8 hi.tag) (by simp [go_sem]);have t6:=hb2.cell (a:=⟨w1.heap.size,6,none⟩) (v:=.int .u32 hi.to) (by simp [go_sem]);have tf:=fun o:Nat=>hb2.frz (a:=⟨w1.heap.size,o,none⟩) (by simp [go_sem]) (by simp [go_sem]);have hb3:Keeps w1 w2:=((Keeps.refl _).alloc _).trans hb2;have zf:=fun o:Nat=>hb3.frz (a:=⟨w.heap.size+2,o,none⟩) (by dsimp only;omega) (zf o);have y0:=hb3.cell y0;have y1:=hb3.cell y1;have x0:=hb3.cell x0;have x1:=hb3.cell x1;have z0:=hb3.cell z0;have z1:=hb3.cell z1;have hz0:w.heap.size<w2.heap.size:=(by omega);have hz1:w.heap.size+1<w2.heap.size:=(by omega);have hz2:w.heap.size+2<w2.heap.size:=(by omega);have hz3:w1.heap.size<w2.heap.size:=(by omega);have hk2:Keeps w w2:=hk.trans hb3)
 all_goals go_wp2_with (first|(go_at_call 229;refine(HF.out _ (by(exact kp))).mono ?_;rintro e w3 ⟨rfl,hu,hR⟩;have hs3:=hu.size;(try simp only [World.size_alloc,World.size_setCell,World.size_drew] at hs3);have v0:=hu.cell (a:=⟨w.heap.size+2,0,none⟩) n2 (v:=.int .u8 0) (by simp [go_sem,hz2,z0]);have v1:=hu.cell (a:=⟨w.heap.size+2,1,none⟩) n2 (v:=.int .u32 0) (by simp [go_sem,hz2,z1]);have vf:=fun o:Nat=>hu.frozen (a:=⟨w.heap.size+2,o,none⟩) (by(try simp only [World.size_alloc,World.size_setCell,World.size_drew]);omega) n2 (by(try simp only [World.frozen?_setCell,World.frozen?_drew,frozen?_alloc_cells]);exact zf o);have hv2:w.heap.size+2<w3.heap.size:=(by omega))|fail)
 all_goals refine bodyPost_ret (v:=.tuple #[.agg #[.int .u8 a,.int .u32 b],.int .u8 er]) (by simp [results,Tryz.results171,go_sem,hv2,v0,v1]) rfl ⟨rfl,_,w3,by(exact kp),hu,hR,?_⟩
 all_goals(try simp only [World.size_alloc,World.size_setCell,World.size_drew])
 all_goals(repeat (first|with_reducible exact Upd.refl _ _|exact Upd.mono hu4 (fun k _ hk=>⟨hk.1,by(try simp only [World.size_alloc,World.size_setCell,World.size_drew]);have:=hk.2;omega⟩)|refine Upd.setCell ?_ (Or.inl (by dsimp only;omega)) _|refine Upd.setCell ?_ (Or.inr (by dsimp only;omega)) _|with_reducible refine Upd.drewN ?_ _|with_reducible refine Upd.drew ?_|with_reducible refine Upd.alloc ?_ _))

theorem cmake_hino {F:Nat→Prop}(R:World→World→Prop)(sb:Nat)(l n:Int)(lo hi:Edge)(x:Rec)(a b er:Int)(w:World)(hn:n≤16)(hsb:sb<w.heap.size)
  (hv:∀ W,Keeps w W→Calls Tryz.prog 67 #[.pointer (some ⟨sb,0,none⟩)] W fun e w'=>e=.returned (.int .i64 n)∧W=w')
  (h0:0≤l) (h1:l<n)
  (hlo:∀ W,Keeps w W→Calls Tryz.prog 130 #[.pointer (some ⟨sb,0,none⟩),.int .u8 3,.agg #[.int .u8 lo.tag,.int .u32 lo.to],.int .i64 (l+1)] W fun e w'=>e=.returned (.bool true)∧Keeps W w')
  (hhi:∀ W,Keeps w W→Calls Tryz.prog 130 #[.pointer (some ⟨sb,0,none⟩),.int .u8 3,.agg #[.int .u8 hi.tag,.int .u32 hi.to],.int .i64 (l+1)] W fun e w'=>e=.returned (.bool true)∧Keeps W w')
  (hs:¬lo=hi)
  (hx:¬x.hi=hi)
  (hg:∀ W,Keeps w W→Calls Tryz.prog 80 #[.pointer (some ⟨sb,0,none⟩),.int .u32 lo.to] W fun e w'=>e=.returned (.tuple #[.agg #[.int .u8 x.form,.int .u8 (l+1),.int .u8 x.bot,.int .u8 x.lo.tag,.int .u32 x.lo.to,.int .u8 x.hi.tag,.int .u32 x.hi.to],.bool true])∧Keeps W w')
  (hlt:∀ k,F k→k<w.heap.size) (hf:∀ W,Keeps w W→Calls Tryz.prog 229 #[.pointer (some ⟨sb,0,none⟩),.agg #[.int .u8 3,.int .u8 l,.int .u8 l,.int .u8 lo.tag,.int .u32 lo.to,.int .u8 hi.tag,.int .u32 hi.to]] W fun e w'=>e=.returned (.tuple #[.agg #[.int .u8 a,.int .u32 b],.int .u8 er])∧Upd F W w'∧R W w')
  : Calls Tryz.prog 171 #[.pointer (some ⟨sb,0,none⟩),.int .i64 l,.agg #[.int .u8 lo.tag,.int .u32 lo.to],.agg #[.int .u8 hi.tag,.int .u32 hi.to]] w fun e w'=>e=.returned (.tuple #[.agg #[.int .u8 a,.int .u32 b],.int .u8 er]) ∧ 
   ∃ W W1,Keeps w W∧Upd F W W1∧R W W1∧Upd (fun k=>w.heap.size≤k∧k<W.heap.size) W1 w':=by
 have hsb1:sb<w.heap.size+1:=by omega
 have hsb2:sb<w.heap.size+1+1:=by omega
 have HV:=Lib.hid hv
 clear hv
 have HLo:=Lib.hid hlo
 clear hlo
 have HHi:=Lib.hid hhi
 clear hhi
 have HF:=Lib.hid hf
 have nF:∀ k,w.heap.size≤k→¬F k:=fun k hk h=>by have:=hlt k h;omega
 have n2:=nF (w.heap.size+2) (by omega)
 clear hf hlt nF
 have hq:=eql_other lo hi hs
 have HS:=Lib.hid hs
 clear hs
 have hq2:=eql_other x.hi hi hx
 have HX:=Lib.hid hx
 clear hx
 have HG:=Lib.hid hg
 clear hg
 go_enter Tryz.func171,Tryz.ntmps171
 go_wp2_with (first|(go_at_call 67;refine(HV.out _ (by(exact kp))).mono ?_;rintro e w' ⟨rfl,rfl⟩)|fail)
 (go_at_call 130;refine(HLo.out _ (by(exact kp))).mono ?_;rintro e w1 ⟨rfl,hb⟩;have hsz:=hb.size;simp only [World.size_alloc] at hsz;have hz0:w.heap.size<w1.heap.size:=(by omega);have hz1:w.heap.size+1<w1.heap.size:=(by omega);have hz2:w.heap.size+2<w1.heap.size:=(by omega);have y0:=hb.cell (a:=⟨w.heap.size,0,none⟩) (v:=.int .u8 lo.tag) (by simp [go_sem]);have y1:=hb.cell (a:=⟨w.heap.size,1,none⟩) (v:=.int .u32 lo.to) (by simp [go_sem]);have x0:=hb.cell (a:=⟨w.heap.size+1,0,none⟩) (v:=.int .u8 hi.tag) (by simp [go_sem]);have x1:=hb.cell (a:=⟨w.heap.size+1,1,none⟩) (v:=.int .u32 hi.to) (by simp [go_sem]);have z0:=hb.cell (a:=⟨w.heap.size+2,0,none⟩) (v:=.int .u8 0) (by simp [go_sem]);have z1:=hb.cell (a:=⟨w.heap.size+2,1,none⟩) (v:=.int .u32 0) (by simp [go_sem]);have zf:=fun o:Nat=>hb.frz (a:=⟨w.heap.size+2,o,none⟩) (by simp [go_sem]) (by simp [go_sem]);have hk:Keeps w w1:=(by(exact kp)))
 go_wp2_with fail
 (go_at_call 130;refine(HHi.out _ (by(exact kp))).mono ?_;rintro e w1 ⟨rfl,hb⟩;have hsz:=hb.size;have zf:=fun o:Nat=>hb.frz (a:=⟨w.heap.size+2,o,none⟩) (by dsimp only;omega) (zf o);have y0:=hb.cell y0;have y1:=hb.cell y1;have x0:=hb.cell x0;have x1:=hb.cell x1;have z0:=hb.cell z0;have z1:=hb.cell z1;have hz0:w.heap.size<w1.heap.size:=(by omega);have hz1:w.heap.size+1<w1.heap.size:=(by omega);have hz2:w.heap.size+2<w1.heap.size:=(by omega);have hk:Keeps w w1:=(by(exact kp)))
 go_wp2_with fail
 (go_at_call 80;refine(HG.out _ (by(exact kp))).mono ?_;rintro e w2 ⟨rfl,hb2⟩;have hs2:=hb2.size;simp only [World.size_alloc] at hs2;have t0:=hb2.cell (a:=⟨w1.heap.size,0,none⟩) (v:=.int .u8 3) (by simp [go_sem]);have t1:=hb2.cell (a:=⟨w1.heap.size,1,none⟩) (v:=.int .u8 l) (by simp [go_sem]);have t2:=hb2.cell (a:=⟨w1.heap.size,2,none⟩) (v:=.int .u8 l) (by simp [go_sem]);have t3:=hb2.cell (a:=⟨w1.heap.size,3,none⟩) (v:=.int .u8 lo.tag) (by simp [go_sem]);have t4:=hb2.cell (a:=⟨w1.heap.size,4,none⟩) (v:=.int .u32 lo.to) (by simp [go_sem]);have t5:=hb2.cell (a:=⟨w1.heap.size,5,none⟩) (v:=.int .u8 hi.tag) (by simp [go_sem]);have t6:=hb2.cell (a:=⟨w1.heap.size,6,none⟩) (v:=.int .u32 hi.to) (by simp [go_sem]);have tf:=fun o:Nat=>hb2.frz (a:=⟨w1.heap.size,o,none⟩) (by simp [go_sem]) (by simp [go_sem]);have hb3:Keeps w1 w2:=((Keeps.refl _).alloc _).trans hb2;have zf:=fun o:Nat=>hb3.frz (a:=⟨w.heap.size+2,o,none⟩) (by dsimp only;omega) (zf o);have y0:=hb3.cell y0;have y1:=hb3.cell y1;have x0:=hb3.cell x0;have x1:=hb3.cell x1;have z0:=hb3.cell z0;have z1:=hb3.cell z1;have hz0:w.heap.size<w2.heap.size:=(by omega);have hz1:w.heap.size+1<w2.heap.size:=(by omega);have hz2:w.heap.size+2<w2.heap.size:=(by omega);have hz3:w1.heap.size<w2.heap.size:=(by omega);have hk2:Keeps w w2:=hk.trans hb3)
 all_goals go_wp2_with (first|(go_at_call 229;refine(HF.out _ (by(exact kp))).mono ?_;rintro e w3 ⟨rfl,hu,hR⟩;have hs3:=hu.size;(try simp only [World.size_alloc,World.size_setCell,World.size_drew] at hs3);have v0:=hu.cell (a:=⟨w.heap.size+2,0,none⟩) n2 (v:=.int .u8 0) (by simp [go_sem,hz2,z0]);have v1:=hu.cell (a:=⟨w.heap.size+2,1,none⟩) n2 (v:=.int .u32 0) (by simp [go_sem,hz2,z1]);have vf:=fun o:Nat=>hu.frozen (a:=⟨w.heap.size+2,o,none⟩) (by(try simp only [World.size_alloc,World.size_setCell,World.size_drew]);omega) n2 (by(try simp only [World.frozen?_setCell,World.frozen?_drew,frozen?_alloc_cells]);exact zf o);have hv2:w.heap.size+2<w3.heap.size:=(by omega))|fail)
 all_goals refine bodyPost_ret (v:=.tuple #[.agg #[.int .u8 a,.int .u32 b],.int .u8 er]) (by simp [results,Tryz.results171,go_sem,hv2,v0,v1]) rfl ⟨rfl,_,w3,by(exact kp),hu,hR,?_⟩
 all_goals(try simp only [World.size_alloc,World.size_setCell,World.size_drew])
 all_goals(repeat (first|with_reducible exact Upd.refl _ _|exact Upd.mono hu4 (fun k _ hk=>⟨hk.1,by(try simp only [World.size_alloc,World.size_setCell,World.size_drew]);have:=hk.2;omega⟩)|refine Upd.setCell ?_ (Or.inl (by dsimp only;omega)) _|refine Upd.setCell ?_ (Or.inr (by dsimp only;omega)) _|with_reducible refine Upd.drewN ?_ _|with_reducible refine Upd.drew ?_|with_reducible refine Upd.alloc ?_ _))

theorem cmake_chain {F:Nat→Prop}(R:World→World→Prop)(sb:Nat)(l n:Int)(lo hi:Edge)(x:Rec)(a b er:Int)(w:World)(hn:n≤16)(hsb:sb<w.heap.size)
  (hv:∀ W,Keeps w W→Calls Tryz.prog 67 #[.pointer (some ⟨sb,0,none⟩)] W fun e w'=>e=.returned (.int .i64 n)∧W=w')
  (h0:0≤l) (h1:l<n)
  (hlo:∀ W,Keeps w W→Calls Tryz.prog 130 #[.pointer (some ⟨sb,0,none⟩),.int .u8 3,.agg #[.int .u8 lo.tag,.int .u32 lo.to],.int .i64 (l+1)] W fun e w'=>e=.returned (.bool true)∧Keeps W w')
  (hhi:∀ W,Keeps w W→Calls Tryz.prog 130 #[.pointer (some ⟨sb,0,none⟩),.int .u8 3,.agg #[.int .u8 hi.tag,.int .u32 hi.to],.int .i64 (l+1)] W fun e w'=>e=.returned (.bool true)∧Keeps W w')
  (hs:¬lo=hi)
  (hg:∀ W,Keeps w W→Calls Tryz.prog 80 #[.pointer (some ⟨sb,0,none⟩),.int .u32 lo.to] W fun e w'=>e=.returned (.tuple #[.agg #[.int .u8 x.form,.int .u8 (l+1),.int .u8 x.bot,.int .u8 x.lo.tag,.int .u32 x.lo.to,.int .u8 hi.tag,.int .u32 hi.to],.bool true])∧Keeps W w')
  (hlt:∀ k,F k→k<w.heap.size) (hf:∀ W,Keeps w W→Calls Tryz.prog 229 #[.pointer (some ⟨sb,0,none⟩),.agg #[.int .u8 3,.int .u8 l,.int .u8 x.bot,.int .u8 x.lo.tag,.int .u32 x.lo.to,.int .u8 hi.tag,.int .u32 hi.to]] W fun e w'=>e=.returned (.tuple #[.agg #[.int .u8 a,.int .u32 b],.int .u8 er])∧Upd F W w'∧R W w')
  : Calls Tryz.prog 171 #[.pointer (some ⟨sb,0,none⟩),.int .i64 l,.agg #[.int .u8 lo.tag,.int .u32 lo.to],.agg #[.int .u8 hi.tag,.int .u32 hi.to]] w fun e w'=>e=.returned (.tuple #[.agg #[.int .u8 a,.int .u32 b],.int .u8 er]) ∧ 
   ∃ W W1,Keeps w W∧Upd F W W1∧R W W1∧Upd (fun k=>w.heap.size≤k∧k<W.heap.size) W1 w':=by
 have hsb1:sb<w.heap.size+1:=by omega
 have hsb2:sb<w.heap.size+1+1:=by omega
 have HV:=Lib.hid hv
 clear hv
 have HLo:=Lib.hid hlo
 clear hlo
 have HHi:=Lib.hid hhi
 clear hhi
 have HF:=Lib.hid hf
 have nF:∀ k,w.heap.size≤k→¬F k:=fun k hk h=>by have:=hlt k h;omega
 have n2:=nF (w.heap.size+2) (by omega)
 clear hf hlt nF
 have hq:=eql_other lo hi hs
 have HS:=Lib.hid hs
 clear hs
 have hq2:=eql_same hi hi rfl
 have HG:=Lib.hid hg
 clear hg
 go_enter Tryz.func171,Tryz.ntmps171
 go_wp2_with (first|(go_at_call 67;refine(HV.out _ (by(exact kp))).mono ?_;rintro e w' ⟨rfl,rfl⟩)|fail)
 (go_at_call 130;refine(HLo.out _ (by(exact kp))).mono ?_;rintro e w1 ⟨rfl,hb⟩;have hsz:=hb.size;simp only [World.size_alloc] at hsz;have hz0:w.heap.size<w1.heap.size:=(by omega);have hz1:w.heap.size+1<w1.heap.size:=(by omega);have hz2:w.heap.size+2<w1.heap.size:=(by omega);have y0:=hb.cell (a:=⟨w.heap.size,0,none⟩) (v:=.int .u8 lo.tag) (by simp [go_sem]);have y1:=hb.cell (a:=⟨w.heap.size,1,none⟩) (v:=.int .u32 lo.to) (by simp [go_sem]);have x0:=hb.cell (a:=⟨w.heap.size+1,0,none⟩) (v:=.int .u8 hi.tag) (by simp [go_sem]);have x1:=hb.cell (a:=⟨w.heap.size+1,1,none⟩) (v:=.int .u32 hi.to) (by simp [go_sem]);have z0:=hb.cell (a:=⟨w.heap.size+2,0,none⟩) (v:=.int .u8 0) (by simp [go_sem]);have z1:=hb.cell (a:=⟨w.heap.size+2,1,none⟩) (v:=.int .u32 0) (by simp [go_sem]);have zf:=fun o:Nat=>hb.frz (a:=⟨w.heap.size+2,o,none⟩) (by simp [go_sem]) (by simp [go_sem]);have hk:Keeps w w1:=(by(exact kp)))
 go_wp2_with fail
 (go_at_call 130;refine(HHi.out _ (by(exact kp))).mono ?_;rintro e w1 ⟨rfl,hb⟩;have hsz:=hb.size;have zf:=fun o:Nat=>hb.frz (a:=⟨w.heap.size+2,o,none⟩) (by dsimp only;omega) (zf o);have y0:=hb.cell y0;have y1:=hb.cell y1;have x0:=hb.cell x0;have x1:=hb.cell x1;have z0:=hb.cell z0;have z1:=hb.cell z1;have hz0:w.heap.size<w1.heap.size:=(by omega);have hz1:w.heap.size+1<w1.heap.size:=(by omega);have hz2:w.heap.size+2<w1.heap.size:=(by omega);have hk:Keeps w w1:=(by(exact kp)))
 go_wp2_with fail
 (go_at_call 80;refine(HG.out _ (by(exact kp))).mono ?_;rintro e w2 ⟨rfl,hb2⟩;have hs2:=hb2.size;simp only [World.size_alloc] at hs2;have t0:=hb2.cell (a:=⟨w1.heap.size,0,none⟩) (v:=.int .u8 3) (by simp [go_sem]);have t1:=hb2.cell (a:=⟨w1.heap.size,1,none⟩) (v:=.int .u8 l) (by simp [go_sem]);have t2:=hb2.cell (a:=⟨w1.heap.size,2,none⟩) (v:=.int .u8 l) (by simp [go_sem]);have t3:=hb2.cell (a:=⟨w1.heap.size,3,none⟩) (v:=.int .u8 lo.tag) (by simp [go_sem]);have t4:=hb2.cell (a:=⟨w1.heap.size,4,none⟩) (v:=.int .u32 lo.to) (by simp [go_sem]);have t5:=hb2.cell (a:=⟨w1.heap.size,5,none⟩) (v:=.int .u8 hi.tag) (by simp [go_sem]);have t6:=hb2.cell (a:=⟨w1.heap.size,6,none⟩) (v:=.int .u32 hi.to) (by simp [go_sem]);have tf:=fun o:Nat=>hb2.frz (a:=⟨w1.heap.size,o,none⟩) (by simp [go_sem]) (by simp [go_sem]);have hb3:Keeps w1 w2:=((Keeps.refl _).alloc _).trans hb2;have zf:=fun o:Nat=>hb3.frz (a:=⟨w.heap.size+2,o,none⟩) (by dsimp only;omega) (zf o);have y0:=hb3.cell y0;have y1:=hb3.cell y1;have x0:=hb3.cell x0;have x1:=hb3.cell x1;have z0:=hb3.cell z0;have z1:=hb3.cell z1;have hz0:w.heap.size<w2.heap.size:=(by omega);have hz1:w.heap.size+1<w2.heap.size:=(by omega);have hz2:w.heap.size+2<w2.heap.size:=(by omega);have hz3:w1.heap.size<w2.heap.size:=(by omega);have hk2:Keeps w w2:=hk.trans hb3)
 go_wp2_with fail
 go_region
 all_goals go_wp2_with (first|(go_at_call 229;refine(HF.out _ (by(exact kp))).mono ?_;rintro e w3 ⟨rfl,hu,hR⟩;have hs3:=hu.size;(try simp only [World.size_alloc,World.size_setCell,World.size_drew] at hs3);have v0:=hu.cell (a:=⟨w.heap.size+2,0,none⟩) n2 (v:=.int .u8 0) (by simp [go_sem,hz2,z0]);have v1:=hu.cell (a:=⟨w.heap.size+2,1,none⟩) n2 (v:=.int .u32 0) (by simp [go_sem,hz2,z1]);have vf:=fun o:Nat=>hu.frozen (a:=⟨w.heap.size+2,o,none⟩) (by(try simp only [World.size_alloc,World.size_setCell,World.size_drew]);omega) n2 (by(try simp only [World.frozen?_setCell,World.frozen?_drew,frozen?_alloc_cells]);exact zf o);have hv2:w.heap.size+2<w3.heap.size:=(by omega))|fail)
 all_goals refine bodyPost_ret (v:=.tuple #[.agg #[.int .u8 a,.int .u32 b],.int .u8 er]) (by simp [results,Tryz.results171,go_sem,hv2,v0,v1]) rfl ⟨rfl,_,w3,by(exact kp),hu,hR,?_⟩
 all_goals(try simp only [World.size_alloc,World.size_setCell,World.size_drew])
 all_goals(repeat (first|with_reducible exact Upd.refl _ _|exact Upd.mono hu4 (fun k _ hk=>⟨hk.1,by(try simp only [World.size_alloc,World.size_setCell,World.size_drew]);have:=hk.2;omega⟩)|refine Upd.setCell ?_ (Or.inl (by dsimp only;omega)) _|refine Upd.setCell ?_ (Or.inr (by dsimp only;omega)) _|with_reducible refine Upd.drewN ?_ _|with_reducible refine Upd.drew ?_|with_reducible refine Upd.alloc ?_ _))

end Go.Proofs.YtpgcbmbnognieaaGreat
