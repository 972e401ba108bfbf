/-
  The walks of tbdd.Make and ramageref16.Make (printed by wip/mk_make.py).
-/
import Derived.Test.YtpgcbmbnognieaaGreatPFoundA
namespace Go.Proofs.YtpgcbmbnognieaaGreat
set_option maxRecDepth 1000000
set_option maxHeartbeats 8000000
set_option linter.unusedSimpArgs false
set_option linter.unusedVariables false
open Go.RowKit

theorem eql_edge_same (x y:Edge)(h:x=y)(W:World):(binOp .eql 25 (.agg #[.int .u8 x.tag,.int .u32 x.to]) (.agg #[.int .u8 y.tag,.int .u32 y.to])).run Tryz.prog W=.ok (.bool true) W:=by rw [run_eql_edge];simp [h]

theorem eql_edge_other (x y:Edge)(h:x≠y)(W:World):(binOp .eql 25 (.agg #[.int .u8 x.tag,.int .u32 x.to]) (.agg #[.int .u8 y.tag,.int .u32 y.to])).run Tryz.prog W=.ok (.bool false) W:=by rw [run_eql_edge];simp [h]

theorem tmake_neg (sb:Nat)(l n:Int)(lo hi:Edge)(w:World)(hn:n≤16)
  (hsb:sb<w.heap.size)
  (hv:∀ W,Keeps w W→Calls Tryz.prog 67 #[.pointer (some ⟨sb,0,none⟩)] W fun e w'=>e=.returned (.int .i64 n)∧W=w')
  (h0:l<0)
  : Calls Tryz.prog 173 #[.pointer (some ⟨sb,0,none⟩),.int .i64 l,.agg #[.int .u8 lo.tag,.int .u32 lo.to],.agg #[.int .u8 hi.tag,.int .u32 hi.to]] w fun e w'=>e=.returned (.tuple #[.agg #[.int .u8 0,.int .u32 0],.int .u8 3])∧Keeps w w':=by
 have hsb1:sb<w.heap.size+1:=by omega
 have hsb2:sb<w.heap.size+1+1:=by omega
 have HV:=Lib.hid hv
 clear hv
 go_enter Tryz.func173,Tryz.ntmps173
 go_wp2_with (first|(go_at_call 67;refine(HV.out _ (by(exact kp))).mono ?_;rintro e w' ⟨rfl,rfl⟩)|fail)
 all_goals refine bodyPost_ret (v:=.tuple #[.agg #[.int .u8 0,.int .u32 0],.int .u8 3]) (by simp [results,Tryz.results173,go_sem]) rfl ⟨rfl,by(exact kp)⟩

theorem tmake_big (sb:Nat)(l n:Int)(lo hi:Edge)(w:World)(hn:n≤16)
  (hsb:sb<w.heap.size)
  (hv:∀ W,Keeps w W→Calls Tryz.prog 67 #[.pointer (some ⟨sb,0,none⟩)] W fun e w'=>e=.returned (.int .i64 n)∧W=w')
  (h0:0≤l) (h1:n≤l)
  : Calls Tryz.prog 173 #[.pointer (some ⟨sb,0,none⟩),.int .i64 l,.agg #[.int .u8 lo.tag,.int .u32 lo.to],.agg #[.int .u8 hi.tag,.int .u32 hi.to]] w fun e w'=>e=.returned (.tuple #[.agg #[.int .u8 0,.int .u32 0],.int .u8 3])∧Keeps w w':=by
 have hsb1:sb<w.heap.size+1:=by omega
 have hsb2:sb<w.heap.size+1+1:=by omega
 have HV:=Lib.hid hv
 clear hv
 go_enter Tryz.func173,Tryz.ntmps173
 go_wp2_with (first|(go_at_call 67;refine(HV.out _ (by(exact kp))).mono ?_;rintro e w' ⟨rfl,rfl⟩)|fail)
 all_goals refine bodyPost_ret (v:=.tuple #[.agg #[.int .u8 0,.int .u32 0],.int .u8 3]) (by simp [results,Tryz.results173,go_sem]) rfl ⟨rfl,by(exact kp)⟩

theorem tmake_lo (sb:Nat)(l n:Int)(lo hi:Edge)(w:World)(hn:n≤16)
  (hsb:sb<w.heap.size)
  (hv:∀ W,Keeps w W→Calls Tryz.prog 67 #[.pointer (some ⟨sb,0,none⟩)] W fun e w'=>e=.returned (.int .i64 n)∧W=w')
  (h0:0≤l) (h1:l<n)
  (hlo:∀ W,Keeps w W→Calls Tryz.prog 130 #[.pointer (some ⟨sb,0,none⟩),.int .u8 5,.agg #[.int .u8 lo.tag,.int .u32 lo.to],.int .i64 (l+1)] W fun e w'=>e=.returned (.bool false)∧Keeps W w')
  : Calls Tryz.prog 173 #[.pointer (some ⟨sb,0,none⟩),.int .i64 l,.agg #[.int .u8 lo.tag,.int .u32 lo.to],.agg #[.int .u8 hi.tag,.int .u32 hi.to]] w fun e w'=>e=.returned (.tuple #[.agg #[.int .u8 0,.int .u32 0],.int .u8 1])∧Keeps w w':=by
 have hsb1:sb<w.heap.size+1:=by omega
 have hsb2:sb<w.heap.size+1+1:=by omega
 have HV:=Lib.hid hv
 clear hv
 have HLo:=Lib.hid hlo
 clear hlo
 go_enter Tryz.func173,Tryz.ntmps173
 go_wp2_with (first|(go_at_call 67;refine(HV.out _ (by(exact kp))).mono ?_;rintro e w' ⟨rfl,rfl⟩)|fail)
 (go_at_call 130;refine(HLo.out _ (by(exact kp))).mono ?_;rintro e w1 ⟨rfl,hb⟩;have hsz:=hb.size;simp only [World.size_alloc] at hsz;have hz0:w.heap.size<w1.heap.size:=(by omega);have hz1:w.heap.size+1<w1.heap.size:=(by omega);have hz2:w.heap.size+2<w1.heap.size:=(by omega);have y0:=hb.cell (a:=⟨w.heap.size,0,none⟩) (v:=.int .u8 lo.tag) (by simp [go_sem]);have y1:=hb.cell (a:=⟨w.heap.size,1,none⟩) (v:=.int .u32 lo.to) (by simp [go_sem]);have x0:=hb.cell (a:=⟨w.heap.size+1,0,none⟩) (v:=.int .u8 hi.tag) (by simp [go_sem]);have x1:=hb.cell (a:=⟨w.heap.size+1,1,none⟩) (v:=.int .u32 hi.to) (by simp [go_sem]);have z0:=hb.cell (a:=⟨w.heap.size+2,0,none⟩) (v:=.int .u8 0) (by simp [go_sem]);have z1:=hb.cell (a:=⟨w.heap.size+2,1,none⟩) (v:=.int .u32 0) (by simp [go_sem]);have zf:=fun o:Nat=>(hb.upd (fun _=>False)).frozen (a:=⟨w.heap.size+2,o,none⟩) (by simp [go_sem]) (fun h=>h) (by simp [go_sem]);have hk:Keeps w w1:=(by(exact kp)))
 go_wp2_with fail
 all_goals refine bodyPost_ret (v:=.tuple #[.agg #[.int .u8 0,.int .u32 0],.int .u8 1]) (by simp [results,Tryz.results173,go_sem,hz2,z0,z1]) rfl ⟨rfl,by(exact kp)⟩

theorem tmake_hi (sb:Nat)(l n:Int)(lo hi:Edge)(w:World)(hn:n≤16)
  (hsb:sb<w.heap.size)
  (hv:∀ W,Keeps w W→Calls Tryz.prog 67 #[.pointer (some ⟨sb,0,none⟩)] W fun e w'=>e=.returned (.int .i64 n)∧W=w')
  (h0:0≤l) (h1:l<n)
  (hlo:∀ W,Keeps w W→Calls Tryz.prog 130 #[.pointer (some ⟨sb,0,none⟩),.int .u8 5,.agg #[.int .u8 lo.tag,.int .u32 lo.to],.int .i64 (l+1)] W fun e w'=>e=.returned (.bool true)∧Keeps W w')
  (hhi:∀ W,Keeps w W→Calls Tryz.prog 130 #[.pointer (some ⟨sb,0,none⟩),.int .u8 5,.agg #[.int .u8 hi.tag,.int .u32 hi.to],.int .i64 (l+1)] W fun e w'=>e=.returned (.bool false)∧Keeps W w')
  : Calls Tryz.prog 173 #[.pointer (some ⟨sb,0,none⟩),.int .i64 l,.agg #[.int .u8 lo.tag,.int .u32 lo.to],.agg #[.int .u8 hi.tag,.int .u32 hi.to]] w fun e w'=>e=.returned (.tuple #[.agg #[.int .u8 0,.int .u32 0],.int .u8 1])∧Keeps w w':=by
 have hsb1:sb<w.heap.size+1:=by omega
 have hsb2:sb<w.heap.size+1+1:=by omega
 have HV:=Lib.hid hv
 clear hv
 have HLo:=Lib.hid hlo
 clear hlo
 have HHi:=Lib.hid hhi
 clear hhi
 go_enter Tryz.func173,Tryz.ntmps173
 go_wp2_with (first|(go_at_call 67;refine(HV.out _ (by(exact kp))).mono ?_;rintro e w' ⟨rfl,rfl⟩)|fail)
 (go_at_call 130;refine(HLo.out _ (by(exact kp))).mono ?_;rintro e w1 ⟨rfl,hb⟩;have hsz:=hb.size;simp only [World.size_alloc] at hsz;have hz0:w.heap.size<w1.heap.size:=(by omega);have hz1:w.heap.size+1<w1.heap.size:=(by omega);have hz2:w.heap.size+2<w1.heap.size:=(by omega);have y0:=hb.cell (a:=⟨w.heap.size,0,none⟩) (v:=.int .u8 lo.tag) (by simp [go_sem]);have y1:=hb.cell (a:=⟨w.heap.size,1,none⟩) (v:=.int .u32 lo.to) (by simp [go_sem]);have x0:=hb.cell (a:=⟨w.heap.size+1,0,none⟩) (v:=.int .u8 hi.tag) (by simp [go_sem]);have x1:=hb.cell (a:=⟨w.heap.size+1,1,none⟩) (v:=.int .u32 hi.to) (by simp [go_sem]);have z0:=hb.cell (a:=⟨w.heap.size+2,0,none⟩) (v:=.int .u8 0) (by simp [go_sem]);have z1:=hb.cell (a:=⟨w.heap.size+2,1,none⟩) (v:=.int .u32 0) (by simp [go_sem]);have zf:=fun o:Nat=>(hb.upd (fun _=>False)).frozen (a:=⟨w.heap.size+2,o,none⟩) (by simp [go_sem]) (fun h=>h) (by simp [go_sem]);have hk:Keeps w w1:=(by(exact kp)))
 go_wp2_with fail
 (go_at_call 130;refine(HHi.out _ (by(exact kp))).mono ?_;rintro e w1 ⟨rfl,hb⟩;have hsz:=hb.size;have zf:=fun o:Nat=>(hb.upd (fun _=>False)).frozen (a:=⟨w.heap.size+2,o,none⟩) (by dsimp only;omega) (fun h=>h) (zf o);have y0:=hb.cell y0;have y1:=hb.cell y1;have x0:=hb.cell x0;have x1:=hb.cell x1;have z0:=hb.cell z0;have z1:=hb.cell z1;have hz0:w.heap.size<w1.heap.size:=(by omega);have hz1:w.heap.size+1<w1.heap.size:=(by omega);have hz2:w.heap.size+2<w1.heap.size:=(by omega);have hk:Keeps w w1:=(by(exact kp)))
 go_wp2_with fail
 all_goals refine bodyPost_ret (v:=.tuple #[.agg #[.int .u8 0,.int .u32 0],.int .u8 1]) (by simp [results,Tryz.results173,go_sem,hz2,z0,z1]) rfl ⟨rfl,by(exact kp)⟩

theorem tmake_same (sb:Nat)(l n:Int)(lo hi:Edge)(w:World)(hn:n≤16)
  (hsb:sb<w.heap.size)
  (hv:∀ W,Keeps w W→Calls Tryz.prog 67 #[.pointer (some ⟨sb,0,none⟩)] W fun e w'=>e=.returned (.int .i64 n)∧W=w')
  (h0:0≤l) (h1:l<n)
  (hs:lo=hi)
  (hlo:∀ W,Keeps w W→Calls Tryz.prog 130 #[.pointer (some ⟨sb,0,none⟩),.int .u8 5,.agg #[.int .u8 lo.tag,.int .u32 lo.to],.int .i64 (l+1)] W fun e w'=>e=.returned (.bool true)∧Keeps W w')
  (hhi:∀ W,Keeps w W→Calls Tryz.prog 130 #[.pointer (some ⟨sb,0,none⟩),.int .u8 5,.agg #[.int .u8 hi.tag,.int .u32 hi.to],.int .i64 (l+1)] W fun e w'=>e=.returned (.bool true)∧Keeps W w')
  : Calls Tryz.prog 173 #[.pointer (some ⟨sb,0,none⟩),.int .i64 l,.agg #[.int .u8 lo.tag,.int .u32 lo.to],.agg #[.int .u8 hi.tag,.int .u32 hi.to]] w fun e w'=>e=.returned (.tuple #[.agg #[.int .u8 lo.tag,.int .u32 lo.to],.int .u8 0])∧Keeps w w':=by
 have hsb1:sb<w.heap.size+1:=by omega
 have hsb2:sb<w.heap.size+1+1:=by omega
 have HV:=Lib.hid hv
 clear hv
 have HLo:=Lib.hid hlo
 clear hlo
 have HHi:=Lib.hid hhi
 clear hhi
 have hq:=eql_edge_same lo hi hs
 have HS:=Lib.hid hs
 clear hs
 go_enter Tryz.func173,Tryz.ntmps173
 go_wp2_with (first|(go_at_call 67;refine(HV.out _ (by(exact kp))).mono ?_;rintro e w' ⟨rfl,rfl⟩)|fail)
 (go_at_call 130;refine(HLo.out _ (by(exact kp))).mono ?_;rintro e w1 ⟨rfl,hb⟩;have hsz:=hb.size;simp only [World.size_alloc] at hsz;have hz0:w.heap.size<w1.heap.size:=(by omega);have hz1:w.heap.size+1<w1.heap.size:=(by omega);have hz2:w.heap.size+2<w1.heap.size:=(by omega);have y0:=hb.cell (a:=⟨w.heap.size,0,none⟩) (v:=.int .u8 lo.tag) (by simp [go_sem]);have y1:=hb.cell (a:=⟨w.heap.size,1,none⟩) (v:=.int .u32 lo.to) (by simp [go_sem]);have x0:=hb.cell (a:=⟨w.heap.size+1,0,none⟩) (v:=.int .u8 hi.tag) (by simp [go_sem]);have x1:=hb.cell (a:=⟨w.heap.size+1,1,none⟩) (v:=.int .u32 hi.to) (by simp [go_sem]);have z0:=hb.cell (a:=⟨w.heap.size+2,0,none⟩) (v:=.int .u8 0) (by simp [go_sem]);have z1:=hb.cell (a:=⟨w.heap.size+2,1,none⟩) (v:=.int .u32 0) (by simp [go_sem]);have zf:=fun o:Nat=>(hb.upd (fun _=>False)).frozen (a:=⟨w.heap.size+2,o,none⟩) (by simp [go_sem]) (fun h=>h) (by simp [go_sem]);have hk:Keeps w w1:=(by(exact kp)))
 go_wp2_with fail
 (go_at_call 130;refine(HHi.out _ (by(exact kp))).mono ?_;rintro e w1 ⟨rfl,hb⟩;have hsz:=hb.size;have zf:=fun o:Nat=>(hb.upd (fun _=>False)).frozen (a:=⟨w.heap.size+2,o,none⟩) (by dsimp only;omega) (fun h=>h) (zf o);have y0:=hb.cell y0;have y1:=hb.cell y1;have x0:=hb.cell x0;have x1:=hb.cell x1;have z0:=hb.cell z0;have z1:=hb.cell z1;have hz0:w.heap.size<w1.heap.size:=(by omega);have hz1:w.heap.size+1<w1.heap.size:=(by omega);have hz2:w.heap.size+2<w1.heap.size:=(by omega);have hk:Keeps w w1:=(by(exact kp)))
 go_wp2_with fail
 all_goals refine bodyPost_ret (v:=.tuple #[.agg #[.int .u8 lo.tag,.int .u32 lo.to],.int .u8 0]) (by simp [results,Tryz.results173,go_sem,hz2,z0,z1]) rfl ⟨rfl,by(exact kp)⟩

theorem tmake_up (sb:Nat)(l n:Int)(la th:Int)(w:World)(hn:n≤16)
  (hsb:sb<w.heap.size)
  (hv:∀ W,Keeps w W→Calls Tryz.prog 67 #[.pointer (some ⟨sb,0,none⟩)] W fun e w'=>e=.returned (.int .i64 n)∧W=w')
  (h0:0≤l) (h1:l<n)
  (hs:¬(⟨l+1,la⟩:Edge)=⟨th,0⟩)
  (hlo:∀ W,Keeps w W→Calls Tryz.prog 130 #[.pointer (some ⟨sb,0,none⟩),.int .u8 5,.agg #[.int .u8 (l+1),.int .u32 la],.int .i64 (l+1)] W fun e w'=>e=.returned (.bool true)∧Keeps W w')
  (hhi:∀ W,Keeps w W→Calls Tryz.prog 130 #[.pointer (some ⟨sb,0,none⟩),.int .u8 5,.agg #[.int .u8 th,.int .u32 0],.int .i64 (l+1)] W fun e w'=>e=.returned (.bool true)∧Keeps W w')
  : Calls Tryz.prog 173 #[.pointer (some ⟨sb,0,none⟩),.int .i64 l,.agg #[.int .u8 (l+1),.int .u32 la],.agg #[.int .u8 th,.int .u32 0]] w fun e w'=>e=.returned (.tuple #[.agg #[.int .u8 l,.int .u32 la],.int .u8 0])∧Keeps w w':=by
 have hsb1:sb<w.heap.size+1:=by omega
 have hsb2:sb<w.heap.size+1+1:=by omega
 have HV:=Lib.hid hv
 clear hv
 have HLo:=Lib.hid hlo
 clear hlo
 have HHi:=Lib.hid hhi
 clear hhi
 have hq:=eql_edge_other ⟨l+1,la⟩ ⟨th,0⟩ hs
 have HS:=Lib.hid hs
 clear hs
 go_enter Tryz.func173,Tryz.ntmps173
 go_wp2_with (first|(go_at_call 67;refine(HV.out _ (by(exact kp))).mono ?_;rintro e w' ⟨rfl,rfl⟩)|fail)
 (go_at_call 130;refine(HLo.out _ (by(exact kp))).mono ?_;rintro e w1 ⟨rfl,hb⟩;have hsz:=hb.size;simp only [World.size_alloc] at hsz;have hz0:w.heap.size<w1.heap.size:=(by omega);have hz1:w.heap.size+1<w1.heap.size:=(by omega);have hz2:w.heap.size+2<w1.heap.size:=(by omega);have y0:=hb.cell (a:=⟨w.heap.size,0,none⟩) (v:=.int .u8 (l+1)) (by simp [go_sem]);have y1:=hb.cell (a:=⟨w.heap.size,1,none⟩) (v:=.int .u32 la) (by simp [go_sem]);have x0:=hb.cell (a:=⟨w.heap.size+1,0,none⟩) (v:=.int .u8 th) (by simp [go_sem]);have x1:=hb.cell (a:=⟨w.heap.size+1,1,none⟩) (v:=.int .u32 0) (by simp [go_sem]);have z0:=hb.cell (a:=⟨w.heap.size+2,0,none⟩) (v:=.int .u8 0) (by simp [go_sem]);have z1:=hb.cell (a:=⟨w.heap.size+2,1,none⟩) (v:=.int .u32 0) (by simp [go_sem]);have zf:=fun o:Nat=>(hb.upd (fun _=>False)).frozen (a:=⟨w.heap.size+2,o,none⟩) (by simp [go_sem]) (fun h=>h) (by simp [go_sem]);have hk:Keeps w w1:=(by(exact kp)))
 go_wp2_with fail
 (go_at_call 130;refine(HHi.out _ (by(exact kp))).mono ?_;rintro e w1 ⟨rfl,hb⟩;have hsz:=hb.size;have zf:=fun o:Nat=>(hb.upd (fun _=>False)).frozen (a:=⟨w.heap.size+2,o,none⟩) (by dsimp only;omega) (fun h=>h) (zf o);have y0:=hb.cell y0;have y1:=hb.cell y1;have x0:=hb.cell x0;have x1:=hb.cell x1;have z0:=hb.cell z0;have z1:=hb.cell z1;have hz0:w.heap.size<w1.heap.size:=(by omega);have hz1:w.heap.size+1<w1.heap.size:=(by omega);have hz2:w.heap.size+2<w1.heap.size:=(by omega);have hk:Keeps w w1:=(by(exact kp)))
 go_wp2_with fail
 all_goals refine bodyPost_ret (v:=.tuple #[.agg #[.int .u8 l,.int .u32 la],.int .u8 0]) (by simp [results,Tryz.results173,go_sem,hz2,z0,z1]) rfl ⟨rfl,by(exact kp)⟩

theorem tmake_foundA {F:Nat→Prop}(R:World→World→Prop)(sb:Nat)(l n a b er:Int)(lo hi:Edge)(w:World)(hn:n≤16)
  (hsb:sb<w.heap.size)
  (hv:∀ W,Keeps w W→Calls Tryz.prog 67 #[.pointer (some ⟨sb,0,none⟩)] W fun e w'=>e=.returned (.int .i64 n)∧W=w')
  (h0:0≤l) (h1:l<n) (hs:¬lo=hi) (hc:¬hi.to=0) (hg1:0≤lo.tag) (hg2:lo.tag≤255) (hlt:∀ k,F k→k<w.heap.size)
  (hlo:∀ W,Keeps w W→Calls Tryz.prog 130 #[.pointer (some ⟨sb,0,none⟩),.int .u8 5,.agg #[.int .u8 lo.tag,.int .u32 lo.to],.int .i64 (l+1)] W fun e w'=>e=.returned (.bool true)∧Keeps W w')
  (hhi:∀ W,Keeps w W→Calls Tryz.prog 130 #[.pointer (some ⟨sb,0,none⟩),.int .u8 5,.agg #[.int .u8 hi.tag,.int .u32 hi.to],.int .i64 (l+1)] W fun e w'=>e=.returned (.bool true)∧Keeps W w')
  (hf:∀ W,Keeps w W→Calls Tryz.prog 231 #[.pointer (some ⟨sb,0,none⟩),.agg #[.int .u8 5,.int .u8 l,.int .u8 l,.int .u8 lo.tag,.int .u32 lo.to,.int .u8 hi.tag,.int .u32 hi.to]] W fun e w'=>e=.returned (.tuple #[.agg #[.int .u8 a,.int .u32 b],.int .u8 er])∧Upd F W w'∧R W w')
  : Calls Tryz.prog 173 #[.pointer (some ⟨sb,0,none⟩),.int .i64 l,.agg #[.int .u8 lo.tag,.int .u32 lo.to],.agg #[.int .u8 hi.tag,.int .u32 hi.to]] w fun e w'=>e=.returned (.tuple #[.agg #[.int .u8 a,.int .u32 b],.int .u8 er]) ∧
   ∃ W W1,Keeps w W∧Upd F W W1∧R W W1∧Upd (fun k=>w.heap.size≤k∧k<W.heap.size) W1 w':=by
 have hsb1:sb<w.heap.size+1:=by omega
 have hsb2:sb<w.heap.size+1+1:=by omega
 have n2:¬F (w.heap.size+2):=fun h=>by have:=hlt _ h;omega
 have HV:=Lib.hid hv
 clear hv
 have HLo:=Lib.hid hlo
 have HHi:=Lib.hid hhi
 have HF:=Lib.hid hf
 have hq:=eql_edge_other lo hi hs
 have HS:=Lib.hid hs
 clear hs hf hhi hlo hlt
 go_enter Tryz.func173,Tryz.ntmps173
 go_wp2_with (first|(go_at_call 67;refine(HV.out _ (by(exact kp))).mono ?_;rintro e w' ⟨rfl,rfl⟩)|fail)
 (go_at_call 130;refine(HLo.out _ (by(exact kp))).mono ?_;rintro e w1 ⟨rfl,hb⟩;have hsz:=hb.size;simp only [World.size_alloc] at hsz;have hz0:w.heap.size<w1.heap.size:=(by omega);have hz1:w.heap.size+1<w1.heap.size:=(by omega);have hz2:w.heap.size+2<w1.heap.size:=(by omega);have y0:=hb.cell (a:=⟨w.heap.size,0,none⟩) (v:=.int .u8 lo.tag) (by simp [go_sem]);have y1:=hb.cell (a:=⟨w.heap.size,1,none⟩) (v:=.int .u32 lo.to) (by simp [go_sem]);have x0:=hb.cell (a:=⟨w.heap.size+1,0,none⟩) (v:=.int .u8 hi.tag) (by simp [go_sem]);have x1:=hb.cell (a:=⟨w.heap.size+1,1,none⟩) (v:=.int .u32 hi.to) (by simp [go_sem]);have z0:=hb.cell (a:=⟨w.heap.size+2,0,none⟩) (v:=.int .u8 0) (by simp [go_sem]);have z1:=hb.cell (a:=⟨w.heap.size+2,1,none⟩) (v:=.int .u32 0) (by simp [go_sem]);have zf:=fun o:Nat=>(hb.upd (fun _=>False)).frozen (a:=⟨w.heap.size+2,o,none⟩) (by simp [go_sem]) (fun h=>h) (by simp [go_sem]);have hk:Keeps w w1:=(by(exact kp)))
 go_wp2_with fail
 (go_at_call 130;refine(HHi.out _ (by(exact kp))).mono ?_;rintro e w1 ⟨rfl,hb⟩;have hsz:=hb.size;have zf:=fun o:Nat=>(hb.upd (fun _=>False)).frozen (a:=⟨w.heap.size+2,o,none⟩) (by dsimp only;omega) (fun h=>h) (zf o);have y0:=hb.cell y0;have y1:=hb.cell y1;have x0:=hb.cell x0;have x1:=hb.cell x1;have z0:=hb.cell z0;have z1:=hb.cell z1;have hz0:w.heap.size<w1.heap.size:=(by omega);have hz1:w.heap.size+1<w1.heap.size:=(by omega);have hz2:w.heap.size+2<w1.heap.size:=(by omega);have hk:Keeps w w1:=(by(exact kp)))
 go_wp2_with (first|(go_at_call 231;refine(HF.out _ (by(exact kp))).mono ?_;rintro e w2 ⟨rfl,hu,hR⟩;have hsz2:=hu.size;have hv2:w.heap.size+2<w2.heap.size:=(by omega);have v0:=hu.cell (a:=⟨w.heap.size+2,0,none⟩) n2 z0;have v1:=hu.cell (a:=⟨w.heap.size+2,1,none⟩) n2 z1;have vf:=fun o:Nat=>hu.frozen (a:=⟨w.heap.size+2,o,none⟩) hz2 n2 (zf o))|fail)
 refine bodyPost_ret (v:=.tuple #[.agg #[.int .u8 a,.int .u32 b],.int .u8 er]) (by simp [results,Tryz.results173,go_sem,hv2,v0,v1]) rfl ⟨rfl,w1,w2,hk,hu,hR,?_⟩
 (repeat (first|with_reducible exact Upd.refl _ _|refine Upd.setCell ?_ (Or.inl (by dsimp only;omega)) _|with_reducible refine Upd.drewN ?_ _|with_reducible refine Upd.drew ?_|with_reducible refine Upd.alloc ?_ _))

theorem tmake_foundB {F:Nat→Prop}(R:World→World→Prop)(sb:Nat)(l n a b er:Int)(lo:Edge)(th:Int)(w:World)(hn:n≤16)
  (hsb:sb<w.heap.size)
  (hv:∀ W,Keeps w W→Calls Tryz.prog 67 #[.pointer (some ⟨sb,0,none⟩)] W fun e w'=>e=.returned (.int .i64 n)∧W=w')
  (h0:0≤l) (h1:l<n) (hs:¬lo=(⟨th,0⟩:Edge)) (hc:¬lo.tag=l+1) (hg1:0≤lo.tag) (hg2:lo.tag≤255) (hlt:∀ k,F k→k<w.heap.size)
  (hlo:∀ W,Keeps w W→Calls Tryz.prog 130 #[.pointer (some ⟨sb,0,none⟩),.int .u8 5,.agg #[.int .u8 lo.tag,.int .u32 lo.to],.int .i64 (l+1)] W fun e w'=>e=.returned (.bool true)∧Keeps W w')
  (hhi:∀ W,Keeps w W→Calls Tryz.prog 130 #[.pointer (some ⟨sb,0,none⟩),.int .u8 5,.agg #[.int .u8 th,.int .u32 0],.int .i64 (l+1)] W fun e w'=>e=.returned (.bool true)∧Keeps W w')
  (hf:∀ W,Keeps w W→Calls Tryz.prog 231 #[.pointer (some ⟨sb,0,none⟩),.agg #[.int .u8 5,.int .u8 l,.int .u8 l,.int .u8 lo.tag,.int .u32 lo.to,.int .u8 th,.int .u32 0]] W fun e w'=>e=.returned (.tuple #[.agg #[.int .u8 a,.int .u32 b],.int .u8 er])∧Upd F W w'∧R W w')
  : Calls Tryz.prog 173 #[.pointer (some ⟨sb,0,none⟩),.int .i64 l,.agg #[.int .u8 lo.tag,.int .u32 lo.to],.agg #[.int .u8 th,.int .u32 0]] w fun e w'=>e=.returned (.tuple #[.agg #[.int .u8 a,.int .u32 b],.int .u8 er]) ∧
   ∃ W W1,Keeps w W∧Upd F W W1∧R W W1∧Upd (fun k=>w.heap.size≤k∧k<W.heap.size) W1 w':=by
 have hsb1:sb<w.heap.size+1:=by omega
 have hsb2:sb<w.heap.size+1+1:=by omega
 have n2:¬F (w.heap.size+2):=fun h=>by have:=hlt _ h;omega
 have HV:=Lib.hid hv
 clear hv
 have HLo:=Lib.hid hlo
 have HHi:=Lib.hid hhi
 have HF:=Lib.hid hf
 have hq:=eql_edge_other lo ⟨th,0⟩ hs
 have HS:=Lib.hid hs
 clear hs hf hhi hlo hlt
 go_enter Tryz.func173,Tryz.ntmps173
 go_wp2_with (first|(go_at_call 67;refine(HV.out _ (by(exact kp))).mono ?_;rintro e w' ⟨rfl,rfl⟩)|fail)
 (go_at_call 130;refine(HLo.out _ (by(exact kp))).mono ?_;rintro e w1 ⟨rfl,hb⟩;have hsz:=hb.size;simp only [World.size_alloc] at hsz;have hz0:w.heap.size<w1.heap.size:=(by omega);have hz1:w.heap.size+1<w1.heap.size:=(by omega);have hz2:w.heap.size+2<w1.heap.size:=(by omega);have y0:=hb.cell (a:=⟨w.heap.size,0,none⟩) (v:=.int .u8 lo.tag) (by simp [go_sem]);have y1:=hb.cell (a:=⟨w.heap.size,1,none⟩) (v:=.int .u32 lo.to) (by simp [go_sem]);have x0:=hb.cell (a:=⟨w.heap.size+1,0,none⟩) (v:=.int .u8 th) (by simp [go_sem]);have x1:=hb.cell (a:=⟨w.heap.size+1,1,none⟩) (v:=.int .u32 0) (by simp [go_sem]);have z0:=hb.cell (a:=⟨w.heap.size+2,0,none⟩) (v:=.int .u8 0) (by simp [go_sem]);have z1:=hb.cell (a:=⟨w.heap.size+2,1,none⟩) (v:=.int .u32 0) (by simp [go_sem]);have zf:=fun o:Nat=>(hb.upd (fun _=>False)).frozen (a:=⟨w.heap.size+2,o,none⟩) (by simp [go_sem]) (fun h=>h) (by simp [go_sem]);have hk:Keeps w w1:=(by(exact kp)))
 go_wp2_with fail
 (go_at_call 130;refine(HHi.out _ (by(exact kp))).mono ?_;rintro e w1 ⟨rfl,hb⟩;have hsz:=hb.size;have zf:=fun o:Nat=>(hb.upd (fun _=>False)).frozen (a:=⟨w.heap.size+2,o,none⟩) (by dsimp only;omega) (fun h=>h) (zf o);have y0:=hb.cell y0;have y1:=hb.cell y1;have x0:=hb.cell x0;have x1:=hb.cell x1;have z0:=hb.cell z0;have z1:=hb.cell z1;have hz0:w.heap.size<w1.heap.size:=(by omega);have hz1:w.heap.size+1<w1.heap.size:=(by omega);have hz2:w.heap.size+2<w1.heap.size:=(by omega);have hk:Keeps w w1:=(by(exact kp)))
 go_wp2_with (first|(go_at_call 231;refine(HF.out _ (by(exact kp))).mono ?_;rintro e w2 ⟨rfl,hu,hR⟩;have hsz2:=hu.size;have hv2:w.heap.size+2<w2.heap.size:=(by omega);have v0:=hu.cell (a:=⟨w.heap.size+2,0,none⟩) n2 z0;have v1:=hu.cell (a:=⟨w.heap.size+2,1,none⟩) n2 z1;have vf:=fun o:Nat=>hu.frozen (a:=⟨w.heap.size+2,o,none⟩) hz2 n2 (zf o))|fail)
 refine bodyPost_ret (v:=.tuple #[.agg #[.int .u8 a,.int .u32 b],.int .u8 er]) (by simp [results,Tryz.results173,go_sem,hv2,v0,v1]) rfl ⟨rfl,w1,w2,hk,hu,hR,?_⟩
 (repeat (first|with_reducible exact Upd.refl _ _|refine Upd.setCell ?_ (Or.inl (by dsimp only;omega)) _|with_reducible refine Upd.drewN ?_ _|with_reducible refine Upd.drew ?_|with_reducible refine Upd.alloc ?_ _))

theorem StoreRep.stay {F:Nat→Prop}{w w':World}{sb:Nat}{M:St}(h:StoreRep F w sb M)(hk:Keeps w w'):Upd F w w'∧StoreRep (Grow F w w') w' sb M:=
 ⟨hk.upd F,(h.keeps hk).mono (fun _ h=>.inl h) (fun k hk'=>by rcases hk' with h'|h';exact(h.keeps hk).lt k h';exact h'.2)⟩

def foundE (M:St)(tag:Int)(r:Rec):Edge:=if M.findErr r=0 then⟨tag,M.findId r⟩ else⟨0,0⟩

theorem StoreRep.pos {F:Nat→Prop}{w:World}{sb:Nat}{M:St}(h:StoreRep F w sb M):sb<w.heap.size:=h.lt _ h.own

theorem tbdd_found {F:Nat→Prop}{w:World}{sb:Nat}{M:St}(h:StoreRep F w sb M)(r:Rec)(hr:r.ok) :
  Calls Tryz.prog 231 #[.pointer (some ⟨sb,0,none⟩),.agg #[.int .u8 r.form,.int .u8 r.top,.int .u8 r.bot,.int .u8 r.lo.tag,.int .u32 r.lo.to,.int .u8 r.hi.tag,.int .u32 r.hi.to]] w fun e w'=>e=.returned (.tuple #[.agg #[.int .u8 (foundE M r.top r).tag,.int .u32 (foundE M r.top r).to],.int .u8 (M.findErr r)])∧Upd F w w'∧StoreRep (Grow F w w') w' sb (M.findSt r):=by
 have hf:=fun(W:World) (hW:Keeps w W)=>store_find (h.keeps hW) r hr
 by_cases he:M.findErr r=0
 ·have e1:foundE M r.top r=⟨r.top,M.findId r⟩:=if_pos he
  rw [e1,he]
  rw [he] at hf
  refine(tfound_ok sb r (M.findId r) w h.pos h.lt (fun W W1=>StoreRep (Grow F W W1) W1 sb (M.findSt r)) hf).mono ?_
  rintro e w' ⟨rfl,W,W1,h1,h2,h3,h4⟩
  exact⟨rfl,h3.after h.lt h1 h2 h4⟩
 ·have e1:foundE M r.top r=⟨0,0⟩:=if_neg he
  rw [e1]
  refine(tfound_bad sb r (M.findId r) (M.findErr r) he w h.pos h.lt (fun W W1=>StoreRep (Grow F W W1) W1 sb (M.findSt r)) hf).mono ?_
  rintro e w' ⟨rfl,W,W1,h1,h2,h3,h4⟩
  exact⟨rfl,h3.after h.lt h1 h2 h4⟩

def tAct (M:St)(l:Int)(lo hi:Edge):(Edge×Int) ⊕ Rec:=
 if l<0∨M.n≤l then .inl (⟨0,0⟩,3)
 else if M.leads 5 lo (l+1)=false∨M.leads 5 hi (l+1)=false then .inl (⟨0,0⟩,1)
 else if lo=hi then .inl (lo,0)
 else if hi.to=0∧lo.tag=l+1 then .inl (⟨l,lo.to⟩,0)
 else .inr ⟨5,l,l,lo,hi⟩

def actE (M:St):(Edge×Int) ⊕ Rec→Edge | .inl x=>x.1 | .inr r=>foundE M r.top r
def actErr (M:St):(Edge×Int) ⊕ Rec→Int | .inl x=>x.2 | .inr r=>M.findErr r
def actSt (M:St):(Edge×Int) ⊕ Rec→St | .inl _=>M | .inr r=>M.findSt r
theorem bool_cases (b:Bool):b=false∨b=true:=by cases b<;>simp

theorem tbdd_make {F:Nat→Prop}{w:World}{sb:Nat}{M:St}(h:StoreRep F w sb M)(l:Int)(lo hi:Edge)(hlo:lo.ok)(hhi:hi.ok) :
  Calls Tryz.prog 173 #[.pointer (some ⟨sb,0,none⟩),.int .i64 l,.agg #[.int .u8 lo.tag,.int .u32 lo.to],.agg #[.int .u8 hi.tag,.int .u32 hi.to]] w fun e w'=>
   e=.returned (.tuple #[.agg #[.int .u8 (actE M (tAct M l lo hi)).tag,.int .u32 (actE M (tAct M l lo hi)).to],.int .u8 (actErr M (tAct M l lo hi))])∧Upd F w w'∧StoreRep (Grow F w w') w' sb (actSt M (tAct M l lo hi)):=by
 have hn:=h.wf.n16
 have hv:=fun(W:World) (hW:Keeps w W)=>store_vars (h.keeps hW)
 have hl1:=fun(W:World) (hW:Keeps w W)=>store_leads (h.keeps hW) 5 lo (l+1) hlo
 have hl2:=fun(W:World) (hW:Keeps w W)=>store_leads (h.keeps hW) 5 hi (l+1) hhi
 by_cases c1:l<0∨M.n≤l
 ·have e:tAct M l lo hi=.inl (⟨0,0⟩,3):=if_pos c1
  rw [e]
  by_cases c0:l<0
  ·exact(tmake_neg sb l M.n lo hi w hn h.pos hv c0).mono fun e w' he=>⟨he.1,h.stay he.2⟩
  ·exact(tmake_big sb l M.n lo hi w hn h.pos hv (by omega) (by omega)).mono fun e w' he=>⟨he.1,h.stay he.2⟩
 ·have h0:0≤l:=by omega
  have h1:l<M.n:=by omega
  by_cases c2:M.leads 5 lo (l+1)=false∨M.leads 5 hi (l+1)=false
  ·have e:tAct M l lo hi=.inl (⟨0,0⟩,1):=by unfold tAct;rw [if_neg c1,if_pos c2]
   rw [e]
   rcases bool_cases (M.leads 5 lo (l+1)) with b1|b1
   ·rw [b1] at hl1
    exact(tmake_lo sb l M.n lo hi w hn h.pos hv h0 h1 hl1).mono fun e w' he=>⟨he.1,h.stay he.2⟩
   ·rcases c2 with c2|b2
    ·rw [c2] at b1;cases b1
    ·rw [b1] at hl1
     rw [b2] at hl2
     exact(tmake_hi sb l M.n lo hi w hn h.pos hv h0 h1 hl1 hl2).mono fun e w' he=>⟨he.1,h.stay he.2⟩
  ·have b1:M.leads 5 lo (l+1)=true:=by rcases bool_cases (M.leads 5 lo (l+1)) with b|b;exact(c2 (.inl b)).elim;exact b
   have b2:M.leads 5 hi (l+1)=true:=by rcases bool_cases (M.leads 5 hi (l+1)) with b|b;exact(c2 (.inr b)).elim;exact b
   rw [b1] at hl1
   rw [b2] at hl2
   by_cases c3:lo=hi
   ·have e:tAct M l lo hi=.inl (lo,0):=by unfold tAct;rw [if_neg c1,if_neg c2,if_pos c3]
    rw [e]
    exact(tmake_same sb l M.n lo hi w hn h.pos hv h0 h1 c3 hl1 hl2).mono fun e w' he=>⟨he.1,h.stay he.2⟩
   ·by_cases c4:hi.to=0∧lo.tag=l+1
    ·have e:tAct M l lo hi=.inl (⟨l,lo.to⟩,0):=by unfold tAct;rw [if_neg c1,if_neg c2,if_neg c3,if_pos c4]
     rw [e]
     obtain⟨lt,la⟩:=lo
     obtain⟨ht,ha⟩:=hi
     obtain⟨d1,d2⟩:=c4
     dsimp only at d1 d2
     subst d1
     subst d2
     exact(tmake_up sb l M.n la ht w hn h.pos hv h0 h1 c3 hl1 hl2).mono fun e w' he=>⟨he.1,h.stay he.2⟩
    ·have e:tAct M l lo hi=.inr ⟨5,l,l,lo,hi⟩:=by unfold tAct;rw [if_neg c1,if_neg c2,if_neg c3,if_neg c4]
     rw [e]
     have hr:(⟨5,l,l,lo,hi⟩:Rec).ok:=⟨⟨by show(0:Int)≤5;decide,by show(5:Int)≤255;decide⟩,⟨h0,by show l≤255;omega⟩,⟨h0,by show l≤255;omega⟩,hlo,hhi⟩
     have hf:=fun(W:World) (hW:Keeps w W)=>tbdd_found (h.keeps hW) ⟨5,l,l,lo,hi⟩ hr
     by_cases c5:hi.to=0
     ·obtain⟨ht,ha⟩:=hi
      dsimp only at c5
      subst c5
      refine(tmake_foundB (fun W W1=>StoreRep (Grow F W W1) W1 sb (M.findSt ⟨5,l,l,lo,⟨ht,0⟩⟩)) sb l M.n _ _ _ lo ht w hn h.pos hv h0 h1 c3 (fun hh=>c4 ⟨rfl,hh⟩) hlo.1.1 hlo.1.2 h.lt hl1 hl2 hf).mono ?_
      rintro e w' ⟨rfl,W,W1,q1,q2,q3,q4⟩
      exact⟨rfl,q3.after h.lt q1 q2 q4⟩
     ·refine(tmake_foundA (fun W W1=>StoreRep (Grow F W W1) W1 sb (M.findSt ⟨5,l,l,lo,hi⟩)) sb l M.n _ _ _ lo hi w hn h.pos hv h0 h1 c3 c5 hlo.1.1 hlo.1.2 h.lt hl1 hl2 hf).mono ?_
      rintro e w' ⟨rfl,W,W1,q1,q2,q3,q4⟩
      exact⟨rfl,q3.after h.lt q1 q2 q4⟩

end Go.Proofs.YtpgcbmbnognieaaGreat
