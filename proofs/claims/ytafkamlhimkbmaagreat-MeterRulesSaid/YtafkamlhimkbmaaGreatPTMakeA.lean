/-
  The walks of tbdd.Make and ramageref16.Make (printed by wip/mk_make.py).
-/
import Derived.Test.YtafkamlhimkbmaaGreatPFoundA
namespace Go.Proofs.YtafkamlhimkbmaaGreat
set_option maxRecDepth 1000000
set_option maxHeartbeats 8000000
set_option linter.unusedSimpArgs false
set_option linter.unusedVariables false
open Go.RowKit
theorem tA (x y:Edge)(h:x=y)(s:World):(binOp .eql 52 (.agg #[.int .u8 x.tag,.int .u32 x.to]) (.agg #[.int .u8 y.tag,.int .u32 y.to])).run Tryz.prog s=.ok (.bool true) s:=by rw[kN];simp[h]
theorem lL (x y:Edge)(h:x≠y)(s:World):(binOp .eql 52 (.agg #[.int .u8 x.tag,.int .u32 x.to]) (.agg #[.int .u8 y.tag,.int .u32 y.to])).run Tryz.prog s=.ok (.bool false) s:=by rw[kN];simp[h]
theorem zD (sb:Nat)(l n:Int)(lo hi:Edge)(w:World)(D:n≤16)
  (E:sb<w.heap.size)
  (u:∀t,ae w t→Calls Tryz.prog 48 #[.pointer (some ⟨sb,0,none⟩)] t fun e s=>e=.returned (.int .i64 n)∧t=s)
  (h0:l<0)
  : Calls Tryz.prog 125 #[.pointer (some ⟨sb,0,none⟩),.int .i64 l,.agg #[.int .u8 lo.tag,.int .u32 lo.to],.agg #[.int .u8 hi.tag,.int .u32 hi.to]] w fun e s=>e=.returned (.tuple #[.agg #[.int .u8 0,.int .u32 0],.int .u8 3])∧ae w s:=by
 have t:sb<w.heap.size+1:=by omega
 have t:sb<w.heap.size+1+1:=by omega
 have z:=aa u
 clear u
 go_enter Tryz.func125,Tryz.ntmps125
 go_wp2_with (first|(go_at_call 48;refine(z.out _ kp).mono ?_;rintro e s ⟨rfl,rfl⟩)|fail)
 all_goals refine an (v:=.tuple #[.agg #[.int .u8 0,.int .u32 0],.int .u8 3]) (by simp[results,Tryz.results125,go_sem]) rfl ⟨rfl,kp⟩
theorem zx (sb:Nat)(l n:Int)(lo hi:Edge)(w:World)(E:n≤16)
  (I:sb<w.heap.size)
  (u:∀t,ae w t→Calls Tryz.prog 48 #[.pointer (some ⟨sb,0,none⟩)] t fun e s=>e=.returned (.int .i64 n)∧t=s)
  (h0:0≤l) (D:n≤l)
  : Calls Tryz.prog 125 #[.pointer (some ⟨sb,0,none⟩),.int .i64 l,.agg #[.int .u8 lo.tag,.int .u32 lo.to],.agg #[.int .u8 hi.tag,.int .u32 hi.to]] w fun e s=>e=.returned (.tuple #[.agg #[.int .u8 0,.int .u32 0],.int .u8 3])∧ae w s:=by
 have t:sb<w.heap.size+1:=by omega
 have t:sb<w.heap.size+1+1:=by omega
 have z:=aa u
 clear u
 go_enter Tryz.func125,Tryz.ntmps125
 go_wp2_with (first|(go_at_call 48;refine(z.out _ kp).mono ?_;rintro e s ⟨rfl,rfl⟩)|fail)
 all_goals refine an (v:=.tuple #[.agg #[.int .u8 0,.int .u32 0],.int .u8 3]) (by simp[results,Tryz.results125,go_sem]) rfl ⟨rfl,kp⟩
theorem zC (sb:Nat)(l n:Int)(lo hi:Edge)(w:World)(U:n≤16)
  (V:sb<w.heap.size)
  (D:∀t,ae w t→Calls Tryz.prog 48 #[.pointer (some ⟨sb,0,none⟩)] t fun e u=>e=.returned (.int .i64 n)∧t=u)
  (h0:0≤l) (T:l<n)
  (z:∀t,ae w t→Calls Tryz.prog 134 #[.pointer (some ⟨sb,0,none⟩),.int .u8 5,.agg #[.int .u8 lo.tag,.int .u32 lo.to],.int .i64 (l+1)] t fun e u=>e=.returned (.bool false)∧ae t u)
  : Calls Tryz.prog 125 #[.pointer (some ⟨sb,0,none⟩),.int .i64 l,.agg #[.int .u8 lo.tag,.int .u32 lo.to],.agg #[.int .u8 hi.tag,.int .u32 hi.to]] w fun e u=>e=.returned (.tuple #[.agg #[.int .u8 0,.int .u32 0],.int .u8 1])∧ae w u:=by
 have t:sb<w.heap.size+1:=by omega
 have t:sb<w.heap.size+1+1:=by omega
 have I:=aa D
 clear D
 have E:=aa z
 clear z
 go_enter Tryz.func125,Tryz.ntmps125
 go_wp2_with (first|(go_at_call 48;refine(I.out _ kp).mono ?_;rintro e u ⟨rfl,rfl⟩)|fail)
 (go_at_call 134;refine(E.out _ kp).mono ?_;rintro e w1 ⟨rfl,s⟩;have J:=s.size;simp only[ak]at J;have t:w.heap.size<w1.heap.size:=(by omega);have t:w.heap.size+1<w1.heap.size:=(by omega);have N:w.heap.size+2<w1.heap.size:=(by omega);have t:=s.I (a:=⟨w.heap.size,0,none⟩) (v:=.int .u8 lo.tag);have t:=s.I (a:=⟨w.heap.size,1,none⟩) (v:=.int .u32 lo.to);have t:=s.I (a:=⟨w.heap.size+1,0,none⟩) (v:=.int .u8 hi.tag);have t:=s.I (a:=⟨w.heap.size+1,1,none⟩) (v:=.int .u32 hi.to);have O:=s.I (a:=⟨w.heap.size+2,0,none⟩) (v:=.int .u8 0);have Q:=s.I (a:=⟨w.heap.size+2,1,none⟩) (v:=.int .u32 0);have t:=fun o:Nat=>(s.upd (fun _=>False)).frozen (a:=⟨w.heap.size+2,o,none⟩) (by simp[go_sem]) (fun h=>h) (by simp[go_sem]);have s:ae w w1:=kp)
 go_wp2_with fail
 all_goals refine an (v:=.tuple #[.agg #[.int .u8 0,.int .u32 0],.int .u8 1]) (by simp[results,Tryz.results125,go_sem,N,O,Q]) rfl ⟨rfl,kp⟩
theorem zB (sb:Nat)(l n:Int)(lo hi:Edge)(w:World)(am:n≤16)
  (av:sb<w.heap.size)
  (N:∀t,ae w t→Calls Tryz.prog 48 #[.pointer (some ⟨sb,0,none⟩)] t fun e u=>e=.returned (.int .i64 n)∧t=u)
  (h0:0≤l) (al:l<n)
  (I:∀t,ae w t→Calls Tryz.prog 134 #[.pointer (some ⟨sb,0,none⟩),.int .u8 5,.agg #[.int .u8 lo.tag,.int .u32 lo.to],.int .i64 (l+1)] t fun e u=>e=.returned (.bool true)∧ae t u)
  (E:∀t,ae w t→Calls Tryz.prog 134 #[.pointer (some ⟨sb,0,none⟩),.int .u8 5,.agg #[.int .u8 hi.tag,.int .u32 hi.to],.int .i64 (l+1)] t fun e u=>e=.returned (.bool false)∧ae t u)
  : Calls Tryz.prog 125 #[.pointer (some ⟨sb,0,none⟩),.int .i64 l,.agg #[.int .u8 lo.tag,.int .u32 lo.to],.agg #[.int .u8 hi.tag,.int .u32 hi.to]] w fun e u=>e=.returned (.tuple #[.agg #[.int .u8 0,.int .u32 0],.int .u8 1])∧ae w u:=by
 have t:sb<w.heap.size+1:=by omega
 have t:sb<w.heap.size+1+1:=by omega
 have Z:=aa N
 clear N
 have Y:=aa I
 clear I
 have X:=aa E
 clear E
 go_enter Tryz.func125,Tryz.ntmps125
 go_wp2_with (first|(go_at_call 48;refine(Z.out _ kp).mono ?_;rintro e u ⟨rfl,rfl⟩)|fail)
 (go_at_call 134;refine(Y.out _ kp).mono ?_;rintro e w1 ⟨rfl,s⟩;have J:=s.size;simp only[ak]at J;have ad:w.heap.size<w1.heap.size:=(by omega);have ah:w.heap.size+1<w1.heap.size:=(by omega);have O:w.heap.size+2<w1.heap.size:=(by omega);have U:=s.I (a:=⟨w.heap.size,0,none⟩) (v:=.int .u8 lo.tag);have V:=s.I (a:=⟨w.heap.size,1,none⟩) (v:=.int .u32 lo.to);have Q:=s.I (a:=⟨w.heap.size+1,0,none⟩) (v:=.int .u8 hi.tag);have T:=s.I (a:=⟨w.heap.size+1,1,none⟩) (v:=.int .u32 hi.to);have z:=s.I (a:=⟨w.heap.size+2,0,none⟩) (v:=.int .u8 0);have D:=s.I (a:=⟨w.heap.size+2,1,none⟩) (v:=.int .u32 0);have W:=fun o:Nat=>(s.upd (fun _=>False)).frozen (a:=⟨w.heap.size+2,o,none⟩) (by simp[go_sem]) (fun h=>h) (by simp[go_sem]);have ab:ae w w1:=kp)
 go_wp2_with fail
 (go_at_call 134;refine(X.out _ kp).mono ?_;rintro e w1 ⟨rfl,s⟩;have J:=s.size;have W:=fun o:Nat=>(s.upd (fun _=>False)).frozen (a:=⟨w.heap.size+2,o,none⟩) (by dsimp only;omega) (fun h=>h) (W o);have U:=s.cell U;have V:=s.cell V;have Q:=s.cell Q;have T:=s.cell T;have z:=s.cell z;have D:=s.cell D;have ad:w.heap.size<w1.heap.size:=(by omega);have ah:w.heap.size+1<w1.heap.size:=(by omega);have O:w.heap.size+2<w1.heap.size:=(by omega);have ab:ae w w1:=kp)
 go_wp2_with fail
 all_goals refine an (v:=.tuple #[.agg #[.int .u8 0,.int .u32 0],.int .u8 1]) (by simp[results,Tryz.results125,go_sem,O,z,D]) rfl ⟨rfl,kp⟩
theorem zE (sb:Nat)(l n:Int)(lo hi:Edge)(w:World)(am:n≤16)
  (av:sb<w.heap.size)
  (N:∀t,ae w t→Calls Tryz.prog 48 #[.pointer (some ⟨sb,0,none⟩)] t fun e u=>e=.returned (.int .i64 n)∧t=u)
  (h0:0≤l) (al:l<n)
  (hs:lo=hi)
  (I:∀t,ae w t→Calls Tryz.prog 134 #[.pointer (some ⟨sb,0,none⟩),.int .u8 5,.agg #[.int .u8 lo.tag,.int .u32 lo.to],.int .i64 (l+1)] t fun e u=>e=.returned (.bool true)∧ae t u)
  (E:∀t,ae w t→Calls Tryz.prog 134 #[.pointer (some ⟨sb,0,none⟩),.int .u8 5,.agg #[.int .u8 hi.tag,.int .u32 hi.to],.int .i64 (l+1)] t fun e u=>e=.returned (.bool true)∧ae t u)
  : Calls Tryz.prog 125 #[.pointer (some ⟨sb,0,none⟩),.int .i64 l,.agg #[.int .u8 lo.tag,.int .u32 lo.to],.agg #[.int .u8 hi.tag,.int .u32 hi.to]] w fun e u=>e=.returned (.tuple #[.agg #[.int .u8 lo.tag,.int .u32 lo.to],.int .u8 0])∧ae w u:=by
 have t:sb<w.heap.size+1:=by omega
 have t:sb<w.heap.size+1+1:=by omega
 have Z:=aa N
 clear N
 have Y:=aa I
 clear I
 have X:=aa E
 clear E
 have t:=tA lo hi hs
 have t:=aa hs
 clear hs
 go_enter Tryz.func125,Tryz.ntmps125
 go_wp2_with (first|(go_at_call 48;refine(Z.out _ kp).mono ?_;rintro e u ⟨rfl,rfl⟩)|fail)
 (go_at_call 134;refine(Y.out _ kp).mono ?_;rintro e w1 ⟨rfl,s⟩;have J:=s.size;simp only[ak]at J;have ad:w.heap.size<w1.heap.size:=(by omega);have ah:w.heap.size+1<w1.heap.size:=(by omega);have O:w.heap.size+2<w1.heap.size:=(by omega);have U:=s.I (a:=⟨w.heap.size,0,none⟩) (v:=.int .u8 lo.tag);have V:=s.I (a:=⟨w.heap.size,1,none⟩) (v:=.int .u32 lo.to);have Q:=s.I (a:=⟨w.heap.size+1,0,none⟩) (v:=.int .u8 hi.tag);have T:=s.I (a:=⟨w.heap.size+1,1,none⟩) (v:=.int .u32 hi.to);have z:=s.I (a:=⟨w.heap.size+2,0,none⟩) (v:=.int .u8 0);have D:=s.I (a:=⟨w.heap.size+2,1,none⟩) (v:=.int .u32 0);have W:=fun o:Nat=>(s.upd (fun _=>False)).frozen (a:=⟨w.heap.size+2,o,none⟩) (by simp[go_sem]) (fun h=>h) (by simp[go_sem]);have ab:ae w w1:=kp)
 go_wp2_with fail
 (go_at_call 134;refine(X.out _ kp).mono ?_;rintro e w1 ⟨rfl,s⟩;have J:=s.size;have W:=fun o:Nat=>(s.upd (fun _=>False)).frozen (a:=⟨w.heap.size+2,o,none⟩) (by dsimp only;omega) (fun h=>h) (W o);have U:=s.cell U;have V:=s.cell V;have Q:=s.cell Q;have T:=s.cell T;have z:=s.cell z;have D:=s.cell D;have ad:w.heap.size<w1.heap.size:=(by omega);have ah:w.heap.size+1<w1.heap.size:=(by omega);have O:w.heap.size+2<w1.heap.size:=(by omega);have ab:ae w w1:=kp)
 go_wp2_with fail
 all_goals refine an (v:=.tuple #[.agg #[.int .u8 lo.tag,.int .u32 lo.to],.int .u8 0]) (by simp[results,Tryz.results125,go_sem,O,z,D]) rfl ⟨rfl,kp⟩
theorem zF (sb:Nat)(l n:Int)(z D:Int)(w:World)(aw:n≤16)
  (ax:sb<w.heap.size)
  (Q:∀t,ae w t→Calls Tryz.prog 48 #[.pointer (some ⟨sb,0,none⟩)] t fun e u=>e=.returned (.int .i64 n)∧t=u)
  (h0:0≤l) (av:l<n)
  (hs:¬(⟨l+1,z⟩:Edge)=⟨D,0⟩)
  (N:∀t,ae w t→Calls Tryz.prog 134 #[.pointer (some ⟨sb,0,none⟩),.int .u8 5,.agg #[.int .u8 (l+1),.int .u32 z],.int .i64 (l+1)] t fun e u=>e=.returned (.bool true)∧ae t u)
  (J:∀t,ae w t→Calls Tryz.prog 134 #[.pointer (some ⟨sb,0,none⟩),.int .u8 5,.agg #[.int .u8 D,.int .u32 0],.int .i64 (l+1)] t fun e u=>e=.returned (.bool true)∧ae t u)
  : Calls Tryz.prog 125 #[.pointer (some ⟨sb,0,none⟩),.int .i64 l,.agg #[.int .u8 (l+1),.int .u32 z],.agg #[.int .u8 D,.int .u32 0]] w fun e u=>e=.returned (.tuple #[.agg #[.int .u8 l,.int .u32 z],.int .u8 0])∧ae w u:=by
 have t:sb<w.heap.size+1:=by omega
 have t:sb<w.heap.size+1+1:=by omega
 have ad:=aa Q
 clear Q
 have ab:=aa N
 clear N
 have Z:=aa J
 clear J
 have t:=lL ⟨l+1,z⟩ ⟨D,0⟩ hs
 have t:=aa hs
 clear hs
 go_enter Tryz.func125,Tryz.ntmps125
 go_wp2_with (first|(go_at_call 48;refine(ad.out _ kp).mono ?_;rintro e u ⟨rfl,rfl⟩)|fail)
 (go_at_call 134;refine(ab.out _ kp).mono ?_;rintro e w1 ⟨rfl,s⟩;have O:=s.size;simp only[ak]at O;have al:w.heap.size<w1.heap.size:=(by omega);have am:w.heap.size+1<w1.heap.size:=(by omega);have T:w.heap.size+2<w1.heap.size:=(by omega);have W:=s.I (a:=⟨w.heap.size,0,none⟩) (v:=.int .u8 (l+1));have X:=s.I (a:=⟨w.heap.size,1,none⟩) (v:=.int .u32 z);have U:=s.I (a:=⟨w.heap.size+1,0,none⟩) (v:=.int .u8 D);have V:=s.I (a:=⟨w.heap.size+1,1,none⟩) (v:=.int .u32 0);have E:=s.I (a:=⟨w.heap.size+2,0,none⟩) (v:=.int .u8 0);have I:=s.I (a:=⟨w.heap.size+2,1,none⟩) (v:=.int .u32 0);have Y:=fun o:Nat=>(s.upd (fun _=>False)).frozen (a:=⟨w.heap.size+2,o,none⟩) (by simp[go_sem]) (fun h=>h) (by simp[go_sem]);have ah:ae w w1:=kp)
 go_wp2_with fail
 (go_at_call 134;refine(Z.out _ kp).mono ?_;rintro e w1 ⟨rfl,s⟩;have O:=s.size;have Y:=fun o:Nat=>(s.upd (fun _=>False)).frozen (a:=⟨w.heap.size+2,o,none⟩) (by dsimp only;omega) (fun h=>h) (Y o);have W:=s.cell W;have X:=s.cell X;have U:=s.cell U;have V:=s.cell V;have E:=s.cell E;have I:=s.cell I;have al:w.heap.size<w1.heap.size:=(by omega);have am:w.heap.size+1<w1.heap.size:=(by omega);have T:w.heap.size+2<w1.heap.size:=(by omega);have ah:ae w w1:=kp)
 go_wp2_with fail
 all_goals refine an (v:=.tuple #[.agg #[.int .u8 l,.int .u32 z],.int .u8 0]) (by simp[results,Tryz.results125,go_sem,T,E,I]) rfl ⟨rfl,kp⟩
theorem zy {F:Nat→Prop}(R:World→World→Prop)(sb:Nat)(l n a b E:Int)(lo hi:Edge)(w:World)(a':n≤16)
  (ba:sb<w.heap.size)
  (Y:∀s,ae w s→Calls Tryz.prog 48 #[.pointer (some ⟨sb,0,none⟩)] s fun e u=>e=.returned (.int .i64 n)∧s=u)
  (h0:0≤l) (a6:l<n) (hs:¬lo=hi) (a7:¬hi.to=0) (a8:0≤lo.tag) (a9:lo.tag≤255) (W:∀k,F k→k<w.heap.size)
  (V:∀s,ae w s→Calls Tryz.prog 134 #[.pointer (some ⟨sb,0,none⟩),.int .u8 5,.agg #[.int .u8 lo.tag,.int .u32 lo.to],.int .i64 (l+1)] s fun e u=>e=.returned (.bool true)∧ae s u)
  (T:∀s,ae w s→Calls Tryz.prog 134 #[.pointer (some ⟨sb,0,none⟩),.int .u8 5,.agg #[.int .u8 hi.tag,.int .u32 hi.to],.int .i64 (l+1)] s fun e u=>e=.returned (.bool true)∧ae s u)
  (Q:∀s,ae w s→Calls Tryz.prog 190 #[.pointer (some ⟨sb,0,none⟩),.agg #[.int .u8 5,.int .u8 l,.int .u8 l,.int .u8 lo.tag,.int .u32 lo.to,.int .u8 hi.tag,.int .u32 hi.to]] s fun e u=>e=.returned (.tuple #[.agg #[.int .u8 a,.int .u32 b],.int .u8 E])∧af F s u∧R s u)
  : Calls Tryz.prog 125 #[.pointer (some ⟨sb,0,none⟩),.int .i64 l,.agg #[.int .u8 lo.tag,.int .u32 lo.to],.agg #[.int .u8 hi.tag,.int .u32 hi.to]] w fun e u=>e=.returned (.tuple #[.agg #[.int .u8 a,.int .u32 b],.int .u8 E]) ∧
   ∃s D,ae w s∧af F s D∧R s D∧af (fun k=>w.heap.size≤k∧k<s.heap.size) D u:=by
 have s:sb<w.heap.size+1:=by omega
 have s:sb<w.heap.size+1+1:=by omega
 have I:¬F (w.heap.size+2):=fun h=>by have:=W _ h;omega
 have ay:=aa Y
 clear Y
 have ax:=aa V
 have aw:=aa T
 have av:=aa Q
 have s:=lL lo hi hs
 have s:=aa hs
 clear hs Q T V W
 go_enter Tryz.func125,Tryz.ntmps125
 go_wp2_with (first|(go_at_call 48;refine(ay.out _ kp).mono ?_;rintro e u ⟨rfl,rfl⟩)|fail)
 (go_at_call 134;refine(ax.out _ kp).mono ?_;rintro e w1 ⟨rfl,t⟩;have X:=t.size;simp only[ak]at X;have a2:w.heap.size<w1.heap.size:=(by omega);have a3:w.heap.size+1<w1.heap.size:=(by omega);have Z:w.heap.size+2<w1.heap.size:=(by omega);have al:=t.I (a:=⟨w.heap.size,0,none⟩) (v:=.int .u8 lo.tag);have am:=t.I (a:=⟨w.heap.size,1,none⟩) (v:=.int .u32 lo.to);have ad:=t.I (a:=⟨w.heap.size+1,0,none⟩) (v:=.int .u8 hi.tag);have ah:=t.I (a:=⟨w.heap.size+1,1,none⟩) (v:=.int .u32 hi.to);have J:=t.I (a:=⟨w.heap.size+2,0,none⟩) (v:=.int .u8 0);have N:=t.I (a:=⟨w.heap.size+2,1,none⟩) (v:=.int .u32 0);have O:=fun o:Nat=>(t.upd (fun _=>False)).frozen (a:=⟨w.heap.size+2,o,none⟩) (by simp[go_sem]) (fun h=>h) (by simp[go_sem]);have U:ae w w1:=kp)
 go_wp2_with fail
 (go_at_call 134;refine(aw.out _ kp).mono ?_;rintro e w1 ⟨rfl,t⟩;have X:=t.size;have O:=fun o:Nat=>(t.upd (fun _=>False)).frozen (a:=⟨w.heap.size+2,o,none⟩) (by dsimp only;omega) (fun h=>h) (O o);have al:=t.cell al;have am:=t.cell am;have ad:=t.cell ad;have ah:=t.cell ah;have J:=t.cell J;have N:=t.cell N;have a2:w.heap.size<w1.heap.size:=(by omega);have a3:w.heap.size+1<w1.heap.size:=(by omega);have Z:w.heap.size+2<w1.heap.size:=(by omega);have U:ae w w1:=kp)
 go_wp2_with (first|(go_at_call 190;refine(av.out _ kp).mono ?_;rintro e ab ⟨rfl,z,a0⟩;have s:=z.size;have a1:w.heap.size+2<ab.heap.size:=(by omega);have a4:=z.cell (a:=⟨w.heap.size+2,0,none⟩) I J;have a5:=z.cell (a:=⟨w.heap.size+2,1,none⟩) I N;have s:=fun o:Nat=>z.frozen (a:=⟨w.heap.size+2,o,none⟩) Z I (O o))|fail)
 refine an (v:=.tuple #[.agg #[.int .u8 a,.int .u32 b],.int .u8 E]) (by simp[results,Tryz.results125,go_sem,a1,a4,a5]) rfl ⟨rfl,w1,ab,U,z,a0,?_⟩
 (repeat (first|with_reducible exact af.refl _ _|refine af.setCell ?_ (Or.inl (by dsimp only;omega)) _|with_reducible refine af.drewN ?_ _|with_reducible refine af.drew ?_|with_reducible refine af.alloc ?_ _))
theorem zA {F:Nat→Prop}(R:World→World→Prop)(sb:Nat)(l n a b I:Int)(lo:Edge)(z:Int)(w:World)(ba:n≤16)
  (bb:sb<w.heap.size)
  (Z:∀s,ae w s→Calls Tryz.prog 48 #[.pointer (some ⟨sb,0,none⟩)] s fun e u=>e=.returned (.int .i64 n)∧s=u)
  (h0:0≤l) (a7:l<n) (hs:¬lo=(⟨z,0⟩:Edge)) (a8:¬lo.tag=l+1) (a9:0≤lo.tag) (a':lo.tag≤255) (X:∀k,F k→k<w.heap.size)
  (W:∀s,ae w s→Calls Tryz.prog 134 #[.pointer (some ⟨sb,0,none⟩),.int .u8 5,.agg #[.int .u8 lo.tag,.int .u32 lo.to],.int .i64 (l+1)] s fun e u=>e=.returned (.bool true)∧ae s u)
  (U:∀s,ae w s→Calls Tryz.prog 134 #[.pointer (some ⟨sb,0,none⟩),.int .u8 5,.agg #[.int .u8 z,.int .u32 0],.int .i64 (l+1)] s fun e u=>e=.returned (.bool true)∧ae s u)
  (T:∀s,ae w s→Calls Tryz.prog 190 #[.pointer (some ⟨sb,0,none⟩),.agg #[.int .u8 5,.int .u8 l,.int .u8 l,.int .u8 lo.tag,.int .u32 lo.to,.int .u8 z,.int .u32 0]] s fun e u=>e=.returned (.tuple #[.agg #[.int .u8 a,.int .u32 b],.int .u8 I])∧af F s u∧R s u)
  : Calls Tryz.prog 125 #[.pointer (some ⟨sb,0,none⟩),.int .i64 l,.agg #[.int .u8 lo.tag,.int .u32 lo.to],.agg #[.int .u8 z,.int .u32 0]] w fun e u=>e=.returned (.tuple #[.agg #[.int .u8 a,.int .u32 b],.int .u8 I]) ∧
   ∃s E,ae w s∧af F s E∧R s E∧af (fun k=>w.heap.size≤k∧k<s.heap.size) E u:=by
 have s:sb<w.heap.size+1:=by omega
 have s:sb<w.heap.size+1+1:=by omega
 have J:¬F (w.heap.size+2):=fun h=>by have:=X _ h;omega
 have a0:=aa Z
 clear Z
 have ay:=aa W
 have ax:=aa U
 have aw:=aa T
 have s:=lL lo ⟨z,0⟩ hs
 have s:=aa hs
 clear hs T U W X
 go_enter Tryz.func125,Tryz.ntmps125
 go_wp2_with (first|(go_at_call 48;refine(a0.out _ kp).mono ?_;rintro e u ⟨rfl,rfl⟩)|fail)
 (go_at_call 134;refine(ay.out _ kp).mono ?_;rintro e w1 ⟨rfl,t⟩;have Y:=t.size;simp only[ak]at Y;have a3:w.heap.size<w1.heap.size:=(by omega);have a4:w.heap.size+1<w1.heap.size:=(by omega);have ab:w.heap.size+2<w1.heap.size:=(by omega);have am:=t.I (a:=⟨w.heap.size,0,none⟩) (v:=.int .u8 lo.tag);have av:=t.I (a:=⟨w.heap.size,1,none⟩) (v:=.int .u32 lo.to);have ah:=t.I (a:=⟨w.heap.size+1,0,none⟩) (v:=.int .u8 z);have al:=t.I (a:=⟨w.heap.size+1,1,none⟩) (v:=.int .u32 0);have N:=t.I (a:=⟨w.heap.size+2,0,none⟩) (v:=.int .u8 0);have O:=t.I (a:=⟨w.heap.size+2,1,none⟩) (v:=.int .u32 0);have Q:=fun o:Nat=>(t.upd (fun _=>False)).frozen (a:=⟨w.heap.size+2,o,none⟩) (by simp[go_sem]) (fun h=>h) (by simp[go_sem]);have V:ae w w1:=kp)
 go_wp2_with fail
 (go_at_call 134;refine(ax.out _ kp).mono ?_;rintro e w1 ⟨rfl,t⟩;have Y:=t.size;have Q:=fun o:Nat=>(t.upd (fun _=>False)).frozen (a:=⟨w.heap.size+2,o,none⟩) (by dsimp only;omega) (fun h=>h) (Q o);have am:=t.cell am;have av:=t.cell av;have ah:=t.cell ah;have al:=t.cell al;have N:=t.cell N;have O:=t.cell O;have a3:w.heap.size<w1.heap.size:=(by omega);have a4:w.heap.size+1<w1.heap.size:=(by omega);have ab:w.heap.size+2<w1.heap.size:=(by omega);have V:ae w w1:=kp)
 go_wp2_with (first|(go_at_call 190;refine(aw.out _ kp).mono ?_;rintro e ad ⟨rfl,D,a1⟩;have s:=D.size;have a2:w.heap.size+2<ad.heap.size:=(by omega);have a5:=D.cell (a:=⟨w.heap.size+2,0,none⟩) J N;have a6:=D.cell (a:=⟨w.heap.size+2,1,none⟩) J O;have s:=fun o:Nat=>D.frozen (a:=⟨w.heap.size+2,o,none⟩) ab J (Q o))|fail)
 refine an (v:=.tuple #[.agg #[.int .u8 a,.int .u32 b],.int .u8 I]) (by simp[results,Tryz.results125,go_sem,a2,a5,a6]) rfl ⟨rfl,w1,ad,V,D,a1,?_⟩
 (repeat (first|with_reducible exact af.refl _ _|refine af.setCell ?_ (Or.inl (by dsimp only;omega)) _|with_reducible refine af.drewN ?_ _|with_reducible refine af.drew ?_|with_reducible refine af.alloc ?_ _))
theorem aq.bc {F:Nat→Prop}{w s:World}{sb:Nat}{M:St}(h:aq F w sb M)(t:ae w s):af F w s∧aq (aH F w s) s sb M:=
 ⟨t.upd F,(h.U t).mono (fun _ h=>.inl h) (fun k u=>by rcases u with h'|h';exact(h.U t).lt k h';exact h'.2)⟩
def bN (M:St)(tag:Int)(r:Rec):Edge:=if M.bh r=0 then⟨tag,M.bs r⟩else⟨0,0⟩
theorem aq.a8 {F:Nat→Prop}{w:World}{sb:Nat}{M:St}(h:aq F w sb M):sb<w.heap.size:=h.lt _ h.own
theorem zp {F:Nat→Prop}{w:World}{sb:Nat}{M:St}(h:aq F w sb M)(r:Rec)(Q:r.ok) :
  Calls Tryz.prog 190 #[.pointer (some ⟨sb,0,none⟩),.agg #[.int .u8 r.ad,.int .u8 r.top,.int .u8 r.J,.int .u8 r.lo.tag,.int .u32 r.lo.to,.int .u8 r.hi.tag,.int .u32 r.hi.to]] w fun e u=>e=.returned (.tuple #[.agg #[.int .u8 (bN M r.top r).tag,.int .u32 (bN M r.top r).to],.int .u8 (M.bh r)])∧af F w u∧aq (aH F w u) u sb (M.ba r):=by
 have N:=fun(s:World) (O:ae w s)=>jT (h.U O) r Q
 by_cases he:M.bh r=0
 ·have z:bN M r.top r=⟨r.top,M.bs r⟩:=ai he;rw[z,he];rw[he]at N;refine(zw sb r (M.bs r) w h.a8 h.lt (fun s t=>aq (aH F s t) t sb (M.ba r)) N).mono ?_;rintro e u ⟨rfl,s,t,D,E,I,J⟩;exact⟨rfl,I.after h.lt D E J⟩
 ·have z:bN M r.top r=⟨0,0⟩:=ag he;rw[z];refine(zu sb r (M.bs r) (M.bh r) he w h.a8 h.lt (fun s t=>aq (aH F s t) t sb (M.ba r)) N).mono ?_;rintro e u ⟨rfl,s,t,D,E,I,J⟩;exact⟨rfl,I.after h.lt D E J⟩
def bR (M:St)(l:Int)(lo hi:Edge):(Edge×Int) ⊕ Rec:=
 if l<0∨M.n≤l then .inl (⟨0,0⟩,3)
 else if M.leads 5 lo (l+1)=false∨M.leads 5 hi (l+1)=false then .inl (⟨0,0⟩,1)
 else if lo=hi then .inl (lo,0)
 else if hi.to=0∧lo.tag=l+1 then .inl (⟨l,lo.to⟩,0)
 else .inr ⟨5,l,l,lo,hi⟩
def iX (M:St):(Edge×Int) ⊕ Rec→Edge | .inl x=>x.1 | .inr r=>bN M r.top r
def fB (M:St):(Edge×Int) ⊕ Rec→Int | .inl x=>x.2 | .inr r=>M.bh r
def bT (M:St):(Edge×Int) ⊕ Rec→St | .inl _=>M | .inr r=>M.ba r
theorem cS (b:Bool):b=false∨b=true:=by cases b<;>simp
theorem zq {F:Nat→Prop}{w:World}{sb:Nat}{M:St}(h:aq F w sb M)(l:Int)(lo hi:Edge)(U:lo.ok)(ax:hi.ok) :
  Calls Tryz.prog 125 #[.pointer (some ⟨sb,0,none⟩),.int .i64 l,.agg #[.int .u8 lo.tag,.int .u32 lo.to],.agg #[.int .u8 hi.tag,.int .u32 hi.to]] w fun e t=>
   e=.returned (.tuple #[.agg #[.int .u8 (iX M (bR M l lo hi)).tag,.int .u32 (iX M (bR M l lo hi)).to],.int .u8 (fB M (bR M l lo hi))])∧af F w t∧aq (aH F w t) t sb (bT M (bR M l lo hi)):=by
 have D:=h.wf.b0
 have E:=fun(s:World) (O:ae w s)=>cX (h.U O)
 have z:=fun(s:World) (O:ae w s)=>df (h.U O) 5 lo (l+1) U
 have Q:=fun(s:World) (O:ae w s)=>df (h.U O) 5 hi (l+1) ax
 by_cases V:l<0∨M.n≤l
 ·have e:bR M l lo hi=.inl (⟨0,0⟩,3):=ai V;rw[e];by_cases ay:l<0;·exact(zD sb l M.n lo hi w D h.a8 E ay).mono fun e t he=>⟨he.1,h.bc he.2⟩
  ·exact(zx sb l M.n lo hi w D h.a8 E (by omega) (by omega)).mono fun e t he=>⟨he.1,h.bc he.2⟩
 ·have h0:0≤l:=by omega
  have T:l<M.n:=by omega
  by_cases u:M.leads 5 lo (l+1)=false∨M.leads 5 hi (l+1)=false
  ·have e:bR M l lo hi=.inl (⟨0,0⟩,1):=(by unfold bR;rw[ag V,ai u]);rw[e];rcases cS (M.leads 5 lo (l+1))with J|J
   ·rw[J]at z;exact(zC sb l M.n lo hi w D h.a8 E h0 T z).mono fun e t he=>⟨he.1,h.bc he.2⟩
   ·rcases u with u|Y;·rw[u]at J;cases J
    ·rw[J]at z;rw[Y]at Q;exact(zB sb l M.n lo hi w D h.a8 E h0 T z Q).mono fun e t he=>⟨he.1,h.bc he.2⟩
  ·have J:M.leads 5 lo (l+1)=true:=(by rcases cS (M.leads 5 lo (l+1))with b|b;exact(u (.inl b)).elim;exact b);have Y:M.leads 5 hi (l+1)=true:=(by rcases cS (M.leads 5 hi (l+1))with b|b;exact(u (.inr b)).elim;exact b);rw[J]at z;rw[Y]at Q;by_cases N:lo=hi
   ·have e:bR M l lo hi=.inl (lo,0):=(by unfold bR;rw[ag V,ag u,ai N]);rw[e];exact(zE sb l M.n lo hi w D h.a8 E h0 T N z Q).mono fun e t he=>⟨he.1,h.bc he.2⟩
   ·by_cases W:hi.to=0∧lo.tag=l+1
    ·have e:bR M l lo hi=.inl (⟨l,lo.to⟩,0):=(by unfold bR;rw[ag V,ag u,ag N,ai W]);rw[e];obtain⟨lt,a2⟩:=lo;obtain⟨X,a0⟩:=hi;obtain⟨am,av⟩:=W;dsimp only at am av;subst am;subst av;exact(zF sb l M.n a2 X w D h.a8 E h0 T N z Q).mono fun e t he=>⟨he.1,h.bc he.2⟩
    ·have e:bR M l lo hi=.inr ⟨5,l,l,lo,hi⟩:=(by unfold bR;rw[ag V,ag u,ag N,ag W]);rw[e];have u:(⟨5,l,l,lo,hi⟩:Rec).ok:=⟨⟨by show(0:Int)≤5;decide,by show(5:Int)≤255;decide⟩,⟨h0,by show l≤255;omega⟩,⟨h0,by show l≤255;omega⟩,U,ax⟩;have aw:=fun(s:World) (O:ae w s)=>zp (h.U O) ⟨5,l,l,lo,hi⟩ u;by_cases Z:hi.to=0
     ·obtain⟨X,a0⟩:=hi;dsimp only at Z;subst Z;refine(zA (fun s I=>aq (aH F s I) I sb (M.ba ⟨5,l,l,lo,⟨X,0⟩⟩)) sb l M.n _ _ _ lo X w D h.a8 E h0 T N (fun a1=>W ⟨rfl,a1⟩) U.1.1 U.1.2 h.lt z Q aw).mono ?_;rintro e t ⟨rfl,s,I,ab,ad,ah,al⟩;exact⟨rfl,ah.after h.lt ab ad al⟩
     ·refine(zy (fun s I=>aq (aH F s I) I sb (M.ba ⟨5,l,l,lo,hi⟩)) sb l M.n _ _ _ lo hi w D h.a8 E h0 T N Z U.1.1 U.1.2 h.lt z Q aw).mono ?_;rintro e t ⟨rfl,s,I,ab,ad,ah,al⟩;exact⟨rfl,ah.after h.lt ab ad al⟩
end Go.Proofs.YtafkamlhimkbmaaGreat
