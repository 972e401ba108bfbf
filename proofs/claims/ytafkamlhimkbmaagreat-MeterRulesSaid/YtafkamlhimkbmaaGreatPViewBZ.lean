/-
  The walk of bdd.View, case by case (printed by wip/mk_view.py).
-/
import Derived.Test.YtafkamlhimkbmaaGreatPIntsW
namespace Go.Proofs.YtafkamlhimkbmaaGreat
set_option maxRecDepth 1000000
set_option maxHeartbeats 8000000
set_option linter.unusedSimpArgs false
set_option linter.unusedVariables false
open Go.RowKit
theorem rV (sb:Nat)(l n:Int)(v:Edge)(w:World)(D:n≤16)(E:sb<w.heap.size)
  (u:∀t,ae w t→Calls Tryz.prog 48 #[.pointer (some ⟨sb,0,none⟩)] t fun e s=>e=.returned (.int .i64 n)∧t=s)
  (h0:l<0)
  : Calls Tryz.prog 267 #[.pointer (some ⟨sb,0,none⟩),.agg #[.int .u8 v.tag,.int .u32 v.to],.int .i64 l] w fun e s=>e=.returned (.tuple #[.agg #[.int .u8 0,.int .u32 0],.agg #[.int .u8 0,.int .u32 0],.int .u8 3])∧ae w s:=by
 have z:=aa u
 clear u
 go_enter Tryz.func267,Tryz.ntmps267
 go_wp2_with (first|(go_at_call 48;refine(z.out _ kp).mono ?_;rintro e s ⟨rfl,rfl⟩)|fail)
 go_region
 all_goals go_wp2
 all_goals refine an (v:=.tuple #[.agg #[.int .u8 0,.int .u32 0],.agg #[.int .u8 0,.int .u32 0],.int .u8 3]) (by simp[results,Tryz.results267,go_sem]) rfl ⟨rfl,kp⟩
theorem rU (sb:Nat)(l n:Int)(v:Edge)(w:World)(E:n≤16)(I:sb<w.heap.size)
  (u:∀t,ae w t→Calls Tryz.prog 48 #[.pointer (some ⟨sb,0,none⟩)] t fun e s=>e=.returned (.int .i64 n)∧t=s)
  (h0:0≤l) (D:n≤l)
  : Calls Tryz.prog 267 #[.pointer (some ⟨sb,0,none⟩),.agg #[.int .u8 v.tag,.int .u32 v.to],.int .i64 l] w fun e s=>e=.returned (.tuple #[.agg #[.int .u8 0,.int .u32 0],.agg #[.int .u8 0,.int .u32 0],.int .u8 3])∧ae w s:=by
 have z:=aa u
 clear u
 go_enter Tryz.func267,Tryz.ntmps267
 go_wp2_with (first|(go_at_call 48;refine(z.out _ kp).mono ?_;rintro e s ⟨rfl,rfl⟩)|fail)
 go_region
 all_goals go_wp2
 all_goals refine an (v:=.tuple #[.agg #[.int .u8 0,.int .u32 0],.agg #[.int .u8 0,.int .u32 0],.int .u8 3]) (by simp[results,Tryz.results267,go_sem]) rfl ⟨rfl,kp⟩
theorem rW (sb:Nat)(l n:Int)(v:Edge)(w:World)(X:n≤16)(Y:sb<w.heap.size)
  (D:∀t,ae w t→Calls Tryz.prog 48 #[.pointer (some ⟨sb,0,none⟩)] t fun e u=>e=.returned (.int .i64 n)∧t=u)
  (h0:0≤l) (W:l<n)
  (z:∀t,ae w t→Calls Tryz.prog 134 #[.pointer (some ⟨sb,0,none⟩),.int .u8 1,.agg #[.int .u8 v.tag,.int .u32 v.to],.int .i64 l] t fun e u=>e=.returned (.bool false)∧ae t u)
  : Calls Tryz.prog 267 #[.pointer (some ⟨sb,0,none⟩),.agg #[.int .u8 v.tag,.int .u32 v.to],.int .i64 l] w fun e u=>e=.returned (.tuple #[.agg #[.int .u8 0,.int .u32 0],.agg #[.int .u8 0,.int .u32 0],.int .u8 1])∧ae w u:=by
 have I:=aa D
 clear D
 have E:=aa z
 clear z
 go_enter Tryz.func267,Tryz.ntmps267
 go_wp2_with (first|(go_at_call 48;refine(I.out _ kp).mono ?_;rintro e u ⟨rfl,rfl⟩)|fail)
 (go_at_call 134;refine(E.out _ kp).mono ?_;rintro e w1 ⟨rfl,s⟩;have J:=s.size;simp only[ak]at J;have t:w.heap.size<w1.heap.size:=(by omega);have N:w.heap.size+1<w1.heap.size:=(by omega);have O:w.heap.size+2<w1.heap.size:=(by omega);have t:=s.I (a:=⟨w.heap.size,0,none⟩) (v:=.int .u8 v.tag);have t:=s.I (a:=⟨w.heap.size,1,none⟩) (v:=.int .u32 v.to);have Q:=s.I (a:=⟨w.heap.size+1,0,none⟩) (v:=.int .u8 0);have T:=s.I (a:=⟨w.heap.size+1,1,none⟩) (v:=.int .u32 0);have U:=s.I (a:=⟨w.heap.size+2,0,none⟩) (v:=.int .u8 0);have V:=s.I (a:=⟨w.heap.size+2,1,none⟩) (v:=.int .u32 0);have t:=fun o:Nat=>s.frz (a:=⟨w.heap.size+1,o,none⟩) (by simp[go_sem]) (by simp[go_sem]);have t:=fun o:Nat=>s.frz (a:=⟨w.heap.size+2,o,none⟩) (by simp[go_sem]) (by simp[go_sem]);have s:ae w w1:=kp)
 go_wp2_with fail
 go_region
 all_goals go_wp2
 all_goals refine an (v:=.tuple #[.agg #[.int .u8 0,.int .u32 0],.agg #[.int .u8 0,.int .u32 0],.int .u8 1]) (by simp[results,Tryz.results267,go_sem,N,O,Q,T,U,V]) rfl ⟨rfl,kp⟩
theorem rX (sb:Nat)(l n:Int)(v:Edge)(x:Rec)(w:World)(ax:n≤16)(ay:sb<w.heap.size)
  (T:∀s,ae w s→Calls Tryz.prog 48 #[.pointer (some ⟨sb,0,none⟩)] s fun e z=>e=.returned (.int .i64 n)∧s=z)
  (h0:0≤l) (aw:l<n)
  (Q:∀s,ae w s→Calls Tryz.prog 134 #[.pointer (some ⟨sb,0,none⟩),.int .u8 1,.agg #[.int .u8 v.tag,.int .u32 v.to],.int .i64 l] s fun e z=>e=.returned (.bool true)∧ae s z)
  (O:∀s,ae w s→Calls Tryz.prog 78 #[.pointer (some ⟨sb,0,none⟩),.int .u32 v.to] s fun e z=>e=.returned (.tuple #[.agg #[.int .u8 x.ad,.int .u8 x.top,.int .u8 x.J,.int .u8 x.lo.tag,.int .u32 x.lo.to,.int .u8 x.hi.tag,.int .u32 x.hi.to],.bool false])∧ae s z)
  : Calls Tryz.prog 267 #[.pointer (some ⟨sb,0,none⟩),.agg #[.int .u8 v.tag,.int .u32 v.to],.int .i64 l] w fun e z=>e=.returned (.tuple #[.agg #[.int .u8 v.tag,.int .u32 v.to],.agg #[.int .u8 v.tag,.int .u32 v.to],.int .u8 0])∧ae w z:=by
 have ah:=aa T
 clear T
 have ad:=aa Q
 clear Q
 have ab:=aa O
 clear O
 go_enter Tryz.func267,Tryz.ntmps267
 go_wp2_with (first|(go_at_call 48;refine(ah.out _ kp).mono ?_;rintro e z ⟨rfl,rfl⟩)|fail)
 (go_at_call 134;refine(ad.out _ kp).mono ?_;rintro e w1 ⟨rfl,u⟩;have am:=u.size;simp only[ak]at am;have av:w.heap.size<w1.heap.size:=(by omega);have U:w.heap.size+1<w1.heap.size:=(by omega);have V:w.heap.size+2<w1.heap.size:=(by omega);have X:=u.I (a:=⟨w.heap.size,0,none⟩) (v:=.int .u8 v.tag);have Y:=u.I (a:=⟨w.heap.size,1,none⟩) (v:=.int .u32 v.to);have E:=u.I (a:=⟨w.heap.size+1,0,none⟩) (v:=.int .u8 0);have I:=u.I (a:=⟨w.heap.size+1,1,none⟩) (v:=.int .u32 0);have J:=u.I (a:=⟨w.heap.size+2,0,none⟩) (v:=.int .u8 0);have N:=u.I (a:=⟨w.heap.size+2,1,none⟩) (v:=.int .u32 0);have W:=fun o:Nat=>u.frz (a:=⟨w.heap.size+1,o,none⟩) (by simp[go_sem]) (by simp[go_sem]);have Z:=fun o:Nat=>u.frz (a:=⟨w.heap.size+2,o,none⟩) (by simp[go_sem]) (by simp[go_sem]);have al:ae w w1:=kp)
 go_wp2_with fail
 (go_at_call 78;refine(ab.out _ kp).mono ?_;rintro e D ⟨rfl,t⟩;have s:=t.size;have W:=fun o:Nat=>t.frz (a:=⟨w.heap.size+1,o,none⟩) (by dsimp only;omega) (W o);have Z:=fun o:Nat=>t.frz (a:=⟨w.heap.size+2,o,none⟩) (by dsimp only;omega) (Z o);have X:=t.cell X;have Y:=t.cell Y;have E:=t.cell E;have I:=t.cell I;have J:=t.cell J;have N:=t.cell N;have av:w.heap.size<D.heap.size:=(by omega);have U:w.heap.size+1<D.heap.size:=(by omega);have V:w.heap.size+2<D.heap.size:=(by omega);have s:ae w D:=al.trans t)
 go_wp2_with fail
 go_region
 all_goals go_wp2
 all_goals refine an (v:=.tuple #[.agg #[.int .u8 v.tag,.int .u32 v.to],.agg #[.int .u8 v.tag,.int .u32 v.to],.int .u8 0]) (by simp[results,Tryz.results267,go_sem,U,V,E,I,J,N]) rfl ⟨rfl,kp⟩
theorem rY (sb:Nat)(l n:Int)(v:Edge)(x:Rec)(w:World)(ax:n≤16)(ay:sb<w.heap.size)
  (T:∀s,ae w s→Calls Tryz.prog 48 #[.pointer (some ⟨sb,0,none⟩)] s fun e z=>e=.returned (.int .i64 n)∧s=z)
  (h0:0≤l) (aw:l<n)
  (Q:∀s,ae w s→Calls Tryz.prog 134 #[.pointer (some ⟨sb,0,none⟩),.int .u8 1,.agg #[.int .u8 v.tag,.int .u32 v.to],.int .i64 l] s fun e z=>e=.returned (.bool true)∧ae s z)
  (a0:l<x.top) (a1:0≤x.top) (a2:x.top≤255) (a3:0≤x.J) (a4:x.J≤255)
  (O:∀s,ae w s→Calls Tryz.prog 78 #[.pointer (some ⟨sb,0,none⟩),.int .u32 v.to] s fun e z=>e=.returned (.tuple #[.agg #[.int .u8 x.ad,.int .u8 x.top,.int .u8 x.J,.int .u8 x.lo.tag,.int .u32 x.lo.to,.int .u8 x.hi.tag,.int .u32 x.hi.to],.bool true])∧ae s z)
  : Calls Tryz.prog 267 #[.pointer (some ⟨sb,0,none⟩),.agg #[.int .u8 v.tag,.int .u32 v.to],.int .i64 l] w fun e z=>e=.returned (.tuple #[.agg #[.int .u8 v.tag,.int .u32 v.to],.agg #[.int .u8 v.tag,.int .u32 v.to],.int .u8 0])∧ae w z:=by
 have ah:=aa T
 clear T
 have ad:=aa Q
 clear Q
 have ab:=aa O
 clear O
 go_enter Tryz.func267,Tryz.ntmps267
 go_wp2_with (first|(go_at_call 48;refine(ah.out _ kp).mono ?_;rintro e z ⟨rfl,rfl⟩)|fail)
 (go_at_call 134;refine(ad.out _ kp).mono ?_;rintro e w1 ⟨rfl,u⟩;have am:=u.size;simp only[ak]at am;have av:w.heap.size<w1.heap.size:=(by omega);have U:w.heap.size+1<w1.heap.size:=(by omega);have V:w.heap.size+2<w1.heap.size:=(by omega);have X:=u.I (a:=⟨w.heap.size,0,none⟩) (v:=.int .u8 v.tag);have Y:=u.I (a:=⟨w.heap.size,1,none⟩) (v:=.int .u32 v.to);have E:=u.I (a:=⟨w.heap.size+1,0,none⟩) (v:=.int .u8 0);have I:=u.I (a:=⟨w.heap.size+1,1,none⟩) (v:=.int .u32 0);have J:=u.I (a:=⟨w.heap.size+2,0,none⟩) (v:=.int .u8 0);have N:=u.I (a:=⟨w.heap.size+2,1,none⟩) (v:=.int .u32 0);have W:=fun o:Nat=>u.frz (a:=⟨w.heap.size+1,o,none⟩) (by simp[go_sem]) (by simp[go_sem]);have Z:=fun o:Nat=>u.frz (a:=⟨w.heap.size+2,o,none⟩) (by simp[go_sem]) (by simp[go_sem]);have al:ae w w1:=kp)
 go_wp2_with fail
 (go_at_call 78;refine(ab.out _ kp).mono ?_;rintro e D ⟨rfl,t⟩;have s:=t.size;have W:=fun o:Nat=>t.frz (a:=⟨w.heap.size+1,o,none⟩) (by dsimp only;omega) (W o);have Z:=fun o:Nat=>t.frz (a:=⟨w.heap.size+2,o,none⟩) (by dsimp only;omega) (Z o);have X:=t.cell X;have Y:=t.cell Y;have E:=t.cell E;have I:=t.cell I;have J:=t.cell J;have N:=t.cell N;have av:w.heap.size<D.heap.size:=(by omega);have U:w.heap.size+1<D.heap.size:=(by omega);have V:w.heap.size+2<D.heap.size:=(by omega);have s:ae w D:=al.trans t)
 go_wp2_with fail
 go_region
 all_goals go_wp2
 all_goals refine an (v:=.tuple #[.agg #[.int .u8 v.tag,.int .u32 v.to],.agg #[.int .u8 v.tag,.int .u32 v.to],.int .u8 0]) (by simp[results,Tryz.results267,go_sem,U,V,E,I,J,N]) rfl ⟨rfl,kp⟩
theorem rT (sb:Nat)(l n:Int)(v:Edge)(x:Rec)(w:World)(ax:n≤16)(ay:sb<w.heap.size)
  (T:∀s,ae w s→Calls Tryz.prog 48 #[.pointer (some ⟨sb,0,none⟩)] s fun e z=>e=.returned (.int .i64 n)∧s=z)
  (h0:0≤l) (aw:l<n)
  (Q:∀s,ae w s→Calls Tryz.prog 134 #[.pointer (some ⟨sb,0,none⟩),.int .u8 1,.agg #[.int .u8 v.tag,.int .u32 v.to],.int .i64 l] s fun e z=>e=.returned (.bool true)∧ae s z)
   (a0:0≤x.top) (a1:x.top≤255) (a2:0≤x.J) (a3:x.J≤255)
  (O:∀s,ae w s→Calls Tryz.prog 78 #[.pointer (some ⟨sb,0,none⟩),.int .u32 v.to] s fun e z=>e=.returned (.tuple #[.agg #[.int .u8 x.ad,.int .u8 l,.int .u8 x.J,.int .u8 x.lo.tag,.int .u32 x.lo.to,.int .u8 x.hi.tag,.int .u32 x.hi.to],.bool true])∧ae s z)
  : Calls Tryz.prog 267 #[.pointer (some ⟨sb,0,none⟩),.agg #[.int .u8 v.tag,.int .u32 v.to],.int .i64 l] w fun e z=>e=.returned (.tuple #[.agg #[.int .u8 x.lo.tag,.int .u32 x.lo.to],.agg #[.int .u8 x.hi.tag,.int .u32 x.hi.to],.int .u8 0])∧ae w z:=by
 have ah:=aa T
 clear T
 have ad:=aa Q
 clear Q
 have ab:=aa O
 clear O
 go_enter Tryz.func267,Tryz.ntmps267
 go_wp2_with (first|(go_at_call 48;refine(ah.out _ kp).mono ?_;rintro e z ⟨rfl,rfl⟩)|fail)
 (go_at_call 134;refine(ad.out _ kp).mono ?_;rintro e w1 ⟨rfl,u⟩;have am:=u.size;simp only[ak]at am;have av:w.heap.size<w1.heap.size:=(by omega);have U:w.heap.size+1<w1.heap.size:=(by omega);have V:w.heap.size+2<w1.heap.size:=(by omega);have X:=u.I (a:=⟨w.heap.size,0,none⟩) (v:=.int .u8 v.tag);have Y:=u.I (a:=⟨w.heap.size,1,none⟩) (v:=.int .u32 v.to);have E:=u.I (a:=⟨w.heap.size+1,0,none⟩) (v:=.int .u8 0);have I:=u.I (a:=⟨w.heap.size+1,1,none⟩) (v:=.int .u32 0);have J:=u.I (a:=⟨w.heap.size+2,0,none⟩) (v:=.int .u8 0);have N:=u.I (a:=⟨w.heap.size+2,1,none⟩) (v:=.int .u32 0);have W:=fun o:Nat=>u.frz (a:=⟨w.heap.size+1,o,none⟩) (by simp[go_sem]) (by simp[go_sem]);have Z:=fun o:Nat=>u.frz (a:=⟨w.heap.size+2,o,none⟩) (by simp[go_sem]) (by simp[go_sem]);have al:ae w w1:=kp)
 go_wp2_with fail
 (go_at_call 78;refine(ab.out _ kp).mono ?_;rintro e D ⟨rfl,t⟩;have s:=t.size;have W:=fun o:Nat=>t.frz (a:=⟨w.heap.size+1,o,none⟩) (by dsimp only;omega) (W o);have Z:=fun o:Nat=>t.frz (a:=⟨w.heap.size+2,o,none⟩) (by dsimp only;omega) (Z o);have X:=t.cell X;have Y:=t.cell Y;have E:=t.cell E;have I:=t.cell I;have J:=t.cell J;have N:=t.cell N;have av:w.heap.size<D.heap.size:=(by omega);have U:w.heap.size+1<D.heap.size:=(by omega);have V:w.heap.size+2<D.heap.size:=(by omega);have s:ae w D:=al.trans t)
 go_wp2_with fail
 go_region
 all_goals go_wp2
 all_goals refine an (v:=.tuple #[.agg #[.int .u8 x.lo.tag,.int .u32 x.lo.to],.agg #[.int .u8 x.hi.tag,.int .u32 x.hi.to],.int .u8 0]) (by simp[results,Tryz.results267,go_sem,U,V,E,I,J,N]) rfl ⟨rfl,kp⟩
theorem AO (sb:Nat)(l n:Int)(v:Edge)(w:World)(D:n≤16)(E:sb<w.heap.size)
  (u:∀t,ae w t→Calls Tryz.prog 48 #[.pointer (some ⟨sb,0,none⟩)] t fun e s=>e=.returned (.int .i64 n)∧t=s)
  (h0:l<0)
  : Calls Tryz.prog 268 #[.pointer (some ⟨sb,0,none⟩),.agg #[.int .u8 v.tag,.int .u32 v.to],.int .i64 l] w fun e s=>e=.returned (.tuple #[.agg #[.int .u8 0,.int .u32 0],.agg #[.int .u8 0,.int .u32 0],.int .u8 3])∧ae w s:=by
 have z:=aa u
 clear u
 go_enter Tryz.func268,Tryz.ntmps268
 go_wp2_with (first|(go_at_call 48;refine(z.out _ kp).mono ?_;rintro e s ⟨rfl,rfl⟩)|fail)
 go_region
 all_goals go_wp2
 all_goals refine an (v:=.tuple #[.agg #[.int .u8 0,.int .u32 0],.agg #[.int .u8 0,.int .u32 0],.int .u8 3]) (by simp[results,Tryz.results268,go_sem]) rfl ⟨rfl,kp⟩
theorem AN (sb:Nat)(l n:Int)(v:Edge)(w:World)(E:n≤16)(I:sb<w.heap.size)
  (u:∀t,ae w t→Calls Tryz.prog 48 #[.pointer (some ⟨sb,0,none⟩)] t fun e s=>e=.returned (.int .i64 n)∧t=s)
  (h0:0≤l) (D:n≤l)
  : Calls Tryz.prog 268 #[.pointer (some ⟨sb,0,none⟩),.agg #[.int .u8 v.tag,.int .u32 v.to],.int .i64 l] w fun e s=>e=.returned (.tuple #[.agg #[.int .u8 0,.int .u32 0],.agg #[.int .u8 0,.int .u32 0],.int .u8 3])∧ae w s:=by
 have z:=aa u
 clear u
 go_enter Tryz.func268,Tryz.ntmps268
 go_wp2_with (first|(go_at_call 48;refine(z.out _ kp).mono ?_;rintro e s ⟨rfl,rfl⟩)|fail)
 go_region
 all_goals go_wp2
 all_goals refine an (v:=.tuple #[.agg #[.int .u8 0,.int .u32 0],.agg #[.int .u8 0,.int .u32 0],.int .u8 3]) (by simp[results,Tryz.results268,go_sem]) rfl ⟨rfl,kp⟩
theorem AP (sb:Nat)(l n:Int)(v:Edge)(w:World)(X:n≤16)(Y:sb<w.heap.size)
  (D:∀t,ae w t→Calls Tryz.prog 48 #[.pointer (some ⟨sb,0,none⟩)] t fun e u=>e=.returned (.int .i64 n)∧t=u)
  (h0:0≤l) (W:l<n)
  (z:∀t,ae w t→Calls Tryz.prog 134 #[.pointer (some ⟨sb,0,none⟩),.int .u8 2,.agg #[.int .u8 v.tag,.int .u32 v.to],.int .i64 l] t fun e u=>e=.returned (.bool false)∧ae t u)
  : Calls Tryz.prog 268 #[.pointer (some ⟨sb,0,none⟩),.agg #[.int .u8 v.tag,.int .u32 v.to],.int .i64 l] w fun e u=>e=.returned (.tuple #[.agg #[.int .u8 0,.int .u32 0],.agg #[.int .u8 0,.int .u32 0],.int .u8 1])∧ae w u:=by
 have I:=aa D
 clear D
 have E:=aa z
 clear z
 go_enter Tryz.func268,Tryz.ntmps268
 go_wp2_with (first|(go_at_call 48;refine(I.out _ kp).mono ?_;rintro e u ⟨rfl,rfl⟩)|fail)
 (go_at_call 134;refine(E.out _ kp).mono ?_;rintro e w1 ⟨rfl,s⟩;have J:=s.size;simp only[ak]at J;have t:w.heap.size<w1.heap.size:=(by omega);have N:w.heap.size+1<w1.heap.size:=(by omega);have O:w.heap.size+2<w1.heap.size:=(by omega);have t:=s.I (a:=⟨w.heap.size,0,none⟩) (v:=.int .u8 v.tag);have t:=s.I (a:=⟨w.heap.size,1,none⟩) (v:=.int .u32 v.to);have Q:=s.I (a:=⟨w.heap.size+1,0,none⟩) (v:=.int .u8 0);have T:=s.I (a:=⟨w.heap.size+1,1,none⟩) (v:=.int .u32 0);have U:=s.I (a:=⟨w.heap.size+2,0,none⟩) (v:=.int .u8 0);have V:=s.I (a:=⟨w.heap.size+2,1,none⟩) (v:=.int .u32 0);have t:=fun o:Nat=>s.frz (a:=⟨w.heap.size+1,o,none⟩) (by simp[go_sem]) (by simp[go_sem]);have t:=fun o:Nat=>s.frz (a:=⟨w.heap.size+2,o,none⟩) (by simp[go_sem]) (by simp[go_sem]);have s:ae w w1:=kp)
 go_wp2_with fail
 go_region
 all_goals go_wp2
 all_goals refine an (v:=.tuple #[.agg #[.int .u8 0,.int .u32 0],.agg #[.int .u8 0,.int .u32 0],.int .u8 1]) (by simp[results,Tryz.results268,go_sem,N,O,Q,T,U,V]) rfl ⟨rfl,kp⟩
theorem AQ (sb:Nat)(l n:Int)(v:Edge)(x:Rec)(w:World)(ax:n≤16)(ay:sb<w.heap.size)
  (T:∀s,ae w s→Calls Tryz.prog 48 #[.pointer (some ⟨sb,0,none⟩)] s fun e z=>e=.returned (.int .i64 n)∧s=z)
  (h0:0≤l) (aw:l<n)
  (Q:∀s,ae w s→Calls Tryz.prog 134 #[.pointer (some ⟨sb,0,none⟩),.int .u8 2,.agg #[.int .u8 v.tag,.int .u32 v.to],.int .i64 l] s fun e z=>e=.returned (.bool true)∧ae s z)
  (O:∀s,ae w s→Calls Tryz.prog 78 #[.pointer (some ⟨sb,0,none⟩),.int .u32 v.to] s fun e z=>e=.returned (.tuple #[.agg #[.int .u8 x.ad,.int .u8 x.top,.int .u8 x.J,.int .u8 x.lo.tag,.int .u32 x.lo.to,.int .u8 x.hi.tag,.int .u32 x.hi.to],.bool false])∧ae s z)
  : Calls Tryz.prog 268 #[.pointer (some ⟨sb,0,none⟩),.agg #[.int .u8 v.tag,.int .u32 v.to],.int .i64 l] w fun e z=>e=.returned (.tuple #[.agg #[.int .u8 v.tag,.int .u32 v.to],.agg #[.int .u8 0,.int .u32 0],.int .u8 0])∧ae w z:=by
 have ah:=aa T
 clear T
 have ad:=aa Q
 clear Q
 have ab:=aa O
 clear O
 go_enter Tryz.func268,Tryz.ntmps268
 go_wp2_with (first|(go_at_call 48;refine(ah.out _ kp).mono ?_;rintro e z ⟨rfl,rfl⟩)|fail)
 (go_at_call 134;refine(ad.out _ kp).mono ?_;rintro e w1 ⟨rfl,u⟩;have am:=u.size;simp only[ak]at am;have av:w.heap.size<w1.heap.size:=(by omega);have U:w.heap.size+1<w1.heap.size:=(by omega);have V:w.heap.size+2<w1.heap.size:=(by omega);have X:=u.I (a:=⟨w.heap.size,0,none⟩) (v:=.int .u8 v.tag);have Y:=u.I (a:=⟨w.heap.size,1,none⟩) (v:=.int .u32 v.to);have E:=u.I (a:=⟨w.heap.size+1,0,none⟩) (v:=.int .u8 0);have I:=u.I (a:=⟨w.heap.size+1,1,none⟩) (v:=.int .u32 0);have J:=u.I (a:=⟨w.heap.size+2,0,none⟩) (v:=.int .u8 0);have N:=u.I (a:=⟨w.heap.size+2,1,none⟩) (v:=.int .u32 0);have W:=fun o:Nat=>u.frz (a:=⟨w.heap.size+1,o,none⟩) (by simp[go_sem]) (by simp[go_sem]);have Z:=fun o:Nat=>u.frz (a:=⟨w.heap.size+2,o,none⟩) (by simp[go_sem]) (by simp[go_sem]);have al:ae w w1:=kp)
 go_wp2_with fail
 (go_at_call 78;refine(ab.out _ kp).mono ?_;rintro e D ⟨rfl,t⟩;have s:=t.size;have W:=fun o:Nat=>t.frz (a:=⟨w.heap.size+1,o,none⟩) (by dsimp only;omega) (W o);have Z:=fun o:Nat=>t.frz (a:=⟨w.heap.size+2,o,none⟩) (by dsimp only;omega) (Z o);have X:=t.cell X;have Y:=t.cell Y;have E:=t.cell E;have I:=t.cell I;have J:=t.cell J;have N:=t.cell N;have av:w.heap.size<D.heap.size:=(by omega);have U:w.heap.size+1<D.heap.size:=(by omega);have V:w.heap.size+2<D.heap.size:=(by omega);have s:ae w D:=al.trans t)
 go_wp2_with fail
 all_goals refine an (v:=.tuple #[.agg #[.int .u8 v.tag,.int .u32 v.to],.agg #[.int .u8 0,.int .u32 0],.int .u8 0]) (by simp[results,Tryz.results268,go_sem,U,V,E,I,J,N]) rfl ⟨rfl,kp⟩
theorem AR (sb:Nat)(l n:Int)(v:Edge)(x:Rec)(w:World)(ax:n≤16)(ay:sb<w.heap.size)
  (T:∀s,ae w s→Calls Tryz.prog 48 #[.pointer (some ⟨sb,0,none⟩)] s fun e z=>e=.returned (.int .i64 n)∧s=z)
  (h0:0≤l) (aw:l<n)
  (Q:∀s,ae w s→Calls Tryz.prog 134 #[.pointer (some ⟨sb,0,none⟩),.int .u8 2,.agg #[.int .u8 v.tag,.int .u32 v.to],.int .i64 l] s fun e z=>e=.returned (.bool true)∧ae s z)
  (a0:l<x.top) (a1:0≤x.top) (a2:x.top≤255) (a3:0≤x.J) (a4:x.J≤255)
  (O:∀s,ae w s→Calls Tryz.prog 78 #[.pointer (some ⟨sb,0,none⟩),.int .u32 v.to] s fun e z=>e=.returned (.tuple #[.agg #[.int .u8 x.ad,.int .u8 x.top,.int .u8 x.J,.int .u8 x.lo.tag,.int .u32 x.lo.to,.int .u8 x.hi.tag,.int .u32 x.hi.to],.bool true])∧ae s z)
  : Calls Tryz.prog 268 #[.pointer (some ⟨sb,0,none⟩),.agg #[.int .u8 v.tag,.int .u32 v.to],.int .i64 l] w fun e z=>e=.returned (.tuple #[.agg #[.int .u8 v.tag,.int .u32 v.to],.agg #[.int .u8 0,.int .u32 0],.int .u8 0])∧ae w z:=by
 have ah:=aa T
 clear T
 have ad:=aa Q
 clear Q
 have ab:=aa O
 clear O
 go_enter Tryz.func268,Tryz.ntmps268
 go_wp2_with (first|(go_at_call 48;refine(ah.out _ kp).mono ?_;rintro e z ⟨rfl,rfl⟩)|fail)
 (go_at_call 134;refine(ad.out _ kp).mono ?_;rintro e w1 ⟨rfl,u⟩;have am:=u.size;simp only[ak]at am;have av:w.heap.size<w1.heap.size:=(by omega);have U:w.heap.size+1<w1.heap.size:=(by omega);have V:w.heap.size+2<w1.heap.size:=(by omega);have X:=u.I (a:=⟨w.heap.size,0,none⟩) (v:=.int .u8 v.tag);have Y:=u.I (a:=⟨w.heap.size,1,none⟩) (v:=.int .u32 v.to);have E:=u.I (a:=⟨w.heap.size+1,0,none⟩) (v:=.int .u8 0);have I:=u.I (a:=⟨w.heap.size+1,1,none⟩) (v:=.int .u32 0);have J:=u.I (a:=⟨w.heap.size+2,0,none⟩) (v:=.int .u8 0);have N:=u.I (a:=⟨w.heap.size+2,1,none⟩) (v:=.int .u32 0);have W:=fun o:Nat=>u.frz (a:=⟨w.heap.size+1,o,none⟩) (by simp[go_sem]) (by simp[go_sem]);have Z:=fun o:Nat=>u.frz (a:=⟨w.heap.size+2,o,none⟩) (by simp[go_sem]) (by simp[go_sem]);have al:ae w w1:=kp)
 go_wp2_with fail
 (go_at_call 78;refine(ab.out _ kp).mono ?_;rintro e D ⟨rfl,t⟩;have s:=t.size;have W:=fun o:Nat=>t.frz (a:=⟨w.heap.size+1,o,none⟩) (by dsimp only;omega) (W o);have Z:=fun o:Nat=>t.frz (a:=⟨w.heap.size+2,o,none⟩) (by dsimp only;omega) (Z o);have X:=t.cell X;have Y:=t.cell Y;have E:=t.cell E;have I:=t.cell I;have J:=t.cell J;have N:=t.cell N;have av:w.heap.size<D.heap.size:=(by omega);have U:w.heap.size+1<D.heap.size:=(by omega);have V:w.heap.size+2<D.heap.size:=(by omega);have s:ae w D:=al.trans t)
 go_wp2_with fail
 all_goals refine an (v:=.tuple #[.agg #[.int .u8 v.tag,.int .u32 v.to],.agg #[.int .u8 0,.int .u32 0],.int .u8 0]) (by simp[results,Tryz.results268,go_sem,U,V,E,I,J,N]) rfl ⟨rfl,kp⟩
theorem AM (sb:Nat)(l n:Int)(v:Edge)(x:Rec)(w:World)(ax:n≤16)(ay:sb<w.heap.size)
  (T:∀s,ae w s→Calls Tryz.prog 48 #[.pointer (some ⟨sb,0,none⟩)] s fun e z=>e=.returned (.int .i64 n)∧s=z)
  (h0:0≤l) (aw:l<n)
  (Q:∀s,ae w s→Calls Tryz.prog 134 #[.pointer (some ⟨sb,0,none⟩),.int .u8 2,.agg #[.int .u8 v.tag,.int .u32 v.to],.int .i64 l] s fun e z=>e=.returned (.bool true)∧ae s z)
   (a0:0≤x.top) (a1:x.top≤255) (a2:0≤x.J) (a3:x.J≤255)
  (O:∀s,ae w s→Calls Tryz.prog 78 #[.pointer (some ⟨sb,0,none⟩),.int .u32 v.to] s fun e z=>e=.returned (.tuple #[.agg #[.int .u8 x.ad,.int .u8 l,.int .u8 x.J,.int .u8 x.lo.tag,.int .u32 x.lo.to,.int .u8 x.hi.tag,.int .u32 x.hi.to],.bool true])∧ae s z)
  : Calls Tryz.prog 268 #[.pointer (some ⟨sb,0,none⟩),.agg #[.int .u8 v.tag,.int .u32 v.to],.int .i64 l] w fun e z=>e=.returned (.tuple #[.agg #[.int .u8 x.lo.tag,.int .u32 x.lo.to],.agg #[.int .u8 x.hi.tag,.int .u32 x.hi.to],.int .u8 0])∧ae w z:=by
 have ah:=aa T
 clear T
 have ad:=aa Q
 clear Q
 have ab:=aa O
 clear O
 go_enter Tryz.func268,Tryz.ntmps268
 go_wp2_with (first|(go_at_call 48;refine(ah.out _ kp).mono ?_;rintro e z ⟨rfl,rfl⟩)|fail)
 (go_at_call 134;refine(ad.out _ kp).mono ?_;rintro e w1 ⟨rfl,u⟩;have am:=u.size;simp only[ak]at am;have av:w.heap.size<w1.heap.size:=(by omega);have U:w.heap.size+1<w1.heap.size:=(by omega);have V:w.heap.size+2<w1.heap.size:=(by omega);have X:=u.I (a:=⟨w.heap.size,0,none⟩) (v:=.int .u8 v.tag);have Y:=u.I (a:=⟨w.heap.size,1,none⟩) (v:=.int .u32 v.to);have E:=u.I (a:=⟨w.heap.size+1,0,none⟩) (v:=.int .u8 0);have I:=u.I (a:=⟨w.heap.size+1,1,none⟩) (v:=.int .u32 0);have J:=u.I (a:=⟨w.heap.size+2,0,none⟩) (v:=.int .u8 0);have N:=u.I (a:=⟨w.heap.size+2,1,none⟩) (v:=.int .u32 0);have W:=fun o:Nat=>u.frz (a:=⟨w.heap.size+1,o,none⟩) (by simp[go_sem]) (by simp[go_sem]);have Z:=fun o:Nat=>u.frz (a:=⟨w.heap.size+2,o,none⟩) (by simp[go_sem]) (by simp[go_sem]);have al:ae w w1:=kp)
 go_wp2_with fail
 (go_at_call 78;refine(ab.out _ kp).mono ?_;rintro e D ⟨rfl,t⟩;have s:=t.size;have W:=fun o:Nat=>t.frz (a:=⟨w.heap.size+1,o,none⟩) (by dsimp only;omega) (W o);have Z:=fun o:Nat=>t.frz (a:=⟨w.heap.size+2,o,none⟩) (by dsimp only;omega) (Z o);have X:=t.cell X;have Y:=t.cell Y;have E:=t.cell E;have I:=t.cell I;have J:=t.cell J;have N:=t.cell N;have av:w.heap.size<D.heap.size:=(by omega);have U:w.heap.size+1<D.heap.size:=(by omega);have V:w.heap.size+2<D.heap.size:=(by omega);have s:ae w D:=al.trans t)
 go_wp2_with fail
 go_region
 all_goals go_wp2
 all_goals refine an (v:=.tuple #[.agg #[.int .u8 x.lo.tag,.int .u32 x.lo.to],.agg #[.int .u8 x.hi.tag,.int .u32 x.hi.to],.int .u8 0]) (by simp[results,Tryz.results268,go_sem,U,V,E,I,J,N]) rfl ⟨rfl,kp⟩
end Go.Proofs.YtafkamlhimkbmaaGreat
