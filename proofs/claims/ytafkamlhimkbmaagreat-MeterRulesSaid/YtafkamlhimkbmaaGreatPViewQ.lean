/-
  The walk of czdd.View, case by case (printed by wip/mk_view.py).
-/
import Derived.Test.YtafkamlhimkbmaaGreatPIntsW
namespace Go.Proofs.YtafkamlhimkbmaaGreat
set_option maxRecDepth 1000000
set_option maxHeartbeats 8000000
set_option linter.unusedSimpArgs false
set_option linter.unusedVariables false
open Go.RowKit
theorem xT (sb:Nat)(l n:Int)(v:Edge)(w:World)(D:n≤16)(E:sb<w.heap.size)
  (u:∀t,ae w t→Calls Tryz.prog 48 #[.pointer (some ⟨sb,0,none⟩)] t fun e s=>e=.returned (.int .i64 n)∧t=s)
  (h0:l<0)
  : Calls Tryz.prog 270 #[.pointer (some ⟨sb,0,none⟩),.agg #[.int .u8 v.tag,.int .u32 v.to],.int .i64 l] w fun e s=>e=.returned (.tuple #[.agg #[.int .u8 0,.int .u32 0],.agg #[.int .u8 0,.int .u32 0],.int .u8 3])∧ae w s:=by
 have z:=aa u
 clear u
 go_enter Tryz.func270,Tryz.ntmps270
 go_wp2_with (first|(go_at_call 48;refine(z.out _ kp).mono ?_;rintro e s ⟨rfl,rfl⟩)|fail)
 go_region
 all_goals go_wp2
 all_goals refine an (v:=.tuple #[.agg #[.int .u8 0,.int .u32 0],.agg #[.int .u8 0,.int .u32 0],.int .u8 3]) (by simp[results,Tryz.results270,go_sem]) rfl ⟨rfl,kp⟩
theorem xQ (sb:Nat)(l n:Int)(v:Edge)(w:World)(E:n≤16)(I:sb<w.heap.size)
  (u:∀t,ae w t→Calls Tryz.prog 48 #[.pointer (some ⟨sb,0,none⟩)] t fun e s=>e=.returned (.int .i64 n)∧t=s)
  (h0:0≤l) (D:n≤l)
  : Calls Tryz.prog 270 #[.pointer (some ⟨sb,0,none⟩),.agg #[.int .u8 v.tag,.int .u32 v.to],.int .i64 l] w fun e s=>e=.returned (.tuple #[.agg #[.int .u8 0,.int .u32 0],.agg #[.int .u8 0,.int .u32 0],.int .u8 3])∧ae w s:=by
 have z:=aa u
 clear u
 go_enter Tryz.func270,Tryz.ntmps270
 go_wp2_with (first|(go_at_call 48;refine(z.out _ kp).mono ?_;rintro e s ⟨rfl,rfl⟩)|fail)
 go_region
 all_goals go_wp2
 all_goals refine an (v:=.tuple #[.agg #[.int .u8 0,.int .u32 0],.agg #[.int .u8 0,.int .u32 0],.int .u8 3]) (by simp[results,Tryz.results270,go_sem]) rfl ⟨rfl,kp⟩
theorem xU (sb:Nat)(l n:Int)(v:Edge)(w:World)(X:n≤16)(Y:sb<w.heap.size)
  (D:∀t,ae w t→Calls Tryz.prog 48 #[.pointer (some ⟨sb,0,none⟩)] t fun e u=>e=.returned (.int .i64 n)∧t=u)
  (h0:0≤l) (W:l<n)
  (z:∀t,ae w t→Calls Tryz.prog 134 #[.pointer (some ⟨sb,0,none⟩),.int .u8 4,.agg #[.int .u8 v.tag,.int .u32 v.to],.int .i64 l] t fun e u=>e=.returned (.bool false)∧ae t u)
  : Calls Tryz.prog 270 #[.pointer (some ⟨sb,0,none⟩),.agg #[.int .u8 v.tag,.int .u32 v.to],.int .i64 l] w fun e u=>e=.returned (.tuple #[.agg #[.int .u8 0,.int .u32 0],.agg #[.int .u8 0,.int .u32 0],.int .u8 1])∧ae w u:=by
 have I:=aa D
 clear D
 have E:=aa z
 clear z
 go_enter Tryz.func270,Tryz.ntmps270
 go_wp2_with (first|(go_at_call 48;refine(I.out _ kp).mono ?_;rintro e u ⟨rfl,rfl⟩)|fail)
 (go_at_call 134;refine(E.out _ kp).mono ?_;rintro e w1 ⟨rfl,s⟩;have J:=s.size;simp only[ak]at J;have t:w.heap.size<w1.heap.size:=(by omega);have N:w.heap.size+1<w1.heap.size:=(by omega);have O:w.heap.size+2<w1.heap.size:=(by omega);have t:=s.I (a:=⟨w.heap.size,0,none⟩) (v:=.int .u8 v.tag);have t:=s.I (a:=⟨w.heap.size,1,none⟩) (v:=.int .u32 v.to);have Q:=s.I (a:=⟨w.heap.size+1,0,none⟩) (v:=.int .u8 0);have T:=s.I (a:=⟨w.heap.size+1,1,none⟩) (v:=.int .u32 0);have U:=s.I (a:=⟨w.heap.size+2,0,none⟩) (v:=.int .u8 0);have V:=s.I (a:=⟨w.heap.size+2,1,none⟩) (v:=.int .u32 0);have t:=fun o:Nat=>s.frz (a:=⟨w.heap.size+1,o,none⟩) (by simp[go_sem]) (by simp[go_sem]);have t:=fun o:Nat=>s.frz (a:=⟨w.heap.size+2,o,none⟩) (by simp[go_sem]) (by simp[go_sem]);have s:ae w w1:=kp)
 go_wp2_with fail
 go_region
 all_goals go_wp2
 all_goals refine an (v:=.tuple #[.agg #[.int .u8 0,.int .u32 0],.agg #[.int .u8 0,.int .u32 0],.int .u8 1]) (by simp[results,Tryz.results270,go_sem,N,O,Q,T,U,V]) rfl ⟨rfl,kp⟩
theorem xV (sb:Nat)(l n:Int)(v:Edge)(x:Rec)(w:World)(ax:n≤16)(ay:sb<w.heap.size)
  (T:∀s,ae w s→Calls Tryz.prog 48 #[.pointer (some ⟨sb,0,none⟩)] s fun e z=>e=.returned (.int .i64 n)∧s=z)
  (h0:0≤l) (aw:l<n)
  (Q:∀s,ae w s→Calls Tryz.prog 134 #[.pointer (some ⟨sb,0,none⟩),.int .u8 4,.agg #[.int .u8 v.tag,.int .u32 v.to],.int .i64 l] s fun e z=>e=.returned (.bool true)∧ae s z)
  (O:∀s,ae w s→Calls Tryz.prog 78 #[.pointer (some ⟨sb,0,none⟩),.int .u32 v.to] s fun e z=>e=.returned (.tuple #[.agg #[.int .u8 x.ad,.int .u8 x.top,.int .u8 x.J,.int .u8 x.lo.tag,.int .u32 x.lo.to,.int .u8 x.hi.tag,.int .u32 x.hi.to],.bool false])∧ae s z)
  : Calls Tryz.prog 270 #[.pointer (some ⟨sb,0,none⟩),.agg #[.int .u8 v.tag,.int .u32 v.to],.int .i64 l] w fun e z=>e=.returned (.tuple #[.agg #[.int .u8 v.tag,.int .u32 v.to],.agg #[.int .u8 0,.int .u32 0],.int .u8 0])∧ae w z:=by
 have ah:=aa T
 clear T
 have ad:=aa Q
 clear Q
 have ab:=aa O
 clear O
 go_enter Tryz.func270,Tryz.ntmps270
 go_wp2_with (first|(go_at_call 48;refine(ah.out _ kp).mono ?_;rintro e z ⟨rfl,rfl⟩)|fail)
 (go_at_call 134;refine(ad.out _ kp).mono ?_;rintro e w1 ⟨rfl,u⟩;have am:=u.size;simp only[ak]at am;have av:w.heap.size<w1.heap.size:=(by omega);have U:w.heap.size+1<w1.heap.size:=(by omega);have V:w.heap.size+2<w1.heap.size:=(by omega);have X:=u.I (a:=⟨w.heap.size,0,none⟩) (v:=.int .u8 v.tag);have Y:=u.I (a:=⟨w.heap.size,1,none⟩) (v:=.int .u32 v.to);have E:=u.I (a:=⟨w.heap.size+1,0,none⟩) (v:=.int .u8 0);have I:=u.I (a:=⟨w.heap.size+1,1,none⟩) (v:=.int .u32 0);have J:=u.I (a:=⟨w.heap.size+2,0,none⟩) (v:=.int .u8 0);have N:=u.I (a:=⟨w.heap.size+2,1,none⟩) (v:=.int .u32 0);have W:=fun o:Nat=>u.frz (a:=⟨w.heap.size+1,o,none⟩) (by simp[go_sem]) (by simp[go_sem]);have Z:=fun o:Nat=>u.frz (a:=⟨w.heap.size+2,o,none⟩) (by simp[go_sem]) (by simp[go_sem]);have al:ae w w1:=kp)
 go_wp2_with fail
 (go_at_call 78;refine(ab.out _ kp).mono ?_;rintro e D ⟨rfl,t⟩;have s:=t.size;have W:=fun o:Nat=>t.frz (a:=⟨w.heap.size+1,o,none⟩) (by dsimp only;omega) (W o);have Z:=fun o:Nat=>t.frz (a:=⟨w.heap.size+2,o,none⟩) (by dsimp only;omega) (Z o);have X:=t.cell X;have Y:=t.cell Y;have E:=t.cell E;have I:=t.cell I;have J:=t.cell J;have N:=t.cell N;have av:w.heap.size<D.heap.size:=(by omega);have U:w.heap.size+1<D.heap.size:=(by omega);have V:w.heap.size+2<D.heap.size:=(by omega);have s:ae w D:=al.trans t)
 go_wp2_with fail
 all_goals refine an (v:=.tuple #[.agg #[.int .u8 v.tag,.int .u32 v.to],.agg #[.int .u8 0,.int .u32 0],.int .u8 0]) (by simp[results,Tryz.results270,go_sem,U,V,E,I,J,N]) rfl ⟨rfl,kp⟩
theorem xW (sb:Nat)(l n:Int)(v:Edge)(x:Rec)(w:World)(ax:n≤16)(ay:sb<w.heap.size)
  (T:∀s,ae w s→Calls Tryz.prog 48 #[.pointer (some ⟨sb,0,none⟩)] s fun e z=>e=.returned (.int .i64 n)∧s=z)
  (h0:0≤l) (aw:l<n)
  (Q:∀s,ae w s→Calls Tryz.prog 134 #[.pointer (some ⟨sb,0,none⟩),.int .u8 4,.agg #[.int .u8 v.tag,.int .u32 v.to],.int .i64 l] s fun e z=>e=.returned (.bool true)∧ae s z)
  (a0:l<x.top) (a1:0≤x.top) (a2:x.top≤255) (a3:0≤x.J) (a4:x.J≤255)
  (O:∀s,ae w s→Calls Tryz.prog 78 #[.pointer (some ⟨sb,0,none⟩),.int .u32 v.to] s fun e z=>e=.returned (.tuple #[.agg #[.int .u8 x.ad,.int .u8 x.top,.int .u8 x.J,.int .u8 x.lo.tag,.int .u32 x.lo.to,.int .u8 x.hi.tag,.int .u32 x.hi.to],.bool true])∧ae s z)
  : Calls Tryz.prog 270 #[.pointer (some ⟨sb,0,none⟩),.agg #[.int .u8 v.tag,.int .u32 v.to],.int .i64 l] w fun e z=>e=.returned (.tuple #[.agg #[.int .u8 v.tag,.int .u32 v.to],.agg #[.int .u8 0,.int .u32 0],.int .u8 0])∧ae w z:=by
 have ah:=aa T
 clear T
 have ad:=aa Q
 clear Q
 have ab:=aa O
 clear O
 go_enter Tryz.func270,Tryz.ntmps270
 go_wp2_with (first|(go_at_call 48;refine(ah.out _ kp).mono ?_;rintro e z ⟨rfl,rfl⟩)|fail)
 (go_at_call 134;refine(ad.out _ kp).mono ?_;rintro e w1 ⟨rfl,u⟩;have am:=u.size;simp only[ak]at am;have av:w.heap.size<w1.heap.size:=(by omega);have U:w.heap.size+1<w1.heap.size:=(by omega);have V:w.heap.size+2<w1.heap.size:=(by omega);have X:=u.I (a:=⟨w.heap.size,0,none⟩) (v:=.int .u8 v.tag);have Y:=u.I (a:=⟨w.heap.size,1,none⟩) (v:=.int .u32 v.to);have E:=u.I (a:=⟨w.heap.size+1,0,none⟩) (v:=.int .u8 0);have I:=u.I (a:=⟨w.heap.size+1,1,none⟩) (v:=.int .u32 0);have J:=u.I (a:=⟨w.heap.size+2,0,none⟩) (v:=.int .u8 0);have N:=u.I (a:=⟨w.heap.size+2,1,none⟩) (v:=.int .u32 0);have W:=fun o:Nat=>u.frz (a:=⟨w.heap.size+1,o,none⟩) (by simp[go_sem]) (by simp[go_sem]);have Z:=fun o:Nat=>u.frz (a:=⟨w.heap.size+2,o,none⟩) (by simp[go_sem]) (by simp[go_sem]);have al:ae w w1:=kp)
 go_wp2_with fail
 (go_at_call 78;refine(ab.out _ kp).mono ?_;rintro e D ⟨rfl,t⟩;have s:=t.size;have W:=fun o:Nat=>t.frz (a:=⟨w.heap.size+1,o,none⟩) (by dsimp only;omega) (W o);have Z:=fun o:Nat=>t.frz (a:=⟨w.heap.size+2,o,none⟩) (by dsimp only;omega) (Z o);have X:=t.cell X;have Y:=t.cell Y;have E:=t.cell E;have I:=t.cell I;have J:=t.cell J;have N:=t.cell N;have av:w.heap.size<D.heap.size:=(by omega);have U:w.heap.size+1<D.heap.size:=(by omega);have V:w.heap.size+2<D.heap.size:=(by omega);have s:ae w D:=al.trans t)
 go_wp2_with fail
 all_goals refine an (v:=.tuple #[.agg #[.int .u8 v.tag,.int .u32 v.to],.agg #[.int .u8 0,.int .u32 0],.int .u8 0]) (by simp[results,Tryz.results270,go_sem,U,V,E,I,J,N]) rfl ⟨rfl,kp⟩
theorem xP (sb:Nat)(l n:Int)(v:Edge)(x:Rec)(w:World)(ax:n≤16)(ay:sb<w.heap.size)
  (T:∀s,ae w s→Calls Tryz.prog 48 #[.pointer (some ⟨sb,0,none⟩)] s fun e z=>e=.returned (.int .i64 n)∧s=z)
  (h0:0≤l) (aw:l<n)
  (Q:∀s,ae w s→Calls Tryz.prog 134 #[.pointer (some ⟨sb,0,none⟩),.int .u8 4,.agg #[.int .u8 v.tag,.int .u32 v.to],.int .i64 l] s fun e z=>e=.returned (.bool true)∧ae s z)
   (a0:0≤x.top) (a1:x.top≤255) (a2:0≤x.J) (a3:x.J≤255)
  (O:∀s,ae w s→Calls Tryz.prog 78 #[.pointer (some ⟨sb,0,none⟩),.int .u32 v.to] s fun e z=>e=.returned (.tuple #[.agg #[.int .u8 x.ad,.int .u8 l,.int .u8 l,.int .u8 x.lo.tag,.int .u32 x.lo.to,.int .u8 x.hi.tag,.int .u32 x.hi.to],.bool true])∧ae s z)
  : Calls Tryz.prog 270 #[.pointer (some ⟨sb,0,none⟩),.agg #[.int .u8 v.tag,.int .u32 v.to],.int .i64 l] w fun e z=>e=.returned (.tuple #[.agg #[.int .u8 x.lo.tag,.int .u32 x.lo.to],.agg #[.int .u8 x.hi.tag,.int .u32 x.hi.to],.int .u8 0])∧ae w z:=by
 have ah:=aa T
 clear T
 have ad:=aa Q
 clear Q
 have ab:=aa O
 clear O
 go_enter Tryz.func270,Tryz.ntmps270
 go_wp2_with (first|(go_at_call 48;refine(ah.out _ kp).mono ?_;rintro e z ⟨rfl,rfl⟩)|fail)
 (go_at_call 134;refine(ad.out _ kp).mono ?_;rintro e w1 ⟨rfl,u⟩;have am:=u.size;simp only[ak]at am;have av:w.heap.size<w1.heap.size:=(by omega);have U:w.heap.size+1<w1.heap.size:=(by omega);have V:w.heap.size+2<w1.heap.size:=(by omega);have X:=u.I (a:=⟨w.heap.size,0,none⟩) (v:=.int .u8 v.tag);have Y:=u.I (a:=⟨w.heap.size,1,none⟩) (v:=.int .u32 v.to);have E:=u.I (a:=⟨w.heap.size+1,0,none⟩) (v:=.int .u8 0);have I:=u.I (a:=⟨w.heap.size+1,1,none⟩) (v:=.int .u32 0);have J:=u.I (a:=⟨w.heap.size+2,0,none⟩) (v:=.int .u8 0);have N:=u.I (a:=⟨w.heap.size+2,1,none⟩) (v:=.int .u32 0);have W:=fun o:Nat=>u.frz (a:=⟨w.heap.size+1,o,none⟩) (by simp[go_sem]) (by simp[go_sem]);have Z:=fun o:Nat=>u.frz (a:=⟨w.heap.size+2,o,none⟩) (by simp[go_sem]) (by simp[go_sem]);have al:ae w w1:=kp)
 go_wp2_with fail
 (go_at_call 78;refine(ab.out _ kp).mono ?_;rintro e D ⟨rfl,t⟩;have s:=t.size;have W:=fun o:Nat=>t.frz (a:=⟨w.heap.size+1,o,none⟩) (by dsimp only;omega) (W o);have Z:=fun o:Nat=>t.frz (a:=⟨w.heap.size+2,o,none⟩) (by dsimp only;omega) (Z o);have X:=t.cell X;have Y:=t.cell Y;have E:=t.cell E;have I:=t.cell I;have J:=t.cell J;have N:=t.cell N;have av:w.heap.size<D.heap.size:=(by omega);have U:w.heap.size+1<D.heap.size:=(by omega);have V:w.heap.size+2<D.heap.size:=(by omega);have s:ae w D:=al.trans t)
 go_wp2_with fail
 go_region
 all_goals go_wp2
 all_goals refine an (v:=.tuple #[.agg #[.int .u8 x.lo.tag,.int .u32 x.lo.to],.agg #[.int .u8 x.hi.tag,.int .u32 x.hi.to],.int .u8 0]) (by simp[results,Tryz.results270,go_sem,U,V,E,I,J,N]) rfl ⟨rfl,kp⟩
theorem xR {F:Nat→Prop}(R:World→World→Prop)(sb:Nat)(l n:Int)(v:Edge)(x:Rec)(a b:Int)(w:World)(bn:n≤16)(bt:sb<w.heap.size)
  (ax:∀s,ae w s→Calls Tryz.prog 48 #[.pointer (some ⟨sb,0,none⟩)] s fun e u=>e=.returned (.int .i64 n)∧s=u)
  (h0:0≤l) (bi:l<n)
  (av:∀s,ae w s→Calls Tryz.prog 134 #[.pointer (some ⟨sb,0,none⟩),.int .u8 4,.agg #[.int .u8 v.tag,.int .u32 v.to],.int .i64 l] s fun e u=>e=.returned (.bool true)∧ae s u)
  (b2:¬x.J=l) (bv:0≤x.top) (bw:x.top≤255) (b0:0≤x.J) (b1:x.J≤255)
  (am:∀s,ae w s→Calls Tryz.prog 78 #[.pointer (some ⟨sb,0,none⟩),.int .u32 v.to] s fun e u=>e=.returned (.tuple #[.agg #[.int .u8 4,.int .u8 l,.int .u8 x.J,.int .u8 x.lo.tag,.int .u32 x.lo.to,.int .u8 x.hi.tag,.int .u32 x.hi.to],.bool true])∧ae s u)
  (aw:∀k,F k→k<w.heap.size) (al:∀s,ae w s→Calls Tryz.prog 189 #[.pointer (some ⟨sb,0,none⟩),.agg #[.int .u8 4,.int .u8 (l+1),.int .u8 x.J,.int .u8 x.lo.tag,.int .u32 x.lo.to,.int .u8 x.hi.tag,.int .u32 x.hi.to]] s fun e u=>e=.returned (.tuple #[.agg #[.int .u8 a,.int .u32 b],.int .u8 0])∧af F s u∧R s u)
  : Calls Tryz.prog 270 #[.pointer (some ⟨sb,0,none⟩),.agg #[.int .u8 v.tag,.int .u32 v.to],.int .i64 l] w fun e u=>e=.returned (.tuple #[.agg #[.int .u8 a,.int .u32 b],.agg #[.int .u8 a,.int .u32 b],.int .u8 0]) ∧ 
   ∃s ab,ae w s∧af F s ab∧R s ab∧af (fun k=>w.heap.size≤k∧k<s.heap.size) ab u:=by
 have a4:=aa ax
 clear ax
 have a3:=aa av
 clear av
 have a1:=aa al
 have s:∀k,w.heap.size≤k→¬F k:=fun k Y h=>by have:=aw k h;omega
 have ad:=s (w.heap.size+1) (by omega)
 have ah:=s (w.heap.size+2) (by omega)
 have ab:=aa s
 clear al aw s
 have a2:=aa am
 clear am
 go_enter Tryz.func270,Tryz.ntmps270
 go_wp2_with (first|(go_at_call 48;refine(a4.out _ kp).mono ?_;rintro e u ⟨rfl,rfl⟩)|fail)
 (go_at_call 134;refine(a3.out _ kp).mono ?_;rintro e w1 ⟨rfl,E⟩;have a8:=E.size;simp only[ak]at a8;have bb:w.heap.size<w1.heap.size:=(by omega);have J:w.heap.size+1<w1.heap.size:=(by omega);have N:w.heap.size+2<w1.heap.size:=(by omega);have ay:=E.I (a:=⟨w.heap.size,0,none⟩) (v:=.int .u8 v.tag);have a0:=E.I (a:=⟨w.heap.size,1,none⟩) (v:=.int .u32 v.to);have O:=E.I (a:=⟨w.heap.size+1,0,none⟩) (v:=.int .u8 0);have Q:=E.I (a:=⟨w.heap.size+1,1,none⟩) (v:=.int .u32 0);have T:=E.I (a:=⟨w.heap.size+2,0,none⟩) (v:=.int .u8 0);have U:=E.I (a:=⟨w.heap.size+2,1,none⟩) (v:=.int .u32 0);have W:=fun o:Nat=>E.frz (a:=⟨w.heap.size+1,o,none⟩) (by simp[go_sem]) (by simp[go_sem]);have X:=fun o:Nat=>E.frz (a:=⟨w.heap.size+2,o,none⟩) (by simp[go_sem]) (by simp[go_sem]);have Y:ae w w1:=kp)
 go_wp2_with fail
 (go_at_call 78;refine(a2.out _ kp).mono ?_;rintro e Z ⟨rfl,z⟩;have s:=z.size;have W:=fun o:Nat=>z.frz (a:=⟨w.heap.size+1,o,none⟩) (by dsimp only;omega) (W o);have X:=fun o:Nat=>z.frz (a:=⟨w.heap.size+2,o,none⟩) (by dsimp only;omega) (X o);have ay:=z.cell ay;have a0:=z.cell a0;have O:=z.cell O;have Q:=z.cell Q;have T:=z.cell T;have U:=z.cell U;have bb:w.heap.size<Z.heap.size:=(by omega);have J:w.heap.size+1<Z.heap.size:=(by omega);have N:w.heap.size+2<Z.heap.size:=(by omega);have s:ae w Z:=Y.trans z)
 go_wp2_with fail
 (go_at_call 189;refine(a1.out _ kp).mono ?_;rintro e V ⟨rfl,I,a5⟩;have a6:=I.size;(try simp only[ak,aA,World.a6]at a6);have O:=I.cell (a:=⟨w.heap.size+1,0,none⟩) ad (v:=.int .u8 0) (by simp[go_sem,J,N,O,Q]);have Q:=I.cell (a:=⟨w.heap.size+1,1,none⟩) ad (v:=.int .u32 0) (by simp[go_sem,J,N,O,Q]);have T:=I.cell (a:=⟨w.heap.size+2,0,none⟩) ah (v:=.int .u8 0) (by simp[go_sem,J,N,T,U]);have U:=I.cell (a:=⟨w.heap.size+2,1,none⟩) ah (v:=.int .u32 0) (by simp[go_sem,J,N,T,U]);have W:=fun o:Nat=>I.frozen (a:=⟨w.heap.size+1,o,none⟩) (by(try simp only[ak,aA,World.a6]);omega) ad (by(try simp only[bP,frozen?_alloc_cells]);exact W o);have X:=fun o:Nat=>I.frozen (a:=⟨w.heap.size+2,o,none⟩) (by(try simp only[ak,aA,World.a6]);omega) ah (by(try simp only[bP,frozen?_alloc_cells]);exact X o);have J:w.heap.size+1<V.heap.size:=(by omega);have N:w.heap.size+2<V.heap.size:=(by omega))
 go_wp2_with fail
 obtain⟨t,D⟩:∃t,t=((V.setCell ⟨w.heap.size+1,0,none⟩ (.int .u8 a)).setCell ⟨w.heap.size+1,1,none⟩ (.int .u32 b)):=⟨_,rfl⟩
 have bc:t.cell? ⟨w.heap.size+1,0,none⟩=some (.int .u8 a):=by rw[D];simp[go_sem,O,Q,J]
 have bd:t.cell? ⟨w.heap.size+1,1,none⟩=some (.int .u32 b):=by rw[D];simp[go_sem,O,Q,J]
 have be:t.cell? ⟨w.heap.size+2,0,none⟩=some (.int .u8 0):=by rw[D];simp[go_sem,T,U,N]
 have bh:t.cell? ⟨w.heap.size+2,1,none⟩=some (.int .u32 0):=by rw[D];simp[go_sem,T,U,N]
 have g1:∀o,t.frozen? ⟨w.heap.size+1,o,none⟩=false:=by intro o;rw[D];simp only[bP];exact W o
 have s:∀o,t.frozen? ⟨w.heap.size+2,o,none⟩=false:=by intro o;rw[D];simp only[bP];exact X o
 have a7:t.heap.size=V.heap.size:=by rw[D];simp only[aA]
 have a9:af (fun k=>w.heap.size≤k∧k<w.heap.size+3) V t:=by rw[D];exact((af.refl _ _).setCell (Or.inl (by dsimp only;omega)) _).setCell (Or.inl (by dsimp only;omega)) _
 rw[←D]
 have a':w.heap.size+1<t.heap.size:=by omega
 have ba:w.heap.size+2<t.heap.size:=by omega
 clear D O Q T U W X a7
 all_goals refine an (v:=.tuple #[.agg #[.int .u8 a,.int .u32 b],.agg #[.int .u8 a,.int .u32 b],.int .u8 0]) (by simp[results,Tryz.results270,go_sem,a',ba,bc,bd,be,bh]) rfl ⟨rfl,_,V,kp,I,a5,?_⟩
 all_goals(try simp only[ak,aA,World.a6])
 all_goals(repeat (first|with_reducible exact af.refl _ _|exact af.mono a9 (fun k _ Y=>⟨Y.1,by(try simp only[ak,aA,World.a6]);have:=Y.2;omega⟩)|refine af.setCell ?_ (Or.inl (by dsimp only;omega)) _|refine af.setCell ?_ (Or.inr (by dsimp only;omega)) _|with_reducible refine af.drewN ?_ _|with_reducible refine af.drew ?_|with_reducible refine af.alloc ?_ _))
theorem xS {F:Nat→Prop}(R:World→World→Prop)(sb:Nat)(l n:Int)(v:Edge)(x:Rec)(a b Z:Int)(bt:Z≠0)(w:World)(bv:n≤16)(bw:sb<w.heap.size)
  (ay:∀s,ae w s→Calls Tryz.prog 48 #[.pointer (some ⟨sb,0,none⟩)] s fun e u=>e=.returned (.int .i64 n)∧s=u)
  (h0:0≤l) (bn:l<n)
  (aw:∀s,ae w s→Calls Tryz.prog 134 #[.pointer (some ⟨sb,0,none⟩),.int .u8 4,.agg #[.int .u8 v.tag,.int .u32 v.to],.int .i64 l] s fun e u=>e=.returned (.bool true)∧ae s u)
  (b4:¬x.J=l) (b0:0≤x.top) (b1:x.top≤255) (b2:0≤x.J) (b3:x.J≤255)
  (av:∀s,ae w s→Calls Tryz.prog 78 #[.pointer (some ⟨sb,0,none⟩),.int .u32 v.to] s fun e u=>e=.returned (.tuple #[.agg #[.int .u8 4,.int .u8 l,.int .u8 x.J,.int .u8 x.lo.tag,.int .u32 x.lo.to,.int .u8 x.hi.tag,.int .u32 x.hi.to],.bool true])∧ae s u)
  (ax:∀k,F k→k<w.heap.size) (am:∀s,ae w s→Calls Tryz.prog 189 #[.pointer (some ⟨sb,0,none⟩),.agg #[.int .u8 4,.int .u8 (l+1),.int .u8 x.J,.int .u8 x.lo.tag,.int .u32 x.lo.to,.int .u8 x.hi.tag,.int .u32 x.hi.to]] s fun e u=>e=.returned (.tuple #[.agg #[.int .u8 a,.int .u32 b],.int .u8 Z])∧af F s u∧R s u)
  : Calls Tryz.prog 270 #[.pointer (some ⟨sb,0,none⟩),.agg #[.int .u8 v.tag,.int .u32 v.to],.int .i64 l] w fun e u=>e=.returned (.tuple #[.agg #[.int .u8 0,.int .u32 0],.agg #[.int .u8 0,.int .u32 0],.int .u8 Z]) ∧ 
   ∃s ad,ae w s∧af F s ad∧R s ad∧af (fun k=>w.heap.size≤k∧k<s.heap.size) ad u:=by
 have a5:=aa ay
 clear ay
 have a4:=aa aw
 clear aw
 have a2:=aa am
 have s:∀k,w.heap.size≤k→¬F k:=fun k Y h=>by have:=ax k h;omega
 have ah:=s (w.heap.size+1) (by omega)
 have al:=s (w.heap.size+2) (by omega)
 have ad:=aa s
 clear am ax s
 have a3:=aa av
 clear av
 go_enter Tryz.func270,Tryz.ntmps270
 go_wp2_with (first|(go_at_call 48;refine(a5.out _ kp).mono ?_;rintro e u ⟨rfl,rfl⟩)|fail)
 (go_at_call 134;refine(a4.out _ kp).mono ?_;rintro e w1 ⟨rfl,E⟩;have a9:=E.size;simp only[ak]at a9;have bc:w.heap.size<w1.heap.size:=(by omega);have J:w.heap.size+1<w1.heap.size:=(by omega);have N:w.heap.size+2<w1.heap.size:=(by omega);have a0:=E.I (a:=⟨w.heap.size,0,none⟩) (v:=.int .u8 v.tag);have a1:=E.I (a:=⟨w.heap.size,1,none⟩) (v:=.int .u32 v.to);have O:=E.I (a:=⟨w.heap.size+1,0,none⟩) (v:=.int .u8 0);have Q:=E.I (a:=⟨w.heap.size+1,1,none⟩) (v:=.int .u32 0);have T:=E.I (a:=⟨w.heap.size+2,0,none⟩) (v:=.int .u8 0);have U:=E.I (a:=⟨w.heap.size+2,1,none⟩) (v:=.int .u32 0);have W:=fun o:Nat=>E.frz (a:=⟨w.heap.size+1,o,none⟩) (by simp[go_sem]) (by simp[go_sem]);have X:=fun o:Nat=>E.frz (a:=⟨w.heap.size+2,o,none⟩) (by simp[go_sem]) (by simp[go_sem]);have Y:ae w w1:=kp)
 go_wp2_with fail
 (go_at_call 78;refine(a3.out _ kp).mono ?_;rintro e ab ⟨rfl,z⟩;have s:=z.size;have W:=fun o:Nat=>z.frz (a:=⟨w.heap.size+1,o,none⟩) (by dsimp only;omega) (W o);have X:=fun o:Nat=>z.frz (a:=⟨w.heap.size+2,o,none⟩) (by dsimp only;omega) (X o);have a0:=z.cell a0;have a1:=z.cell a1;have O:=z.cell O;have Q:=z.cell Q;have T:=z.cell T;have U:=z.cell U;have bc:w.heap.size<ab.heap.size:=(by omega);have J:w.heap.size+1<ab.heap.size:=(by omega);have N:w.heap.size+2<ab.heap.size:=(by omega);have s:ae w ab:=Y.trans z)
 go_wp2_with fail
 (go_at_call 189;refine(a2.out _ kp).mono ?_;rintro e V ⟨rfl,I,a6⟩;have a7:=I.size;(try simp only[ak,aA,World.a6]at a7);have O:=I.cell (a:=⟨w.heap.size+1,0,none⟩) ah (v:=.int .u8 0) (by simp[go_sem,J,N,O,Q]);have Q:=I.cell (a:=⟨w.heap.size+1,1,none⟩) ah (v:=.int .u32 0) (by simp[go_sem,J,N,O,Q]);have T:=I.cell (a:=⟨w.heap.size+2,0,none⟩) al (v:=.int .u8 0) (by simp[go_sem,J,N,T,U]);have U:=I.cell (a:=⟨w.heap.size+2,1,none⟩) al (v:=.int .u32 0) (by simp[go_sem,J,N,T,U]);have W:=fun o:Nat=>I.frozen (a:=⟨w.heap.size+1,o,none⟩) (by(try simp only[ak,aA,World.a6]);omega) ah (by(try simp only[bP,frozen?_alloc_cells]);exact W o);have X:=fun o:Nat=>I.frozen (a:=⟨w.heap.size+2,o,none⟩) (by(try simp only[ak,aA,World.a6]);omega) al (by(try simp only[bP,frozen?_alloc_cells]);exact X o);have J:w.heap.size+1<V.heap.size:=(by omega);have N:w.heap.size+2<V.heap.size:=(by omega))
 go_wp2_with fail
 obtain⟨t,D⟩:∃t,t=((V.setCell ⟨w.heap.size+1,0,none⟩ (.int .u8 a)).setCell ⟨w.heap.size+1,1,none⟩ (.int .u32 b)):=⟨_,rfl⟩
 have bd:t.cell? ⟨w.heap.size+1,0,none⟩=some (.int .u8 a):=by rw[D];simp[go_sem,O,Q,J]
 have be:t.cell? ⟨w.heap.size+1,1,none⟩=some (.int .u32 b):=by rw[D];simp[go_sem,O,Q,J]
 have bh:t.cell? ⟨w.heap.size+2,0,none⟩=some (.int .u8 0):=by rw[D];simp[go_sem,T,U,N]
 have bi:t.cell? ⟨w.heap.size+2,1,none⟩=some (.int .u32 0):=by rw[D];simp[go_sem,T,U,N]
 have g1:∀o,t.frozen? ⟨w.heap.size+1,o,none⟩=false:=by intro o;rw[D];simp only[bP];exact W o
 have s:∀o,t.frozen? ⟨w.heap.size+2,o,none⟩=false:=by intro o;rw[D];simp only[bP];exact X o
 have a8:t.heap.size=V.heap.size:=by rw[D];simp only[aA]
 have a':af (fun k=>w.heap.size≤k∧k<w.heap.size+3) V t:=by rw[D];exact((af.refl _ _).setCell (Or.inl (by dsimp only;omega)) _).setCell (Or.inl (by dsimp only;omega)) _
 rw[←D]
 have ba:w.heap.size+1<t.heap.size:=by omega
 have bb:w.heap.size+2<t.heap.size:=by omega
 clear D O Q T U W X a8
 all_goals refine an (v:=.tuple #[.agg #[.int .u8 0,.int .u32 0],.agg #[.int .u8 0,.int .u32 0],.int .u8 Z]) (by simp[results,Tryz.results270,go_sem,ba,bb,bd,be,bh,bi]) rfl ⟨rfl,_,V,kp,I,a6,?_⟩
 all_goals(try simp only[ak,aA,World.a6])
 all_goals(repeat (first|with_reducible exact af.refl _ _|exact af.mono a' (fun k _ Y=>⟨Y.1,by(try simp only[ak,aA,World.a6]);have:=Y.2;omega⟩)|refine af.setCell ?_ (Or.inl (by dsimp only;omega)) _|refine af.setCell ?_ (Or.inr (by dsimp only;omega)) _|with_reducible refine af.drewN ?_ _|with_reducible refine af.drew ?_|with_reducible refine af.alloc ?_ _))
end Go.Proofs.YtafkamlhimkbmaaGreat
