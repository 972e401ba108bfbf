/-
  The walk of cbdd.Make, case by case (printed by wip/mk_make2.py).
-/
import Derived.Test.YtafkamlhimkbmaaGreatPIntsW
import Derived.IntWalk
namespace Go.Proofs.YtafkamlhimkbmaaGreat
set_option maxRecDepth 1000000
set_option maxHeartbeats 8000000
set_option linter.unusedSimpArgs false
set_option linter.unusedVariables false
open Go.RowKit
theorem sD (sb:Nat)(l n:Int)(lo hi:Edge)(w:World)(D:n≤16)(E:sb<w.heap.size)
  (u:∀t,ae w t→Calls Tryz.prog 48 #[.pointer (some ⟨sb,0,none⟩)] t fun e s=>e=.returned (.int .i64 n)∧t=s)
  (h0:l<0)
  : Calls Tryz.prog 123 #[.pointer (some ⟨sb,0,none⟩),.int .i64 l,.agg #[.int .u8 lo.tag,.int .u32 lo.to],.agg #[.int .u8 hi.tag,.int .u32 hi.to]] w fun e s=>e=.returned (.tuple #[.agg #[.int .u8 0,.int .u32 0],.int .u8 3])∧ae w s:=by
 have t:sb<w.heap.size+1:=by omega
 have t:sb<w.heap.size+1+1:=by omega
 have z:=aa u
 clear u
 go_enter Tryz.func123,Tryz.ntmps123
 go_wp2_with (first|(go_at_call 48;refine(z.out _ kp).mono ?_;rintro e s ⟨rfl,rfl⟩)|fail)
 all_goals refine an (v:=.tuple #[.agg #[.int .u8 0,.int .u32 0],.int .u8 3]) (by simp[results,Tryz.results123,go_sem]) rfl ⟨rfl,kp⟩
theorem sy (sb:Nat)(l n:Int)(lo hi:Edge)(w:World)(E:n≤16)(I:sb<w.heap.size)
  (u:∀t,ae w t→Calls Tryz.prog 48 #[.pointer (some ⟨sb,0,none⟩)] t fun e s=>e=.returned (.int .i64 n)∧t=s)
  (h0:0≤l) (D:n≤l)
  : Calls Tryz.prog 123 #[.pointer (some ⟨sb,0,none⟩),.int .i64 l,.agg #[.int .u8 lo.tag,.int .u32 lo.to],.agg #[.int .u8 hi.tag,.int .u32 hi.to]] w fun e s=>e=.returned (.tuple #[.agg #[.int .u8 0,.int .u32 0],.int .u8 3])∧ae w s:=by
 have t:sb<w.heap.size+1:=by omega
 have t:sb<w.heap.size+1+1:=by omega
 have z:=aa u
 clear u
 go_enter Tryz.func123,Tryz.ntmps123
 go_wp2_with (first|(go_at_call 48;refine(z.out _ kp).mono ?_;rintro e s ⟨rfl,rfl⟩)|fail)
 all_goals refine an (v:=.tuple #[.agg #[.int .u8 0,.int .u32 0],.int .u8 3]) (by simp[results,Tryz.results123,go_sem]) rfl ⟨rfl,kp⟩
theorem sC (sb:Nat)(l n:Int)(lo hi:Edge)(w:World)(U:n≤16)(V:sb<w.heap.size)
  (D:∀t,ae w t→Calls Tryz.prog 48 #[.pointer (some ⟨sb,0,none⟩)] t fun e u=>e=.returned (.int .i64 n)∧t=u)
  (h0:0≤l) (T:l<n)
  (z:∀t,ae w t→Calls Tryz.prog 134 #[.pointer (some ⟨sb,0,none⟩),.int .u8 3,.agg #[.int .u8 lo.tag,.int .u32 lo.to],.int .i64 (l+1)] t fun e u=>e=.returned (.bool false)∧ae t u)
  : Calls Tryz.prog 123 #[.pointer (some ⟨sb,0,none⟩),.int .i64 l,.agg #[.int .u8 lo.tag,.int .u32 lo.to],.agg #[.int .u8 hi.tag,.int .u32 hi.to]] w fun e u=>e=.returned (.tuple #[.agg #[.int .u8 0,.int .u32 0],.int .u8 1])∧ae w u:=by
 have t:sb<w.heap.size+1:=by omega
 have t:sb<w.heap.size+1+1:=by omega
 have I:=aa D
 clear D
 have E:=aa z
 clear z
 go_enter Tryz.func123,Tryz.ntmps123
 go_wp2_with (first|(go_at_call 48;refine(I.out _ kp).mono ?_;rintro e u ⟨rfl,rfl⟩)|fail)
 (go_at_call 134;refine(E.out _ kp).mono ?_;rintro e w1 ⟨rfl,s⟩;have J:=s.size;simp only[ak]at J;have t:w.heap.size<w1.heap.size:=(by omega);have t:w.heap.size+1<w1.heap.size:=(by omega);have N:w.heap.size+2<w1.heap.size:=(by omega);have t:=s.I (a:=⟨w.heap.size,0,none⟩) (v:=.int .u8 lo.tag);have t:=s.I (a:=⟨w.heap.size,1,none⟩) (v:=.int .u32 lo.to);have t:=s.I (a:=⟨w.heap.size+1,0,none⟩) (v:=.int .u8 hi.tag);have t:=s.I (a:=⟨w.heap.size+1,1,none⟩) (v:=.int .u32 hi.to);have O:=s.I (a:=⟨w.heap.size+2,0,none⟩) (v:=.int .u8 0);have Q:=s.I (a:=⟨w.heap.size+2,1,none⟩) (v:=.int .u32 0);have t:=fun o:Nat=>s.frz (a:=⟨w.heap.size+2,o,none⟩) (by simp[go_sem]) (by simp[go_sem]);have s:ae w w1:=kp)
 go_wp2_with fail
 all_goals refine an (v:=.tuple #[.agg #[.int .u8 0,.int .u32 0],.int .u8 1]) (by simp[results,Tryz.results123,go_sem,N,O,Q]) rfl ⟨rfl,kp⟩
theorem sA (sb:Nat)(l n:Int)(lo hi:Edge)(w:World)(am:n≤16)(av:sb<w.heap.size)
  (N:∀t,ae w t→Calls Tryz.prog 48 #[.pointer (some ⟨sb,0,none⟩)] t fun e u=>e=.returned (.int .i64 n)∧t=u)
  (h0:0≤l) (al:l<n)
  (I:∀t,ae w t→Calls Tryz.prog 134 #[.pointer (some ⟨sb,0,none⟩),.int .u8 3,.agg #[.int .u8 lo.tag,.int .u32 lo.to],.int .i64 (l+1)] t fun e u=>e=.returned (.bool true)∧ae t u)
  (E:∀t,ae w t→Calls Tryz.prog 134 #[.pointer (some ⟨sb,0,none⟩),.int .u8 3,.agg #[.int .u8 hi.tag,.int .u32 hi.to],.int .i64 (l+1)] t fun e u=>e=.returned (.bool false)∧ae t u)
  : Calls Tryz.prog 123 #[.pointer (some ⟨sb,0,none⟩),.int .i64 l,.agg #[.int .u8 lo.tag,.int .u32 lo.to],.agg #[.int .u8 hi.tag,.int .u32 hi.to]] w fun e u=>e=.returned (.tuple #[.agg #[.int .u8 0,.int .u32 0],.int .u8 1])∧ae w u:=by
 have t:sb<w.heap.size+1:=by omega
 have t:sb<w.heap.size+1+1:=by omega
 have Z:=aa N
 clear N
 have Y:=aa I
 clear I
 have X:=aa E
 clear E
 go_enter Tryz.func123,Tryz.ntmps123
 go_wp2_with (first|(go_at_call 48;refine(Z.out _ kp).mono ?_;rintro e u ⟨rfl,rfl⟩)|fail)
 (go_at_call 134;refine(Y.out _ kp).mono ?_;rintro e w1 ⟨rfl,s⟩;have J:=s.size;simp only[ak]at J;have ad:w.heap.size<w1.heap.size:=(by omega);have ah:w.heap.size+1<w1.heap.size:=(by omega);have O:w.heap.size+2<w1.heap.size:=(by omega);have U:=s.I (a:=⟨w.heap.size,0,none⟩) (v:=.int .u8 lo.tag);have V:=s.I (a:=⟨w.heap.size,1,none⟩) (v:=.int .u32 lo.to);have Q:=s.I (a:=⟨w.heap.size+1,0,none⟩) (v:=.int .u8 hi.tag);have T:=s.I (a:=⟨w.heap.size+1,1,none⟩) (v:=.int .u32 hi.to);have z:=s.I (a:=⟨w.heap.size+2,0,none⟩) (v:=.int .u8 0);have D:=s.I (a:=⟨w.heap.size+2,1,none⟩) (v:=.int .u32 0);have W:=fun o:Nat=>s.frz (a:=⟨w.heap.size+2,o,none⟩) (by simp[go_sem]) (by simp[go_sem]);have ab:ae w w1:=kp)
 go_wp2_with fail
 (go_at_call 134;refine(X.out _ kp).mono ?_;rintro e w1 ⟨rfl,s⟩;have J:=s.size;have W:=fun o:Nat=>s.frz (a:=⟨w.heap.size+2,o,none⟩) (by dsimp only;omega) (W o);have U:=s.cell U;have V:=s.cell V;have Q:=s.cell Q;have T:=s.cell T;have z:=s.cell z;have D:=s.cell D;have ad:w.heap.size<w1.heap.size:=(by omega);have ah:w.heap.size+1<w1.heap.size:=(by omega);have O:w.heap.size+2<w1.heap.size:=(by omega);have ab:ae w w1:=kp)
 go_wp2_with fail
 all_goals refine an (v:=.tuple #[.agg #[.int .u8 0,.int .u32 0],.int .u8 1]) (by simp[results,Tryz.results123,go_sem,O,z,D]) rfl ⟨rfl,kp⟩
theorem sF (sb:Nat)(l n:Int)(lo hi:Edge)(w:World)(am:n≤16)(av:sb<w.heap.size)
  (N:∀t,ae w t→Calls Tryz.prog 48 #[.pointer (some ⟨sb,0,none⟩)] t fun e u=>e=.returned (.int .i64 n)∧t=u)
  (h0:0≤l) (al:l<n)
  (I:∀t,ae w t→Calls Tryz.prog 134 #[.pointer (some ⟨sb,0,none⟩),.int .u8 3,.agg #[.int .u8 lo.tag,.int .u32 lo.to],.int .i64 (l+1)] t fun e u=>e=.returned (.bool true)∧ae t u)
  (E:∀t,ae w t→Calls Tryz.prog 134 #[.pointer (some ⟨sb,0,none⟩),.int .u8 3,.agg #[.int .u8 hi.tag,.int .u32 hi.to],.int .i64 (l+1)] t fun e u=>e=.returned (.bool true)∧ae t u)
  (hs:lo=hi)
  : Calls Tryz.prog 123 #[.pointer (some ⟨sb,0,none⟩),.int .i64 l,.agg #[.int .u8 lo.tag,.int .u32 lo.to],.agg #[.int .u8 hi.tag,.int .u32 hi.to]] w fun e u=>e=.returned (.tuple #[.agg #[.int .u8 lo.tag,.int .u32 lo.to],.int .u8 0])∧ae w u:=by
 have t:sb<w.heap.size+1:=by omega
 have t:sb<w.heap.size+1+1:=by omega
 have Z:=aa N
 clear N
 have Y:=aa I
 clear I
 have X:=aa E
 clear E
 have t:=jI lo hi hs
 have t:=aa hs
 clear hs
 go_enter Tryz.func123,Tryz.ntmps123
 go_wp2_with (first|(go_at_call 48;refine(Z.out _ kp).mono ?_;rintro e u ⟨rfl,rfl⟩)|fail)
 (go_at_call 134;refine(Y.out _ kp).mono ?_;rintro e w1 ⟨rfl,s⟩;have J:=s.size;simp only[ak]at J;have ad:w.heap.size<w1.heap.size:=(by omega);have ah:w.heap.size+1<w1.heap.size:=(by omega);have O:w.heap.size+2<w1.heap.size:=(by omega);have U:=s.I (a:=⟨w.heap.size,0,none⟩) (v:=.int .u8 lo.tag);have V:=s.I (a:=⟨w.heap.size,1,none⟩) (v:=.int .u32 lo.to);have Q:=s.I (a:=⟨w.heap.size+1,0,none⟩) (v:=.int .u8 hi.tag);have T:=s.I (a:=⟨w.heap.size+1,1,none⟩) (v:=.int .u32 hi.to);have z:=s.I (a:=⟨w.heap.size+2,0,none⟩) (v:=.int .u8 0);have D:=s.I (a:=⟨w.heap.size+2,1,none⟩) (v:=.int .u32 0);have W:=fun o:Nat=>s.frz (a:=⟨w.heap.size+2,o,none⟩) (by simp[go_sem]) (by simp[go_sem]);have ab:ae w w1:=kp)
 go_wp2_with fail
 (go_at_call 134;refine(X.out _ kp).mono ?_;rintro e w1 ⟨rfl,s⟩;have J:=s.size;have W:=fun o:Nat=>s.frz (a:=⟨w.heap.size+2,o,none⟩) (by dsimp only;omega) (W o);have U:=s.cell U;have V:=s.cell V;have Q:=s.cell Q;have T:=s.cell T;have z:=s.cell z;have D:=s.cell D;have ad:w.heap.size<w1.heap.size:=(by omega);have ah:w.heap.size+1<w1.heap.size:=(by omega);have O:w.heap.size+2<w1.heap.size:=(by omega);have ab:ae w w1:=kp)
 go_wp2_with fail
 all_goals refine an (v:=.tuple #[.agg #[.int .u8 lo.tag,.int .u32 lo.to],.int .u8 0]) (by simp[results,Tryz.results123,go_sem,O,z,D]) rfl ⟨rfl,kp⟩
theorem sE {F:Nat→Prop}(R:World→World→Prop)(sb:Nat)(l n:Int)(lo hi:Edge)(x:Rec)(a b Z:Int)(w:World)(bd:n≤16)(be:sb<w.heap.size)
  (ax:∀s,ae w s→Calls Tryz.prog 48 #[.pointer (some ⟨sb,0,none⟩)] s fun e u=>e=.returned (.int .i64 n)∧s=u)
  (h0:0≤l) (bc:l<n)
  (am:∀s,ae w s→Calls Tryz.prog 134 #[.pointer (some ⟨sb,0,none⟩),.int .u8 3,.agg #[.int .u8 lo.tag,.int .u32 lo.to],.int .i64 (l+1)] s fun e u=>e=.returned (.bool true)∧ae s u)
  (al:∀s,ae w s→Calls Tryz.prog 134 #[.pointer (some ⟨sb,0,none⟩),.int .u8 3,.agg #[.int .u8 hi.tag,.int .u32 hi.to],.int .i64 (l+1)] s fun e u=>e=.returned (.bool true)∧ae s u)
  (hs:¬lo=hi)
  (ah:∀s,ae w s→Calls Tryz.prog 78 #[.pointer (some ⟨sb,0,none⟩),.int .u32 lo.to] s fun e u=>e=.returned (.tuple #[.agg #[.int .u8 x.ad,.int .u8 x.top,.int .u8 x.J,.int .u8 x.lo.tag,.int .u32 x.lo.to,.int .u8 x.hi.tag,.int .u32 x.hi.to],.bool false])∧ae s u)
  (av:∀k,F k→k<w.heap.size) (ad:∀s,ae w s→Calls Tryz.prog 188 #[.pointer (some ⟨sb,0,none⟩),.agg #[.int .u8 3,.int .u8 l,.int .u8 l,.int .u8 lo.tag,.int .u32 lo.to,.int .u8 hi.tag,.int .u32 hi.to]] s fun e u=>e=.returned (.tuple #[.agg #[.int .u8 a,.int .u32 b],.int .u8 Z])∧af F s u∧R s u)
  : Calls Tryz.prog 123 #[.pointer (some ⟨sb,0,none⟩),.int .i64 l,.agg #[.int .u8 lo.tag,.int .u32 lo.to],.agg #[.int .u8 hi.tag,.int .u32 hi.to]] w fun e u=>e=.returned (.tuple #[.agg #[.int .u8 a,.int .u32 b],.int .u8 Z]) ∧ 
   ∃s Y,ae w s∧af F s Y∧R s Y∧af (fun k=>w.heap.size≤k∧k<s.heap.size) Y u:=by
 have s:sb<w.heap.size+1:=by omega
 have s:sb<w.heap.size+1+1:=by omega
 have a6:=aa ax
 clear ax
 have a5:=aa am
 clear am
 have a4:=aa al
 clear al
 have a2:=aa ad
 have s:∀k,w.heap.size≤k→¬F k:=fun k E h=>by have:=av k h;omega
 have ab:=s (w.heap.size+2) (by omega)
 clear ad av s
 have s:=iE lo hi hs
 have s:=aa hs
 clear hs
 have a3:=aa ah
 clear ah
 go_enter Tryz.func123,Tryz.ntmps123
 go_wp2_with (first|(go_at_call 48;refine(a6.out _ kp).mono ?_;rintro e u ⟨rfl,rfl⟩)|fail)
 (go_at_call 134;refine(a5.out _ kp).mono ?_;rintro e w1 ⟨rfl,t⟩;have aw:=t.size;simp only[ak]at aw;have ay:w.heap.size<w1.heap.size:=(by omega);have a0:w.heap.size+1<w1.heap.size:=(by omega);have T:w.heap.size+2<w1.heap.size:=(by omega);have W:=t.I (a:=⟨w.heap.size,0,none⟩) (v:=.int .u8 lo.tag);have X:=t.I (a:=⟨w.heap.size,1,none⟩) (v:=.int .u32 lo.to);have U:=t.I (a:=⟨w.heap.size+1,0,none⟩) (v:=.int .u8 hi.tag);have V:=t.I (a:=⟨w.heap.size+1,1,none⟩) (v:=.int .u32 hi.to);have N:=t.I (a:=⟨w.heap.size+2,0,none⟩) (v:=.int .u8 0);have O:=t.I (a:=⟨w.heap.size+2,1,none⟩) (v:=.int .u32 0);have Q:=fun o:Nat=>t.frz (a:=⟨w.heap.size+2,o,none⟩) (by simp[go_sem]) (by simp[go_sem]);have E:ae w w1:=kp)
 go_wp2_with fail
 (go_at_call 134;refine(a4.out _ kp).mono ?_;rintro e w1 ⟨rfl,t⟩;have aw:=t.size;have Q:=fun o:Nat=>t.frz (a:=⟨w.heap.size+2,o,none⟩) (by dsimp only;omega) (Q o);have W:=t.cell W;have X:=t.cell X;have U:=t.cell U;have V:=t.cell V;have N:=t.cell N;have O:=t.cell O;have ay:w.heap.size<w1.heap.size:=(by omega);have a0:w.heap.size+1<w1.heap.size:=(by omega);have T:w.heap.size+2<w1.heap.size:=(by omega);have E:ae w w1:=kp)
 go_wp2_with fail
 (go_at_call 78;refine(a3.out _ kp).mono ?_;rintro e I ⟨rfl,z⟩;have a8:=z.size;simp only[ak]at a8;have s:=z.I (a:=⟨w1.heap.size,0,none⟩) (v:=.int .u8 3);have s:=z.I (a:=⟨w1.heap.size,1,none⟩) (v:=.int .u8 l);have s:=z.I (a:=⟨w1.heap.size,2,none⟩) (v:=.int .u8 l);have s:=z.I (a:=⟨w1.heap.size,3,none⟩) (v:=.int .u8 lo.tag);have s:=z.I (a:=⟨w1.heap.size,4,none⟩) (v:=.int .u32 lo.to);have s:=z.I (a:=⟨w1.heap.size,5,none⟩) (v:=.int .u8 hi.tag);have s:=z.I (a:=⟨w1.heap.size,6,none⟩) (v:=.int .u32 hi.to);have s:=fun o:Nat=>z.frz (a:=⟨w1.heap.size,o,none⟩) (by simp[go_sem]) (by simp[go_sem]);have D:ae w1 I:=((ae.refl _).alloc _).trans z;have Q:=fun o:Nat=>D.frz (a:=⟨w.heap.size+2,o,none⟩) (by dsimp only;omega) (Q o);have W:=D.cell W;have X:=D.cell X;have U:=D.cell U;have V:=D.cell V;have N:=D.cell N;have O:=D.cell O;have ay:w.heap.size<I.heap.size:=(by omega);have a0:w.heap.size+1<I.heap.size:=(by omega);have T:w.heap.size+2<I.heap.size:=(by omega);have s:w1.heap.size<I.heap.size:=(by omega);have s:ae w I:=E.trans D)
 all_goals go_wp2_with (first|(go_at_call 188;refine(a2.out _ kp).mono ?_;rintro e a1 ⟨rfl,J,a7⟩;have a9:=J.size;(try simp only[ak,aA,World.a6]at a9);have ba:=J.cell (a:=⟨w.heap.size+2,0,none⟩) ab (v:=.int .u8 0) (by simp[go_sem,T,N]);have bb:=J.cell (a:=⟨w.heap.size+2,1,none⟩) ab (v:=.int .u32 0) (by simp[go_sem,T,O]);have s:=fun o:Nat=>J.frozen (a:=⟨w.heap.size+2,o,none⟩) (by(try simp only[ak,aA,World.a6]);omega) ab (by(try simp only[bP,World.frozen?_drew,frozen?_alloc_cells]);exact Q o);have a':w.heap.size+2<a1.heap.size:=(by omega))|fail)
 all_goals refine an (v:=.tuple #[.agg #[.int .u8 a,.int .u32 b],.int .u8 Z]) (by simp[results,Tryz.results123,go_sem,a',ba,bb]) rfl ⟨rfl,_,a1,kp,J,a7,?_⟩
 all_goals(try simp only[ak,aA,World.a6])
 all_goals(repeat (first|with_reducible exact af.refl _ _|exact af.mono s (fun k _ E=>⟨E.1,by(try simp only[ak,aA,World.a6]);have:=E.2;omega⟩)|refine af.setCell ?_ (Or.inl (by dsimp only;omega)) _|refine af.setCell ?_ (Or.inr (by dsimp only;omega)) _|with_reducible refine af.drewN ?_ _|with_reducible refine af.drew ?_|with_reducible refine af.alloc ?_ _))
theorem sG {F:Nat→Prop}(R:World→World→Prop)(sb:Nat)(l n:Int)(lo hi:Edge)(x:Rec)(a b Z:Int)(w:World)(be:n≤16)(bh:sb<w.heap.size)
  (ax:∀s,ae w s→Calls Tryz.prog 48 #[.pointer (some ⟨sb,0,none⟩)] s fun e u=>e=.returned (.int .i64 n)∧s=u)
  (h0:0≤l) (bd:l<n)
  (am:∀s,ae w s→Calls Tryz.prog 134 #[.pointer (some ⟨sb,0,none⟩),.int .u8 3,.agg #[.int .u8 lo.tag,.int .u32 lo.to],.int .i64 (l+1)] s fun e u=>e=.returned (.bool true)∧ae s u)
  (al:∀s,ae w s→Calls Tryz.prog 134 #[.pointer (some ⟨sb,0,none⟩),.int .u8 3,.agg #[.int .u8 hi.tag,.int .u32 hi.to],.int .i64 (l+1)] s fun e u=>e=.returned (.bool true)∧ae s u)
  (hs:¬lo=hi)
  (ba:¬x.top=l+1) (bi:0≤x.top) (bn:x.top≤255)
  (ah:∀s,ae w s→Calls Tryz.prog 78 #[.pointer (some ⟨sb,0,none⟩),.int .u32 lo.to] s fun e u=>e=.returned (.tuple #[.agg #[.int .u8 x.ad,.int .u8 x.top,.int .u8 x.J,.int .u8 x.lo.tag,.int .u32 x.lo.to,.int .u8 x.hi.tag,.int .u32 x.hi.to],.bool true])∧ae s u)
  (av:∀k,F k→k<w.heap.size) (ad:∀s,ae w s→Calls Tryz.prog 188 #[.pointer (some ⟨sb,0,none⟩),.agg #[.int .u8 3,.int .u8 l,.int .u8 l,.int .u8 lo.tag,.int .u32 lo.to,.int .u8 hi.tag,.int .u32 hi.to]] s fun e u=>e=.returned (.tuple #[.agg #[.int .u8 a,.int .u32 b],.int .u8 Z])∧af F s u∧R s u)
  : Calls Tryz.prog 123 #[.pointer (some ⟨sb,0,none⟩),.int .i64 l,.agg #[.int .u8 lo.tag,.int .u32 lo.to],.agg #[.int .u8 hi.tag,.int .u32 hi.to]] w fun e u=>e=.returned (.tuple #[.agg #[.int .u8 a,.int .u32 b],.int .u8 Z]) ∧ 
   ∃s Y,ae w s∧af F s Y∧R s Y∧af (fun k=>w.heap.size≤k∧k<s.heap.size) Y u:=by
 have s:sb<w.heap.size+1:=by omega
 have s:sb<w.heap.size+1+1:=by omega
 have a6:=aa ax
 clear ax
 have a5:=aa am
 clear am
 have a4:=aa al
 clear al
 have a2:=aa ad
 have s:∀k,w.heap.size≤k→¬F k:=fun k E h=>by have:=av k h;omega
 have ab:=s (w.heap.size+2) (by omega)
 clear ad av s
 have s:=iE lo hi hs
 have s:=aa hs
 clear hs
 have s:(x.top==l+1)=false:=by simp[ba]
 have a3:=aa ah
 clear ah
 go_enter Tryz.func123,Tryz.ntmps123
 go_wp2_with (first|(go_at_call 48;refine(a6.out _ kp).mono ?_;rintro e u ⟨rfl,rfl⟩)|fail)
 (go_at_call 134;refine(a5.out _ kp).mono ?_;rintro e w1 ⟨rfl,t⟩;have aw:=t.size;simp only[ak]at aw;have ay:w.heap.size<w1.heap.size:=(by omega);have a0:w.heap.size+1<w1.heap.size:=(by omega);have T:w.heap.size+2<w1.heap.size:=(by omega);have W:=t.I (a:=⟨w.heap.size,0,none⟩) (v:=.int .u8 lo.tag);have X:=t.I (a:=⟨w.heap.size,1,none⟩) (v:=.int .u32 lo.to);have U:=t.I (a:=⟨w.heap.size+1,0,none⟩) (v:=.int .u8 hi.tag);have V:=t.I (a:=⟨w.heap.size+1,1,none⟩) (v:=.int .u32 hi.to);have N:=t.I (a:=⟨w.heap.size+2,0,none⟩) (v:=.int .u8 0);have O:=t.I (a:=⟨w.heap.size+2,1,none⟩) (v:=.int .u32 0);have Q:=fun o:Nat=>t.frz (a:=⟨w.heap.size+2,o,none⟩) (by simp[go_sem]) (by simp[go_sem]);have E:ae w w1:=kp)
 go_wp2_with fail
 (go_at_call 134;refine(a4.out _ kp).mono ?_;rintro e w1 ⟨rfl,t⟩;have aw:=t.size;have Q:=fun o:Nat=>t.frz (a:=⟨w.heap.size+2,o,none⟩) (by dsimp only;omega) (Q o);have W:=t.cell W;have X:=t.cell X;have U:=t.cell U;have V:=t.cell V;have N:=t.cell N;have O:=t.cell O;have ay:w.heap.size<w1.heap.size:=(by omega);have a0:w.heap.size+1<w1.heap.size:=(by omega);have T:w.heap.size+2<w1.heap.size:=(by omega);have E:ae w w1:=kp)
 go_wp2_with fail
 (go_at_call 78;refine(a3.out _ kp).mono ?_;rintro e I ⟨rfl,z⟩;have a8:=z.size;simp only[ak]at a8;have s:=z.I (a:=⟨w1.heap.size,0,none⟩) (v:=.int .u8 3);have s:=z.I (a:=⟨w1.heap.size,1,none⟩) (v:=.int .u8 l);have s:=z.I (a:=⟨w1.heap.size,2,none⟩) (v:=.int .u8 l);have s:=z.I (a:=⟨w1.heap.size,3,none⟩) (v:=.int .u8 lo.tag);have s:=z.I (a:=⟨w1.heap.size,4,none⟩) (v:=.int .u32 lo.to);have s:=z.I (a:=⟨w1.heap.size,5,none⟩) (v:=.int .u8 hi.tag);have s:=z.I (a:=⟨w1.heap.size,6,none⟩) (v:=.int .u32 hi.to);have s:=fun o:Nat=>z.frz (a:=⟨w1.heap.size,o,none⟩) (by simp[go_sem]) (by simp[go_sem]);have D:ae w1 I:=((ae.refl _).alloc _).trans z;have Q:=fun o:Nat=>D.frz (a:=⟨w.heap.size+2,o,none⟩) (by dsimp only;omega) (Q o);have W:=D.cell W;have X:=D.cell X;have U:=D.cell U;have V:=D.cell V;have N:=D.cell N;have O:=D.cell O;have ay:w.heap.size<I.heap.size:=(by omega);have a0:w.heap.size+1<I.heap.size:=(by omega);have T:w.heap.size+2<I.heap.size:=(by omega);have s:w1.heap.size<I.heap.size:=(by omega);have s:ae w I:=E.trans D)
 all_goals go_wp2_with (first|(go_at_call 188;refine(a2.out _ kp).mono ?_;rintro e a1 ⟨rfl,J,a7⟩;have a9:=J.size;(try simp only[ak,aA,World.a6]at a9);have bb:=J.cell (a:=⟨w.heap.size+2,0,none⟩) ab (v:=.int .u8 0) (by simp[go_sem,T,N]);have bc:=J.cell (a:=⟨w.heap.size+2,1,none⟩) ab (v:=.int .u32 0) (by simp[go_sem,T,O]);have s:=fun o:Nat=>J.frozen (a:=⟨w.heap.size+2,o,none⟩) (by(try simp only[ak,aA,World.a6]);omega) ab (by(try simp only[bP,World.frozen?_drew,frozen?_alloc_cells]);exact Q o);have a':w.heap.size+2<a1.heap.size:=(by omega))|fail)
 all_goals refine an (v:=.tuple #[.agg #[.int .u8 a,.int .u32 b],.int .u8 Z]) (by simp[results,Tryz.results123,go_sem,a',bb,bc]) rfl ⟨rfl,_,a1,kp,J,a7,?_⟩
 all_goals(try simp only[ak,aA,World.a6])
 all_goals(repeat (first|with_reducible exact af.refl _ _|exact af.mono s (fun k _ E=>⟨E.1,by(try simp only[ak,aA,World.a6]);have:=E.2;omega⟩)|refine af.setCell ?_ (Or.inl (by dsimp only;omega)) _|refine af.setCell ?_ (Or.inr (by dsimp only;omega)) _|with_reducible refine af.drewN ?_ _|with_reducible refine af.drew ?_|with_reducible refine af.alloc ?_ _))
theorem sB {F:Nat→Prop}(R:World→World→Prop)(sb:Nat)(l n:Int)(lo hi:Edge)(x:Rec)(a b Z:Int)(w:World)(be:n≤16)(bh:sb<w.heap.size)
  (ay:∀s,ae w s→Calls Tryz.prog 48 #[.pointer (some ⟨sb,0,none⟩)] s fun e u=>e=.returned (.int .i64 n)∧s=u)
  (h0:0≤l) (bd:l<n)
  (av:∀s,ae w s→Calls Tryz.prog 134 #[.pointer (some ⟨sb,0,none⟩),.int .u8 3,.agg #[.int .u8 lo.tag,.int .u32 lo.to],.int .i64 (l+1)] s fun e u=>e=.returned (.bool true)∧ae s u)
  (am:∀s,ae w s→Calls Tryz.prog 134 #[.pointer (some ⟨sb,0,none⟩),.int .u8 3,.agg #[.int .u8 hi.tag,.int .u32 hi.to],.int .i64 (l+1)] s fun e u=>e=.returned (.bool true)∧ae s u)
  (hs:¬lo=hi)
  (ab:¬x.hi=hi)
  (al:∀s,ae w s→Calls Tryz.prog 78 #[.pointer (some ⟨sb,0,none⟩),.int .u32 lo.to] s fun e u=>e=.returned (.tuple #[.agg #[.int .u8 x.ad,.int .u8 (l+1),.int .u8 x.J,.int .u8 x.lo.tag,.int .u32 x.lo.to,.int .u8 x.hi.tag,.int .u32 x.hi.to],.bool true])∧ae s u)
  (aw:∀k,F k→k<w.heap.size) (ah:∀s,ae w s→Calls Tryz.prog 188 #[.pointer (some ⟨sb,0,none⟩),.agg #[.int .u8 3,.int .u8 l,.int .u8 l,.int .u8 lo.tag,.int .u32 lo.to,.int .u8 hi.tag,.int .u32 hi.to]] s fun e u=>e=.returned (.tuple #[.agg #[.int .u8 a,.int .u32 b],.int .u8 Z])∧af F s u∧R s u)
  : Calls Tryz.prog 123 #[.pointer (some ⟨sb,0,none⟩),.int .i64 l,.agg #[.int .u8 lo.tag,.int .u32 lo.to],.agg #[.int .u8 hi.tag,.int .u32 hi.to]] w fun e u=>e=.returned (.tuple #[.agg #[.int .u8 a,.int .u32 b],.int .u8 Z]) ∧ 
   ∃s Y,ae w s∧af F s Y∧R s Y∧af (fun k=>w.heap.size≤k∧k<s.heap.size) Y u:=by
 have s:sb<w.heap.size+1:=by omega
 have s:sb<w.heap.size+1+1:=by omega
 have a7:=aa ay
 clear ay
 have a6:=aa av
 clear av
 have a5:=aa am
 clear am
 have a3:=aa ah
 have s:∀k,w.heap.size≤k→¬F k:=fun k E h=>by have:=aw k h;omega
 have ad:=s (w.heap.size+2) (by omega)
 clear ah aw s
 have s:=iE lo hi hs
 have s:=aa hs
 clear hs
 have s:=iE x.hi hi ab
 have s:=aa ab
 clear ab
 have a4:=aa al
 clear al
 go_enter Tryz.func123,Tryz.ntmps123
 go_wp2_with (first|(go_at_call 48;refine(a7.out _ kp).mono ?_;rintro e u ⟨rfl,rfl⟩)|fail)
 (go_at_call 134;refine(a6.out _ kp).mono ?_;rintro e w1 ⟨rfl,t⟩;have ax:=t.size;simp only[ak]at ax;have a0:w.heap.size<w1.heap.size:=(by omega);have a1:w.heap.size+1<w1.heap.size:=(by omega);have T:w.heap.size+2<w1.heap.size:=(by omega);have W:=t.I (a:=⟨w.heap.size,0,none⟩) (v:=.int .u8 lo.tag);have X:=t.I (a:=⟨w.heap.size,1,none⟩) (v:=.int .u32 lo.to);have U:=t.I (a:=⟨w.heap.size+1,0,none⟩) (v:=.int .u8 hi.tag);have V:=t.I (a:=⟨w.heap.size+1,1,none⟩) (v:=.int .u32 hi.to);have N:=t.I (a:=⟨w.heap.size+2,0,none⟩) (v:=.int .u8 0);have O:=t.I (a:=⟨w.heap.size+2,1,none⟩) (v:=.int .u32 0);have Q:=fun o:Nat=>t.frz (a:=⟨w.heap.size+2,o,none⟩) (by simp[go_sem]) (by simp[go_sem]);have E:ae w w1:=kp)
 go_wp2_with fail
 (go_at_call 134;refine(a5.out _ kp).mono ?_;rintro e w1 ⟨rfl,t⟩;have ax:=t.size;have Q:=fun o:Nat=>t.frz (a:=⟨w.heap.size+2,o,none⟩) (by dsimp only;omega) (Q o);have W:=t.cell W;have X:=t.cell X;have U:=t.cell U;have V:=t.cell V;have N:=t.cell N;have O:=t.cell O;have a0:w.heap.size<w1.heap.size:=(by omega);have a1:w.heap.size+1<w1.heap.size:=(by omega);have T:w.heap.size+2<w1.heap.size:=(by omega);have E:ae w w1:=kp)
 go_wp2_with fail
 (go_at_call 78;refine(a4.out _ kp).mono ?_;rintro e I ⟨rfl,z⟩;have a9:=z.size;simp only[ak]at a9;have s:=z.I (a:=⟨w1.heap.size,0,none⟩) (v:=.int .u8 3);have s:=z.I (a:=⟨w1.heap.size,1,none⟩) (v:=.int .u8 l);have s:=z.I (a:=⟨w1.heap.size,2,none⟩) (v:=.int .u8 l);have s:=z.I (a:=⟨w1.heap.size,3,none⟩) (v:=.int .u8 lo.tag);have s:=z.I (a:=⟨w1.heap.size,4,none⟩) (v:=.int .u32 lo.to);have s:=z.I (a:=⟨w1.heap.size,5,none⟩) (v:=.int .u8 hi.tag);have s:=z.I (a:=⟨w1.heap.size,6,none⟩) (v:=.int .u32 hi.to);have s:=fun o:Nat=>z.frz (a:=⟨w1.heap.size,o,none⟩) (by simp[go_sem]) (by simp[go_sem]);have D:ae w1 I:=((ae.refl _).alloc _).trans z;have Q:=fun o:Nat=>D.frz (a:=⟨w.heap.size+2,o,none⟩) (by dsimp only;omega) (Q o);have W:=D.cell W;have X:=D.cell X;have U:=D.cell U;have V:=D.cell V;have N:=D.cell N;have O:=D.cell O;have a0:w.heap.size<I.heap.size:=(by omega);have a1:w.heap.size+1<I.heap.size:=(by omega);have T:w.heap.size+2<I.heap.size:=(by omega);have s:w1.heap.size<I.heap.size:=(by omega);have s:ae w I:=E.trans D)
 all_goals go_wp2_with (first|(go_at_call 188;refine(a3.out _ kp).mono ?_;rintro e a2 ⟨rfl,J,a8⟩;have a':=J.size;(try simp only[ak,aA,World.a6]at a');have bb:=J.cell (a:=⟨w.heap.size+2,0,none⟩) ad (v:=.int .u8 0) (by simp[go_sem,T,N]);have bc:=J.cell (a:=⟨w.heap.size+2,1,none⟩) ad (v:=.int .u32 0) (by simp[go_sem,T,O]);have s:=fun o:Nat=>J.frozen (a:=⟨w.heap.size+2,o,none⟩) (by(try simp only[ak,aA,World.a6]);omega) ad (by(try simp only[bP,World.frozen?_drew,frozen?_alloc_cells]);exact Q o);have ba:w.heap.size+2<a2.heap.size:=(by omega))|fail)
 all_goals refine an (v:=.tuple #[.agg #[.int .u8 a,.int .u32 b],.int .u8 Z]) (by simp[results,Tryz.results123,go_sem,ba,bb,bc]) rfl ⟨rfl,_,a2,kp,J,a8,?_⟩
 all_goals(try simp only[ak,aA,World.a6])
 all_goals(repeat (first|with_reducible exact af.refl _ _|exact af.mono s (fun k _ E=>⟨E.1,by(try simp only[ak,aA,World.a6]);have:=E.2;omega⟩)|refine af.setCell ?_ (Or.inl (by dsimp only;omega)) _|refine af.setCell ?_ (Or.inr (by dsimp only;omega)) _|with_reducible refine af.drewN ?_ _|with_reducible refine af.drew ?_|with_reducible refine af.alloc ?_ _))
theorem sz {F:Nat→Prop}(R:World→World→Prop)(sb:Nat)(l n:Int)(lo hi:Edge)(x:Rec)(a b Z:Int)(w:World)(bd:n≤16)(be:sb<w.heap.size)
  (ax:∀s,ae w s→Calls Tryz.prog 48 #[.pointer (some ⟨sb,0,none⟩)] s fun e u=>e=.returned (.int .i64 n)∧s=u)
  (h0:0≤l) (bc:l<n)
  (am:∀s,ae w s→Calls Tryz.prog 134 #[.pointer (some ⟨sb,0,none⟩),.int .u8 3,.agg #[.int .u8 lo.tag,.int .u32 lo.to],.int .i64 (l+1)] s fun e u=>e=.returned (.bool true)∧ae s u)
  (al:∀s,ae w s→Calls Tryz.prog 134 #[.pointer (some ⟨sb,0,none⟩),.int .u8 3,.agg #[.int .u8 hi.tag,.int .u32 hi.to],.int .i64 (l+1)] s fun e u=>e=.returned (.bool true)∧ae s u)
  (hs:¬lo=hi)
  (ah:∀s,ae w s→Calls Tryz.prog 78 #[.pointer (some ⟨sb,0,none⟩),.int .u32 lo.to] s fun e u=>e=.returned (.tuple #[.agg #[.int .u8 x.ad,.int .u8 (l+1),.int .u8 x.J,.int .u8 x.lo.tag,.int .u32 x.lo.to,.int .u8 hi.tag,.int .u32 hi.to],.bool true])∧ae s u)
  (av:∀k,F k→k<w.heap.size) (ad:∀s,ae w s→Calls Tryz.prog 188 #[.pointer (some ⟨sb,0,none⟩),.agg #[.int .u8 3,.int .u8 l,.int .u8 x.J,.int .u8 x.lo.tag,.int .u32 x.lo.to,.int .u8 hi.tag,.int .u32 hi.to]] s fun e u=>e=.returned (.tuple #[.agg #[.int .u8 a,.int .u32 b],.int .u8 Z])∧af F s u∧R s u)
  : Calls Tryz.prog 123 #[.pointer (some ⟨sb,0,none⟩),.int .i64 l,.agg #[.int .u8 lo.tag,.int .u32 lo.to],.agg #[.int .u8 hi.tag,.int .u32 hi.to]] w fun e u=>e=.returned (.tuple #[.agg #[.int .u8 a,.int .u32 b],.int .u8 Z]) ∧ 
   ∃s Y,ae w s∧af F s Y∧R s Y∧af (fun k=>w.heap.size≤k∧k<s.heap.size) Y u:=by
 have s:sb<w.heap.size+1:=by omega
 have s:sb<w.heap.size+1+1:=by omega
 have a6:=aa ax
 clear ax
 have a5:=aa am
 clear am
 have a4:=aa al
 clear al
 have a2:=aa ad
 have s:∀k,w.heap.size≤k→¬F k:=fun k E h=>by have:=av k h;omega
 have ab:=s (w.heap.size+2) (by omega)
 clear ad av s
 have s:=iE lo hi hs
 have s:=aa hs
 clear hs
 have s:=jI hi hi rfl
 have a3:=aa ah
 clear ah
 go_enter Tryz.func123,Tryz.ntmps123
 go_wp2_with (first|(go_at_call 48;refine(a6.out _ kp).mono ?_;rintro e u ⟨rfl,rfl⟩)|fail)
 (go_at_call 134;refine(a5.out _ kp).mono ?_;rintro e w1 ⟨rfl,t⟩;have aw:=t.size;simp only[ak]at aw;have ay:w.heap.size<w1.heap.size:=(by omega);have a0:w.heap.size+1<w1.heap.size:=(by omega);have T:w.heap.size+2<w1.heap.size:=(by omega);have W:=t.I (a:=⟨w.heap.size,0,none⟩) (v:=.int .u8 lo.tag);have X:=t.I (a:=⟨w.heap.size,1,none⟩) (v:=.int .u32 lo.to);have U:=t.I (a:=⟨w.heap.size+1,0,none⟩) (v:=.int .u8 hi.tag);have V:=t.I (a:=⟨w.heap.size+1,1,none⟩) (v:=.int .u32 hi.to);have N:=t.I (a:=⟨w.heap.size+2,0,none⟩) (v:=.int .u8 0);have O:=t.I (a:=⟨w.heap.size+2,1,none⟩) (v:=.int .u32 0);have Q:=fun o:Nat=>t.frz (a:=⟨w.heap.size+2,o,none⟩) (by simp[go_sem]) (by simp[go_sem]);have E:ae w w1:=kp)
 go_wp2_with fail
 (go_at_call 134;refine(a4.out _ kp).mono ?_;rintro e w1 ⟨rfl,t⟩;have aw:=t.size;have Q:=fun o:Nat=>t.frz (a:=⟨w.heap.size+2,o,none⟩) (by dsimp only;omega) (Q o);have W:=t.cell W;have X:=t.cell X;have U:=t.cell U;have V:=t.cell V;have N:=t.cell N;have O:=t.cell O;have ay:w.heap.size<w1.heap.size:=(by omega);have a0:w.heap.size+1<w1.heap.size:=(by omega);have T:w.heap.size+2<w1.heap.size:=(by omega);have E:ae w w1:=kp)
 go_wp2_with fail
 (go_at_call 78;refine(a3.out _ kp).mono ?_;rintro e I ⟨rfl,z⟩;have a8:=z.size;simp only[ak]at a8;have s:=z.I (a:=⟨w1.heap.size,0,none⟩) (v:=.int .u8 3);have s:=z.I (a:=⟨w1.heap.size,1,none⟩) (v:=.int .u8 l);have s:=z.I (a:=⟨w1.heap.size,2,none⟩) (v:=.int .u8 l);have s:=z.I (a:=⟨w1.heap.size,3,none⟩) (v:=.int .u8 lo.tag);have s:=z.I (a:=⟨w1.heap.size,4,none⟩) (v:=.int .u32 lo.to);have s:=z.I (a:=⟨w1.heap.size,5,none⟩) (v:=.int .u8 hi.tag);have s:=z.I (a:=⟨w1.heap.size,6,none⟩) (v:=.int .u32 hi.to);have s:=fun o:Nat=>z.frz (a:=⟨w1.heap.size,o,none⟩) (by simp[go_sem]) (by simp[go_sem]);have D:ae w1 I:=((ae.refl _).alloc _).trans z;have Q:=fun o:Nat=>D.frz (a:=⟨w.heap.size+2,o,none⟩) (by dsimp only;omega) (Q o);have W:=D.cell W;have X:=D.cell X;have U:=D.cell U;have V:=D.cell V;have N:=D.cell N;have O:=D.cell O;have ay:w.heap.size<I.heap.size:=(by omega);have a0:w.heap.size+1<I.heap.size:=(by omega);have T:w.heap.size+2<I.heap.size:=(by omega);have s:w1.heap.size<I.heap.size:=(by omega);have s:ae w I:=E.trans D)
 go_wp2_with fail
 go_region
 all_goals go_wp2_with (first|(go_at_call 188;refine(a2.out _ kp).mono ?_;rintro e a1 ⟨rfl,J,a7⟩;have a9:=J.size;(try simp only[ak,aA,World.a6]at a9);have ba:=J.cell (a:=⟨w.heap.size+2,0,none⟩) ab (v:=.int .u8 0) (by simp[go_sem,T,N]);have bb:=J.cell (a:=⟨w.heap.size+2,1,none⟩) ab (v:=.int .u32 0) (by simp[go_sem,T,O]);have s:=fun o:Nat=>J.frozen (a:=⟨w.heap.size+2,o,none⟩) (by(try simp only[ak,aA,World.a6]);omega) ab (by(try simp only[bP,World.frozen?_drew,frozen?_alloc_cells]);exact Q o);have a':w.heap.size+2<a1.heap.size:=(by omega))|fail)
 all_goals refine an (v:=.tuple #[.agg #[.int .u8 a,.int .u32 b],.int .u8 Z]) (by simp[results,Tryz.results123,go_sem,a',ba,bb]) rfl ⟨rfl,_,a1,kp,J,a7,?_⟩
 all_goals(try simp only[ak,aA,World.a6])
 all_goals(repeat (first|with_reducible exact af.refl _ _|exact af.mono s (fun k _ E=>⟨E.1,by(try simp only[ak,aA,World.a6]);have:=E.2;omega⟩)|refine af.setCell ?_ (Or.inl (by dsimp only;omega)) _|refine af.setCell ?_ (Or.inr (by dsimp only;omega)) _|with_reducible refine af.drewN ?_ _|with_reducible refine af.drew ?_|with_reducible refine af.alloc ?_ _))
end Go.Proofs.YtafkamlhimkbmaaGreat
