/-
  The walk of bdd.Make, case by case (printed by wip/mk_make2.py).
-/
import Derived.Test.YtafkamlhimkbmaaGreatPIntsW
import Derived.IntWalk
namespace Go.Proofs.YtafkamlhimkbmaaGreat
set_option maxRecDepth 1000000
set_option maxHeartbeats 8000000
set_option linter.unusedSimpArgs false
set_option linter.unusedVariables false
open Go.RowKit
theorem rN (sb:Nat)(l n:Int)(lo hi:Edge)(w:World)(D:n≤16)(E:sb<w.heap.size)
  (u:∀t,ae w t→Calls Tryz.prog 48 #[.pointer (some ⟨sb,0,none⟩)] t fun e s=>e=.returned (.int .i64 n)∧t=s)
  (h0:l<0)
  : Calls Tryz.prog 121 #[.pointer (some ⟨sb,0,none⟩),.int .i64 l,.agg #[.int .u8 lo.tag,.int .u32 lo.to],.agg #[.int .u8 hi.tag,.int .u32 hi.to]] w fun e s=>e=.returned (.tuple #[.agg #[.int .u8 0,.int .u32 0],.int .u8 3])∧ae w s:=by
 have t:sb<w.heap.size+1:=by omega
 have t:sb<w.heap.size+1+1:=by omega
 have z:=aa u
 clear u
 go_enter Tryz.func121,Tryz.ntmps121
 go_wp2_with (first|(go_at_call 48;refine(z.out _ kp).mono ?_;rintro e s ⟨rfl,rfl⟩)|fail)
 all_goals refine an (v:=.tuple #[.agg #[.int .u8 0,.int .u32 0],.int .u8 3]) (by simp[results,Tryz.results121,go_sem]) rfl ⟨rfl,kp⟩
theorem rJ (sb:Nat)(l n:Int)(lo hi:Edge)(w:World)(E:n≤16)(I:sb<w.heap.size)
  (u:∀t,ae w t→Calls Tryz.prog 48 #[.pointer (some ⟨sb,0,none⟩)] t fun e s=>e=.returned (.int .i64 n)∧t=s)
  (h0:0≤l) (D:n≤l)
  : Calls Tryz.prog 121 #[.pointer (some ⟨sb,0,none⟩),.int .i64 l,.agg #[.int .u8 lo.tag,.int .u32 lo.to],.agg #[.int .u8 hi.tag,.int .u32 hi.to]] w fun e s=>e=.returned (.tuple #[.agg #[.int .u8 0,.int .u32 0],.int .u8 3])∧ae w s:=by
 have t:sb<w.heap.size+1:=by omega
 have t:sb<w.heap.size+1+1:=by omega
 have z:=aa u
 clear u
 go_enter Tryz.func121,Tryz.ntmps121
 go_wp2_with (first|(go_at_call 48;refine(z.out _ kp).mono ?_;rintro e s ⟨rfl,rfl⟩)|fail)
 all_goals refine an (v:=.tuple #[.agg #[.int .u8 0,.int .u32 0],.int .u8 3]) (by simp[results,Tryz.results121,go_sem]) rfl ⟨rfl,kp⟩
theorem rM (sb:Nat)(l n:Int)(lo hi:Edge)(w:World)(U:n≤16)(V:sb<w.heap.size)
  (D:∀t,ae w t→Calls Tryz.prog 48 #[.pointer (some ⟨sb,0,none⟩)] t fun e u=>e=.returned (.int .i64 n)∧t=u)
  (h0:0≤l) (T:l<n)
  (z:∀t,ae w t→Calls Tryz.prog 134 #[.pointer (some ⟨sb,0,none⟩),.int .u8 1,.agg #[.int .u8 lo.tag,.int .u32 lo.to],.int .i64 (l+1)] t fun e u=>e=.returned (.bool false)∧ae t u)
  : Calls Tryz.prog 121 #[.pointer (some ⟨sb,0,none⟩),.int .i64 l,.agg #[.int .u8 lo.tag,.int .u32 lo.to],.agg #[.int .u8 hi.tag,.int .u32 hi.to]] w fun e u=>e=.returned (.tuple #[.agg #[.int .u8 0,.int .u32 0],.int .u8 1])∧ae w u:=by
 have t:sb<w.heap.size+1:=by omega
 have t:sb<w.heap.size+1+1:=by omega
 have I:=aa D
 clear D
 have E:=aa z
 clear z
 go_enter Tryz.func121,Tryz.ntmps121
 go_wp2_with (first|(go_at_call 48;refine(I.out _ kp).mono ?_;rintro e u ⟨rfl,rfl⟩)|fail)
 (go_at_call 134;refine(E.out _ kp).mono ?_;rintro e w1 ⟨rfl,s⟩;have J:=s.size;simp only[ak]at J;have t:w.heap.size<w1.heap.size:=(by omega);have t:w.heap.size+1<w1.heap.size:=(by omega);have N:w.heap.size+2<w1.heap.size:=(by omega);have t:=s.I (a:=⟨w.heap.size,0,none⟩) (v:=.int .u8 lo.tag);have t:=s.I (a:=⟨w.heap.size,1,none⟩) (v:=.int .u32 lo.to);have t:=s.I (a:=⟨w.heap.size+1,0,none⟩) (v:=.int .u8 hi.tag);have t:=s.I (a:=⟨w.heap.size+1,1,none⟩) (v:=.int .u32 hi.to);have O:=s.I (a:=⟨w.heap.size+2,0,none⟩) (v:=.int .u8 0);have Q:=s.I (a:=⟨w.heap.size+2,1,none⟩) (v:=.int .u32 0);have t:=fun o:Nat=>s.frz (a:=⟨w.heap.size+2,o,none⟩) (by simp[go_sem]) (by simp[go_sem]);have s:ae w w1:=kp)
 go_wp2_with fail
 all_goals refine an (v:=.tuple #[.agg #[.int .u8 0,.int .u32 0],.int .u8 1]) (by simp[results,Tryz.results121,go_sem,N,O,Q]) rfl ⟨rfl,kp⟩
theorem rL (sb:Nat)(l n:Int)(lo hi:Edge)(w:World)(am:n≤16)(av:sb<w.heap.size)
  (N:∀t,ae w t→Calls Tryz.prog 48 #[.pointer (some ⟨sb,0,none⟩)] t fun e u=>e=.returned (.int .i64 n)∧t=u)
  (h0:0≤l) (al:l<n)
  (I:∀t,ae w t→Calls Tryz.prog 134 #[.pointer (some ⟨sb,0,none⟩),.int .u8 1,.agg #[.int .u8 lo.tag,.int .u32 lo.to],.int .i64 (l+1)] t fun e u=>e=.returned (.bool true)∧ae t u)
  (E:∀t,ae w t→Calls Tryz.prog 134 #[.pointer (some ⟨sb,0,none⟩),.int .u8 1,.agg #[.int .u8 hi.tag,.int .u32 hi.to],.int .i64 (l+1)] t fun e u=>e=.returned (.bool false)∧ae t u)
  : Calls Tryz.prog 121 #[.pointer (some ⟨sb,0,none⟩),.int .i64 l,.agg #[.int .u8 lo.tag,.int .u32 lo.to],.agg #[.int .u8 hi.tag,.int .u32 hi.to]] w fun e u=>e=.returned (.tuple #[.agg #[.int .u8 0,.int .u32 0],.int .u8 1])∧ae w u:=by
 have t:sb<w.heap.size+1:=by omega
 have t:sb<w.heap.size+1+1:=by omega
 have Z:=aa N
 clear N
 have Y:=aa I
 clear I
 have X:=aa E
 clear E
 go_enter Tryz.func121,Tryz.ntmps121
 go_wp2_with (first|(go_at_call 48;refine(Z.out _ kp).mono ?_;rintro e u ⟨rfl,rfl⟩)|fail)
 (go_at_call 134;refine(Y.out _ kp).mono ?_;rintro e w1 ⟨rfl,s⟩;have J:=s.size;simp only[ak]at J;have ad:w.heap.size<w1.heap.size:=(by omega);have ah:w.heap.size+1<w1.heap.size:=(by omega);have O:w.heap.size+2<w1.heap.size:=(by omega);have U:=s.I (a:=⟨w.heap.size,0,none⟩) (v:=.int .u8 lo.tag);have V:=s.I (a:=⟨w.heap.size,1,none⟩) (v:=.int .u32 lo.to);have Q:=s.I (a:=⟨w.heap.size+1,0,none⟩) (v:=.int .u8 hi.tag);have T:=s.I (a:=⟨w.heap.size+1,1,none⟩) (v:=.int .u32 hi.to);have z:=s.I (a:=⟨w.heap.size+2,0,none⟩) (v:=.int .u8 0);have D:=s.I (a:=⟨w.heap.size+2,1,none⟩) (v:=.int .u32 0);have W:=fun o:Nat=>s.frz (a:=⟨w.heap.size+2,o,none⟩) (by simp[go_sem]) (by simp[go_sem]);have ab:ae w w1:=kp)
 go_wp2_with fail
 (go_at_call 134;refine(X.out _ kp).mono ?_;rintro e w1 ⟨rfl,s⟩;have J:=s.size;have W:=fun o:Nat=>s.frz (a:=⟨w.heap.size+2,o,none⟩) (by dsimp only;omega) (W o);have U:=s.cell U;have V:=s.cell V;have Q:=s.cell Q;have T:=s.cell T;have z:=s.cell z;have D:=s.cell D;have ad:w.heap.size<w1.heap.size:=(by omega);have ah:w.heap.size+1<w1.heap.size:=(by omega);have O:w.heap.size+2<w1.heap.size:=(by omega);have ab:ae w w1:=kp)
 go_wp2_with fail
 all_goals refine an (v:=.tuple #[.agg #[.int .u8 0,.int .u32 0],.int .u8 1]) (by simp[results,Tryz.results121,go_sem,O,z,D]) rfl ⟨rfl,kp⟩
theorem rO (sb:Nat)(l n:Int)(lo hi:Edge)(w:World)(am:n≤16)(av:sb<w.heap.size)
  (N:∀t,ae w t→Calls Tryz.prog 48 #[.pointer (some ⟨sb,0,none⟩)] t fun e u=>e=.returned (.int .i64 n)∧t=u)
  (h0:0≤l) (al:l<n)
  (I:∀t,ae w t→Calls Tryz.prog 134 #[.pointer (some ⟨sb,0,none⟩),.int .u8 1,.agg #[.int .u8 lo.tag,.int .u32 lo.to],.int .i64 (l+1)] t fun e u=>e=.returned (.bool true)∧ae t u)
  (E:∀t,ae w t→Calls Tryz.prog 134 #[.pointer (some ⟨sb,0,none⟩),.int .u8 1,.agg #[.int .u8 hi.tag,.int .u32 hi.to],.int .i64 (l+1)] t fun e u=>e=.returned (.bool true)∧ae t u)
  (hs:lo=hi)
  : Calls Tryz.prog 121 #[.pointer (some ⟨sb,0,none⟩),.int .i64 l,.agg #[.int .u8 lo.tag,.int .u32 lo.to],.agg #[.int .u8 hi.tag,.int .u32 hi.to]] w fun e u=>e=.returned (.tuple #[.agg #[.int .u8 lo.tag,.int .u32 lo.to],.int .u8 0])∧ae w u:=by
 have t:sb<w.heap.size+1:=by omega
 have t:sb<w.heap.size+1+1:=by omega
 have Z:=aa N
 clear N
 have Y:=aa I
 clear I
 have X:=aa E
 clear E
 have t:=jI lo hi hs
 have t:=aa hs
 clear hs
 go_enter Tryz.func121,Tryz.ntmps121
 go_wp2_with (first|(go_at_call 48;refine(Z.out _ kp).mono ?_;rintro e u ⟨rfl,rfl⟩)|fail)
 (go_at_call 134;refine(Y.out _ kp).mono ?_;rintro e w1 ⟨rfl,s⟩;have J:=s.size;simp only[ak]at J;have ad:w.heap.size<w1.heap.size:=(by omega);have ah:w.heap.size+1<w1.heap.size:=(by omega);have O:w.heap.size+2<w1.heap.size:=(by omega);have U:=s.I (a:=⟨w.heap.size,0,none⟩) (v:=.int .u8 lo.tag);have V:=s.I (a:=⟨w.heap.size,1,none⟩) (v:=.int .u32 lo.to);have Q:=s.I (a:=⟨w.heap.size+1,0,none⟩) (v:=.int .u8 hi.tag);have T:=s.I (a:=⟨w.heap.size+1,1,none⟩) (v:=.int .u32 hi.to);have z:=s.I (a:=⟨w.heap.size+2,0,none⟩) (v:=.int .u8 0);have D:=s.I (a:=⟨w.heap.size+2,1,none⟩) (v:=.int .u32 0);have W:=fun o:Nat=>s.frz (a:=⟨w.heap.size+2,o,none⟩) (by simp[go_sem]) (by simp[go_sem]);have ab:ae w w1:=kp)
 go_wp2_with fail
 (go_at_call 134;refine(X.out _ kp).mono ?_;rintro e w1 ⟨rfl,s⟩;have J:=s.size;have W:=fun o:Nat=>s.frz (a:=⟨w.heap.size+2,o,none⟩) (by dsimp only;omega) (W o);have U:=s.cell U;have V:=s.cell V;have Q:=s.cell Q;have T:=s.cell T;have z:=s.cell z;have D:=s.cell D;have ad:w.heap.size<w1.heap.size:=(by omega);have ah:w.heap.size+1<w1.heap.size:=(by omega);have O:w.heap.size+2<w1.heap.size:=(by omega);have ab:ae w w1:=kp)
 go_wp2_with fail
 all_goals refine an (v:=.tuple #[.agg #[.int .u8 lo.tag,.int .u32 lo.to],.int .u8 0]) (by simp[results,Tryz.results121,go_sem,O,z,D]) rfl ⟨rfl,kp⟩
theorem rK {F:Nat→Prop}(R:World→World→Prop)(sb:Nat)(l n:Int)(lo hi:Edge)(a b I:Int)(w:World)(a8:n≤16)(a9:sb<w.heap.size)
  (Z:∀s,ae w s→Calls Tryz.prog 48 #[.pointer (some ⟨sb,0,none⟩)] s fun e u=>e=.returned (.int .i64 n)∧s=u)
  (h0:0≤l) (a7:l<n)
  (W:∀s,ae w s→Calls Tryz.prog 134 #[.pointer (some ⟨sb,0,none⟩),.int .u8 1,.agg #[.int .u8 lo.tag,.int .u32 lo.to],.int .i64 (l+1)] s fun e u=>e=.returned (.bool true)∧ae s u)
  (V:∀s,ae w s→Calls Tryz.prog 134 #[.pointer (some ⟨sb,0,none⟩),.int .u8 1,.agg #[.int .u8 hi.tag,.int .u32 hi.to],.int .i64 (l+1)] s fun e u=>e=.returned (.bool true)∧ae s u)
  (hs:¬lo=hi)
  (X:∀k,F k→k<w.heap.size) (U:∀s,ae w s→Calls Tryz.prog 186 #[.pointer (some ⟨sb,0,none⟩),.agg #[.int .u8 1,.int .u8 l,.int .u8 l,.int .u8 lo.tag,.int .u32 lo.to,.int .u8 hi.tag,.int .u32 hi.to]] s fun e u=>e=.returned (.tuple #[.agg #[.int .u8 a,.int .u32 b],.int .u8 I])∧af F s u∧R s u)
  : Calls Tryz.prog 121 #[.pointer (some ⟨sb,0,none⟩),.int .i64 l,.agg #[.int .u8 lo.tag,.int .u32 lo.to],.agg #[.int .u8 hi.tag,.int .u32 hi.to]] w fun e u=>e=.returned (.tuple #[.agg #[.int .u8 a,.int .u32 b],.int .u8 I]) ∧ 
   ∃s E,ae w s∧af F s E∧R s E∧af (fun k=>w.heap.size≤k∧k<s.heap.size) E u:=by
 have s:sb<w.heap.size+1:=by omega
 have s:sb<w.heap.size+1+1:=by omega
 have ay:=aa Z
 clear Z
 have ax:=aa W
 clear W
 have aw:=aa V
 clear V
 have av:=aa U
 have s:∀k,w.heap.size≤k→¬F k:=fun k z h=>by have:=X k h;omega
 have N:=s (w.heap.size+2) (by omega)
 clear U X s
 have s:=iE lo hi hs
 have s:=aa hs
 clear hs
 go_enter Tryz.func121,Tryz.ntmps121
 go_wp2_with (first|(go_at_call 48;refine(ay.out _ kp).mono ?_;rintro e u ⟨rfl,rfl⟩)|fail)
 (go_at_call 134;refine(ax.out _ kp).mono ?_;rintro e w1 ⟨rfl,t⟩;have Y:=t.size;simp only[ak]at Y;have a3:w.heap.size<w1.heap.size:=(by omega);have a4:w.heap.size+1<w1.heap.size:=(by omega);have J:w.heap.size+2<w1.heap.size:=(by omega);have al:=t.I (a:=⟨w.heap.size,0,none⟩) (v:=.int .u8 lo.tag);have am:=t.I (a:=⟨w.heap.size,1,none⟩) (v:=.int .u32 lo.to);have ad:=t.I (a:=⟨w.heap.size+1,0,none⟩) (v:=.int .u8 hi.tag);have ah:=t.I (a:=⟨w.heap.size+1,1,none⟩) (v:=.int .u32 hi.to);have O:=t.I (a:=⟨w.heap.size+2,0,none⟩) (v:=.int .u8 0);have Q:=t.I (a:=⟨w.heap.size+2,1,none⟩) (v:=.int .u32 0);have T:=fun o:Nat=>t.frz (a:=⟨w.heap.size+2,o,none⟩) (by simp[go_sem]) (by simp[go_sem]);have z:ae w w1:=kp)
 go_wp2_with fail
 (go_at_call 134;refine(aw.out _ kp).mono ?_;rintro e w1 ⟨rfl,t⟩;have Y:=t.size;have T:=fun o:Nat=>t.frz (a:=⟨w.heap.size+2,o,none⟩) (by dsimp only;omega) (T o);have al:=t.cell al;have am:=t.cell am;have ad:=t.cell ad;have ah:=t.cell ah;have O:=t.cell O;have Q:=t.cell Q;have a3:w.heap.size<w1.heap.size:=(by omega);have a4:w.heap.size+1<w1.heap.size:=(by omega);have J:w.heap.size+2<w1.heap.size:=(by omega);have z:ae w w1:=kp)
 go_wp2_with fail
 all_goals go_wp2_with (first|(go_at_call 186;refine(av.out _ kp).mono ?_;rintro e ab ⟨rfl,D,a0⟩;have a1:=D.size;(try simp only[ak,aA,World.a6]at a1);have a5:=D.cell (a:=⟨w.heap.size+2,0,none⟩) N (v:=.int .u8 0) (by simp[go_sem,J,O]);have a6:=D.cell (a:=⟨w.heap.size+2,1,none⟩) N (v:=.int .u32 0) (by simp[go_sem,J,Q]);have s:=fun o:Nat=>D.frozen (a:=⟨w.heap.size+2,o,none⟩) (by(try simp only[ak,aA,World.a6]);omega) N (by(try simp only[bP,World.frozen?_drew,frozen?_alloc_cells]);exact T o);have a2:w.heap.size+2<ab.heap.size:=(by omega))|fail)
 all_goals refine an (v:=.tuple #[.agg #[.int .u8 a,.int .u32 b],.int .u8 I]) (by simp[results,Tryz.results121,go_sem,a2,a5,a6]) rfl ⟨rfl,_,ab,kp,D,a0,?_⟩
 all_goals(try simp only[ak,aA,World.a6])
 all_goals(repeat (first|with_reducible exact af.refl _ _|exact af.mono s (fun k _ z=>⟨z.1,by(try simp only[ak,aA,World.a6]);have:=z.2;omega⟩)|refine af.setCell ?_ (Or.inl (by dsimp only;omega)) _|refine af.setCell ?_ (Or.inr (by dsimp only;omega)) _|with_reducible refine af.drewN ?_ _|with_reducible refine af.drew ?_|with_reducible refine af.alloc ?_ _))
theorem AK (sb:Nat)(l n:Int)(lo hi:Edge)(w:World)(D:n≤16)(E:sb<w.heap.size)
  (u:∀t,ae w t→Calls Tryz.prog 48 #[.pointer (some ⟨sb,0,none⟩)] t fun e s=>e=.returned (.int .i64 n)∧t=s)
  (h0:l<0)
  : Calls Tryz.prog 122 #[.pointer (some ⟨sb,0,none⟩),.int .i64 l,.agg #[.int .u8 lo.tag,.int .u32 lo.to],.agg #[.int .u8 hi.tag,.int .u32 hi.to]] w fun e s=>e=.returned (.tuple #[.agg #[.int .u8 0,.int .u32 0],.int .u8 3])∧ae w s:=by
 have t:sb<w.heap.size+1:=by omega
 have t:sb<w.heap.size+1+1:=by omega
 have z:=aa u
 clear u
 go_enter Tryz.func122,Tryz.ntmps122
 go_wp2_with (first|(go_at_call 48;refine(z.out _ kp).mono ?_;rintro e s ⟨rfl,rfl⟩)|fail)
 all_goals refine an (v:=.tuple #[.agg #[.int .u8 0,.int .u32 0],.int .u8 3]) (by simp[results,Tryz.results122,go_sem]) rfl ⟨rfl,kp⟩
theorem AG (sb:Nat)(l n:Int)(lo hi:Edge)(w:World)(E:n≤16)(I:sb<w.heap.size)
  (u:∀t,ae w t→Calls Tryz.prog 48 #[.pointer (some ⟨sb,0,none⟩)] t fun e s=>e=.returned (.int .i64 n)∧t=s)
  (h0:0≤l) (D:n≤l)
  : Calls Tryz.prog 122 #[.pointer (some ⟨sb,0,none⟩),.int .i64 l,.agg #[.int .u8 lo.tag,.int .u32 lo.to],.agg #[.int .u8 hi.tag,.int .u32 hi.to]] w fun e s=>e=.returned (.tuple #[.agg #[.int .u8 0,.int .u32 0],.int .u8 3])∧ae w s:=by
 have t:sb<w.heap.size+1:=by omega
 have t:sb<w.heap.size+1+1:=by omega
 have z:=aa u
 clear u
 go_enter Tryz.func122,Tryz.ntmps122
 go_wp2_with (first|(go_at_call 48;refine(z.out _ kp).mono ?_;rintro e s ⟨rfl,rfl⟩)|fail)
 all_goals refine an (v:=.tuple #[.agg #[.int .u8 0,.int .u32 0],.int .u8 3]) (by simp[results,Tryz.results122,go_sem]) rfl ⟨rfl,kp⟩
theorem AJ (sb:Nat)(l n:Int)(lo hi:Edge)(w:World)(U:n≤16)(V:sb<w.heap.size)
  (D:∀t,ae w t→Calls Tryz.prog 48 #[.pointer (some ⟨sb,0,none⟩)] t fun e u=>e=.returned (.int .i64 n)∧t=u)
  (h0:0≤l) (T:l<n)
  (z:∀t,ae w t→Calls Tryz.prog 134 #[.pointer (some ⟨sb,0,none⟩),.int .u8 2,.agg #[.int .u8 lo.tag,.int .u32 lo.to],.int .i64 (l+1)] t fun e u=>e=.returned (.bool false)∧ae t u)
  : Calls Tryz.prog 122 #[.pointer (some ⟨sb,0,none⟩),.int .i64 l,.agg #[.int .u8 lo.tag,.int .u32 lo.to],.agg #[.int .u8 hi.tag,.int .u32 hi.to]] w fun e u=>e=.returned (.tuple #[.agg #[.int .u8 0,.int .u32 0],.int .u8 1])∧ae w u:=by
 have t:sb<w.heap.size+1:=by omega
 have t:sb<w.heap.size+1+1:=by omega
 have I:=aa D
 clear D
 have E:=aa z
 clear z
 go_enter Tryz.func122,Tryz.ntmps122
 go_wp2_with (first|(go_at_call 48;refine(I.out _ kp).mono ?_;rintro e u ⟨rfl,rfl⟩)|fail)
 (go_at_call 134;refine(E.out _ kp).mono ?_;rintro e w1 ⟨rfl,s⟩;have J:=s.size;simp only[ak]at J;have t:w.heap.size<w1.heap.size:=(by omega);have t:w.heap.size+1<w1.heap.size:=(by omega);have N:w.heap.size+2<w1.heap.size:=(by omega);have t:=s.I (a:=⟨w.heap.size,0,none⟩) (v:=.int .u8 lo.tag);have t:=s.I (a:=⟨w.heap.size,1,none⟩) (v:=.int .u32 lo.to);have t:=s.I (a:=⟨w.heap.size+1,0,none⟩) (v:=.int .u8 hi.tag);have t:=s.I (a:=⟨w.heap.size+1,1,none⟩) (v:=.int .u32 hi.to);have O:=s.I (a:=⟨w.heap.size+2,0,none⟩) (v:=.int .u8 0);have Q:=s.I (a:=⟨w.heap.size+2,1,none⟩) (v:=.int .u32 0);have t:=fun o:Nat=>s.frz (a:=⟨w.heap.size+2,o,none⟩) (by simp[go_sem]) (by simp[go_sem]);have s:ae w w1:=kp)
 go_wp2_with fail
 all_goals refine an (v:=.tuple #[.agg #[.int .u8 0,.int .u32 0],.int .u8 1]) (by simp[results,Tryz.results122,go_sem,N,O,Q]) rfl ⟨rfl,kp⟩
theorem AI (sb:Nat)(l n:Int)(lo hi:Edge)(w:World)(am:n≤16)(av:sb<w.heap.size)
  (N:∀t,ae w t→Calls Tryz.prog 48 #[.pointer (some ⟨sb,0,none⟩)] t fun e u=>e=.returned (.int .i64 n)∧t=u)
  (h0:0≤l) (al:l<n)
  (I:∀t,ae w t→Calls Tryz.prog 134 #[.pointer (some ⟨sb,0,none⟩),.int .u8 2,.agg #[.int .u8 lo.tag,.int .u32 lo.to],.int .i64 (l+1)] t fun e u=>e=.returned (.bool true)∧ae t u)
  (E:∀t,ae w t→Calls Tryz.prog 134 #[.pointer (some ⟨sb,0,none⟩),.int .u8 2,.agg #[.int .u8 hi.tag,.int .u32 hi.to],.int .i64 (l+1)] t fun e u=>e=.returned (.bool false)∧ae t u)
  : Calls Tryz.prog 122 #[.pointer (some ⟨sb,0,none⟩),.int .i64 l,.agg #[.int .u8 lo.tag,.int .u32 lo.to],.agg #[.int .u8 hi.tag,.int .u32 hi.to]] w fun e u=>e=.returned (.tuple #[.agg #[.int .u8 0,.int .u32 0],.int .u8 1])∧ae w u:=by
 have t:sb<w.heap.size+1:=by omega
 have t:sb<w.heap.size+1+1:=by omega
 have Z:=aa N
 clear N
 have Y:=aa I
 clear I
 have X:=aa E
 clear E
 go_enter Tryz.func122,Tryz.ntmps122
 go_wp2_with (first|(go_at_call 48;refine(Z.out _ kp).mono ?_;rintro e u ⟨rfl,rfl⟩)|fail)
 (go_at_call 134;refine(Y.out _ kp).mono ?_;rintro e w1 ⟨rfl,s⟩;have J:=s.size;simp only[ak]at J;have ad:w.heap.size<w1.heap.size:=(by omega);have ah:w.heap.size+1<w1.heap.size:=(by omega);have O:w.heap.size+2<w1.heap.size:=(by omega);have U:=s.I (a:=⟨w.heap.size,0,none⟩) (v:=.int .u8 lo.tag);have V:=s.I (a:=⟨w.heap.size,1,none⟩) (v:=.int .u32 lo.to);have Q:=s.I (a:=⟨w.heap.size+1,0,none⟩) (v:=.int .u8 hi.tag);have T:=s.I (a:=⟨w.heap.size+1,1,none⟩) (v:=.int .u32 hi.to);have z:=s.I (a:=⟨w.heap.size+2,0,none⟩) (v:=.int .u8 0);have D:=s.I (a:=⟨w.heap.size+2,1,none⟩) (v:=.int .u32 0);have W:=fun o:Nat=>s.frz (a:=⟨w.heap.size+2,o,none⟩) (by simp[go_sem]) (by simp[go_sem]);have ab:ae w w1:=kp)
 go_wp2_with fail
 (go_at_call 134;refine(X.out _ kp).mono ?_;rintro e w1 ⟨rfl,s⟩;have J:=s.size;have W:=fun o:Nat=>s.frz (a:=⟨w.heap.size+2,o,none⟩) (by dsimp only;omega) (W o);have U:=s.cell U;have V:=s.cell V;have Q:=s.cell Q;have T:=s.cell T;have z:=s.cell z;have D:=s.cell D;have ad:w.heap.size<w1.heap.size:=(by omega);have ah:w.heap.size+1<w1.heap.size:=(by omega);have O:w.heap.size+2<w1.heap.size:=(by omega);have ab:ae w w1:=kp)
 go_wp2_with fail
 all_goals refine an (v:=.tuple #[.agg #[.int .u8 0,.int .u32 0],.int .u8 1]) (by simp[results,Tryz.results122,go_sem,O,z,D]) rfl ⟨rfl,kp⟩
theorem AL (sb:Nat)(l n:Int)(lo:Edge)(z:Int)(w:World)(av:n≤16)(aw:sb<w.heap.size)
  (O:∀t,ae w t→Calls Tryz.prog 48 #[.pointer (some ⟨sb,0,none⟩)] t fun e u=>e=.returned (.int .i64 n)∧t=u)
  (h0:0≤l) (am:l<n)
  (J:∀t,ae w t→Calls Tryz.prog 134 #[.pointer (some ⟨sb,0,none⟩),.int .u8 2,.agg #[.int .u8 lo.tag,.int .u32 lo.to],.int .i64 (l+1)] t fun e u=>e=.returned (.bool true)∧ae t u)
  (I:∀t,ae w t→Calls Tryz.prog 134 #[.pointer (some ⟨sb,0,none⟩),.int .u8 2,.agg #[.int .u8 z,.int .u32 0],.int .i64 (l+1)] t fun e u=>e=.returned (.bool true)∧ae t u)
  : Calls Tryz.prog 122 #[.pointer (some ⟨sb,0,none⟩),.int .i64 l,.agg #[.int .u8 lo.tag,.int .u32 lo.to],.agg #[.int .u8 z,.int .u32 0]] w fun e u=>e=.returned (.tuple #[.agg #[.int .u8 lo.tag,.int .u32 lo.to],.int .u8 0])∧ae w u:=by
 have t:sb<w.heap.size+1:=by omega
 have t:sb<w.heap.size+1+1:=by omega
 have ab:=aa O
 clear O
 have Z:=aa J
 clear J
 have Y:=aa I
 clear I
 go_enter Tryz.func122,Tryz.ntmps122
 go_wp2_with (first|(go_at_call 48;refine(ab.out _ kp).mono ?_;rintro e u ⟨rfl,rfl⟩)|fail)
 (go_at_call 134;refine(Z.out _ kp).mono ?_;rintro e w1 ⟨rfl,s⟩;have N:=s.size;simp only[ak]at N;have ah:w.heap.size<w1.heap.size:=(by omega);have al:w.heap.size+1<w1.heap.size:=(by omega);have Q:w.heap.size+2<w1.heap.size:=(by omega);have V:=s.I (a:=⟨w.heap.size,0,none⟩) (v:=.int .u8 lo.tag);have W:=s.I (a:=⟨w.heap.size,1,none⟩) (v:=.int .u32 lo.to);have T:=s.I (a:=⟨w.heap.size+1,0,none⟩) (v:=.int .u8 z);have U:=s.I (a:=⟨w.heap.size+1,1,none⟩) (v:=.int .u32 0);have D:=s.I (a:=⟨w.heap.size+2,0,none⟩) (v:=.int .u8 0);have E:=s.I (a:=⟨w.heap.size+2,1,none⟩) (v:=.int .u32 0);have X:=fun o:Nat=>s.frz (a:=⟨w.heap.size+2,o,none⟩) (by simp[go_sem]) (by simp[go_sem]);have ad:ae w w1:=kp)
 go_wp2_with fail
 (go_at_call 134;refine(Y.out _ kp).mono ?_;rintro e w1 ⟨rfl,s⟩;have N:=s.size;have X:=fun o:Nat=>s.frz (a:=⟨w.heap.size+2,o,none⟩) (by dsimp only;omega) (X o);have V:=s.cell V;have W:=s.cell W;have T:=s.cell T;have U:=s.cell U;have D:=s.cell D;have E:=s.cell E;have ah:w.heap.size<w1.heap.size:=(by omega);have al:w.heap.size+1<w1.heap.size:=(by omega);have Q:w.heap.size+2<w1.heap.size:=(by omega);have ad:ae w w1:=kp)
 go_wp2_with fail
 all_goals refine an (v:=.tuple #[.agg #[.int .u8 lo.tag,.int .u32 lo.to],.int .u8 0]) (by simp[results,Tryz.results122,go_sem,Q,D,E]) rfl ⟨rfl,kp⟩
theorem AH {F:Nat→Prop}(R:World→World→Prop)(sb:Nat)(l n:Int)(lo hi:Edge)(a b I:Int)(w:World)(a8:n≤16)(a9:sb<w.heap.size)
  (Z:∀s,ae w s→Calls Tryz.prog 48 #[.pointer (some ⟨sb,0,none⟩)] s fun e u=>e=.returned (.int .i64 n)∧s=u)
  (h0:0≤l) (a7:l<n)
  (W:∀s,ae w s→Calls Tryz.prog 134 #[.pointer (some ⟨sb,0,none⟩),.int .u8 2,.agg #[.int .u8 lo.tag,.int .u32 lo.to],.int .i64 (l+1)] s fun e u=>e=.returned (.bool true)∧ae s u)
  (V:∀s,ae w s→Calls Tryz.prog 134 #[.pointer (some ⟨sb,0,none⟩),.int .u8 2,.agg #[.int .u8 hi.tag,.int .u32 hi.to],.int .i64 (l+1)] s fun e u=>e=.returned (.bool true)∧ae s u)
  (hs:¬hi.to=0)
  (X:∀k,F k→k<w.heap.size) (U:∀s,ae w s→Calls Tryz.prog 187 #[.pointer (some ⟨sb,0,none⟩),.agg #[.int .u8 2,.int .u8 l,.int .u8 l,.int .u8 lo.tag,.int .u32 lo.to,.int .u8 hi.tag,.int .u32 hi.to]] s fun e u=>e=.returned (.tuple #[.agg #[.int .u8 a,.int .u32 b],.int .u8 I])∧af F s u∧R s u)
  : Calls Tryz.prog 122 #[.pointer (some ⟨sb,0,none⟩),.int .i64 l,.agg #[.int .u8 lo.tag,.int .u32 lo.to],.agg #[.int .u8 hi.tag,.int .u32 hi.to]] w fun e u=>e=.returned (.tuple #[.agg #[.int .u8 a,.int .u32 b],.int .u8 I]) ∧ 
   ∃s E,ae w s∧af F s E∧R s E∧af (fun k=>w.heap.size≤k∧k<s.heap.size) E u:=by
 have s:sb<w.heap.size+1:=by omega
 have s:sb<w.heap.size+1+1:=by omega
 have ay:=aa Z
 clear Z
 have ax:=aa W
 clear W
 have aw:=aa V
 clear V
 have av:=aa U
 have s:∀k,w.heap.size≤k→¬F k:=fun k z h=>by have:=X k h;omega
 have N:=s (w.heap.size+2) (by omega)
 clear U X s
 have s:(hi.to==0)=false:=by simp[hs]
 go_enter Tryz.func122,Tryz.ntmps122
 go_wp2_with (first|(go_at_call 48;refine(ay.out _ kp).mono ?_;rintro e u ⟨rfl,rfl⟩)|fail)
 (go_at_call 134;refine(ax.out _ kp).mono ?_;rintro e w1 ⟨rfl,t⟩;have Y:=t.size;simp only[ak]at Y;have a3:w.heap.size<w1.heap.size:=(by omega);have a4:w.heap.size+1<w1.heap.size:=(by omega);have J:w.heap.size+2<w1.heap.size:=(by omega);have al:=t.I (a:=⟨w.heap.size,0,none⟩) (v:=.int .u8 lo.tag);have am:=t.I (a:=⟨w.heap.size,1,none⟩) (v:=.int .u32 lo.to);have ad:=t.I (a:=⟨w.heap.size+1,0,none⟩) (v:=.int .u8 hi.tag);have ah:=t.I (a:=⟨w.heap.size+1,1,none⟩) (v:=.int .u32 hi.to);have O:=t.I (a:=⟨w.heap.size+2,0,none⟩) (v:=.int .u8 0);have Q:=t.I (a:=⟨w.heap.size+2,1,none⟩) (v:=.int .u32 0);have T:=fun o:Nat=>t.frz (a:=⟨w.heap.size+2,o,none⟩) (by simp[go_sem]) (by simp[go_sem]);have z:ae w w1:=kp)
 go_wp2_with fail
 (go_at_call 134;refine(aw.out _ kp).mono ?_;rintro e w1 ⟨rfl,t⟩;have Y:=t.size;have T:=fun o:Nat=>t.frz (a:=⟨w.heap.size+2,o,none⟩) (by dsimp only;omega) (T o);have al:=t.cell al;have am:=t.cell am;have ad:=t.cell ad;have ah:=t.cell ah;have O:=t.cell O;have Q:=t.cell Q;have a3:w.heap.size<w1.heap.size:=(by omega);have a4:w.heap.size+1<w1.heap.size:=(by omega);have J:w.heap.size+2<w1.heap.size:=(by omega);have z:ae w w1:=kp)
 go_wp2_with fail
 all_goals go_wp2_with (first|(go_at_call 187;refine(av.out _ kp).mono ?_;rintro e ab ⟨rfl,D,a0⟩;have a1:=D.size;(try simp only[ak,aA,World.a6]at a1);have a5:=D.cell (a:=⟨w.heap.size+2,0,none⟩) N (v:=.int .u8 0) (by simp[go_sem,J,O]);have a6:=D.cell (a:=⟨w.heap.size+2,1,none⟩) N (v:=.int .u32 0) (by simp[go_sem,J,Q]);have s:=fun o:Nat=>D.frozen (a:=⟨w.heap.size+2,o,none⟩) (by(try simp only[ak,aA,World.a6]);omega) N (by(try simp only[bP,World.frozen?_drew,frozen?_alloc_cells]);exact T o);have a2:w.heap.size+2<ab.heap.size:=(by omega))|fail)
 all_goals refine an (v:=.tuple #[.agg #[.int .u8 a,.int .u32 b],.int .u8 I]) (by simp[results,Tryz.results122,go_sem,a2,a5,a6]) rfl ⟨rfl,_,ab,kp,D,a0,?_⟩
 all_goals(try simp only[ak,aA,World.a6])
 all_goals(repeat (first|with_reducible exact af.refl _ _|exact af.mono s (fun k _ z=>⟨z.1,by(try simp only[ak,aA,World.a6]);have:=z.2;omega⟩)|refine af.setCell ?_ (Or.inl (by dsimp only;omega)) _|refine af.setCell ?_ (Or.inr (by dsimp only;omega)) _|with_reducible refine af.drewN ?_ _|with_reducible refine af.drew ?_|with_reducible refine af.alloc ?_ _))
end Go.Proofs.YtafkamlhimkbmaaGreat
