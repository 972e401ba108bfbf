/-
  The walk of bdd.Make, case by case (printed by wip/mk_make2.py).
-/
import Derived.Test.YtafkamlhimkbmaaGreatPOrderB
import Derived.BigRegion
import Derived.IntWalk
namespace Go.Proofs.YtafkamlhimkbmaaGreat
set_option maxRecDepth 1000000
set_option maxHeartbeats 8000000
set_option linter.unusedSimpArgs false
set_option linter.unusedVariables false
open Go.RowKit

theorem sY (j:Nat)(l n:Int)(lo hi:Edge)(w:World)(E:n≤16)(I:j<w.heap.size)
  (t:∀s,aa w s→Calls Tryz.prog 48 #[.pointer (some ⟨j,0,none⟩)] s fun e q=>e=.returned (.int .i64 n)∧s=q)
  (A:l<0)
  : Calls Tryz.prog 121 #[.pointer (some ⟨j,0,none⟩),.int .i64 l,.agg #[.int .u8 lo.tag,.int .u32 lo.to],.agg #[.int .u8 hi.tag,.int .u32 hi.to]] w fun e q=>e=.returned (.tuple #[.agg #[.int .u8 0,.int .u32 0],.int .u8 3])∧aa w q:=by
 have s:j<w.heap.size+1:=by omega
 have s:j<w.heap.size+1+1:=by omega
 have z:=Lib.hid t
 clear t
 go_enter Tryz.func121,Tryz.ntmps121
 go_wp2_with (first|(go_at_call 48;refine(z.out _ (by(exact kp))).mono ?_;rintro e q ⟨rfl,rfl⟩)|fail)
 all_goals refine bodyPost_ret (v:=.tuple #[.agg #[.int .u8 0,.int .u32 0],.int .u8 3]) (by simp[results,Tryz.results121,go_sem]) rfl ⟨rfl,by(exact kp)⟩

theorem sU (j:Nat)(l n:Int)(lo hi:Edge)(w:World)(I:n≤16)(J:j<w.heap.size)
  (t:∀s,aa w s→Calls Tryz.prog 48 #[.pointer (some ⟨j,0,none⟩)] s fun e q=>e=.returned (.int .i64 n)∧s=q)
  (A:0≤l) (E:n≤l)
  : Calls Tryz.prog 121 #[.pointer (some ⟨j,0,none⟩),.int .i64 l,.agg #[.int .u8 lo.tag,.int .u32 lo.to],.agg #[.int .u8 hi.tag,.int .u32 hi.to]] w fun e q=>e=.returned (.tuple #[.agg #[.int .u8 0,.int .u32 0],.int .u8 3])∧aa w q:=by
 have s:j<w.heap.size+1:=by omega
 have s:j<w.heap.size+1+1:=by omega
 have z:=Lib.hid t
 clear t
 go_enter Tryz.func121,Tryz.ntmps121
 go_wp2_with (first|(go_at_call 48;refine(z.out _ (by(exact kp))).mono ?_;rintro e q ⟨rfl,rfl⟩)|fail)
 all_goals refine bodyPost_ret (v:=.tuple #[.agg #[.int .u8 0,.int .u32 0],.int .u8 3]) (by simp[results,Tryz.results121,go_sem]) rfl ⟨rfl,by(exact kp)⟩

theorem sX (s:Nat)(l n:Int)(lo hi:Edge)(w:World)(T:n≤16)(U:s<w.heap.size)
  (A:∀q,aa w q→Calls Tryz.prog 48 #[.pointer (some ⟨s,0,none⟩)] q fun e t=>e=.returned (.int .i64 n)∧q=t)
  (O:0≤l) (S:l<n)
  (z:∀q,aa w q→Calls Tryz.prog 134 #[.pointer (some ⟨s,0,none⟩),.int .u8 1,.agg #[.int .u8 lo.tag,.int .u32 lo.to],.int .i64 (l+1)] q fun e t=>e=.returned (.bool false)∧aa q t)
  : Calls Tryz.prog 121 #[.pointer (some ⟨s,0,none⟩),.int .i64 l,.agg #[.int .u8 lo.tag,.int .u32 lo.to],.agg #[.int .u8 hi.tag,.int .u32 hi.to]] w fun e t=>e=.returned (.tuple #[.agg #[.int .u8 0,.int .u32 0],.int .u8 1])∧aa w t:=by
 have q:s<w.heap.size+1:=by omega
 have q:s<w.heap.size+1+1:=by omega
 have I:=Lib.hid A
 clear A
 have E:=Lib.hid z
 clear z
 go_enter Tryz.func121,Tryz.ntmps121
 go_wp2_with (first|(go_at_call 48;refine(I.out _ (by(exact kp))).mono ?_;rintro e t ⟨rfl,rfl⟩)|fail)
 (go_at_call 134;refine(E.out _ (by(exact kp))).mono ?_;rintro e w1 ⟨rfl,j⟩;have J:=j.size;simp only[World.size_alloc]at J;have q:w.heap.size<w1.heap.size:=(by omega);have q:w.heap.size+1<w1.heap.size:=(by omega);have K:w.heap.size+2<w1.heap.size:=(by omega);have q:=j.cell (a:=⟨w.heap.size,0,none⟩) (v:=.int .u8 lo.tag) (by simp[go_sem]);have q:=j.cell (a:=⟨w.heap.size,1,none⟩) (v:=.int .u32 lo.to) (by simp[go_sem]);have q:=j.cell (a:=⟨w.heap.size+1,0,none⟩) (v:=.int .u8 hi.tag) (by simp[go_sem]);have q:=j.cell (a:=⟨w.heap.size+1,1,none⟩) (v:=.int .u32 hi.to) (by simp[go_sem]);have L:=j.cell (a:=⟨w.heap.size+2,0,none⟩) (v:=.int .u8 0) (by simp[go_sem]);have N:=j.cell (a:=⟨w.heap.size+2,1,none⟩) (v:=.int .u32 0) (by simp[go_sem]);have q:=fun o:Nat=>j.a2 (a:=⟨w.heap.size+2,o,none⟩) (by simp[go_sem]) (by simp[go_sem]);have j:aa w w1:=(by(exact kp)))
 go_wp2_with fail
 all_goals refine bodyPost_ret (v:=.tuple #[.agg #[.int .u8 0,.int .u32 0],.int .u8 1]) (by simp[results,Tryz.results121,go_sem,K,L,N]) rfl ⟨rfl,by(exact kp)⟩

theorem sW (t:Nat)(l n:Int)(lo hi:Edge)(w:World)(aw:n≤16)(a1:t<w.heap.size)
  (K:∀q,aa w q→Calls Tryz.prog 48 #[.pointer (some ⟨t,0,none⟩)] q fun e s=>e=.returned (.int .i64 n)∧q=s)
  (am:0≤l) (av:l<n)
  (I:∀q,aa w q→Calls Tryz.prog 134 #[.pointer (some ⟨t,0,none⟩),.int .u8 1,.agg #[.int .u8 lo.tag,.int .u32 lo.to],.int .i64 (l+1)] q fun e s=>e=.returned (.bool true)∧aa q s)
  (E:∀q,aa w q→Calls Tryz.prog 134 #[.pointer (some ⟨t,0,none⟩),.int .u8 1,.agg #[.int .u8 hi.tag,.int .u32 hi.to],.int .i64 (l+1)] q fun e s=>e=.returned (.bool false)∧aa q s)
  : Calls Tryz.prog 121 #[.pointer (some ⟨t,0,none⟩),.int .i64 l,.agg #[.int .u8 lo.tag,.int .u32 lo.to],.agg #[.int .u8 hi.tag,.int .u32 hi.to]] w fun e s=>e=.returned (.tuple #[.agg #[.int .u8 0,.int .u32 0],.int .u8 1])∧aa w s:=by
 have q:t<w.heap.size+1:=by omega
 have q:t<w.heap.size+1+1:=by omega
 have Y:=Lib.hid K
 clear K
 have X:=Lib.hid I
 clear I
 have W:=Lib.hid E
 clear E
 go_enter Tryz.func121,Tryz.ntmps121
 go_wp2_with (first|(go_at_call 48;refine(Y.out _ (by(exact kp))).mono ?_;rintro e s ⟨rfl,rfl⟩)|fail)
 (go_at_call 134;refine(X.out _ (by(exact kp))).mono ?_;rintro e w1 ⟨rfl,j⟩;have J:=j.size;simp only[World.size_alloc]at J;have ab:w.heap.size<w1.heap.size:=(by omega);have ad:w.heap.size+1<w1.heap.size:=(by omega);have L:w.heap.size+2<w1.heap.size:=(by omega);have S:=j.cell (a:=⟨w.heap.size,0,none⟩) (v:=.int .u8 lo.tag) (by simp[go_sem]);have T:=j.cell (a:=⟨w.heap.size,1,none⟩) (v:=.int .u32 lo.to) (by simp[go_sem]);have N:=j.cell (a:=⟨w.heap.size+1,0,none⟩) (v:=.int .u8 hi.tag) (by simp[go_sem]);have O:=j.cell (a:=⟨w.heap.size+1,1,none⟩) (v:=.int .u32 hi.to) (by simp[go_sem]);have z:=j.cell (a:=⟨w.heap.size+2,0,none⟩) (v:=.int .u8 0) (by simp[go_sem]);have A:=j.cell (a:=⟨w.heap.size+2,1,none⟩) (v:=.int .u32 0) (by simp[go_sem]);have U:=fun o:Nat=>j.a2 (a:=⟨w.heap.size+2,o,none⟩) (by simp[go_sem]) (by simp[go_sem]);have Z:aa w w1:=(by(exact kp)))
 go_wp2_with fail
 (go_at_call 134;refine(W.out _ (by(exact kp))).mono ?_;rintro e w1 ⟨rfl,j⟩;have J:=j.size;have U:=fun o:Nat=>j.a2 (a:=⟨w.heap.size+2,o,none⟩) (by dsimp only;omega) (U o);have S:=j.cell S;have T:=j.cell T;have N:=j.cell N;have O:=j.cell O;have z:=j.cell z;have A:=j.cell A;have ab:w.heap.size<w1.heap.size:=(by omega);have ad:w.heap.size+1<w1.heap.size:=(by omega);have L:w.heap.size+2<w1.heap.size:=(by omega);have Z:aa w w1:=(by(exact kp)))
 go_wp2_with fail
 all_goals refine bodyPost_ret (v:=.tuple #[.agg #[.int .u8 0,.int .u32 0],.int .u8 1]) (by simp[results,Tryz.results121,go_sem,L,z,A]) rfl ⟨rfl,by(exact kp)⟩

theorem sZ (t:Nat)(l n:Int)(lo hi:Edge)(w:World)(a1:n≤16)(a2:t<w.heap.size)
  (L:∀q,aa w q→Calls Tryz.prog 48 #[.pointer (some ⟨t,0,none⟩)] q fun e s=>e=.returned (.int .i64 n)∧q=s)
  (av:0≤l) (aw:l<n)
  (J:∀q,aa w q→Calls Tryz.prog 134 #[.pointer (some ⟨t,0,none⟩),.int .u8 1,.agg #[.int .u8 lo.tag,.int .u32 lo.to],.int .i64 (l+1)] q fun e s=>e=.returned (.bool true)∧aa q s)
  (I:∀q,aa w q→Calls Tryz.prog 134 #[.pointer (some ⟨t,0,none⟩),.int .u8 1,.agg #[.int .u8 hi.tag,.int .u32 hi.to],.int .i64 (l+1)] q fun e s=>e=.returned (.bool true)∧aa q s)
  (z:lo=hi)
  : Calls Tryz.prog 121 #[.pointer (some ⟨t,0,none⟩),.int .i64 l,.agg #[.int .u8 lo.tag,.int .u32 lo.to],.agg #[.int .u8 hi.tag,.int .u32 hi.to]] w fun e s=>e=.returned (.tuple #[.agg #[.int .u8 lo.tag,.int .u32 lo.to],.int .u8 0])∧aa w s:=by
 have q:t<w.heap.size+1:=by omega
 have q:t<w.heap.size+1+1:=by omega
 have Z:=Lib.hid L
 clear L
 have Y:=Lib.hid J
 clear J
 have X:=Lib.hid I
 clear I
 have q:=gI lo hi z
 have q:=Lib.hid z
 clear z
 go_enter Tryz.func121,Tryz.ntmps121
 go_wp2_with (first|(go_at_call 48;refine(Z.out _ (by(exact kp))).mono ?_;rintro e s ⟨rfl,rfl⟩)|fail)
 (go_at_call 134;refine(Y.out _ (by(exact kp))).mono ?_;rintro e w1 ⟨rfl,j⟩;have K:=j.size;simp only[World.size_alloc]at K;have ad:w.heap.size<w1.heap.size:=(by omega);have am:w.heap.size+1<w1.heap.size:=(by omega);have N:w.heap.size+2<w1.heap.size:=(by omega);have T:=j.cell (a:=⟨w.heap.size,0,none⟩) (v:=.int .u8 lo.tag) (by simp[go_sem]);have U:=j.cell (a:=⟨w.heap.size,1,none⟩) (v:=.int .u32 lo.to) (by simp[go_sem]);have O:=j.cell (a:=⟨w.heap.size+1,0,none⟩) (v:=.int .u8 hi.tag) (by simp[go_sem]);have S:=j.cell (a:=⟨w.heap.size+1,1,none⟩) (v:=.int .u32 hi.to) (by simp[go_sem]);have A:=j.cell (a:=⟨w.heap.size+2,0,none⟩) (v:=.int .u8 0) (by simp[go_sem]);have E:=j.cell (a:=⟨w.heap.size+2,1,none⟩) (v:=.int .u32 0) (by simp[go_sem]);have W:=fun o:Nat=>j.a2 (a:=⟨w.heap.size+2,o,none⟩) (by simp[go_sem]) (by simp[go_sem]);have ab:aa w w1:=(by(exact kp)))
 go_wp2_with fail
 (go_at_call 134;refine(X.out _ (by(exact kp))).mono ?_;rintro e w1 ⟨rfl,j⟩;have K:=j.size;have W:=fun o:Nat=>j.a2 (a:=⟨w.heap.size+2,o,none⟩) (by dsimp only;omega) (W o);have T:=j.cell T;have U:=j.cell U;have O:=j.cell O;have S:=j.cell S;have A:=j.cell A;have E:=j.cell E;have ad:w.heap.size<w1.heap.size:=(by omega);have am:w.heap.size+1<w1.heap.size:=(by omega);have N:w.heap.size+2<w1.heap.size:=(by omega);have ab:aa w w1:=(by(exact kp)))
 go_wp2_with fail
 all_goals refine bodyPost_ret (v:=.tuple #[.agg #[.int .u8 lo.tag,.int .u32 lo.to],.int .u8 0]) (by simp[results,Tryz.results121,go_sem,N,A,E]) rfl ⟨rfl,by(exact kp)⟩

theorem sV {F:Nat→Prop}(R:World→World→Prop)(t:Nat)(l n:Int)(lo hi:Edge)(a b I:Int)(w:World)(bn:n≤16)(bp:t<w.heap.size)
  (Z:∀j,aa w j→Calls Tryz.prog 48 #[.pointer (some ⟨t,0,none⟩)] j fun e s=>e=.returned (.int .i64 n)∧j=s)
  (bg:0≤l) (bi:l<n)
  (W:∀j,aa w j→Calls Tryz.prog 134 #[.pointer (some ⟨t,0,none⟩),.int .u8 1,.agg #[.int .u8 lo.tag,.int .u32 lo.to],.int .i64 (l+1)] j fun e s=>e=.returned (.bool true)∧aa j s)
  (U:∀j,aa w j→Calls Tryz.prog 134 #[.pointer (some ⟨t,0,none⟩),.int .u8 1,.agg #[.int .u8 hi.tag,.int .u32 hi.to],.int .i64 (l+1)] j fun e s=>e=.returned (.bool true)∧aa j s)
  (J:¬lo=hi)
  (X:∀k,F k→k<w.heap.size) (T:∀j,aa w j→Calls Tryz.prog 186 #[.pointer (some ⟨t,0,none⟩),.agg #[.int .u8 1,.int .u8 l,.int .u8 l,.int .u8 lo.tag,.int .u32 lo.to,.int .u8 hi.tag,.int .u32 hi.to]] j fun e s=>e=.returned (.tuple #[.agg #[.int .u8 a,.int .u32 b],.int .u8 I])∧ae F j s∧R j s)
  : Calls Tryz.prog 121 #[.pointer (some ⟨t,0,none⟩),.int .i64 l,.agg #[.int .u8 lo.tag,.int .u32 lo.to],.agg #[.int .u8 hi.tag,.int .u32 hi.to]] w fun e s=>e=.returned (.tuple #[.agg #[.int .u8 a,.int .u32 b],.int .u8 I]) ∧ 
   ∃j E,aa w j∧ae F j E∧R j E∧ae (fun k=>w.heap.size≤k∧k<j.heap.size) E s:=by
 have j:t<w.heap.size+1:=by omega
 have j:t<w.heap.size+1+1:=by omega
 have a4:=Lib.hid Z
 clear Z
 have a3:=Lib.hid W
 clear W
 have a2:=Lib.hid U
 clear U
 have a1:=Lib.hid T
 have j:∀k,w.heap.size≤k→¬F k:=fun k z h=>by have:=X k h;omega
 have L:=j (w.heap.size+2) (by omega)
 clear T X j
 have j:=fJ lo hi J
 have j:=Lib.hid J
 clear J
 go_enter Tryz.func121,Tryz.ntmps121
 go_wp2_with (first|(go_at_call 48;refine(a4.out _ (by(exact kp))).mono ?_;rintro e s ⟨rfl,rfl⟩)|fail)
 (go_at_call 134;refine(a3.out _ (by(exact kp))).mono ?_;rintro e w1 ⟨rfl,q⟩;have Y:=q.size;simp only[World.size_alloc]at Y;have a8:w.heap.size<w1.heap.size:=(by omega);have a':w.heap.size+1<w1.heap.size:=(by omega);have K:w.heap.size+2<w1.heap.size:=(by omega);have av:=q.cell (a:=⟨w.heap.size,0,none⟩) (v:=.int .u8 lo.tag) (by simp[go_sem]);have aw:=q.cell (a:=⟨w.heap.size,1,none⟩) (v:=.int .u32 lo.to) (by simp[go_sem]);have ad:=q.cell (a:=⟨w.heap.size+1,0,none⟩) (v:=.int .u8 hi.tag) (by simp[go_sem]);have am:=q.cell (a:=⟨w.heap.size+1,1,none⟩) (v:=.int .u32 hi.to) (by simp[go_sem]);have N:=q.cell (a:=⟨w.heap.size+2,0,none⟩) (v:=.int .u8 0) (by simp[go_sem]);have O:=q.cell (a:=⟨w.heap.size+2,1,none⟩) (v:=.int .u32 0) (by simp[go_sem]);have S:=fun o:Nat=>q.a2 (a:=⟨w.heap.size+2,o,none⟩) (by simp[go_sem]) (by simp[go_sem]);have z:aa w w1:=(by(exact kp)))
 go_wp2_with fail
 (go_at_call 134;refine(a2.out _ (by(exact kp))).mono ?_;rintro e w1 ⟨rfl,q⟩;have Y:=q.size;have S:=fun o:Nat=>q.a2 (a:=⟨w.heap.size+2,o,none⟩) (by dsimp only;omega) (S o);have av:=q.cell av;have aw:=q.cell aw;have ad:=q.cell ad;have am:=q.cell am;have N:=q.cell N;have O:=q.cell O;have a8:w.heap.size<w1.heap.size:=(by omega);have a':w.heap.size+1<w1.heap.size:=(by omega);have K:w.heap.size+2<w1.heap.size:=(by omega);have z:aa w w1:=(by(exact kp)))
 go_wp2_with fail
 all_goals go_wp2_with (first|(go_at_call 186;refine(a1.out _ (by(exact kp))).mono ?_;rintro e ab ⟨rfl,A,a5⟩;have a6:=A.size;(try simp only[World.size_alloc,World.size_setCell,World.a3]at a6);have bb:=A.cell (a:=⟨w.heap.size+2,0,none⟩) L (v:=.int .u8 0) (by simp[go_sem,K,N]);have be:=A.cell (a:=⟨w.heap.size+2,1,none⟩) L (v:=.int .u32 0) (by simp[go_sem,K,O]);have j:=fun o:Nat=>A.frozen (a:=⟨w.heap.size+2,o,none⟩) (by(try simp only[World.size_alloc,World.size_setCell,World.a3]);omega) L (by(try simp only[World.frozen?_setCell,World.frozen?_drew,frozen?_alloc_cells]);exact S o);have a7:w.heap.size+2<ab.heap.size:=(by omega))|fail)
 all_goals refine bodyPost_ret (v:=.tuple #[.agg #[.int .u8 a,.int .u32 b],.int .u8 I]) (by simp[results,Tryz.results121,go_sem,a7,bb,be]) rfl ⟨rfl,_,ab,by(exact kp),A,a5,?_⟩
 all_goals(try simp only[World.size_alloc,World.size_setCell,World.a3])
 all_goals(repeat (first|with_reducible exact ae.refl _ _|exact ae.mono j (fun k _ z=>⟨z.1,by(try simp only[World.size_alloc,World.size_setCell,World.a3]);have:=z.2;omega⟩)|refine ae.setCell ?_ (Or.inl (by dsimp only;omega)) _|refine ae.setCell ?_ (Or.inr (by dsimp only;omega)) _|with_reducible refine ae.drewN ?_ _|with_reducible refine ae.drew ?_|with_reducible refine ae.alloc ?_ _))

theorem CC (j:Nat)(l n:Int)(lo hi:Edge)(w:World)(E:n≤16)(I:j<w.heap.size)
  (t:∀s,aa w s→Calls Tryz.prog 48 #[.pointer (some ⟨j,0,none⟩)] s fun e q=>e=.returned (.int .i64 n)∧s=q)
  (A:l<0)
  : Calls Tryz.prog 122 #[.pointer (some ⟨j,0,none⟩),.int .i64 l,.agg #[.int .u8 lo.tag,.int .u32 lo.to],.agg #[.int .u8 hi.tag,.int .u32 hi.to]] w fun e q=>e=.returned (.tuple #[.agg #[.int .u8 0,.int .u32 0],.int .u8 3])∧aa w q:=by
 have s:j<w.heap.size+1:=by omega
 have s:j<w.heap.size+1+1:=by omega
 have z:=Lib.hid t
 clear t
 go_enter Tryz.func122,Tryz.ntmps122
 go_wp2_with (first|(go_at_call 48;refine(z.out _ (by(exact kp))).mono ?_;rintro e q ⟨rfl,rfl⟩)|fail)
 all_goals refine bodyPost_ret (v:=.tuple #[.agg #[.int .u8 0,.int .u32 0],.int .u8 3]) (by simp[results,Tryz.results122,go_sem]) rfl ⟨rfl,by(exact kp)⟩

theorem Cy (j:Nat)(l n:Int)(lo hi:Edge)(w:World)(I:n≤16)(J:j<w.heap.size)
  (t:∀s,aa w s→Calls Tryz.prog 48 #[.pointer (some ⟨j,0,none⟩)] s fun e q=>e=.returned (.int .i64 n)∧s=q)
  (A:0≤l) (E:n≤l)
  : Calls Tryz.prog 122 #[.pointer (some ⟨j,0,none⟩),.int .i64 l,.agg #[.int .u8 lo.tag,.int .u32 lo.to],.agg #[.int .u8 hi.tag,.int .u32 hi.to]] w fun e q=>e=.returned (.tuple #[.agg #[.int .u8 0,.int .u32 0],.int .u8 3])∧aa w q:=by
 have s:j<w.heap.size+1:=by omega
 have s:j<w.heap.size+1+1:=by omega
 have z:=Lib.hid t
 clear t
 go_enter Tryz.func122,Tryz.ntmps122
 go_wp2_with (first|(go_at_call 48;refine(z.out _ (by(exact kp))).mono ?_;rintro e q ⟨rfl,rfl⟩)|fail)
 all_goals refine bodyPost_ret (v:=.tuple #[.agg #[.int .u8 0,.int .u32 0],.int .u8 3]) (by simp[results,Tryz.results122,go_sem]) rfl ⟨rfl,by(exact kp)⟩

theorem CB (s:Nat)(l n:Int)(lo hi:Edge)(w:World)(T:n≤16)(U:s<w.heap.size)
  (A:∀q,aa w q→Calls Tryz.prog 48 #[.pointer (some ⟨s,0,none⟩)] q fun e t=>e=.returned (.int .i64 n)∧q=t)
  (O:0≤l) (S:l<n)
  (z:∀q,aa w q→Calls Tryz.prog 134 #[.pointer (some ⟨s,0,none⟩),.int .u8 2,.agg #[.int .u8 lo.tag,.int .u32 lo.to],.int .i64 (l+1)] q fun e t=>e=.returned (.bool false)∧aa q t)
  : Calls Tryz.prog 122 #[.pointer (some ⟨s,0,none⟩),.int .i64 l,.agg #[.int .u8 lo.tag,.int .u32 lo.to],.agg #[.int .u8 hi.tag,.int .u32 hi.to]] w fun e t=>e=.returned (.tuple #[.agg #[.int .u8 0,.int .u32 0],.int .u8 1])∧aa w t:=by
 have q:s<w.heap.size+1:=by omega
 have q:s<w.heap.size+1+1:=by omega
 have I:=Lib.hid A
 clear A
 have E:=Lib.hid z
 clear z
 go_enter Tryz.func122,Tryz.ntmps122
 go_wp2_with (first|(go_at_call 48;refine(I.out _ (by(exact kp))).mono ?_;rintro e t ⟨rfl,rfl⟩)|fail)
 (go_at_call 134;refine(E.out _ (by(exact kp))).mono ?_;rintro e w1 ⟨rfl,j⟩;have J:=j.size;simp only[World.size_alloc]at J;have q:w.heap.size<w1.heap.size:=(by omega);have q:w.heap.size+1<w1.heap.size:=(by omega);have K:w.heap.size+2<w1.heap.size:=(by omega);have q:=j.cell (a:=⟨w.heap.size,0,none⟩) (v:=.int .u8 lo.tag) (by simp[go_sem]);have q:=j.cell (a:=⟨w.heap.size,1,none⟩) (v:=.int .u32 lo.to) (by simp[go_sem]);have q:=j.cell (a:=⟨w.heap.size+1,0,none⟩) (v:=.int .u8 hi.tag) (by simp[go_sem]);have q:=j.cell (a:=⟨w.heap.size+1,1,none⟩) (v:=.int .u32 hi.to) (by simp[go_sem]);have L:=j.cell (a:=⟨w.heap.size+2,0,none⟩) (v:=.int .u8 0) (by simp[go_sem]);have N:=j.cell (a:=⟨w.heap.size+2,1,none⟩) (v:=.int .u32 0) (by simp[go_sem]);have q:=fun o:Nat=>j.a2 (a:=⟨w.heap.size+2,o,none⟩) (by simp[go_sem]) (by simp[go_sem]);have j:aa w w1:=(by(exact kp)))
 go_wp2_with fail
 all_goals refine bodyPost_ret (v:=.tuple #[.agg #[.int .u8 0,.int .u32 0],.int .u8 1]) (by simp[results,Tryz.results122,go_sem,K,L,N]) rfl ⟨rfl,by(exact kp)⟩

theorem CA (t:Nat)(l n:Int)(lo hi:Edge)(w:World)(aw:n≤16)(a1:t<w.heap.size)
  (K:∀q,aa w q→Calls Tryz.prog 48 #[.pointer (some ⟨t,0,none⟩)] q fun e s=>e=.returned (.int .i64 n)∧q=s)
  (am:0≤l) (av:l<n)
  (I:∀q,aa w q→Calls Tryz.prog 134 #[.pointer (some ⟨t,0,none⟩),.int .u8 2,.agg #[.int .u8 lo.tag,.int .u32 lo.to],.int .i64 (l+1)] q fun e s=>e=.returned (.bool true)∧aa q s)
  (E:∀q,aa w q→Calls Tryz.prog 134 #[.pointer (some ⟨t,0,none⟩),.int .u8 2,.agg #[.int .u8 hi.tag,.int .u32 hi.to],.int .i64 (l+1)] q fun e s=>e=.returned (.bool false)∧aa q s)
  : Calls Tryz.prog 122 #[.pointer (some ⟨t,0,none⟩),.int .i64 l,.agg #[.int .u8 lo.tag,.int .u32 lo.to],.agg #[.int .u8 hi.tag,.int .u32 hi.to]] w fun e s=>e=.returned (.tuple #[.agg #[.int .u8 0,.int .u32 0],.int .u8 1])∧aa w s:=by
 have q:t<w.heap.size+1:=by omega
 have q:t<w.heap.size+1+1:=by omega
 have Y:=Lib.hid K
 clear K
 have X:=Lib.hid I
 clear I
 have W:=Lib.hid E
 clear E
 go_enter Tryz.func122,Tryz.ntmps122
 go_wp2_with (first|(go_at_call 48;refine(Y.out _ (by(exact kp))).mono ?_;rintro e s ⟨rfl,rfl⟩)|fail)
 (go_at_call 134;refine(X.out _ (by(exact kp))).mono ?_;rintro e w1 ⟨rfl,j⟩;have J:=j.size;simp only[World.size_alloc]at J;have ab:w.heap.size<w1.heap.size:=(by omega);have ad:w.heap.size+1<w1.heap.size:=(by omega);have L:w.heap.size+2<w1.heap.size:=(by omega);have S:=j.cell (a:=⟨w.heap.size,0,none⟩) (v:=.int .u8 lo.tag) (by simp[go_sem]);have T:=j.cell (a:=⟨w.heap.size,1,none⟩) (v:=.int .u32 lo.to) (by simp[go_sem]);have N:=j.cell (a:=⟨w.heap.size+1,0,none⟩) (v:=.int .u8 hi.tag) (by simp[go_sem]);have O:=j.cell (a:=⟨w.heap.size+1,1,none⟩) (v:=.int .u32 hi.to) (by simp[go_sem]);have z:=j.cell (a:=⟨w.heap.size+2,0,none⟩) (v:=.int .u8 0) (by simp[go_sem]);have A:=j.cell (a:=⟨w.heap.size+2,1,none⟩) (v:=.int .u32 0) (by simp[go_sem]);have U:=fun o:Nat=>j.a2 (a:=⟨w.heap.size+2,o,none⟩) (by simp[go_sem]) (by simp[go_sem]);have Z:aa w w1:=(by(exact kp)))
 go_wp2_with fail
 (go_at_call 134;refine(W.out _ (by(exact kp))).mono ?_;rintro e w1 ⟨rfl,j⟩;have J:=j.size;have U:=fun o:Nat=>j.a2 (a:=⟨w.heap.size+2,o,none⟩) (by dsimp only;omega) (U o);have S:=j.cell S;have T:=j.cell T;have N:=j.cell N;have O:=j.cell O;have z:=j.cell z;have A:=j.cell A;have ab:w.heap.size<w1.heap.size:=(by omega);have ad:w.heap.size+1<w1.heap.size:=(by omega);have L:w.heap.size+2<w1.heap.size:=(by omega);have Z:aa w w1:=(by(exact kp)))
 go_wp2_with fail
 all_goals refine bodyPost_ret (v:=.tuple #[.agg #[.int .u8 0,.int .u32 0],.int .u8 1]) (by simp[results,Tryz.results122,go_sem,L,z,A]) rfl ⟨rfl,by(exact kp)⟩

theorem CD (t:Nat)(l n:Int)(lo:Edge)(z:Int)(w:World)(a1:n≤16)(a2:t<w.heap.size)
  (L:∀q,aa w q→Calls Tryz.prog 48 #[.pointer (some ⟨t,0,none⟩)] q fun e s=>e=.returned (.int .i64 n)∧q=s)
  (av:0≤l) (aw:l<n)
  (J:∀q,aa w q→Calls Tryz.prog 134 #[.pointer (some ⟨t,0,none⟩),.int .u8 2,.agg #[.int .u8 lo.tag,.int .u32 lo.to],.int .i64 (l+1)] q fun e s=>e=.returned (.bool true)∧aa q s)
  (I:∀q,aa w q→Calls Tryz.prog 134 #[.pointer (some ⟨t,0,none⟩),.int .u8 2,.agg #[.int .u8 z,.int .u32 0],.int .i64 (l+1)] q fun e s=>e=.returned (.bool true)∧aa q s)
  : Calls Tryz.prog 122 #[.pointer (some ⟨t,0,none⟩),.int .i64 l,.agg #[.int .u8 lo.tag,.int .u32 lo.to],.agg #[.int .u8 z,.int .u32 0]] w fun e s=>e=.returned (.tuple #[.agg #[.int .u8 lo.tag,.int .u32 lo.to],.int .u8 0])∧aa w s:=by
 have q:t<w.heap.size+1:=by omega
 have q:t<w.heap.size+1+1:=by omega
 have Z:=Lib.hid L
 clear L
 have Y:=Lib.hid J
 clear J
 have X:=Lib.hid I
 clear I
 go_enter Tryz.func122,Tryz.ntmps122
 go_wp2_with (first|(go_at_call 48;refine(Z.out _ (by(exact kp))).mono ?_;rintro e s ⟨rfl,rfl⟩)|fail)
 (go_at_call 134;refine(Y.out _ (by(exact kp))).mono ?_;rintro e w1 ⟨rfl,j⟩;have K:=j.size;simp only[World.size_alloc]at K;have ad:w.heap.size<w1.heap.size:=(by omega);have am:w.heap.size+1<w1.heap.size:=(by omega);have N:w.heap.size+2<w1.heap.size:=(by omega);have T:=j.cell (a:=⟨w.heap.size,0,none⟩) (v:=.int .u8 lo.tag) (by simp[go_sem]);have U:=j.cell (a:=⟨w.heap.size,1,none⟩) (v:=.int .u32 lo.to) (by simp[go_sem]);have O:=j.cell (a:=⟨w.heap.size+1,0,none⟩) (v:=.int .u8 z) (by simp[go_sem]);have S:=j.cell (a:=⟨w.heap.size+1,1,none⟩) (v:=.int .u32 0) (by simp[go_sem]);have A:=j.cell (a:=⟨w.heap.size+2,0,none⟩) (v:=.int .u8 0) (by simp[go_sem]);have E:=j.cell (a:=⟨w.heap.size+2,1,none⟩) (v:=.int .u32 0) (by simp[go_sem]);have W:=fun o:Nat=>j.a2 (a:=⟨w.heap.size+2,o,none⟩) (by simp[go_sem]) (by simp[go_sem]);have ab:aa w w1:=(by(exact kp)))
 go_wp2_with fail
 (go_at_call 134;refine(X.out _ (by(exact kp))).mono ?_;rintro e w1 ⟨rfl,j⟩;have K:=j.size;have W:=fun o:Nat=>j.a2 (a:=⟨w.heap.size+2,o,none⟩) (by dsimp only;omega) (W o);have T:=j.cell T;have U:=j.cell U;have O:=j.cell O;have S:=j.cell S;have A:=j.cell A;have E:=j.cell E;have ad:w.heap.size<w1.heap.size:=(by omega);have am:w.heap.size+1<w1.heap.size:=(by omega);have N:w.heap.size+2<w1.heap.size:=(by omega);have ab:aa w w1:=(by(exact kp)))
 go_wp2_with fail
 all_goals refine bodyPost_ret (v:=.tuple #[.agg #[.int .u8 lo.tag,.int .u32 lo.to],.int .u8 0]) (by simp[results,Tryz.results122,go_sem,N,A,E]) rfl ⟨rfl,by(exact kp)⟩

theorem Cz {F:Nat→Prop}(R:World→World→Prop)(t:Nat)(l n:Int)(lo hi:Edge)(a b I:Int)(w:World)(bn:n≤16)(bp:t<w.heap.size)
  (Y:∀j,aa w j→Calls Tryz.prog 48 #[.pointer (some ⟨t,0,none⟩)] j fun e s=>e=.returned (.int .i64 n)∧j=s)
  (bg:0≤l) (bi:l<n)
  (U:∀j,aa w j→Calls Tryz.prog 134 #[.pointer (some ⟨t,0,none⟩),.int .u8 2,.agg #[.int .u8 lo.tag,.int .u32 lo.to],.int .i64 (l+1)] j fun e s=>e=.returned (.bool true)∧aa j s)
  (T:∀j,aa w j→Calls Tryz.prog 134 #[.pointer (some ⟨t,0,none⟩),.int .u8 2,.agg #[.int .u8 hi.tag,.int .u32 hi.to],.int .i64 (l+1)] j fun e s=>e=.returned (.bool true)∧aa j s)
  (a5:¬hi.to=0)
  (W:∀k,F k→k<w.heap.size) (S:∀j,aa w j→Calls Tryz.prog 187 #[.pointer (some ⟨t,0,none⟩),.agg #[.int .u8 2,.int .u8 l,.int .u8 l,.int .u8 lo.tag,.int .u32 lo.to,.int .u8 hi.tag,.int .u32 hi.to]] j fun e s=>e=.returned (.tuple #[.agg #[.int .u8 a,.int .u32 b],.int .u8 I])∧ae F j s∧R j s)
  : Calls Tryz.prog 122 #[.pointer (some ⟨t,0,none⟩),.int .i64 l,.agg #[.int .u8 lo.tag,.int .u32 lo.to],.agg #[.int .u8 hi.tag,.int .u32 hi.to]] w fun e s=>e=.returned (.tuple #[.agg #[.int .u8 a,.int .u32 b],.int .u8 I]) ∧ 
   ∃j E,aa w j∧ae F j E∧R j E∧ae (fun k=>w.heap.size≤k∧k<j.heap.size) E s:=by
 have j:t<w.heap.size+1:=by omega
 have j:t<w.heap.size+1+1:=by omega
 have a3:=Lib.hid Y
 clear Y
 have a2:=Lib.hid U
 clear U
 have a1:=Lib.hid T
 clear T
 have aw:=Lib.hid S
 have j:∀k,w.heap.size≤k→¬F k:=fun k z h=>by have:=W k h;omega
 have K:=j (w.heap.size+2) (by omega)
 clear S W j
 have j:(hi.to==0)=false:=by simp[a5]
 go_enter Tryz.func122,Tryz.ntmps122
 go_wp2_with (first|(go_at_call 48;refine(a3.out _ (by(exact kp))).mono ?_;rintro e s ⟨rfl,rfl⟩)|fail)
 (go_at_call 134;refine(a2.out _ (by(exact kp))).mono ?_;rintro e w1 ⟨rfl,q⟩;have X:=q.size;simp only[World.size_alloc]at X;have a8:w.heap.size<w1.heap.size:=(by omega);have a':w.heap.size+1<w1.heap.size:=(by omega);have J:w.heap.size+2<w1.heap.size:=(by omega);have am:=q.cell (a:=⟨w.heap.size,0,none⟩) (v:=.int .u8 lo.tag) (by simp[go_sem]);have av:=q.cell (a:=⟨w.heap.size,1,none⟩) (v:=.int .u32 lo.to) (by simp[go_sem]);have ab:=q.cell (a:=⟨w.heap.size+1,0,none⟩) (v:=.int .u8 hi.tag) (by simp[go_sem]);have ad:=q.cell (a:=⟨w.heap.size+1,1,none⟩) (v:=.int .u32 hi.to) (by simp[go_sem]);have L:=q.cell (a:=⟨w.heap.size+2,0,none⟩) (v:=.int .u8 0) (by simp[go_sem]);have N:=q.cell (a:=⟨w.heap.size+2,1,none⟩) (v:=.int .u32 0) (by simp[go_sem]);have O:=fun o:Nat=>q.a2 (a:=⟨w.heap.size+2,o,none⟩) (by simp[go_sem]) (by simp[go_sem]);have z:aa w w1:=(by(exact kp)))
 go_wp2_with fail
 (go_at_call 134;refine(a1.out _ (by(exact kp))).mono ?_;rintro e w1 ⟨rfl,q⟩;have X:=q.size;have O:=fun o:Nat=>q.a2 (a:=⟨w.heap.size+2,o,none⟩) (by dsimp only;omega) (O o);have am:=q.cell am;have av:=q.cell av;have ab:=q.cell ab;have ad:=q.cell ad;have L:=q.cell L;have N:=q.cell N;have a8:w.heap.size<w1.heap.size:=(by omega);have a':w.heap.size+1<w1.heap.size:=(by omega);have J:w.heap.size+2<w1.heap.size:=(by omega);have z:aa w w1:=(by(exact kp)))
 go_wp2_with fail
 all_goals go_wp2_with (first|(go_at_call 187;refine(aw.out _ (by(exact kp))).mono ?_;rintro e Z ⟨rfl,A,a4⟩;have a6:=A.size;(try simp only[World.size_alloc,World.size_setCell,World.a3]at a6);have bb:=A.cell (a:=⟨w.heap.size+2,0,none⟩) K (v:=.int .u8 0) (by simp[go_sem,J,L]);have be:=A.cell (a:=⟨w.heap.size+2,1,none⟩) K (v:=.int .u32 0) (by simp[go_sem,J,N]);have j:=fun o:Nat=>A.frozen (a:=⟨w.heap.size+2,o,none⟩) (by(try simp only[World.size_alloc,World.size_setCell,World.a3]);omega) K (by(try simp only[World.frozen?_setCell,World.frozen?_drew,frozen?_alloc_cells]);exact O o);have a7:w.heap.size+2<Z.heap.size:=(by omega))|fail)
 all_goals refine bodyPost_ret (v:=.tuple #[.agg #[.int .u8 a,.int .u32 b],.int .u8 I]) (by simp[results,Tryz.results122,go_sem,a7,bb,be]) rfl ⟨rfl,_,Z,by(exact kp),A,a4,?_⟩
 all_goals(try simp only[World.size_alloc,World.size_setCell,World.a3])
 all_goals(repeat (first|with_reducible exact ae.refl _ _|exact ae.mono j (fun k _ z=>⟨z.1,by(try simp only[World.size_alloc,World.size_setCell,World.a3]);have:=z.2;omega⟩)|refine ae.setCell ?_ (Or.inl (by dsimp only;omega)) _|refine ae.setCell ?_ (Or.inr (by dsimp only;omega)) _|with_reducible refine ae.drewN ?_ _|with_reducible refine ae.drew ?_|with_reducible refine ae.alloc ?_ _))

end Go.Proofs.YtafkamlhimkbmaaGreat
