/-
  The walk of bdd.Make, case by case (printed by wip/mk_make2.py).
-/
import Derived.Test.YtafkamlhimkbmaaGreatPOrderB
import Derived.BigRegion
import Derived.IntWalk
namespace Go.Proofs.YtafkamlhimkbmaaGreat
set_option maxRecDepth 1000000
set_option maxHeartbeats 8000000
set_option linter.unusedSimpArgs false
set_option linter.unusedVariables false
open Go.RowKit

theorem tN (j:Nat)(l n:Int)(lo hi:Edge)(w:World)(A:n≤16)(E:j<w.heap.size)
  (s:∀q,aa w q→Calls Tryz.prog 48 #[.pointer (some ⟨j,0,none⟩)] q fun e w'=>e=.returned (.int .i64 n)∧q=w')
  (z:l<0)
  : Calls Tryz.prog 121 #[.pointer (some ⟨j,0,none⟩),.int .i64 l,.agg #[.int .u8 lo.tag,.int .u32 lo.to],.agg #[.int .u8 hi.tag,.int .u32 hi.to]] w fun e w'=>e=.returned (.tuple #[.agg #[.int .u8 0,.int .u32 0],.int .u8 3])∧aa w w':=by
 have q:j<w.heap.size+1:=by omega
 have q:j<w.heap.size+1+1:=by omega
 have t:=Lib.hid s
 clear s
 go_enter Tryz.func121,Tryz.ntmps121
 go_wp2_with (first|(go_at_call 48;refine(t.out _ (by(exact kp))).mono ?_;rintro e w' ⟨rfl,rfl⟩)|fail)
 all_goals refine bodyPost_ret (v:=.tuple #[.agg #[.int .u8 0,.int .u32 0],.int .u8 3]) (by simp[results,Tryz.results121,go_sem]) rfl ⟨rfl,by(exact kp)⟩

theorem tJ (j:Nat)(l n:Int)(lo hi:Edge)(w:World)(E:n≤16)(I:j<w.heap.size)
  (s:∀q,aa w q→Calls Tryz.prog 48 #[.pointer (some ⟨j,0,none⟩)] q fun e w'=>e=.returned (.int .i64 n)∧q=w')
  (z:0≤l) (A:n≤l)
  : Calls Tryz.prog 121 #[.pointer (some ⟨j,0,none⟩),.int .i64 l,.agg #[.int .u8 lo.tag,.int .u32 lo.to],.agg #[.int .u8 hi.tag,.int .u32 hi.to]] w fun e w'=>e=.returned (.tuple #[.agg #[.int .u8 0,.int .u32 0],.int .u8 3])∧aa w w':=by
 have q:j<w.heap.size+1:=by omega
 have q:j<w.heap.size+1+1:=by omega
 have t:=Lib.hid s
 clear s
 go_enter Tryz.func121,Tryz.ntmps121
 go_wp2_with (first|(go_at_call 48;refine(t.out _ (by(exact kp))).mono ?_;rintro e w' ⟨rfl,rfl⟩)|fail)
 all_goals refine bodyPost_ret (v:=.tuple #[.agg #[.int .u8 0,.int .u32 0],.int .u8 3]) (by simp[results,Tryz.results121,go_sem]) rfl ⟨rfl,by(exact kp)⟩

theorem tM (s:Nat)(l n:Int)(lo hi:Edge)(w:World)(S:n≤16)(T:s<w.heap.size)
  (z:∀q,aa w q→Calls Tryz.prog 48 #[.pointer (some ⟨s,0,none⟩)] q fun e w'=>e=.returned (.int .i64 n)∧q=w')
  (N:0≤l) (O:l<n)
  (t:∀q,aa w q→Calls Tryz.prog 134 #[.pointer (some ⟨s,0,none⟩),.int .u8 1,.agg #[.int .u8 lo.tag,.int .u32 lo.to],.int .i64 (l+1)] q fun e w'=>e=.returned (.bool false)∧aa q w')
  : Calls Tryz.prog 121 #[.pointer (some ⟨s,0,none⟩),.int .i64 l,.agg #[.int .u8 lo.tag,.int .u32 lo.to],.agg #[.int .u8 hi.tag,.int .u32 hi.to]] w fun e w'=>e=.returned (.tuple #[.agg #[.int .u8 0,.int .u32 0],.int .u8 1])∧aa w w':=by
 have q:s<w.heap.size+1:=by omega
 have q:s<w.heap.size+1+1:=by omega
 have E:=Lib.hid z
 clear z
 have A:=Lib.hid t
 clear t
 go_enter Tryz.func121,Tryz.ntmps121
 go_wp2_with (first|(go_at_call 48;refine(E.out _ (by(exact kp))).mono ?_;rintro e w' ⟨rfl,rfl⟩)|fail)
 (go_at_call 134;refine(A.out _ (by(exact kp))).mono ?_;rintro e w1 ⟨rfl,j⟩;have I:=j.size;simp only[World.size_alloc]at I;have q:w.heap.size<w1.heap.size:=(by omega);have q:w.heap.size+1<w1.heap.size:=(by omega);have J:w.heap.size+2<w1.heap.size:=(by omega);have q:=j.cell (a:=⟨w.heap.size,0,none⟩) (v:=.int .u8 lo.tag) (by simp[go_sem]);have q:=j.cell (a:=⟨w.heap.size,1,none⟩) (v:=.int .u32 lo.to) (by simp[go_sem]);have q:=j.cell (a:=⟨w.heap.size+1,0,none⟩) (v:=.int .u8 hi.tag) (by simp[go_sem]);have q:=j.cell (a:=⟨w.heap.size+1,1,none⟩) (v:=.int .u32 hi.to) (by simp[go_sem]);have K:=j.cell (a:=⟨w.heap.size+2,0,none⟩) (v:=.int .u8 0) (by simp[go_sem]);have L:=j.cell (a:=⟨w.heap.size+2,1,none⟩) (v:=.int .u32 0) (by simp[go_sem]);have q:=fun o:Nat=>j.a2 (a:=⟨w.heap.size+2,o,none⟩) (by simp[go_sem]) (by simp[go_sem]);have j:aa w w1:=(by(exact kp)))
 go_wp2_with fail
 all_goals refine bodyPost_ret (v:=.tuple #[.agg #[.int .u8 0,.int .u32 0],.int .u8 1]) (by simp[results,Tryz.results121,go_sem,J,K,L]) rfl ⟨rfl,by(exact kp)⟩

theorem tL (s:Nat)(l n:Int)(lo hi:Edge)(w:World)(av:n≤16)(aw:s<w.heap.size)
  (J:∀q,aa w q→Calls Tryz.prog 48 #[.pointer (some ⟨s,0,none⟩)] q fun e w'=>e=.returned (.int .i64 n)∧q=w')
  (ad:0≤l) (am:l<n)
  (E:∀q,aa w q→Calls Tryz.prog 134 #[.pointer (some ⟨s,0,none⟩),.int .u8 1,.agg #[.int .u8 lo.tag,.int .u32 lo.to],.int .i64 (l+1)] q fun e w'=>e=.returned (.bool true)∧aa q w')
  (A:∀q,aa w q→Calls Tryz.prog 134 #[.pointer (some ⟨s,0,none⟩),.int .u8 1,.agg #[.int .u8 hi.tag,.int .u32 hi.to],.int .i64 (l+1)] q fun e w'=>e=.returned (.bool false)∧aa q w')
  : Calls Tryz.prog 121 #[.pointer (some ⟨s,0,none⟩),.int .i64 l,.agg #[.int .u8 lo.tag,.int .u32 lo.to],.agg #[.int .u8 hi.tag,.int .u32 hi.to]] w fun e w'=>e=.returned (.tuple #[.agg #[.int .u8 0,.int .u32 0],.int .u8 1])∧aa w w':=by
 have q:s<w.heap.size+1:=by omega
 have q:s<w.heap.size+1+1:=by omega
 have X:=Lib.hid J
 clear J
 have W:=Lib.hid E
 clear E
 have U:=Lib.hid A
 clear A
 go_enter Tryz.func121,Tryz.ntmps121
 go_wp2_with (first|(go_at_call 48;refine(X.out _ (by(exact kp))).mono ?_;rintro e w' ⟨rfl,rfl⟩)|fail)
 (go_at_call 134;refine(W.out _ (by(exact kp))).mono ?_;rintro e w1 ⟨rfl,j⟩;have I:=j.size;simp only[World.size_alloc]at I;have Z:w.heap.size<w1.heap.size:=(by omega);have ab:w.heap.size+1<w1.heap.size:=(by omega);have K:w.heap.size+2<w1.heap.size:=(by omega);have O:=j.cell (a:=⟨w.heap.size,0,none⟩) (v:=.int .u8 lo.tag) (by simp[go_sem]);have S:=j.cell (a:=⟨w.heap.size,1,none⟩) (v:=.int .u32 lo.to) (by simp[go_sem]);have L:=j.cell (a:=⟨w.heap.size+1,0,none⟩) (v:=.int .u8 hi.tag) (by simp[go_sem]);have N:=j.cell (a:=⟨w.heap.size+1,1,none⟩) (v:=.int .u32 hi.to) (by simp[go_sem]);have t:=j.cell (a:=⟨w.heap.size+2,0,none⟩) (v:=.int .u8 0) (by simp[go_sem]);have z:=j.cell (a:=⟨w.heap.size+2,1,none⟩) (v:=.int .u32 0) (by simp[go_sem]);have T:=fun o:Nat=>j.a2 (a:=⟨w.heap.size+2,o,none⟩) (by simp[go_sem]) (by simp[go_sem]);have Y:aa w w1:=(by(exact kp)))
 go_wp2_with fail
 (go_at_call 134;refine(U.out _ (by(exact kp))).mono ?_;rintro e w1 ⟨rfl,j⟩;have I:=j.size;have T:=fun o:Nat=>j.a2 (a:=⟨w.heap.size+2,o,none⟩) (by dsimp only;omega) (T o);have O:=j.cell O;have S:=j.cell S;have L:=j.cell L;have N:=j.cell N;have t:=j.cell t;have z:=j.cell z;have Z:w.heap.size<w1.heap.size:=(by omega);have ab:w.heap.size+1<w1.heap.size:=(by omega);have K:w.heap.size+2<w1.heap.size:=(by omega);have Y:aa w w1:=(by(exact kp)))
 go_wp2_with fail
 all_goals refine bodyPost_ret (v:=.tuple #[.agg #[.int .u8 0,.int .u32 0],.int .u8 1]) (by simp[results,Tryz.results121,go_sem,K,t,z]) rfl ⟨rfl,by(exact kp)⟩

theorem tO (s:Nat)(l n:Int)(lo hi:Edge)(w:World)(aw:n≤16)(a1:s<w.heap.size)
  (K:∀q,aa w q→Calls Tryz.prog 48 #[.pointer (some ⟨s,0,none⟩)] q fun e w'=>e=.returned (.int .i64 n)∧q=w')
  (am:0≤l) (av:l<n)
  (I:∀q,aa w q→Calls Tryz.prog 134 #[.pointer (some ⟨s,0,none⟩),.int .u8 1,.agg #[.int .u8 lo.tag,.int .u32 lo.to],.int .i64 (l+1)] q fun e w'=>e=.returned (.bool true)∧aa q w')
  (E:∀q,aa w q→Calls Tryz.prog 134 #[.pointer (some ⟨s,0,none⟩),.int .u8 1,.agg #[.int .u8 hi.tag,.int .u32 hi.to],.int .i64 (l+1)] q fun e w'=>e=.returned (.bool true)∧aa q w')
  (t:lo=hi)
  : Calls Tryz.prog 121 #[.pointer (some ⟨s,0,none⟩),.int .i64 l,.agg #[.int .u8 lo.tag,.int .u32 lo.to],.agg #[.int .u8 hi.tag,.int .u32 hi.to]] w fun e w'=>e=.returned (.tuple #[.agg #[.int .u8 lo.tag,.int .u32 lo.to],.int .u8 0])∧aa w w':=by
 have q:s<w.heap.size+1:=by omega
 have q:s<w.heap.size+1+1:=by omega
 have Y:=Lib.hid K
 clear K
 have X:=Lib.hid I
 clear I
 have W:=Lib.hid E
 clear E
 have q:=gM lo hi t
 have q:=Lib.hid t
 clear t
 go_enter Tryz.func121,Tryz.ntmps121
 go_wp2_with (first|(go_at_call 48;refine(Y.out _ (by(exact kp))).mono ?_;rintro e w' ⟨rfl,rfl⟩)|fail)
 (go_at_call 134;refine(X.out _ (by(exact kp))).mono ?_;rintro e w1 ⟨rfl,j⟩;have J:=j.size;simp only[World.size_alloc]at J;have ab:w.heap.size<w1.heap.size:=(by omega);have ad:w.heap.size+1<w1.heap.size:=(by omega);have L:w.heap.size+2<w1.heap.size:=(by omega);have S:=j.cell (a:=⟨w.heap.size,0,none⟩) (v:=.int .u8 lo.tag) (by simp[go_sem]);have T:=j.cell (a:=⟨w.heap.size,1,none⟩) (v:=.int .u32 lo.to) (by simp[go_sem]);have N:=j.cell (a:=⟨w.heap.size+1,0,none⟩) (v:=.int .u8 hi.tag) (by simp[go_sem]);have O:=j.cell (a:=⟨w.heap.size+1,1,none⟩) (v:=.int .u32 hi.to) (by simp[go_sem]);have z:=j.cell (a:=⟨w.heap.size+2,0,none⟩) (v:=.int .u8 0) (by simp[go_sem]);have A:=j.cell (a:=⟨w.heap.size+2,1,none⟩) (v:=.int .u32 0) (by simp[go_sem]);have U:=fun o:Nat=>j.a2 (a:=⟨w.heap.size+2,o,none⟩) (by simp[go_sem]) (by simp[go_sem]);have Z:aa w w1:=(by(exact kp)))
 go_wp2_with fail
 (go_at_call 134;refine(W.out _ (by(exact kp))).mono ?_;rintro e w1 ⟨rfl,j⟩;have J:=j.size;have U:=fun o:Nat=>j.a2 (a:=⟨w.heap.size+2,o,none⟩) (by dsimp only;omega) (U o);have S:=j.cell S;have T:=j.cell T;have N:=j.cell N;have O:=j.cell O;have z:=j.cell z;have A:=j.cell A;have ab:w.heap.size<w1.heap.size:=(by omega);have ad:w.heap.size+1<w1.heap.size:=(by omega);have L:w.heap.size+2<w1.heap.size:=(by omega);have Z:aa w w1:=(by(exact kp)))
 go_wp2_with fail
 all_goals refine bodyPost_ret (v:=.tuple #[.agg #[.int .u8 lo.tag,.int .u32 lo.to],.int .u8 0]) (by simp[results,Tryz.results121,go_sem,L,z,A]) rfl ⟨rfl,by(exact kp)⟩

theorem tK {F:Nat→Prop}(R:World→World→Prop)(s:Nat)(l n:Int)(lo hi:Edge)(a b E:Int)(w:World)(bi:n≤16)(bn:s<w.heap.size)
  (Y:∀j,aa w j→Calls Tryz.prog 48 #[.pointer (some ⟨s,0,none⟩)] j fun e w'=>e=.returned (.int .i64 n)∧j=w')
  (be:0≤l) (bg:l<n)
  (U:∀j,aa w j→Calls Tryz.prog 134 #[.pointer (some ⟨s,0,none⟩),.int .u8 1,.agg #[.int .u8 lo.tag,.int .u32 lo.to],.int .i64 (l+1)] j fun e w'=>e=.returned (.bool true)∧aa j w')
  (T:∀j,aa w j→Calls Tryz.prog 134 #[.pointer (some ⟨s,0,none⟩),.int .u8 1,.agg #[.int .u8 hi.tag,.int .u32 hi.to],.int .i64 (l+1)] j fun e w'=>e=.returned (.bool true)∧aa j w')
  (I:¬lo=hi)
  (W:∀k,F k→k<w.heap.size) (S:∀j,aa w j→Calls Tryz.prog 186 #[.pointer (some ⟨s,0,none⟩),.agg #[.int .u8 1,.int .u8 l,.int .u8 l,.int .u8 lo.tag,.int .u32 lo.to,.int .u8 hi.tag,.int .u32 hi.to]] j fun e w'=>e=.returned (.tuple #[.agg #[.int .u8 a,.int .u32 b],.int .u8 E])∧ae F j w'∧R j w')
  : Calls Tryz.prog 121 #[.pointer (some ⟨s,0,none⟩),.int .i64 l,.agg #[.int .u8 lo.tag,.int .u32 lo.to],.agg #[.int .u8 hi.tag,.int .u32 hi.to]] w fun e w'=>e=.returned (.tuple #[.agg #[.int .u8 a,.int .u32 b],.int .u8 E]) ∧ 
   ∃j A,aa w j∧ae F j A∧R j A∧ae (fun k=>w.heap.size≤k∧k<j.heap.size) A w':=by
 have j:s<w.heap.size+1:=by omega
 have j:s<w.heap.size+1+1:=by omega
 have a3:=Lib.hid Y
 clear Y
 have a2:=Lib.hid U
 clear U
 have a1:=Lib.hid T
 clear T
 have aw:=Lib.hid S
 have j:∀k,w.heap.size≤k→¬F k:=fun k t h=>by have:=W k h;omega
 have K:=j (w.heap.size+2) (by omega)
 clear S W j
 have j:=fR lo hi I
 have j:=Lib.hid I
 clear I
 go_enter Tryz.func121,Tryz.ntmps121
 go_wp2_with (first|(go_at_call 48;refine(a3.out _ (by(exact kp))).mono ?_;rintro e w' ⟨rfl,rfl⟩)|fail)
 (go_at_call 134;refine(a2.out _ (by(exact kp))).mono ?_;rintro e w1 ⟨rfl,q⟩;have X:=q.size;simp only[World.size_alloc]at X;have a7:w.heap.size<w1.heap.size:=(by omega);have a8:w.heap.size+1<w1.heap.size:=(by omega);have J:w.heap.size+2<w1.heap.size:=(by omega);have am:=q.cell (a:=⟨w.heap.size,0,none⟩) (v:=.int .u8 lo.tag) (by simp[go_sem]);have av:=q.cell (a:=⟨w.heap.size,1,none⟩) (v:=.int .u32 lo.to) (by simp[go_sem]);have ab:=q.cell (a:=⟨w.heap.size+1,0,none⟩) (v:=.int .u8 hi.tag) (by simp[go_sem]);have ad:=q.cell (a:=⟨w.heap.size+1,1,none⟩) (v:=.int .u32 hi.to) (by simp[go_sem]);have L:=q.cell (a:=⟨w.heap.size+2,0,none⟩) (v:=.int .u8 0) (by simp[go_sem]);have N:=q.cell (a:=⟨w.heap.size+2,1,none⟩) (v:=.int .u32 0) (by simp[go_sem]);have O:=fun o:Nat=>q.a2 (a:=⟨w.heap.size+2,o,none⟩) (by simp[go_sem]) (by simp[go_sem]);have t:aa w w1:=(by(exact kp)))
 go_wp2_with fail
 (go_at_call 134;refine(a1.out _ (by(exact kp))).mono ?_;rintro e w1 ⟨rfl,q⟩;have X:=q.size;have O:=fun o:Nat=>q.a2 (a:=⟨w.heap.size+2,o,none⟩) (by dsimp only;omega) (O o);have am:=q.cell am;have av:=q.cell av;have ab:=q.cell ab;have ad:=q.cell ad;have L:=q.cell L;have N:=q.cell N;have a7:w.heap.size<w1.heap.size:=(by omega);have a8:w.heap.size+1<w1.heap.size:=(by omega);have J:w.heap.size+2<w1.heap.size:=(by omega);have t:aa w w1:=(by(exact kp)))
 go_wp2_with fail
 all_goals go_wp2_with (first|(go_at_call 186;refine(aw.out _ (by(exact kp))).mono ?_;rintro e Z ⟨rfl,z,a4⟩;have a5:=z.size;(try simp only[World.size_alloc,World.size_setCell,World.a3]at a5);have a':=z.cell (a:=⟨w.heap.size+2,0,none⟩) K (v:=.int .u8 0) (by simp[go_sem,J,L]);have bb:=z.cell (a:=⟨w.heap.size+2,1,none⟩) K (v:=.int .u32 0) (by simp[go_sem,J,N]);have j:=fun o:Nat=>z.frozen (a:=⟨w.heap.size+2,o,none⟩) (by(try simp only[World.size_alloc,World.size_setCell,World.a3]);omega) K (by(try simp only[World.frozen?_setCell,World.frozen?_drew,frozen?_alloc_cells]);exact O o);have a6:w.heap.size+2<Z.heap.size:=(by omega))|fail)
 all_goals refine bodyPost_ret (v:=.tuple #[.agg #[.int .u8 a,.int .u32 b],.int .u8 E]) (by simp[results,Tryz.results121,go_sem,a6,a',bb]) rfl ⟨rfl,_,Z,by(exact kp),z,a4,?_⟩
 all_goals(try simp only[World.size_alloc,World.size_setCell,World.a3])
 all_goals(repeat (first|with_reducible exact ae.refl _ _|exact ae.mono j (fun k _ t=>⟨t.1,by(try simp only[World.size_alloc,World.size_setCell,World.a3]);have:=t.2;omega⟩)|refine ae.setCell ?_ (Or.inl (by dsimp only;omega)) _|refine ae.setCell ?_ (Or.inr (by dsimp only;omega)) _|with_reducible refine ae.drewN ?_ _|with_reducible refine ae.drew ?_|with_reducible refine ae.alloc ?_ _))

theorem C0 (j:Nat)(l n:Int)(lo hi:Edge)(w:World)(A:n≤16)(E:j<w.heap.size)
  (s:∀q,aa w q→Calls Tryz.prog 48 #[.pointer (some ⟨j,0,none⟩)] q fun e w'=>e=.returned (.int .i64 n)∧q=w')
  (z:l<0)
  : Calls Tryz.prog 122 #[.pointer (some ⟨j,0,none⟩),.int .i64 l,.agg #[.int .u8 lo.tag,.int .u32 lo.to],.agg #[.int .u8 hi.tag,.int .u32 hi.to]] w fun e w'=>e=.returned (.tuple #[.agg #[.int .u8 0,.int .u32 0],.int .u8 3])∧aa w w':=by
 have q:j<w.heap.size+1:=by omega
 have q:j<w.heap.size+1+1:=by omega
 have t:=Lib.hid s
 clear s
 go_enter Tryz.func122,Tryz.ntmps122
 go_wp2_with (first|(go_at_call 48;refine(t.out _ (by(exact kp))).mono ?_;rintro e w' ⟨rfl,rfl⟩)|fail)
 all_goals refine bodyPost_ret (v:=.tuple #[.agg #[.int .u8 0,.int .u32 0],.int .u8 3]) (by simp[results,Tryz.results122,go_sem]) rfl ⟨rfl,by(exact kp)⟩

theorem CW (j:Nat)(l n:Int)(lo hi:Edge)(w:World)(E:n≤16)(I:j<w.heap.size)
  (s:∀q,aa w q→Calls Tryz.prog 48 #[.pointer (some ⟨j,0,none⟩)] q fun e w'=>e=.returned (.int .i64 n)∧q=w')
  (z:0≤l) (A:n≤l)
  : Calls Tryz.prog 122 #[.pointer (some ⟨j,0,none⟩),.int .i64 l,.agg #[.int .u8 lo.tag,.int .u32 lo.to],.agg #[.int .u8 hi.tag,.int .u32 hi.to]] w fun e w'=>e=.returned (.tuple #[.agg #[.int .u8 0,.int .u32 0],.int .u8 3])∧aa w w':=by
 have q:j<w.heap.size+1:=by omega
 have q:j<w.heap.size+1+1:=by omega
 have t:=Lib.hid s
 clear s
 go_enter Tryz.func122,Tryz.ntmps122
 go_wp2_with (first|(go_at_call 48;refine(t.out _ (by(exact kp))).mono ?_;rintro e w' ⟨rfl,rfl⟩)|fail)
 all_goals refine bodyPost_ret (v:=.tuple #[.agg #[.int .u8 0,.int .u32 0],.int .u8 3]) (by simp[results,Tryz.results122,go_sem]) rfl ⟨rfl,by(exact kp)⟩

theorem CZ (s:Nat)(l n:Int)(lo hi:Edge)(w:World)(S:n≤16)(T:s<w.heap.size)
  (z:∀q,aa w q→Calls Tryz.prog 48 #[.pointer (some ⟨s,0,none⟩)] q fun e w'=>e=.returned (.int .i64 n)∧q=w')
  (N:0≤l) (O:l<n)
  (t:∀q,aa w q→Calls Tryz.prog 134 #[.pointer (some ⟨s,0,none⟩),.int .u8 2,.agg #[.int .u8 lo.tag,.int .u32 lo.to],.int .i64 (l+1)] q fun e w'=>e=.returned (.bool false)∧aa q w')
  : Calls Tryz.prog 122 #[.pointer (some ⟨s,0,none⟩),.int .i64 l,.agg #[.int .u8 lo.tag,.int .u32 lo.to],.agg #[.int .u8 hi.tag,.int .u32 hi.to]] w fun e w'=>e=.returned (.tuple #[.agg #[.int .u8 0,.int .u32 0],.int .u8 1])∧aa w w':=by
 have q:s<w.heap.size+1:=by omega
 have q:s<w.heap.size+1+1:=by omega
 have E:=Lib.hid z
 clear z
 have A:=Lib.hid t
 clear t
 go_enter Tryz.func122,Tryz.ntmps122
 go_wp2_with (first|(go_at_call 48;refine(E.out _ (by(exact kp))).mono ?_;rintro e w' ⟨rfl,rfl⟩)|fail)
 (go_at_call 134;refine(A.out _ (by(exact kp))).mono ?_;rintro e w1 ⟨rfl,j⟩;have I:=j.size;simp only[World.size_alloc]at I;have q:w.heap.size<w1.heap.size:=(by omega);have q:w.heap.size+1<w1.heap.size:=(by omega);have J:w.heap.size+2<w1.heap.size:=(by omega);have q:=j.cell (a:=⟨w.heap.size,0,none⟩) (v:=.int .u8 lo.tag) (by simp[go_sem]);have q:=j.cell (a:=⟨w.heap.size,1,none⟩) (v:=.int .u32 lo.to) (by simp[go_sem]);have q:=j.cell (a:=⟨w.heap.size+1,0,none⟩) (v:=.int .u8 hi.tag) (by simp[go_sem]);have q:=j.cell (a:=⟨w.heap.size+1,1,none⟩) (v:=.int .u32 hi.to) (by simp[go_sem]);have K:=j.cell (a:=⟨w.heap.size+2,0,none⟩) (v:=.int .u8 0) (by simp[go_sem]);have L:=j.cell (a:=⟨w.heap.size+2,1,none⟩) (v:=.int .u32 0) (by simp[go_sem]);have q:=fun o:Nat=>j.a2 (a:=⟨w.heap.size+2,o,none⟩) (by simp[go_sem]) (by simp[go_sem]);have j:aa w w1:=(by(exact kp)))
 go_wp2_with fail
 all_goals refine bodyPost_ret (v:=.tuple #[.agg #[.int .u8 0,.int .u32 0],.int .u8 1]) (by simp[results,Tryz.results122,go_sem,J,K,L]) rfl ⟨rfl,by(exact kp)⟩

theorem CY (s:Nat)(l n:Int)(lo hi:Edge)(w:World)(av:n≤16)(aw:s<w.heap.size)
  (J:∀q,aa w q→Calls Tryz.prog 48 #[.pointer (some ⟨s,0,none⟩)] q fun e w'=>e=.returned (.int .i64 n)∧q=w')
  (ad:0≤l) (am:l<n)
  (E:∀q,aa w q→Calls Tryz.prog 134 #[.pointer (some ⟨s,0,none⟩),.int .u8 2,.agg #[.int .u8 lo.tag,.int .u32 lo.to],.int .i64 (l+1)] q fun e w'=>e=.returned (.bool true)∧aa q w')
  (A:∀q,aa w q→Calls Tryz.prog 134 #[.pointer (some ⟨s,0,none⟩),.int .u8 2,.agg #[.int .u8 hi.tag,.int .u32 hi.to],.int .i64 (l+1)] q fun e w'=>e=.returned (.bool false)∧aa q w')
  : Calls Tryz.prog 122 #[.pointer (some ⟨s,0,none⟩),.int .i64 l,.agg #[.int .u8 lo.tag,.int .u32 lo.to],.agg #[.int .u8 hi.tag,.int .u32 hi.to]] w fun e w'=>e=.returned (.tuple #[.agg #[.int .u8 0,.int .u32 0],.int .u8 1])∧aa w w':=by
 have q:s<w.heap.size+1:=by omega
 have q:s<w.heap.size+1+1:=by omega
 have X:=Lib.hid J
 clear J
 have W:=Lib.hid E
 clear E
 have U:=Lib.hid A
 clear A
 go_enter Tryz.func122,Tryz.ntmps122
 go_wp2_with (first|(go_at_call 48;refine(X.out _ (by(exact kp))).mono ?_;rintro e w' ⟨rfl,rfl⟩)|fail)
 (go_at_call 134;refine(W.out _ (by(exact kp))).mono ?_;rintro e w1 ⟨rfl,j⟩;have I:=j.size;simp only[World.size_alloc]at I;have Z:w.heap.size<w1.heap.size:=(by omega);have ab:w.heap.size+1<w1.heap.size:=(by omega);have K:w.heap.size+2<w1.heap.size:=(by omega);have O:=j.cell (a:=⟨w.heap.size,0,none⟩) (v:=.int .u8 lo.tag) (by simp[go_sem]);have S:=j.cell (a:=⟨w.heap.size,1,none⟩) (v:=.int .u32 lo.to) (by simp[go_sem]);have L:=j.cell (a:=⟨w.heap.size+1,0,none⟩) (v:=.int .u8 hi.tag) (by simp[go_sem]);have N:=j.cell (a:=⟨w.heap.size+1,1,none⟩) (v:=.int .u32 hi.to) (by simp[go_sem]);have t:=j.cell (a:=⟨w.heap.size+2,0,none⟩) (v:=.int .u8 0) (by simp[go_sem]);have z:=j.cell (a:=⟨w.heap.size+2,1,none⟩) (v:=.int .u32 0) (by simp[go_sem]);have T:=fun o:Nat=>j.a2 (a:=⟨w.heap.size+2,o,none⟩) (by simp[go_sem]) (by simp[go_sem]);have Y:aa w w1:=(by(exact kp)))
 go_wp2_with fail
 (go_at_call 134;refine(U.out _ (by(exact kp))).mono ?_;rintro e w1 ⟨rfl,j⟩;have I:=j.size;have T:=fun o:Nat=>j.a2 (a:=⟨w.heap.size+2,o,none⟩) (by dsimp only;omega) (T o);have O:=j.cell O;have S:=j.cell S;have L:=j.cell L;have N:=j.cell N;have t:=j.cell t;have z:=j.cell z;have Z:w.heap.size<w1.heap.size:=(by omega);have ab:w.heap.size+1<w1.heap.size:=(by omega);have K:w.heap.size+2<w1.heap.size:=(by omega);have Y:aa w w1:=(by(exact kp)))
 go_wp2_with fail
 all_goals refine bodyPost_ret (v:=.tuple #[.agg #[.int .u8 0,.int .u32 0],.int .u8 1]) (by simp[results,Tryz.results122,go_sem,K,t,z]) rfl ⟨rfl,by(exact kp)⟩

theorem C3 (s:Nat)(l n:Int)(lo:Edge)(t:Int)(w:World)(aw:n≤16)(a1:s<w.heap.size)
  (K:∀q,aa w q→Calls Tryz.prog 48 #[.pointer (some ⟨s,0,none⟩)] q fun e w'=>e=.returned (.int .i64 n)∧q=w')
  (am:0≤l) (av:l<n)
  (I:∀q,aa w q→Calls Tryz.prog 134 #[.pointer (some ⟨s,0,none⟩),.int .u8 2,.agg #[.int .u8 lo.tag,.int .u32 lo.to],.int .i64 (l+1)] q fun e w'=>e=.returned (.bool true)∧aa q w')
  (E:∀q,aa w q→Calls Tryz.prog 134 #[.pointer (some ⟨s,0,none⟩),.int .u8 2,.agg #[.int .u8 t,.int .u32 0],.int .i64 (l+1)] q fun e w'=>e=.returned (.bool true)∧aa q w')
  : Calls Tryz.prog 122 #[.pointer (some ⟨s,0,none⟩),.int .i64 l,.agg #[.int .u8 lo.tag,.int .u32 lo.to],.agg #[.int .u8 t,.int .u32 0]] w fun e w'=>e=.returned (.tuple #[.agg #[.int .u8 lo.tag,.int .u32 lo.to],.int .u8 0])∧aa w w':=by
 have q:s<w.heap.size+1:=by omega
 have q:s<w.heap.size+1+1:=by omega
 have Y:=Lib.hid K
 clear K
 have X:=Lib.hid I
 clear I
 have W:=Lib.hid E
 clear E
 go_enter Tryz.func122,Tryz.ntmps122
 go_wp2_with (first|(go_at_call 48;refine(Y.out _ (by(exact kp))).mono ?_;rintro e w' ⟨rfl,rfl⟩)|fail)
 (go_at_call 134;refine(X.out _ (by(exact kp))).mono ?_;rintro e w1 ⟨rfl,j⟩;have J:=j.size;simp only[World.size_alloc]at J;have ab:w.heap.size<w1.heap.size:=(by omega);have ad:w.heap.size+1<w1.heap.size:=(by omega);have L:w.heap.size+2<w1.heap.size:=(by omega);have S:=j.cell (a:=⟨w.heap.size,0,none⟩) (v:=.int .u8 lo.tag) (by simp[go_sem]);have T:=j.cell (a:=⟨w.heap.size,1,none⟩) (v:=.int .u32 lo.to) (by simp[go_sem]);have N:=j.cell (a:=⟨w.heap.size+1,0,none⟩) (v:=.int .u8 t) (by simp[go_sem]);have O:=j.cell (a:=⟨w.heap.size+1,1,none⟩) (v:=.int .u32 0) (by simp[go_sem]);have z:=j.cell (a:=⟨w.heap.size+2,0,none⟩) (v:=.int .u8 0) (by simp[go_sem]);have A:=j.cell (a:=⟨w.heap.size+2,1,none⟩) (v:=.int .u32 0) (by simp[go_sem]);have U:=fun o:Nat=>j.a2 (a:=⟨w.heap.size+2,o,none⟩) (by simp[go_sem]) (by simp[go_sem]);have Z:aa w w1:=(by(exact kp)))
 go_wp2_with fail
 (go_at_call 134;refine(W.out _ (by(exact kp))).mono ?_;rintro e w1 ⟨rfl,j⟩;have J:=j.size;have U:=fun o:Nat=>j.a2 (a:=⟨w.heap.size+2,o,none⟩) (by dsimp only;omega) (U o);have S:=j.cell S;have T:=j.cell T;have N:=j.cell N;have O:=j.cell O;have z:=j.cell z;have A:=j.cell A;have ab:w.heap.size<w1.heap.size:=(by omega);have ad:w.heap.size+1<w1.heap.size:=(by omega);have L:w.heap.size+2<w1.heap.size:=(by omega);have Z:aa w w1:=(by(exact kp)))
 go_wp2_with fail
 all_goals refine bodyPost_ret (v:=.tuple #[.agg #[.int .u8 lo.tag,.int .u32 lo.to],.int .u8 0]) (by simp[results,Tryz.results122,go_sem,L,z,A]) rfl ⟨rfl,by(exact kp)⟩

theorem CX {F:Nat→Prop}(R:World→World→Prop)(s:Nat)(l n:Int)(lo hi:Edge)(a b E:Int)(w:World)(bi:n≤16)(bn:s<w.heap.size)
  (X:∀j,aa w j→Calls Tryz.prog 48 #[.pointer (some ⟨s,0,none⟩)] j fun e w'=>e=.returned (.int .i64 n)∧j=w')
  (be:0≤l) (bg:l<n)
  (T:∀j,aa w j→Calls Tryz.prog 134 #[.pointer (some ⟨s,0,none⟩),.int .u8 2,.agg #[.int .u8 lo.tag,.int .u32 lo.to],.int .i64 (l+1)] j fun e w'=>e=.returned (.bool true)∧aa j w')
  (S:∀j,aa w j→Calls Tryz.prog 134 #[.pointer (some ⟨s,0,none⟩),.int .u8 2,.agg #[.int .u8 hi.tag,.int .u32 hi.to],.int .i64 (l+1)] j fun e w'=>e=.returned (.bool true)∧aa j w')
  (a4:¬hi.to=0)
  (U:∀k,F k→k<w.heap.size) (O:∀j,aa w j→Calls Tryz.prog 187 #[.pointer (some ⟨s,0,none⟩),.agg #[.int .u8 2,.int .u8 l,.int .u8 l,.int .u8 lo.tag,.int .u32 lo.to,.int .u8 hi.tag,.int .u32 hi.to]] j fun e w'=>e=.returned (.tuple #[.agg #[.int .u8 a,.int .u32 b],.int .u8 E])∧ae F j w'∧R j w')
  : Calls Tryz.prog 122 #[.pointer (some ⟨s,0,none⟩),.int .i64 l,.agg #[.int .u8 lo.tag,.int .u32 lo.to],.agg #[.int .u8 hi.tag,.int .u32 hi.to]] w fun e w'=>e=.returned (.tuple #[.agg #[.int .u8 a,.int .u32 b],.int .u8 E]) ∧ 
   ∃j A,aa w j∧ae F j A∧R j A∧ae (fun k=>w.heap.size≤k∧k<j.heap.size) A w':=by
 have j:s<w.heap.size+1:=by omega
 have j:s<w.heap.size+1+1:=by omega
 have a2:=Lib.hid X
 clear X
 have a1:=Lib.hid T
 clear T
 have aw:=Lib.hid S
 clear S
 have av:=Lib.hid O
 have j:∀k,w.heap.size≤k→¬F k:=fun k t h=>by have:=U k h;omega
 have J:=j (w.heap.size+2) (by omega)
 clear O U j
 have j:(hi.to==0)=false:=by simp[a4]
 go_enter Tryz.func122,Tryz.ntmps122
 go_wp2_with (first|(go_at_call 48;refine(a2.out _ (by(exact kp))).mono ?_;rintro e w' ⟨rfl,rfl⟩)|fail)
 (go_at_call 134;refine(a1.out _ (by(exact kp))).mono ?_;rintro e w1 ⟨rfl,q⟩;have W:=q.size;simp only[World.size_alloc]at W;have a7:w.heap.size<w1.heap.size:=(by omega);have a8:w.heap.size+1<w1.heap.size:=(by omega);have I:w.heap.size+2<w1.heap.size:=(by omega);have ad:=q.cell (a:=⟨w.heap.size,0,none⟩) (v:=.int .u8 lo.tag) (by simp[go_sem]);have am:=q.cell (a:=⟨w.heap.size,1,none⟩) (v:=.int .u32 lo.to) (by simp[go_sem]);have Z:=q.cell (a:=⟨w.heap.size+1,0,none⟩) (v:=.int .u8 hi.tag) (by simp[go_sem]);have ab:=q.cell (a:=⟨w.heap.size+1,1,none⟩) (v:=.int .u32 hi.to) (by simp[go_sem]);have K:=q.cell (a:=⟨w.heap.size+2,0,none⟩) (v:=.int .u8 0) (by simp[go_sem]);have L:=q.cell (a:=⟨w.heap.size+2,1,none⟩) (v:=.int .u32 0) (by simp[go_sem]);have N:=fun o:Nat=>q.a2 (a:=⟨w.heap.size+2,o,none⟩) (by simp[go_sem]) (by simp[go_sem]);have t:aa w w1:=(by(exact kp)))
 go_wp2_with fail
 (go_at_call 134;refine(aw.out _ (by(exact kp))).mono ?_;rintro e w1 ⟨rfl,q⟩;have W:=q.size;have N:=fun o:Nat=>q.a2 (a:=⟨w.heap.size+2,o,none⟩) (by dsimp only;omega) (N o);have ad:=q.cell ad;have am:=q.cell am;have Z:=q.cell Z;have ab:=q.cell ab;have K:=q.cell K;have L:=q.cell L;have a7:w.heap.size<w1.heap.size:=(by omega);have a8:w.heap.size+1<w1.heap.size:=(by omega);have I:w.heap.size+2<w1.heap.size:=(by omega);have t:aa w w1:=(by(exact kp)))
 go_wp2_with fail
 all_goals go_wp2_with (first|(go_at_call 187;refine(av.out _ (by(exact kp))).mono ?_;rintro e Y ⟨rfl,z,a3⟩;have a5:=z.size;(try simp only[World.size_alloc,World.size_setCell,World.a3]at a5);have a':=z.cell (a:=⟨w.heap.size+2,0,none⟩) J (v:=.int .u8 0) (by simp[go_sem,I,K]);have bb:=z.cell (a:=⟨w.heap.size+2,1,none⟩) J (v:=.int .u32 0) (by simp[go_sem,I,L]);have j:=fun o:Nat=>z.frozen (a:=⟨w.heap.size+2,o,none⟩) (by(try simp only[World.size_alloc,World.size_setCell,World.a3]);omega) J (by(try simp only[World.frozen?_setCell,World.frozen?_drew,frozen?_alloc_cells]);exact N o);have a6:w.heap.size+2<Y.heap.size:=(by omega))|fail)
 all_goals refine bodyPost_ret (v:=.tuple #[.agg #[.int .u8 a,.int .u32 b],.int .u8 E]) (by simp[results,Tryz.results122,go_sem,a6,a',bb]) rfl ⟨rfl,_,Y,by(exact kp),z,a3,?_⟩
 all_goals(try simp only[World.size_alloc,World.size_setCell,World.a3])
 all_goals(repeat (first|with_reducible exact ae.refl _ _|exact ae.mono j (fun k _ t=>⟨t.1,by(try simp only[World.size_alloc,World.size_setCell,World.a3]);have:=t.2;omega⟩)|refine ae.setCell ?_ (Or.inl (by dsimp only;omega)) _|refine ae.setCell ?_ (Or.inr (by dsimp only;omega)) _|with_reducible refine ae.drewN ?_ _|with_reducible refine ae.drew ?_|with_reducible refine ae.alloc ?_ _))

theorem tY (q:Nat)(l n:Int)(v:Edge)(w:World)(A:n≤16)(E:q<w.heap.size)
  (s:∀j,aa w j→Calls Tryz.prog 48 #[.pointer (some ⟨q,0,none⟩)] j fun e w'=>e=.returned (.int .i64 n)∧j=w')
  (z:l<0)
  : Calls Tryz.prog 267 #[.pointer (some ⟨q,0,none⟩),.agg #[.int .u8 v.tag,.int .u32 v.to],.int .i64 l] w fun e w'=>e=.returned (.tuple #[.agg #[.int .u8 0,.int .u32 0],.agg #[.int .u8 0,.int .u32 0],.int .u8 3])∧aa w w':=by
 have t:=Lib.hid s
 clear s
 go_enter Tryz.func267,Tryz.ntmps267
 go_wp2_with (first|(go_at_call 48;refine(t.out _ (by(exact kp))).mono ?_;rintro e w' ⟨rfl,rfl⟩)|fail)
 go_region
 all_goals go_wp2
 all_goals refine bodyPost_ret (v:=.tuple #[.agg #[.int .u8 0,.int .u32 0],.agg #[.int .u8 0,.int .u32 0],.int .u8 3]) (by simp[results,Tryz.results267,go_sem]) rfl ⟨rfl,by(exact kp)⟩

theorem tX (q:Nat)(l n:Int)(v:Edge)(w:World)(E:n≤16)(I:q<w.heap.size)
  (s:∀j,aa w j→Calls Tryz.prog 48 #[.pointer (some ⟨q,0,none⟩)] j fun e w'=>e=.returned (.int .i64 n)∧j=w')
  (z:0≤l) (A:n≤l)
  : Calls Tryz.prog 267 #[.pointer (some ⟨q,0,none⟩),.agg #[.int .u8 v.tag,.int .u32 v.to],.int .i64 l] w fun e w'=>e=.returned (.tuple #[.agg #[.int .u8 0,.int .u32 0],.agg #[.int .u8 0,.int .u32 0],.int .u8 3])∧aa w w':=by
 have t:=Lib.hid s
 clear s
 go_enter Tryz.func267,Tryz.ntmps267
 go_wp2_with (first|(go_at_call 48;refine(t.out _ (by(exact kp))).mono ?_;rintro e w' ⟨rfl,rfl⟩)|fail)
 go_region
 all_goals go_wp2
 all_goals refine bodyPost_ret (v:=.tuple #[.agg #[.int .u8 0,.int .u32 0],.agg #[.int .u8 0,.int .u32 0],.int .u8 3]) (by simp[results,Tryz.results267,go_sem]) rfl ⟨rfl,by(exact kp)⟩

theorem tZ (s:Nat)(l n:Int)(v:Edge)(w:World)(W:n≤16)(X:s<w.heap.size)
  (z:∀q,aa w q→Calls Tryz.prog 48 #[.pointer (some ⟨s,0,none⟩)] q fun e w'=>e=.returned (.int .i64 n)∧q=w')
  (T:0≤l) (U:l<n)
  (t:∀q,aa w q→Calls Tryz.prog 134 #[.pointer (some ⟨s,0,none⟩),.int .u8 1,.agg #[.int .u8 v.tag,.int .u32 v.to],.int .i64 l] q fun e w'=>e=.returned (.bool false)∧aa q w')
  : Calls Tryz.prog 267 #[.pointer (some ⟨s,0,none⟩),.agg #[.int .u8 v.tag,.int .u32 v.to],.int .i64 l] w fun e w'=>e=.returned (.tuple #[.agg #[.int .u8 0,.int .u32 0],.agg #[.int .u8 0,.int .u32 0],.int .u8 1])∧aa w w':=by
 have E:=Lib.hid z
 clear z
 have A:=Lib.hid t
 clear t
 go_enter Tryz.func267,Tryz.ntmps267
 go_wp2_with (first|(go_at_call 48;refine(E.out _ (by(exact kp))).mono ?_;rintro e w' ⟨rfl,rfl⟩)|fail)
 (go_at_call 134;refine(A.out _ (by(exact kp))).mono ?_;rintro e w1 ⟨rfl,j⟩;have I:=j.size;simp only[World.size_alloc]at I;have q:w.heap.size<w1.heap.size:=(by omega);have J:w.heap.size+1<w1.heap.size:=(by omega);have K:w.heap.size+2<w1.heap.size:=(by omega);have q:=j.cell (a:=⟨w.heap.size,0,none⟩) (v:=.int .u8 v.tag) (by simp[go_sem]);have q:=j.cell (a:=⟨w.heap.size,1,none⟩) (v:=.int .u32 v.to) (by simp[go_sem]);have L:=j.cell (a:=⟨w.heap.size+1,0,none⟩) (v:=.int .u8 0) (by simp[go_sem]);have N:=j.cell (a:=⟨w.heap.size+1,1,none⟩) (v:=.int .u32 0) (by simp[go_sem]);have O:=j.cell (a:=⟨w.heap.size+2,0,none⟩) (v:=.int .u8 0) (by simp[go_sem]);have S:=j.cell (a:=⟨w.heap.size+2,1,none⟩) (v:=.int .u32 0) (by simp[go_sem]);have q:=fun o:Nat=>j.a2 (a:=⟨w.heap.size+1,o,none⟩) (by simp[go_sem]) (by simp[go_sem]);have q:=fun o:Nat=>j.a2 (a:=⟨w.heap.size+2,o,none⟩) (by simp[go_sem]) (by simp[go_sem]);have j:aa w w1:=(by(exact kp)))
 go_wp2_with fail
 go_region
 all_goals go_wp2
 all_goals refine bodyPost_ret (v:=.tuple #[.agg #[.int .u8 0,.int .u32 0],.agg #[.int .u8 0,.int .u32 0],.int .u8 1]) (by simp[results,Tryz.results267,go_sem,J,K,L,N,O,S]) rfl ⟨rfl,by(exact kp)⟩

theorem t' (t:Nat)(l n:Int)(v:Edge)(x:Rec)(w:World)(a2:n≤16)(a3:t<w.heap.size)
  (N:∀j,aa w j→Calls Tryz.prog 48 #[.pointer (some ⟨t,0,none⟩)] j fun e w'=>e=.returned (.int .i64 n)∧j=w')
  (aw:0≤l) (a1:l<n)
  (L:∀j,aa w j→Calls Tryz.prog 134 #[.pointer (some ⟨t,0,none⟩),.int .u8 1,.agg #[.int .u8 v.tag,.int .u32 v.to],.int .i64 l] j fun e w'=>e=.returned (.bool true)∧aa j w')
  (K:∀j,aa w j→Calls Tryz.prog 78 #[.pointer (some ⟨t,0,none⟩),.int .u32 v.to] j fun e w'=>e=.returned (.tuple #[.agg #[.int .u8 x.ad,.int .u8 x.I,.int .u8 x.J,.int .u8 x.lo.tag,.int .u32 x.lo.to,.int .u8 x.hi.tag,.int .u32 x.hi.to],.bool false])∧aa j w')
  : Calls Tryz.prog 267 #[.pointer (some ⟨t,0,none⟩),.agg #[.int .u8 v.tag,.int .u32 v.to],.int .i64 l] w fun e w'=>e=.returned (.tuple #[.agg #[.int .u8 v.tag,.int .u32 v.to],.agg #[.int .u8 v.tag,.int .u32 v.to],.int .u8 0])∧aa w w':=by
 have ab:=Lib.hid N
 clear N
 have Z:=Lib.hid L
 clear L
 have Y:=Lib.hid K
 clear K
 go_enter Tryz.func267,Tryz.ntmps267
 go_wp2_with (first|(go_at_call 48;refine(ab.out _ (by(exact kp))).mono ?_;rintro e w' ⟨rfl,rfl⟩)|fail)
 (go_at_call 134;refine(Z.out _ (by(exact kp))).mono ?_;rintro e w1 ⟨rfl,s⟩;have am:=s.size;simp only[World.size_alloc]at am;have av:w.heap.size<w1.heap.size:=(by omega);have O:w.heap.size+1<w1.heap.size:=(by omega);have S:w.heap.size+2<w1.heap.size:=(by omega);have U:=s.cell (a:=⟨w.heap.size,0,none⟩) (v:=.int .u8 v.tag) (by simp[go_sem]);have W:=s.cell (a:=⟨w.heap.size,1,none⟩) (v:=.int .u32 v.to) (by simp[go_sem]);have A:=s.cell (a:=⟨w.heap.size+1,0,none⟩) (v:=.int .u8 0) (by simp[go_sem]);have E:=s.cell (a:=⟨w.heap.size+1,1,none⟩) (v:=.int .u32 0) (by simp[go_sem]);have I:=s.cell (a:=⟨w.heap.size+2,0,none⟩) (v:=.int .u8 0) (by simp[go_sem]);have J:=s.cell (a:=⟨w.heap.size+2,1,none⟩) (v:=.int .u32 0) (by simp[go_sem]);have T:=fun o:Nat=>s.a2 (a:=⟨w.heap.size+1,o,none⟩) (by simp[go_sem]) (by simp[go_sem]);have X:=fun o:Nat=>s.a2 (a:=⟨w.heap.size+2,o,none⟩) (by simp[go_sem]) (by simp[go_sem]);have ad:aa w w1:=(by(exact kp)))
 go_wp2_with fail
 (go_at_call 78;refine(Y.out _ (by(exact kp))).mono ?_;rintro e z ⟨rfl,q⟩;have j:=q.size;have T:=fun o:Nat=>q.a2 (a:=⟨w.heap.size+1,o,none⟩) (by dsimp only;omega) (T o);have X:=fun o:Nat=>q.a2 (a:=⟨w.heap.size+2,o,none⟩) (by dsimp only;omega) (X o);have U:=q.cell U;have W:=q.cell W;have A:=q.cell A;have E:=q.cell E;have I:=q.cell I;have J:=q.cell J;have av:w.heap.size<z.heap.size:=(by omega);have O:w.heap.size+1<z.heap.size:=(by omega);have S:w.heap.size+2<z.heap.size:=(by omega);have j:aa w z:=ad.trans q)
 go_wp2_with fail
 go_region
 all_goals go_wp2
 all_goals refine bodyPost_ret (v:=.tuple #[.agg #[.int .u8 v.tag,.int .u32 v.to],.agg #[.int .u8 v.tag,.int .u32 v.to],.int .u8 0]) (by simp[results,Tryz.results267,go_sem,O,S,A,E,I,J]) rfl ⟨rfl,by(exact kp)⟩

theorem ub (t:Nat)(l n:Int)(v:Edge)(x:Rec)(w:World)(a2:n≤16)(a3:t<w.heap.size)
  (N:∀j,aa w j→Calls Tryz.prog 48 #[.pointer (some ⟨t,0,none⟩)] j fun e w'=>e=.returned (.int .i64 n)∧j=w')
  (aw:0≤l) (a1:l<n)
  (L:∀j,aa w j→Calls Tryz.prog 134 #[.pointer (some ⟨t,0,none⟩),.int .u8 1,.agg #[.int .u8 v.tag,.int .u32 v.to],.int .i64 l] j fun e w'=>e=.returned (.bool true)∧aa j w')
  (a4:l<x.I) (a5:0≤x.I) (a6:x.I≤255) (a7:0≤x.J) (a8:x.J≤255)
  (K:∀j,aa w j→Calls Tryz.prog 78 #[.pointer (some ⟨t,0,none⟩),.int .u32 v.to] j fun e w'=>e=.returned (.tuple #[.agg #[.int .u8 x.ad,.int .u8 x.I,.int .u8 x.J,.int .u8 x.lo.tag,.int .u32 x.lo.to,.int .u8 x.hi.tag,.int .u32 x.hi.to],.bool true])∧aa j w')
  : Calls Tryz.prog 267 #[.pointer (some ⟨t,0,none⟩),.agg #[.int .u8 v.tag,.int .u32 v.to],.int .i64 l] w fun e w'=>e=.returned (.tuple #[.agg #[.int .u8 v.tag,.int .u32 v.to],.agg #[.int .u8 v.tag,.int .u32 v.to],.int .u8 0])∧aa w w':=by
 have ab:=Lib.hid N
 clear N
 have Z:=Lib.hid L
 clear L
 have Y:=Lib.hid K
 clear K
 go_enter Tryz.func267,Tryz.ntmps267
 go_wp2_with (first|(go_at_call 48;refine(ab.out _ (by(exact kp))).mono ?_;rintro e w' ⟨rfl,rfl⟩)|fail)
 (go_at_call 134;refine(Z.out _ (by(exact kp))).mono ?_;rintro e w1 ⟨rfl,s⟩;have am:=s.size;simp only[World.size_alloc]at am;have av:w.heap.size<w1.heap.size:=(by omega);have O:w.heap.size+1<w1.heap.size:=(by omega);have S:w.heap.size+2<w1.heap.size:=(by omega);have U:=s.cell (a:=⟨w.heap.size,0,none⟩) (v:=.int .u8 v.tag) (by simp[go_sem]);have W:=s.cell (a:=⟨w.heap.size,1,none⟩) (v:=.int .u32 v.to) (by simp[go_sem]);have A:=s.cell (a:=⟨w.heap.size+1,0,none⟩) (v:=.int .u8 0) (by simp[go_sem]);have E:=s.cell (a:=⟨w.heap.size+1,1,none⟩) (v:=.int .u32 0) (by simp[go_sem]);have I:=s.cell (a:=⟨w.heap.size+2,0,none⟩) (v:=.int .u8 0) (by simp[go_sem]);have J:=s.cell (a:=⟨w.heap.size+2,1,none⟩) (v:=.int .u32 0) (by simp[go_sem]);have T:=fun o:Nat=>s.a2 (a:=⟨w.heap.size+1,o,none⟩) (by simp[go_sem]) (by simp[go_sem]);have X:=fun o:Nat=>s.a2 (a:=⟨w.heap.size+2,o,none⟩) (by simp[go_sem]) (by simp[go_sem]);have ad:aa w w1:=(by(exact kp)))
 go_wp2_with fail
 (go_at_call 78;refine(Y.out _ (by(exact kp))).mono ?_;rintro e z ⟨rfl,q⟩;have j:=q.size;have T:=fun o:Nat=>q.a2 (a:=⟨w.heap.size+1,o,none⟩) (by dsimp only;omega) (T o);have X:=fun o:Nat=>q.a2 (a:=⟨w.heap.size+2,o,none⟩) (by dsimp only;omega) (X o);have U:=q.cell U;have W:=q.cell W;have A:=q.cell A;have E:=q.cell E;have I:=q.cell I;have J:=q.cell J;have av:w.heap.size<z.heap.size:=(by omega);have O:w.heap.size+1<z.heap.size:=(by omega);have S:w.heap.size+2<z.heap.size:=(by omega);have j:aa w z:=ad.trans q)
 go_wp2_with fail
 go_region
 all_goals go_wp2
 all_goals refine bodyPost_ret (v:=.tuple #[.agg #[.int .u8 v.tag,.int .u32 v.to],.agg #[.int .u8 v.tag,.int .u32 v.to],.int .u8 0]) (by simp[results,Tryz.results267,go_sem,O,S,A,E,I,J]) rfl ⟨rfl,by(exact kp)⟩

theorem tW (t:Nat)(l n:Int)(v:Edge)(x:Rec)(w:World)(a2:n≤16)(a3:t<w.heap.size)
  (N:∀j,aa w j→Calls Tryz.prog 48 #[.pointer (some ⟨t,0,none⟩)] j fun e w'=>e=.returned (.int .i64 n)∧j=w')
  (aw:0≤l) (a1:l<n)
  (L:∀j,aa w j→Calls Tryz.prog 134 #[.pointer (some ⟨t,0,none⟩),.int .u8 1,.agg #[.int .u8 v.tag,.int .u32 v.to],.int .i64 l] j fun e w'=>e=.returned (.bool true)∧aa j w')
   (a4:0≤x.I) (a5:x.I≤255) (a6:0≤x.J) (a7:x.J≤255)
  (K:∀j,aa w j→Calls Tryz.prog 78 #[.pointer (some ⟨t,0,none⟩),.int .u32 v.to] j fun e w'=>e=.returned (.tuple #[.agg #[.int .u8 x.ad,.int .u8 l,.int .u8 x.J,.int .u8 x.lo.tag,.int .u32 x.lo.to,.int .u8 x.hi.tag,.int .u32 x.hi.to],.bool true])∧aa j w')
  : Calls Tryz.prog 267 #[.pointer (some ⟨t,0,none⟩),.agg #[.int .u8 v.tag,.int .u32 v.to],.int .i64 l] w fun e w'=>e=.returned (.tuple #[.agg #[.int .u8 x.lo.tag,.int .u32 x.lo.to],.agg #[.int .u8 x.hi.tag,.int .u32 x.hi.to],.int .u8 0])∧aa w w':=by
 have ab:=Lib.hid N
 clear N
 have Z:=Lib.hid L
 clear L
 have Y:=Lib.hid K
 clear K
 go_enter Tryz.func267,Tryz.ntmps267
 go_wp2_with (first|(go_at_call 48;refine(ab.out _ (by(exact kp))).mono ?_;rintro e w' ⟨rfl,rfl⟩)|fail)
 (go_at_call 134;refine(Z.out _ (by(exact kp))).mono ?_;rintro e w1 ⟨rfl,s⟩;have am:=s.size;simp only[World.size_alloc]at am;have av:w.heap.size<w1.heap.size:=(by omega);have O:w.heap.size+1<w1.heap.size:=(by omega);have S:w.heap.size+2<w1.heap.size:=(by omega);have U:=s.cell (a:=⟨w.heap.size,0,none⟩) (v:=.int .u8 v.tag) (by simp[go_sem]);have W:=s.cell (a:=⟨w.heap.size,1,none⟩) (v:=.int .u32 v.to) (by simp[go_sem]);have A:=s.cell (a:=⟨w.heap.size+1,0,none⟩) (v:=.int .u8 0) (by simp[go_sem]);have E:=s.cell (a:=⟨w.heap.size+1,1,none⟩) (v:=.int .u32 0) (by simp[go_sem]);have I:=s.cell (a:=⟨w.heap.size+2,0,none⟩) (v:=.int .u8 0) (by simp[go_sem]);have J:=s.cell (a:=⟨w.heap.size+2,1,none⟩) (v:=.int .u32 0) (by simp[go_sem]);have T:=fun o:Nat=>s.a2 (a:=⟨w.heap.size+1,o,none⟩) (by simp[go_sem]) (by simp[go_sem]);have X:=fun o:Nat=>s.a2 (a:=⟨w.heap.size+2,o,none⟩) (by simp[go_sem]) (by simp[go_sem]);have ad:aa w w1:=(by(exact kp)))
 go_wp2_with fail
 (go_at_call 78;refine(Y.out _ (by(exact kp))).mono ?_;rintro e z ⟨rfl,q⟩;have j:=q.size;have T:=fun o:Nat=>q.a2 (a:=⟨w.heap.size+1,o,none⟩) (by dsimp only;omega) (T o);have X:=fun o:Nat=>q.a2 (a:=⟨w.heap.size+2,o,none⟩) (by dsimp only;omega) (X o);have U:=q.cell U;have W:=q.cell W;have A:=q.cell A;have E:=q.cell E;have I:=q.cell I;have J:=q.cell J;have av:w.heap.size<z.heap.size:=(by omega);have O:w.heap.size+1<z.heap.size:=(by omega);have S:w.heap.size+2<z.heap.size:=(by omega);have j:aa w z:=ad.trans q)
 go_wp2_with fail
 go_region
 all_goals go_wp2
 all_goals refine bodyPost_ret (v:=.tuple #[.agg #[.int .u8 x.lo.tag,.int .u32 x.lo.to],.agg #[.int .u8 x.hi.tag,.int .u32 x.hi.to],.int .u8 0]) (by simp[results,Tryz.results267,go_sem,O,S,A,E,I,J]) rfl ⟨rfl,by(exact kp)⟩

theorem C6 (q:Nat)(l n:Int)(v:Edge)(w:World)(A:n≤16)(E:q<w.heap.size)
  (s:∀j,aa w j→Calls Tryz.prog 48 #[.pointer (some ⟨q,0,none⟩)] j fun e w'=>e=.returned (.int .i64 n)∧j=w')
  (z:l<0)
  : Calls Tryz.prog 268 #[.pointer (some ⟨q,0,none⟩),.agg #[.int .u8 v.tag,.int .u32 v.to],.int .i64 l] w fun e w'=>e=.returned (.tuple #[.agg #[.int .u8 0,.int .u32 0],.agg #[.int .u8 0,.int .u32 0],.int .u8 3])∧aa w w':=by
 have t:=Lib.hid s
 clear s
 go_enter Tryz.func268,Tryz.ntmps268
 go_wp2_with (first|(go_at_call 48;refine(t.out _ (by(exact kp))).mono ?_;rintro e w' ⟨rfl,rfl⟩)|fail)
 go_region
 all_goals go_wp2
 all_goals refine bodyPost_ret (v:=.tuple #[.agg #[.int .u8 0,.int .u32 0],.agg #[.int .u8 0,.int .u32 0],.int .u8 3]) (by simp[results,Tryz.results268,go_sem]) rfl ⟨rfl,by(exact kp)⟩

theorem C5 (q:Nat)(l n:Int)(v:Edge)(w:World)(E:n≤16)(I:q<w.heap.size)
  (s:∀j,aa w j→Calls Tryz.prog 48 #[.pointer (some ⟨q,0,none⟩)] j fun e w'=>e=.returned (.int .i64 n)∧j=w')
  (z:0≤l) (A:n≤l)
  : Calls Tryz.prog 268 #[.pointer (some ⟨q,0,none⟩),.agg #[.int .u8 v.tag,.int .u32 v.to],.int .i64 l] w fun e w'=>e=.returned (.tuple #[.agg #[.int .u8 0,.int .u32 0],.agg #[.int .u8 0,.int .u32 0],.int .u8 3])∧aa w w':=by
 have t:=Lib.hid s
 clear s
 go_enter Tryz.func268,Tryz.ntmps268
 go_wp2_with (first|(go_at_call 48;refine(t.out _ (by(exact kp))).mono ?_;rintro e w' ⟨rfl,rfl⟩)|fail)
 go_region
 all_goals go_wp2
 all_goals refine bodyPost_ret (v:=.tuple #[.agg #[.int .u8 0,.int .u32 0],.agg #[.int .u8 0,.int .u32 0],.int .u8 3]) (by simp[results,Tryz.results268,go_sem]) rfl ⟨rfl,by(exact kp)⟩

theorem C7 (s:Nat)(l n:Int)(v:Edge)(w:World)(W:n≤16)(X:s<w.heap.size)
  (z:∀q,aa w q→Calls Tryz.prog 48 #[.pointer (some ⟨s,0,none⟩)] q fun e w'=>e=.returned (.int .i64 n)∧q=w')
  (T:0≤l) (U:l<n)
  (t:∀q,aa w q→Calls Tryz.prog 134 #[.pointer (some ⟨s,0,none⟩),.int .u8 2,.agg #[.int .u8 v.tag,.int .u32 v.to],.int .i64 l] q fun e w'=>e=.returned (.bool false)∧aa q w')
  : Calls Tryz.prog 268 #[.pointer (some ⟨s,0,none⟩),.agg #[.int .u8 v.tag,.int .u32 v.to],.int .i64 l] w fun e w'=>e=.returned (.tuple #[.agg #[.int .u8 0,.int .u32 0],.agg #[.int .u8 0,.int .u32 0],.int .u8 1])∧aa w w':=by
 have E:=Lib.hid z
 clear z
 have A:=Lib.hid t
 clear t
 go_enter Tryz.func268,Tryz.ntmps268
 go_wp2_with (first|(go_at_call 48;refine(E.out _ (by(exact kp))).mono ?_;rintro e w' ⟨rfl,rfl⟩)|fail)
 (go_at_call 134;refine(A.out _ (by(exact kp))).mono ?_;rintro e w1 ⟨rfl,j⟩;have I:=j.size;simp only[World.size_alloc]at I;have q:w.heap.size<w1.heap.size:=(by omega);have J:w.heap.size+1<w1.heap.size:=(by omega);have K:w.heap.size+2<w1.heap.size:=(by omega);have q:=j.cell (a:=⟨w.heap.size,0,none⟩) (v:=.int .u8 v.tag) (by simp[go_sem]);have q:=j.cell (a:=⟨w.heap.size,1,none⟩) (v:=.int .u32 v.to) (by simp[go_sem]);have L:=j.cell (a:=⟨w.heap.size+1,0,none⟩) (v:=.int .u8 0) (by simp[go_sem]);have N:=j.cell (a:=⟨w.heap.size+1,1,none⟩) (v:=.int .u32 0) (by simp[go_sem]);have O:=j.cell (a:=⟨w.heap.size+2,0,none⟩) (v:=.int .u8 0) (by simp[go_sem]);have S:=j.cell (a:=⟨w.heap.size+2,1,none⟩) (v:=.int .u32 0) (by simp[go_sem]);have q:=fun o:Nat=>j.a2 (a:=⟨w.heap.size+1,o,none⟩) (by simp[go_sem]) (by simp[go_sem]);have q:=fun o:Nat=>j.a2 (a:=⟨w.heap.size+2,o,none⟩) (by simp[go_sem]) (by simp[go_sem]);have j:aa w w1:=(by(exact kp)))
 go_wp2_with fail
 go_region
 all_goals go_wp2
 all_goals refine bodyPost_ret (v:=.tuple #[.agg #[.int .u8 0,.int .u32 0],.agg #[.int .u8 0,.int .u32 0],.int .u8 1]) (by simp[results,Tryz.results268,go_sem,J,K,L,N,O,S]) rfl ⟨rfl,by(exact kp)⟩

theorem C9 (t:Nat)(l n:Int)(v:Edge)(x:Rec)(w:World)(a2:n≤16)(a3:t<w.heap.size)
  (N:∀j,aa w j→Calls Tryz.prog 48 #[.pointer (some ⟨t,0,none⟩)] j fun e w'=>e=.returned (.int .i64 n)∧j=w')
  (aw:0≤l) (a1:l<n)
  (L:∀j,aa w j→Calls Tryz.prog 134 #[.pointer (some ⟨t,0,none⟩),.int .u8 2,.agg #[.int .u8 v.tag,.int .u32 v.to],.int .i64 l] j fun e w'=>e=.returned (.bool true)∧aa j w')
  (K:∀j,aa w j→Calls Tryz.prog 78 #[.pointer (some ⟨t,0,none⟩),.int .u32 v.to] j fun e w'=>e=.returned (.tuple #[.agg #[.int .u8 x.ad,.int .u8 x.I,.int .u8 x.J,.int .u8 x.lo.tag,.int .u32 x.lo.to,.int .u8 x.hi.tag,.int .u32 x.hi.to],.bool false])∧aa j w')
  : Calls Tryz.prog 268 #[.pointer (some ⟨t,0,none⟩),.agg #[.int .u8 v.tag,.int .u32 v.to],.int .i64 l] w fun e w'=>e=.returned (.tuple #[.agg #[.int .u8 v.tag,.int .u32 v.to],.agg #[.int .u8 0,.int .u32 0],.int .u8 0])∧aa w w':=by
 have ab:=Lib.hid N
 clear N
 have Z:=Lib.hid L
 clear L
 have Y:=Lib.hid K
 clear K
 go_enter Tryz.func268,Tryz.ntmps268
 go_wp2_with (first|(go_at_call 48;refine(ab.out _ (by(exact kp))).mono ?_;rintro e w' ⟨rfl,rfl⟩)|fail)
 (go_at_call 134;refine(Z.out _ (by(exact kp))).mono ?_;rintro e w1 ⟨rfl,s⟩;have am:=s.size;simp only[World.size_alloc]at am;have av:w.heap.size<w1.heap.size:=(by omega);have O:w.heap.size+1<w1.heap.size:=(by omega);have S:w.heap.size+2<w1.heap.size:=(by omega);have U:=s.cell (a:=⟨w.heap.size,0,none⟩) (v:=.int .u8 v.tag) (by simp[go_sem]);have W:=s.cell (a:=⟨w.heap.size,1,none⟩) (v:=.int .u32 v.to) (by simp[go_sem]);have A:=s.cell (a:=⟨w.heap.size+1,0,none⟩) (v:=.int .u8 0) (by simp[go_sem]);have E:=s.cell (a:=⟨w.heap.size+1,1,none⟩) (v:=.int .u32 0) (by simp[go_sem]);have I:=s.cell (a:=⟨w.heap.size+2,0,none⟩) (v:=.int .u8 0) (by simp[go_sem]);have J:=s.cell (a:=⟨w.heap.size+2,1,none⟩) (v:=.int .u32 0) (by simp[go_sem]);have T:=fun o:Nat=>s.a2 (a:=⟨w.heap.size+1,o,none⟩) (by simp[go_sem]) (by simp[go_sem]);have X:=fun o:Nat=>s.a2 (a:=⟨w.heap.size+2,o,none⟩) (by simp[go_sem]) (by simp[go_sem]);have ad:aa w w1:=(by(exact kp)))
 go_wp2_with fail
 (go_at_call 78;refine(Y.out _ (by(exact kp))).mono ?_;rintro e z ⟨rfl,q⟩;have j:=q.size;have T:=fun o:Nat=>q.a2 (a:=⟨w.heap.size+1,o,none⟩) (by dsimp only;omega) (T o);have X:=fun o:Nat=>q.a2 (a:=⟨w.heap.size+2,o,none⟩) (by dsimp only;omega) (X o);have U:=q.cell U;have W:=q.cell W;have A:=q.cell A;have E:=q.cell E;have I:=q.cell I;have J:=q.cell J;have av:w.heap.size<z.heap.size:=(by omega);have O:w.heap.size+1<z.heap.size:=(by omega);have S:w.heap.size+2<z.heap.size:=(by omega);have j:aa w z:=ad.trans q)
 go_wp2_with fail
 all_goals refine bodyPost_ret (v:=.tuple #[.agg #[.int .u8 v.tag,.int .u32 v.to],.agg #[.int .u8 0,.int .u32 0],.int .u8 0]) (by simp[results,Tryz.results268,go_sem,O,S,A,E,I,J]) rfl ⟨rfl,by(exact kp)⟩

theorem C' (t:Nat)(l n:Int)(v:Edge)(x:Rec)(w:World)(a2:n≤16)(a3:t<w.heap.size)
  (N:∀j,aa w j→Calls Tryz.prog 48 #[.pointer (some ⟨t,0,none⟩)] j fun e w'=>e=.returned (.int .i64 n)∧j=w')
  (aw:0≤l) (a1:l<n)
  (L:∀j,aa w j→Calls Tryz.prog 134 #[.pointer (some ⟨t,0,none⟩),.int .u8 2,.agg #[.int .u8 v.tag,.int .u32 v.to],.int .i64 l] j fun e w'=>e=.returned (.bool true)∧aa j w')
  (a4:l<x.I) (a5:0≤x.I) (a6:x.I≤255) (a7:0≤x.J) (a8:x.J≤255)
  (K:∀j,aa w j→Calls Tryz.prog 78 #[.pointer (some ⟨t,0,none⟩),.int .u32 v.to] j fun e w'=>e=.returned (.tuple #[.agg #[.int .u8 x.ad,.int .u8 x.I,.int .u8 x.J,.int .u8 x.lo.tag,.int .u32 x.lo.to,.int .u8 x.hi.tag,.int .u32 x.hi.to],.bool true])∧aa j w')
  : Calls Tryz.prog 268 #[.pointer (some ⟨t,0,none⟩),.agg #[.int .u8 v.tag,.int .u32 v.to],.int .i64 l] w fun e w'=>e=.returned (.tuple #[.agg #[.int .u8 v.tag,.int .u32 v.to],.agg #[.int .u8 0,.int .u32 0],.int .u8 0])∧aa w w':=by
 have ab:=Lib.hid N
 clear N
 have Z:=Lib.hid L
 clear L
 have Y:=Lib.hid K
 clear K
 go_enter Tryz.func268,Tryz.ntmps268
 go_wp2_with (first|(go_at_call 48;refine(ab.out _ (by(exact kp))).mono ?_;rintro e w' ⟨rfl,rfl⟩)|fail)
 (go_at_call 134;refine(Z.out _ (by(exact kp))).mono ?_;rintro e w1 ⟨rfl,s⟩;have am:=s.size;simp only[World.size_alloc]at am;have av:w.heap.size<w1.heap.size:=(by omega);have O:w.heap.size+1<w1.heap.size:=(by omega);have S:w.heap.size+2<w1.heap.size:=(by omega);have U:=s.cell (a:=⟨w.heap.size,0,none⟩) (v:=.int .u8 v.tag) (by simp[go_sem]);have W:=s.cell (a:=⟨w.heap.size,1,none⟩) (v:=.int .u32 v.to) (by simp[go_sem]);have A:=s.cell (a:=⟨w.heap.size+1,0,none⟩) (v:=.int .u8 0) (by simp[go_sem]);have E:=s.cell (a:=⟨w.heap.size+1,1,none⟩) (v:=.int .u32 0) (by simp[go_sem]);have I:=s.cell (a:=⟨w.heap.size+2,0,none⟩) (v:=.int .u8 0) (by simp[go_sem]);have J:=s.cell (a:=⟨w.heap.size+2,1,none⟩) (v:=.int .u32 0) (by simp[go_sem]);have T:=fun o:Nat=>s.a2 (a:=⟨w.heap.size+1,o,none⟩) (by simp[go_sem]) (by simp[go_sem]);have X:=fun o:Nat=>s.a2 (a:=⟨w.heap.size+2,o,none⟩) (by simp[go_sem]) (by simp[go_sem]);have ad:aa w w1:=(by(exact kp)))
 go_wp2_with fail
 (go_at_call 78;refine(Y.out _ (by(exact kp))).mono ?_;rintro e z ⟨rfl,q⟩;have j:=q.size;have T:=fun o:Nat=>q.a2 (a:=⟨w.heap.size+1,o,none⟩) (by dsimp only;omega) (T o);have X:=fun o:Nat=>q.a2 (a:=⟨w.heap.size+2,o,none⟩) (by dsimp only;omega) (X o);have U:=q.cell U;have W:=q.cell W;have A:=q.cell A;have E:=q.cell E;have I:=q.cell I;have J:=q.cell J;have av:w.heap.size<z.heap.size:=(by omega);have O:w.heap.size+1<z.heap.size:=(by omega);have S:w.heap.size+2<z.heap.size:=(by omega);have j:aa w z:=ad.trans q)
 go_wp2_with fail
 all_goals refine bodyPost_ret (v:=.tuple #[.agg #[.int .u8 v.tag,.int .u32 v.to],.agg #[.int .u8 0,.int .u32 0],.int .u8 0]) (by simp[results,Tryz.results268,go_sem,O,S,A,E,I,J]) rfl ⟨rfl,by(exact kp)⟩

theorem C4 (t:Nat)(l n:Int)(v:Edge)(x:Rec)(w:World)(a2:n≤16)(a3:t<w.heap.size)
  (N:∀j,aa w j→Calls Tryz.prog 48 #[.pointer (some ⟨t,0,none⟩)] j fun e w'=>e=.returned (.int .i64 n)∧j=w')
  (aw:0≤l) (a1:l<n)
  (L:∀j,aa w j→Calls Tryz.prog 134 #[.pointer (some ⟨t,0,none⟩),.int .u8 2,.agg #[.int .u8 v.tag,.int .u32 v.to],.int .i64 l] j fun e w'=>e=.returned (.bool true)∧aa j w')
   (a4:0≤x.I) (a5:x.I≤255) (a6:0≤x.J) (a7:x.J≤255)
  (K:∀j,aa w j→Calls Tryz.prog 78 #[.pointer (some ⟨t,0,none⟩),.int .u32 v.to] j fun e w'=>e=.returned (.tuple #[.agg #[.int .u8 x.ad,.int .u8 l,.int .u8 x.J,.int .u8 x.lo.tag,.int .u32 x.lo.to,.int .u8 x.hi.tag,.int .u32 x.hi.to],.bool true])∧aa j w')
  : Calls Tryz.prog 268 #[.pointer (some ⟨t,0,none⟩),.agg #[.int .u8 v.tag,.int .u32 v.to],.int .i64 l] w fun e w'=>e=.returned (.tuple #[.agg #[.int .u8 x.lo.tag,.int .u32 x.lo.to],.agg #[.int .u8 x.hi.tag,.int .u32 x.hi.to],.int .u8 0])∧aa w w':=by
 have ab:=Lib.hid N
 clear N
 have Z:=Lib.hid L
 clear L
 have Y:=Lib.hid K
 clear K
 go_enter Tryz.func268,Tryz.ntmps268
 go_wp2_with (first|(go_at_call 48;refine(ab.out _ (by(exact kp))).mono ?_;rintro e w' ⟨rfl,rfl⟩)|fail)
 (go_at_call 134;refine(Z.out _ (by(exact kp))).mono ?_;rintro e w1 ⟨rfl,s⟩;have am:=s.size;simp only[World.size_alloc]at am;have av:w.heap.size<w1.heap.size:=(by omega);have O:w.heap.size+1<w1.heap.size:=(by omega);have S:w.heap.size+2<w1.heap.size:=(by omega);have U:=s.cell (a:=⟨w.heap.size,0,none⟩) (v:=.int .u8 v.tag) (by simp[go_sem]);have W:=s.cell (a:=⟨w.heap.size,1,none⟩) (v:=.int .u32 v.to) (by simp[go_sem]);have A:=s.cell (a:=⟨w.heap.size+1,0,none⟩) (v:=.int .u8 0) (by simp[go_sem]);have E:=s.cell (a:=⟨w.heap.size+1,1,none⟩) (v:=.int .u32 0) (by simp[go_sem]);have I:=s.cell (a:=⟨w.heap.size+2,0,none⟩) (v:=.int .u8 0) (by simp[go_sem]);have J:=s.cell (a:=⟨w.heap.size+2,1,none⟩) (v:=.int .u32 0) (by simp[go_sem]);have T:=fun o:Nat=>s.a2 (a:=⟨w.heap.size+1,o,none⟩) (by simp[go_sem]) (by simp[go_sem]);have X:=fun o:Nat=>s.a2 (a:=⟨w.heap.size+2,o,none⟩) (by simp[go_sem]) (by simp[go_sem]);have ad:aa w w1:=(by(exact kp)))
 go_wp2_with fail
 (go_at_call 78;refine(Y.out _ (by(exact kp))).mono ?_;rintro e z ⟨rfl,q⟩;have j:=q.size;have T:=fun o:Nat=>q.a2 (a:=⟨w.heap.size+1,o,none⟩) (by dsimp only;omega) (T o);have X:=fun o:Nat=>q.a2 (a:=⟨w.heap.size+2,o,none⟩) (by dsimp only;omega) (X o);have U:=q.cell U;have W:=q.cell W;have A:=q.cell A;have E:=q.cell E;have I:=q.cell I;have J:=q.cell J;have av:w.heap.size<z.heap.size:=(by omega);have O:w.heap.size+1<z.heap.size:=(by omega);have S:w.heap.size+2<z.heap.size:=(by omega);have j:aa w z:=ad.trans q)
 go_wp2_with fail
 go_region
 all_goals go_wp2
 all_goals refine bodyPost_ret (v:=.tuple #[.agg #[.int .u8 x.lo.tag,.int .u32 x.lo.to],.agg #[.int .u8 x.hi.tag,.int .u32 x.hi.to],.int .u8 0]) (by simp[results,Tryz.results268,go_sem,O,S,A,E,I,J]) rfl ⟨rfl,by(exact kp)⟩

end Go.Proofs.YtafkamlhimkbmaaGreat
