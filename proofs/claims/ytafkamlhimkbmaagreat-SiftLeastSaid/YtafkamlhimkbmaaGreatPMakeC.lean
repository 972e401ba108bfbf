/-
  The walk of cbdd.Make, case by case (printed by wip/mk_make2.py).
-/
import Derived.Test.YtafkamlhimkbmaaGreatPOrderB
import Derived.BigRegion
import Derived.IntWalk
namespace Go.Proofs.YtafkamlhimkbmaaGreat
set_option maxRecDepth 1000000
set_option maxHeartbeats 8000000
set_option linter.unusedSimpArgs false
set_option linter.unusedVariables false
open Go.RowKit

theorem tS (j:Nat)(l n:Int)(lo hi:Edge)(w:World)(E:n≤16)(I:j<w.heap.size)
  (t:∀s,aa w s→Calls Tryz.prog 48 #[.pointer (some ⟨j,0,none⟩)] s fun e q=>e=.returned (.int .i64 n)∧s=q)
  (A:l<0)
  : Calls Tryz.prog 123 #[.pointer (some ⟨j,0,none⟩),.int .i64 l,.agg #[.int .u8 lo.tag,.int .u32 lo.to],.agg #[.int .u8 hi.tag,.int .u32 hi.to]] w fun e q=>e=.returned (.tuple #[.agg #[.int .u8 0,.int .u32 0],.int .u8 3])∧aa w q:=by
 have s:j<w.heap.size+1:=by omega
 have s:j<w.heap.size+1+1:=by omega
 have z:=Lib.hid t
 clear t
 go_enter Tryz.func123,Tryz.ntmps123
 go_wp2_with (first|(go_at_call 48;refine(z.out _ (by(exact kp))).mono ?_;rintro e q ⟨rfl,rfl⟩)|fail)
 all_goals refine bodyPost_ret (v:=.tuple #[.agg #[.int .u8 0,.int .u32 0],.int .u8 3]) (by simp[results,Tryz.results123,go_sem]) rfl ⟨rfl,by(exact kp)⟩

theorem tN (j:Nat)(l n:Int)(lo hi:Edge)(w:World)(I:n≤16)(J:j<w.heap.size)
  (t:∀s,aa w s→Calls Tryz.prog 48 #[.pointer (some ⟨j,0,none⟩)] s fun e q=>e=.returned (.int .i64 n)∧s=q)
  (A:0≤l) (E:n≤l)
  : Calls Tryz.prog 123 #[.pointer (some ⟨j,0,none⟩),.int .i64 l,.agg #[.int .u8 lo.tag,.int .u32 lo.to],.agg #[.int .u8 hi.tag,.int .u32 hi.to]] w fun e q=>e=.returned (.tuple #[.agg #[.int .u8 0,.int .u32 0],.int .u8 3])∧aa w q:=by
 have s:j<w.heap.size+1:=by omega
 have s:j<w.heap.size+1+1:=by omega
 have z:=Lib.hid t
 clear t
 go_enter Tryz.func123,Tryz.ntmps123
 go_wp2_with (first|(go_at_call 48;refine(z.out _ (by(exact kp))).mono ?_;rintro e q ⟨rfl,rfl⟩)|fail)
 all_goals refine bodyPost_ret (v:=.tuple #[.agg #[.int .u8 0,.int .u32 0],.int .u8 3]) (by simp[results,Tryz.results123,go_sem]) rfl ⟨rfl,by(exact kp)⟩

theorem tR (s:Nat)(l n:Int)(lo hi:Edge)(w:World)(T:n≤16)(U:s<w.heap.size)
  (A:∀q,aa w q→Calls Tryz.prog 48 #[.pointer (some ⟨s,0,none⟩)] q fun e t=>e=.returned (.int .i64 n)∧q=t)
  (O:0≤l) (S:l<n)
  (z:∀q,aa w q→Calls Tryz.prog 134 #[.pointer (some ⟨s,0,none⟩),.int .u8 3,.agg #[.int .u8 lo.tag,.int .u32 lo.to],.int .i64 (l+1)] q fun e t=>e=.returned (.bool false)∧aa q t)
  : Calls Tryz.prog 123 #[.pointer (some ⟨s,0,none⟩),.int .i64 l,.agg #[.int .u8 lo.tag,.int .u32 lo.to],.agg #[.int .u8 hi.tag,.int .u32 hi.to]] w fun e t=>e=.returned (.tuple #[.agg #[.int .u8 0,.int .u32 0],.int .u8 1])∧aa w t:=by
 have q:s<w.heap.size+1:=by omega
 have q:s<w.heap.size+1+1:=by omega
 have I:=Lib.hid A
 clear A
 have E:=Lib.hid z
 clear z
 go_enter Tryz.func123,Tryz.ntmps123
 go_wp2_with (first|(go_at_call 48;refine(I.out _ (by(exact kp))).mono ?_;rintro e t ⟨rfl,rfl⟩)|fail)
 (go_at_call 134;refine(E.out _ (by(exact kp))).mono ?_;rintro e w1 ⟨rfl,j⟩;have J:=j.size;simp only[World.size_alloc]at J;have q:w.heap.size<w1.heap.size:=(by omega);have q:w.heap.size+1<w1.heap.size:=(by omega);have K:w.heap.size+2<w1.heap.size:=(by omega);have q:=j.cell (a:=⟨w.heap.size,0,none⟩) (v:=.int .u8 lo.tag) (by simp[go_sem]);have q:=j.cell (a:=⟨w.heap.size,1,none⟩) (v:=.int .u32 lo.to) (by simp[go_sem]);have q:=j.cell (a:=⟨w.heap.size+1,0,none⟩) (v:=.int .u8 hi.tag) (by simp[go_sem]);have q:=j.cell (a:=⟨w.heap.size+1,1,none⟩) (v:=.int .u32 hi.to) (by simp[go_sem]);have L:=j.cell (a:=⟨w.heap.size+2,0,none⟩) (v:=.int .u8 0) (by simp[go_sem]);have N:=j.cell (a:=⟨w.heap.size+2,1,none⟩) (v:=.int .u32 0) (by simp[go_sem]);have q:=fun o:Nat=>j.a2 (a:=⟨w.heap.size+2,o,none⟩) (by simp[go_sem]) (by simp[go_sem]);have j:aa w w1:=(by(exact kp)))
 go_wp2_with fail
 all_goals refine bodyPost_ret (v:=.tuple #[.agg #[.int .u8 0,.int .u32 0],.int .u8 1]) (by simp[results,Tryz.results123,go_sem,K,L,N]) rfl ⟨rfl,by(exact kp)⟩

theorem tP (t:Nat)(l n:Int)(lo hi:Edge)(w:World)(aw:n≤16)(a1:t<w.heap.size)
  (K:∀q,aa w q→Calls Tryz.prog 48 #[.pointer (some ⟨t,0,none⟩)] q fun e s=>e=.returned (.int .i64 n)∧q=s)
  (am:0≤l) (av:l<n)
  (I:∀q,aa w q→Calls Tryz.prog 134 #[.pointer (some ⟨t,0,none⟩),.int .u8 3,.agg #[.int .u8 lo.tag,.int .u32 lo.to],.int .i64 (l+1)] q fun e s=>e=.returned (.bool true)∧aa q s)
  (E:∀q,aa w q→Calls Tryz.prog 134 #[.pointer (some ⟨t,0,none⟩),.int .u8 3,.agg #[.int .u8 hi.tag,.int .u32 hi.to],.int .i64 (l+1)] q fun e s=>e=.returned (.bool false)∧aa q s)
  : Calls Tryz.prog 123 #[.pointer (some ⟨t,0,none⟩),.int .i64 l,.agg #[.int .u8 lo.tag,.int .u32 lo.to],.agg #[.int .u8 hi.tag,.int .u32 hi.to]] w fun e s=>e=.returned (.tuple #[.agg #[.int .u8 0,.int .u32 0],.int .u8 1])∧aa w s:=by
 have q:t<w.heap.size+1:=by omega
 have q:t<w.heap.size+1+1:=by omega
 have Y:=Lib.hid K
 clear K
 have X:=Lib.hid I
 clear I
 have W:=Lib.hid E
 clear E
 go_enter Tryz.func123,Tryz.ntmps123
 go_wp2_with (first|(go_at_call 48;refine(Y.out _ (by(exact kp))).mono ?_;rintro e s ⟨rfl,rfl⟩)|fail)
 (go_at_call 134;refine(X.out _ (by(exact kp))).mono ?_;rintro e w1 ⟨rfl,j⟩;have J:=j.size;simp only[World.size_alloc]at J;have ab:w.heap.size<w1.heap.size:=(by omega);have ad:w.heap.size+1<w1.heap.size:=(by omega);have L:w.heap.size+2<w1.heap.size:=(by omega);have S:=j.cell (a:=⟨w.heap.size,0,none⟩) (v:=.int .u8 lo.tag) (by simp[go_sem]);have T:=j.cell (a:=⟨w.heap.size,1,none⟩) (v:=.int .u32 lo.to) (by simp[go_sem]);have N:=j.cell (a:=⟨w.heap.size+1,0,none⟩) (v:=.int .u8 hi.tag) (by simp[go_sem]);have O:=j.cell (a:=⟨w.heap.size+1,1,none⟩) (v:=.int .u32 hi.to) (by simp[go_sem]);have z:=j.cell (a:=⟨w.heap.size+2,0,none⟩) (v:=.int .u8 0) (by simp[go_sem]);have A:=j.cell (a:=⟨w.heap.size+2,1,none⟩) (v:=.int .u32 0) (by simp[go_sem]);have U:=fun o:Nat=>j.a2 (a:=⟨w.heap.size+2,o,none⟩) (by simp[go_sem]) (by simp[go_sem]);have Z:aa w w1:=(by(exact kp)))
 go_wp2_with fail
 (go_at_call 134;refine(W.out _ (by(exact kp))).mono ?_;rintro e w1 ⟨rfl,j⟩;have J:=j.size;have U:=fun o:Nat=>j.a2 (a:=⟨w.heap.size+2,o,none⟩) (by dsimp only;omega) (U o);have S:=j.cell S;have T:=j.cell T;have N:=j.cell N;have O:=j.cell O;have z:=j.cell z;have A:=j.cell A;have ab:w.heap.size<w1.heap.size:=(by omega);have ad:w.heap.size+1<w1.heap.size:=(by omega);have L:w.heap.size+2<w1.heap.size:=(by omega);have Z:aa w w1:=(by(exact kp)))
 go_wp2_with fail
 all_goals refine bodyPost_ret (v:=.tuple #[.agg #[.int .u8 0,.int .u32 0],.int .u8 1]) (by simp[results,Tryz.results123,go_sem,L,z,A]) rfl ⟨rfl,by(exact kp)⟩

theorem tU (t:Nat)(l n:Int)(lo hi:Edge)(w:World)(a1:n≤16)(a2:t<w.heap.size)
  (L:∀q,aa w q→Calls Tryz.prog 48 #[.pointer (some ⟨t,0,none⟩)] q fun e s=>e=.returned (.int .i64 n)∧q=s)
  (av:0≤l) (aw:l<n)
  (J:∀q,aa w q→Calls Tryz.prog 134 #[.pointer (some ⟨t,0,none⟩),.int .u8 3,.agg #[.int .u8 lo.tag,.int .u32 lo.to],.int .i64 (l+1)] q fun e s=>e=.returned (.bool true)∧aa q s)
  (I:∀q,aa w q→Calls Tryz.prog 134 #[.pointer (some ⟨t,0,none⟩),.int .u8 3,.agg #[.int .u8 hi.tag,.int .u32 hi.to],.int .i64 (l+1)] q fun e s=>e=.returned (.bool true)∧aa q s)
  (z:lo=hi)
  : Calls Tryz.prog 123 #[.pointer (some ⟨t,0,none⟩),.int .i64 l,.agg #[.int .u8 lo.tag,.int .u32 lo.to],.agg #[.int .u8 hi.tag,.int .u32 hi.to]] w fun e s=>e=.returned (.tuple #[.agg #[.int .u8 lo.tag,.int .u32 lo.to],.int .u8 0])∧aa w s:=by
 have q:t<w.heap.size+1:=by omega
 have q:t<w.heap.size+1+1:=by omega
 have Z:=Lib.hid L
 clear L
 have Y:=Lib.hid J
 clear J
 have X:=Lib.hid I
 clear I
 have q:=gI lo hi z
 have q:=Lib.hid z
 clear z
 go_enter Tryz.func123,Tryz.ntmps123
 go_wp2_with (first|(go_at_call 48;refine(Z.out _ (by(exact kp))).mono ?_;rintro e s ⟨rfl,rfl⟩)|fail)
 (go_at_call 134;refine(Y.out _ (by(exact kp))).mono ?_;rintro e w1 ⟨rfl,j⟩;have K:=j.size;simp only[World.size_alloc]at K;have ad:w.heap.size<w1.heap.size:=(by omega);have am:w.heap.size+1<w1.heap.size:=(by omega);have N:w.heap.size+2<w1.heap.size:=(by omega);have T:=j.cell (a:=⟨w.heap.size,0,none⟩) (v:=.int .u8 lo.tag) (by simp[go_sem]);have U:=j.cell (a:=⟨w.heap.size,1,none⟩) (v:=.int .u32 lo.to) (by simp[go_sem]);have O:=j.cell (a:=⟨w.heap.size+1,0,none⟩) (v:=.int .u8 hi.tag) (by simp[go_sem]);have S:=j.cell (a:=⟨w.heap.size+1,1,none⟩) (v:=.int .u32 hi.to) (by simp[go_sem]);have A:=j.cell (a:=⟨w.heap.size+2,0,none⟩) (v:=.int .u8 0) (by simp[go_sem]);have E:=j.cell (a:=⟨w.heap.size+2,1,none⟩) (v:=.int .u32 0) (by simp[go_sem]);have W:=fun o:Nat=>j.a2 (a:=⟨w.heap.size+2,o,none⟩) (by simp[go_sem]) (by simp[go_sem]);have ab:aa w w1:=(by(exact kp)))
 go_wp2_with fail
 (go_at_call 134;refine(X.out _ (by(exact kp))).mono ?_;rintro e w1 ⟨rfl,j⟩;have K:=j.size;have W:=fun o:Nat=>j.a2 (a:=⟨w.heap.size+2,o,none⟩) (by dsimp only;omega) (W o);have T:=j.cell T;have U:=j.cell U;have O:=j.cell O;have S:=j.cell S;have A:=j.cell A;have E:=j.cell E;have ad:w.heap.size<w1.heap.size:=(by omega);have am:w.heap.size+1<w1.heap.size:=(by omega);have N:w.heap.size+2<w1.heap.size:=(by omega);have ab:aa w w1:=(by(exact kp)))
 go_wp2_with fail
 all_goals refine bodyPost_ret (v:=.tuple #[.agg #[.int .u8 lo.tag,.int .u32 lo.to],.int .u8 0]) (by simp[results,Tryz.results123,go_sem,N,A,E]) rfl ⟨rfl,by(exact kp)⟩

theorem tT {F:Nat→Prop}(R:World→World→Prop)(z:Nat)(l n:Int)(lo hi:Edge)(x:Rec)(a b Y:Int)(w:World)(bv:n≤16)(bw:z<w.heap.size)
  (a3:∀j,aa w j→Calls Tryz.prog 48 #[.pointer (some ⟨z,0,none⟩)] j fun e s=>e=.returned (.int .i64 n)∧j=s)
  (bs:0≤l) (bt:l<n)
  (aw:∀j,aa w j→Calls Tryz.prog 134 #[.pointer (some ⟨z,0,none⟩),.int .u8 3,.agg #[.int .u8 lo.tag,.int .u32 lo.to],.int .i64 (l+1)] j fun e s=>e=.returned (.bool true)∧aa j s)
  (av:∀j,aa w j→Calls Tryz.prog 134 #[.pointer (some ⟨z,0,none⟩),.int .u8 3,.agg #[.int .u8 hi.tag,.int .u32 hi.to],.int .i64 (l+1)] j fun e s=>e=.returned (.bool true)∧aa j s)
  (Z:¬lo=hi)
  (am:∀j,aa w j→Calls Tryz.prog 78 #[.pointer (some ⟨z,0,none⟩),.int .u32 lo.to] j fun e s=>e=.returned (.tuple #[.agg #[.int .u8 x.ad,.int .u8 x.I,.int .u8 x.J,.int .u8 x.lo.tag,.int .u32 x.lo.to,.int .u8 x.hi.tag,.int .u32 x.hi.to],.bool false])∧aa j s)
  (a1:∀k,F k→k<w.heap.size) (ad:∀j,aa w j→Calls Tryz.prog 188 #[.pointer (some ⟨z,0,none⟩),.agg #[.int .u8 3,.int .u8 l,.int .u8 l,.int .u8 lo.tag,.int .u32 lo.to,.int .u8 hi.tag,.int .u32 hi.to]] j fun e s=>e=.returned (.tuple #[.agg #[.int .u8 a,.int .u32 b],.int .u8 Y])∧ae F j s∧R j s)
  : Calls Tryz.prog 123 #[.pointer (some ⟨z,0,none⟩),.int .i64 l,.agg #[.int .u8 lo.tag,.int .u32 lo.to],.agg #[.int .u8 hi.tag,.int .u32 hi.to]] w fun e s=>e=.returned (.tuple #[.agg #[.int .u8 a,.int .u32 b],.int .u8 Y]) ∧ 
   ∃j X,aa w j∧ae F j X∧R j X∧ae (fun k=>w.heap.size≤k∧k<j.heap.size) X s:=by
 have j:z<w.heap.size+1:=by omega
 have j:z<w.heap.size+1+1:=by omega
 have be:=Lib.hid a3
 clear a3
 have bb:=Lib.hid aw
 clear aw
 have a':=Lib.hid av
 clear av
 have a7:=Lib.hid ad
 have j:∀k,w.heap.size≤k→¬F k:=fun k E h=>by have:=a1 k h;omega
 have ab:=j (w.heap.size+2) (by omega)
 clear ad a1 j
 have j:=fJ lo hi Z
 have j:=Lib.hid Z
 clear Z
 have a8:=Lib.hid am
 clear am
 go_enter Tryz.func123,Tryz.ntmps123
 go_wp2_with (first|(go_at_call 48;refine(be.out _ (by(exact kp))).mono ?_;rintro e s ⟨rfl,rfl⟩)|fail)
 (go_at_call 134;refine(bb.out _ (by(exact kp))).mono ?_;rintro e w1 ⟨rfl,q⟩;have a2:=q.size;simp only[World.size_alloc]at a2;have a4:w.heap.size<w1.heap.size:=(by omega);have a5:w.heap.size+1<w1.heap.size:=(by omega);have O:w.heap.size+2<w1.heap.size:=(by omega);have U:=q.cell (a:=⟨w.heap.size,0,none⟩) (v:=.int .u8 lo.tag) (by simp[go_sem]);have W:=q.cell (a:=⟨w.heap.size,1,none⟩) (v:=.int .u32 lo.to) (by simp[go_sem]);have S:=q.cell (a:=⟨w.heap.size+1,0,none⟩) (v:=.int .u8 hi.tag) (by simp[go_sem]);have T:=q.cell (a:=⟨w.heap.size+1,1,none⟩) (v:=.int .u32 hi.to) (by simp[go_sem]);have K:=q.cell (a:=⟨w.heap.size+2,0,none⟩) (v:=.int .u8 0) (by simp[go_sem]);have L:=q.cell (a:=⟨w.heap.size+2,1,none⟩) (v:=.int .u32 0) (by simp[go_sem]);have N:=fun o:Nat=>q.a2 (a:=⟨w.heap.size+2,o,none⟩) (by simp[go_sem]) (by simp[go_sem]);have E:aa w w1:=(by(exact kp)))
 go_wp2_with fail
 (go_at_call 134;refine(a'.out _ (by(exact kp))).mono ?_;rintro e w1 ⟨rfl,q⟩;have a2:=q.size;have N:=fun o:Nat=>q.a2 (a:=⟨w.heap.size+2,o,none⟩) (by dsimp only;omega) (N o);have U:=q.cell U;have W:=q.cell W;have S:=q.cell S;have T:=q.cell T;have K:=q.cell K;have L:=q.cell L;have a4:w.heap.size<w1.heap.size:=(by omega);have a5:w.heap.size+1<w1.heap.size:=(by omega);have O:w.heap.size+2<w1.heap.size:=(by omega);have E:aa w w1:=(by(exact kp)))
 go_wp2_with fail
 (go_at_call 78;refine(a8.out _ (by(exact kp))).mono ?_;rintro e I ⟨rfl,t⟩;have bi:=t.size;simp only[World.size_alloc]at bi;have j:=t.cell (a:=⟨w1.heap.size,0,none⟩) (v:=.int .u8 3) (by simp[go_sem]);have j:=t.cell (a:=⟨w1.heap.size,1,none⟩) (v:=.int .u8 l) (by simp[go_sem]);have j:=t.cell (a:=⟨w1.heap.size,2,none⟩) (v:=.int .u8 l) (by simp[go_sem]);have j:=t.cell (a:=⟨w1.heap.size,3,none⟩) (v:=.int .u8 lo.tag) (by simp[go_sem]);have j:=t.cell (a:=⟨w1.heap.size,4,none⟩) (v:=.int .u32 lo.to) (by simp[go_sem]);have j:=t.cell (a:=⟨w1.heap.size,5,none⟩) (v:=.int .u8 hi.tag) (by simp[go_sem]);have j:=t.cell (a:=⟨w1.heap.size,6,none⟩) (v:=.int .u32 hi.to) (by simp[go_sem]);have j:=fun o:Nat=>t.a2 (a:=⟨w1.heap.size,o,none⟩) (by simp[go_sem]) (by simp[go_sem]);have A:aa w1 I:=((aa.refl _).alloc _).trans t;have N:=fun o:Nat=>A.a2 (a:=⟨w.heap.size+2,o,none⟩) (by dsimp only;omega) (N o);have U:=A.cell U;have W:=A.cell W;have S:=A.cell S;have T:=A.cell T;have K:=A.cell K;have L:=A.cell L;have a4:w.heap.size<I.heap.size:=(by omega);have a5:w.heap.size+1<I.heap.size:=(by omega);have O:w.heap.size+2<I.heap.size:=(by omega);have j:w1.heap.size<I.heap.size:=(by omega);have j:aa w I:=E.trans A)
 all_goals go_wp2_with (first|(go_at_call 188;refine(a7.out _ (by(exact kp))).mono ?_;rintro e a6 ⟨rfl,J,bg⟩;have bn:=J.size;(try simp only[World.size_alloc,World.size_setCell,World.a3]at bn);have bq:=J.cell (a:=⟨w.heap.size+2,0,none⟩) ab (v:=.int .u8 0) (by simp[go_sem,O,K]);have br:=J.cell (a:=⟨w.heap.size+2,1,none⟩) ab (v:=.int .u32 0) (by simp[go_sem,O,L]);have j:=fun o:Nat=>J.frozen (a:=⟨w.heap.size+2,o,none⟩) (by(try simp only[World.size_alloc,World.size_setCell,World.a3]);omega) ab (by(try simp only[World.frozen?_setCell,World.frozen?_drew,frozen?_alloc_cells]);exact N o);have bp:w.heap.size+2<a6.heap.size:=(by omega))|fail)
 all_goals refine bodyPost_ret (v:=.tuple #[.agg #[.int .u8 a,.int .u32 b],.int .u8 Y]) (by simp[results,Tryz.results123,go_sem,bp,bq,br]) rfl ⟨rfl,_,a6,by(exact kp),J,bg,?_⟩
 all_goals(try simp only[World.size_alloc,World.size_setCell,World.a3])
 all_goals(repeat (first|with_reducible exact ae.refl _ _|exact ae.mono j (fun k _ E=>⟨E.1,by(try simp only[World.size_alloc,World.size_setCell,World.a3]);have:=E.2;omega⟩)|refine ae.setCell ?_ (Or.inl (by dsimp only;omega)) _|refine ae.setCell ?_ (Or.inr (by dsimp only;omega)) _|with_reducible refine ae.drewN ?_ _|with_reducible refine ae.drew ?_|with_reducible refine ae.alloc ?_ _))

theorem tV {F:Nat→Prop}(R:World→World→Prop)(z:Nat)(l n:Int)(lo hi:Edge)(x:Rec)(a b Y:Int)(w:World)(bw:n≤16)(bx:z<w.heap.size)
  (a3:∀j,aa w j→Calls Tryz.prog 48 #[.pointer (some ⟨z,0,none⟩)] j fun e s=>e=.returned (.int .i64 n)∧j=s)
  (bt:0≤l) (bv:l<n)
  (aw:∀j,aa w j→Calls Tryz.prog 134 #[.pointer (some ⟨z,0,none⟩),.int .u8 3,.agg #[.int .u8 lo.tag,.int .u32 lo.to],.int .i64 (l+1)] j fun e s=>e=.returned (.bool true)∧aa j s)
  (av:∀j,aa w j→Calls Tryz.prog 134 #[.pointer (some ⟨z,0,none⟩),.int .u8 3,.agg #[.int .u8 hi.tag,.int .u32 hi.to],.int .i64 (l+1)] j fun e s=>e=.returned (.bool true)∧aa j s)
  (Z:¬lo=hi)
  (bq:¬x.I=l+1) (b0:0≤x.I) (b1:x.I≤255)
  (am:∀j,aa w j→Calls Tryz.prog 78 #[.pointer (some ⟨z,0,none⟩),.int .u32 lo.to] j fun e s=>e=.returned (.tuple #[.agg #[.int .u8 x.ad,.int .u8 x.I,.int .u8 x.J,.int .u8 x.lo.tag,.int .u32 x.lo.to,.int .u8 x.hi.tag,.int .u32 x.hi.to],.bool true])∧aa j s)
  (a1:∀k,F k→k<w.heap.size) (ad:∀j,aa w j→Calls Tryz.prog 188 #[.pointer (some ⟨z,0,none⟩),.agg #[.int .u8 3,.int .u8 l,.int .u8 l,.int .u8 lo.tag,.int .u32 lo.to,.int .u8 hi.tag,.int .u32 hi.to]] j fun e s=>e=.returned (.tuple #[.agg #[.int .u8 a,.int .u32 b],.int .u8 Y])∧ae F j s∧R j s)
  : Calls Tryz.prog 123 #[.pointer (some ⟨z,0,none⟩),.int .i64 l,.agg #[.int .u8 lo.tag,.int .u32 lo.to],.agg #[.int .u8 hi.tag,.int .u32 hi.to]] w fun e s=>e=.returned (.tuple #[.agg #[.int .u8 a,.int .u32 b],.int .u8 Y]) ∧ 
   ∃j X,aa w j∧ae F j X∧R j X∧ae (fun k=>w.heap.size≤k∧k<j.heap.size) X s:=by
 have j:z<w.heap.size+1:=by omega
 have j:z<w.heap.size+1+1:=by omega
 have be:=Lib.hid a3
 clear a3
 have bb:=Lib.hid aw
 clear aw
 have a':=Lib.hid av
 clear av
 have a7:=Lib.hid ad
 have j:∀k,w.heap.size≤k→¬F k:=fun k E h=>by have:=a1 k h;omega
 have ab:=j (w.heap.size+2) (by omega)
 clear ad a1 j
 have j:=fJ lo hi Z
 have j:=Lib.hid Z
 clear Z
 have j:(x.I==l+1)=false:=by simp[bq]
 have a8:=Lib.hid am
 clear am
 go_enter Tryz.func123,Tryz.ntmps123
 go_wp2_with (first|(go_at_call 48;refine(be.out _ (by(exact kp))).mono ?_;rintro e s ⟨rfl,rfl⟩)|fail)
 (go_at_call 134;refine(bb.out _ (by(exact kp))).mono ?_;rintro e w1 ⟨rfl,q⟩;have a2:=q.size;simp only[World.size_alloc]at a2;have a4:w.heap.size<w1.heap.size:=(by omega);have a5:w.heap.size+1<w1.heap.size:=(by omega);have O:w.heap.size+2<w1.heap.size:=(by omega);have U:=q.cell (a:=⟨w.heap.size,0,none⟩) (v:=.int .u8 lo.tag) (by simp[go_sem]);have W:=q.cell (a:=⟨w.heap.size,1,none⟩) (v:=.int .u32 lo.to) (by simp[go_sem]);have S:=q.cell (a:=⟨w.heap.size+1,0,none⟩) (v:=.int .u8 hi.tag) (by simp[go_sem]);have T:=q.cell (a:=⟨w.heap.size+1,1,none⟩) (v:=.int .u32 hi.to) (by simp[go_sem]);have K:=q.cell (a:=⟨w.heap.size+2,0,none⟩) (v:=.int .u8 0) (by simp[go_sem]);have L:=q.cell (a:=⟨w.heap.size+2,1,none⟩) (v:=.int .u32 0) (by simp[go_sem]);have N:=fun o:Nat=>q.a2 (a:=⟨w.heap.size+2,o,none⟩) (by simp[go_sem]) (by simp[go_sem]);have E:aa w w1:=(by(exact kp)))
 go_wp2_with fail
 (go_at_call 134;refine(a'.out _ (by(exact kp))).mono ?_;rintro e w1 ⟨rfl,q⟩;have a2:=q.size;have N:=fun o:Nat=>q.a2 (a:=⟨w.heap.size+2,o,none⟩) (by dsimp only;omega) (N o);have U:=q.cell U;have W:=q.cell W;have S:=q.cell S;have T:=q.cell T;have K:=q.cell K;have L:=q.cell L;have a4:w.heap.size<w1.heap.size:=(by omega);have a5:w.heap.size+1<w1.heap.size:=(by omega);have O:w.heap.size+2<w1.heap.size:=(by omega);have E:aa w w1:=(by(exact kp)))
 go_wp2_with fail
 (go_at_call 78;refine(a8.out _ (by(exact kp))).mono ?_;rintro e I ⟨rfl,t⟩;have bi:=t.size;simp only[World.size_alloc]at bi;have j:=t.cell (a:=⟨w1.heap.size,0,none⟩) (v:=.int .u8 3) (by simp[go_sem]);have j:=t.cell (a:=⟨w1.heap.size,1,none⟩) (v:=.int .u8 l) (by simp[go_sem]);have j:=t.cell (a:=⟨w1.heap.size,2,none⟩) (v:=.int .u8 l) (by simp[go_sem]);have j:=t.cell (a:=⟨w1.heap.size,3,none⟩) (v:=.int .u8 lo.tag) (by simp[go_sem]);have j:=t.cell (a:=⟨w1.heap.size,4,none⟩) (v:=.int .u32 lo.to) (by simp[go_sem]);have j:=t.cell (a:=⟨w1.heap.size,5,none⟩) (v:=.int .u8 hi.tag) (by simp[go_sem]);have j:=t.cell (a:=⟨w1.heap.size,6,none⟩) (v:=.int .u32 hi.to) (by simp[go_sem]);have j:=fun o:Nat=>t.a2 (a:=⟨w1.heap.size,o,none⟩) (by simp[go_sem]) (by simp[go_sem]);have A:aa w1 I:=((aa.refl _).alloc _).trans t;have N:=fun o:Nat=>A.a2 (a:=⟨w.heap.size+2,o,none⟩) (by dsimp only;omega) (N o);have U:=A.cell U;have W:=A.cell W;have S:=A.cell S;have T:=A.cell T;have K:=A.cell K;have L:=A.cell L;have a4:w.heap.size<I.heap.size:=(by omega);have a5:w.heap.size+1<I.heap.size:=(by omega);have O:w.heap.size+2<I.heap.size:=(by omega);have j:w1.heap.size<I.heap.size:=(by omega);have j:aa w I:=E.trans A)
 all_goals go_wp2_with (first|(go_at_call 188;refine(a7.out _ (by(exact kp))).mono ?_;rintro e a6 ⟨rfl,J,bg⟩;have bn:=J.size;(try simp only[World.size_alloc,World.size_setCell,World.a3]at bn);have br:=J.cell (a:=⟨w.heap.size+2,0,none⟩) ab (v:=.int .u8 0) (by simp[go_sem,O,K]);have bs:=J.cell (a:=⟨w.heap.size+2,1,none⟩) ab (v:=.int .u32 0) (by simp[go_sem,O,L]);have j:=fun o:Nat=>J.frozen (a:=⟨w.heap.size+2,o,none⟩) (by(try simp only[World.size_alloc,World.size_setCell,World.a3]);omega) ab (by(try simp only[World.frozen?_setCell,World.frozen?_drew,frozen?_alloc_cells]);exact N o);have bp:w.heap.size+2<a6.heap.size:=(by omega))|fail)
 all_goals refine bodyPost_ret (v:=.tuple #[.agg #[.int .u8 a,.int .u32 b],.int .u8 Y]) (by simp[results,Tryz.results123,go_sem,bp,br,bs]) rfl ⟨rfl,_,a6,by(exact kp),J,bg,?_⟩
 all_goals(try simp only[World.size_alloc,World.size_setCell,World.a3])
 all_goals(repeat (first|with_reducible exact ae.refl _ _|exact ae.mono j (fun k _ E=>⟨E.1,by(try simp only[World.size_alloc,World.size_setCell,World.a3]);have:=E.2;omega⟩)|refine ae.setCell ?_ (Or.inl (by dsimp only;omega)) _|refine ae.setCell ?_ (Or.inr (by dsimp only;omega)) _|with_reducible refine ae.drewN ?_ _|with_reducible refine ae.drew ?_|with_reducible refine ae.alloc ?_ _))

theorem tQ {F:Nat→Prop}(R:World→World→Prop)(z:Nat)(l n:Int)(lo hi:Edge)(x:Rec)(a b Y:Int)(w:World)(bw:n≤16)(bx:z<w.heap.size)
  (a4:∀j,aa w j→Calls Tryz.prog 48 #[.pointer (some ⟨z,0,none⟩)] j fun e s=>e=.returned (.int .i64 n)∧j=s)
  (bt:0≤l) (bv:l<n)
  (a1:∀j,aa w j→Calls Tryz.prog 134 #[.pointer (some ⟨z,0,none⟩),.int .u8 3,.agg #[.int .u8 lo.tag,.int .u32 lo.to],.int .i64 (l+1)] j fun e s=>e=.returned (.bool true)∧aa j s)
  (aw:∀j,aa w j→Calls Tryz.prog 134 #[.pointer (some ⟨z,0,none⟩),.int .u8 3,.agg #[.int .u8 hi.tag,.int .u32 hi.to],.int .i64 (l+1)] j fun e s=>e=.returned (.bool true)∧aa j s)
  (Z:¬lo=hi)
  (ab:¬x.hi=hi)
  (av:∀j,aa w j→Calls Tryz.prog 78 #[.pointer (some ⟨z,0,none⟩),.int .u32 lo.to] j fun e s=>e=.returned (.tuple #[.agg #[.int .u8 x.ad,.int .u8 (l+1),.int .u8 x.J,.int .u8 x.lo.tag,.int .u32 x.lo.to,.int .u8 x.hi.tag,.int .u32 x.hi.to],.bool true])∧aa j s)
  (a2:∀k,F k→k<w.heap.size) (am:∀j,aa w j→Calls Tryz.prog 188 #[.pointer (some ⟨z,0,none⟩),.agg #[.int .u8 3,.int .u8 l,.int .u8 l,.int .u8 lo.tag,.int .u32 lo.to,.int .u8 hi.tag,.int .u32 hi.to]] j fun e s=>e=.returned (.tuple #[.agg #[.int .u8 a,.int .u32 b],.int .u8 Y])∧ae F j s∧R j s)
  : Calls Tryz.prog 123 #[.pointer (some ⟨z,0,none⟩),.int .i64 l,.agg #[.int .u8 lo.tag,.int .u32 lo.to],.agg #[.int .u8 hi.tag,.int .u32 hi.to]] w fun e s=>e=.returned (.tuple #[.agg #[.int .u8 a,.int .u32 b],.int .u8 Y]) ∧ 
   ∃j X,aa w j∧ae F j X∧R j X∧ae (fun k=>w.heap.size≤k∧k<j.heap.size) X s:=by
 have j:z<w.heap.size+1:=by omega
 have j:z<w.heap.size+1+1:=by omega
 have bg:=Lib.hid a4
 clear a4
 have be:=Lib.hid a1
 clear a1
 have bb:=Lib.hid aw
 clear aw
 have a8:=Lib.hid am
 have j:∀k,w.heap.size≤k→¬F k:=fun k E h=>by have:=a2 k h;omega
 have ad:=j (w.heap.size+2) (by omega)
 clear am a2 j
 have j:=fJ lo hi Z
 have j:=Lib.hid Z
 clear Z
 have j:=fJ x.hi hi ab
 have j:=Lib.hid ab
 clear ab
 have a':=Lib.hid av
 clear av
 go_enter Tryz.func123,Tryz.ntmps123
 go_wp2_with (first|(go_at_call 48;refine(bg.out _ (by(exact kp))).mono ?_;rintro e s ⟨rfl,rfl⟩)|fail)
 (go_at_call 134;refine(be.out _ (by(exact kp))).mono ?_;rintro e w1 ⟨rfl,q⟩;have a3:=q.size;simp only[World.size_alloc]at a3;have a5:w.heap.size<w1.heap.size:=(by omega);have a6:w.heap.size+1<w1.heap.size:=(by omega);have O:w.heap.size+2<w1.heap.size:=(by omega);have U:=q.cell (a:=⟨w.heap.size,0,none⟩) (v:=.int .u8 lo.tag) (by simp[go_sem]);have W:=q.cell (a:=⟨w.heap.size,1,none⟩) (v:=.int .u32 lo.to) (by simp[go_sem]);have S:=q.cell (a:=⟨w.heap.size+1,0,none⟩) (v:=.int .u8 hi.tag) (by simp[go_sem]);have T:=q.cell (a:=⟨w.heap.size+1,1,none⟩) (v:=.int .u32 hi.to) (by simp[go_sem]);have K:=q.cell (a:=⟨w.heap.size+2,0,none⟩) (v:=.int .u8 0) (by simp[go_sem]);have L:=q.cell (a:=⟨w.heap.size+2,1,none⟩) (v:=.int .u32 0) (by simp[go_sem]);have N:=fun o:Nat=>q.a2 (a:=⟨w.heap.size+2,o,none⟩) (by simp[go_sem]) (by simp[go_sem]);have E:aa w w1:=(by(exact kp)))
 go_wp2_with fail
 (go_at_call 134;refine(bb.out _ (by(exact kp))).mono ?_;rintro e w1 ⟨rfl,q⟩;have a3:=q.size;have N:=fun o:Nat=>q.a2 (a:=⟨w.heap.size+2,o,none⟩) (by dsimp only;omega) (N o);have U:=q.cell U;have W:=q.cell W;have S:=q.cell S;have T:=q.cell T;have K:=q.cell K;have L:=q.cell L;have a5:w.heap.size<w1.heap.size:=(by omega);have a6:w.heap.size+1<w1.heap.size:=(by omega);have O:w.heap.size+2<w1.heap.size:=(by omega);have E:aa w w1:=(by(exact kp)))
 go_wp2_with fail
 (go_at_call 78;refine(a'.out _ (by(exact kp))).mono ?_;rintro e I ⟨rfl,t⟩;have bn:=t.size;simp only[World.size_alloc]at bn;have j:=t.cell (a:=⟨w1.heap.size,0,none⟩) (v:=.int .u8 3) (by simp[go_sem]);have j:=t.cell (a:=⟨w1.heap.size,1,none⟩) (v:=.int .u8 l) (by simp[go_sem]);have j:=t.cell (a:=⟨w1.heap.size,2,none⟩) (v:=.int .u8 l) (by simp[go_sem]);have j:=t.cell (a:=⟨w1.heap.size,3,none⟩) (v:=.int .u8 lo.tag) (by simp[go_sem]);have j:=t.cell (a:=⟨w1.heap.size,4,none⟩) (v:=.int .u32 lo.to) (by simp[go_sem]);have j:=t.cell (a:=⟨w1.heap.size,5,none⟩) (v:=.int .u8 hi.tag) (by simp[go_sem]);have j:=t.cell (a:=⟨w1.heap.size,6,none⟩) (v:=.int .u32 hi.to) (by simp[go_sem]);have j:=fun o:Nat=>t.a2 (a:=⟨w1.heap.size,o,none⟩) (by simp[go_sem]) (by simp[go_sem]);have A:aa w1 I:=((aa.refl _).alloc _).trans t;have N:=fun o:Nat=>A.a2 (a:=⟨w.heap.size+2,o,none⟩) (by dsimp only;omega) (N o);have U:=A.cell U;have W:=A.cell W;have S:=A.cell S;have T:=A.cell T;have K:=A.cell K;have L:=A.cell L;have a5:w.heap.size<I.heap.size:=(by omega);have a6:w.heap.size+1<I.heap.size:=(by omega);have O:w.heap.size+2<I.heap.size:=(by omega);have j:w1.heap.size<I.heap.size:=(by omega);have j:aa w I:=E.trans A)
 all_goals go_wp2_with (first|(go_at_call 188;refine(a8.out _ (by(exact kp))).mono ?_;rintro e a7 ⟨rfl,J,bi⟩;have bp:=J.size;(try simp only[World.size_alloc,World.size_setCell,World.a3]at bp);have br:=J.cell (a:=⟨w.heap.size+2,0,none⟩) ad (v:=.int .u8 0) (by simp[go_sem,O,K]);have bs:=J.cell (a:=⟨w.heap.size+2,1,none⟩) ad (v:=.int .u32 0) (by simp[go_sem,O,L]);have j:=fun o:Nat=>J.frozen (a:=⟨w.heap.size+2,o,none⟩) (by(try simp only[World.size_alloc,World.size_setCell,World.a3]);omega) ad (by(try simp only[World.frozen?_setCell,World.frozen?_drew,frozen?_alloc_cells]);exact N o);have bq:w.heap.size+2<a7.heap.size:=(by omega))|fail)
 all_goals refine bodyPost_ret (v:=.tuple #[.agg #[.int .u8 a,.int .u32 b],.int .u8 Y]) (by simp[results,Tryz.results123,go_sem,bq,br,bs]) rfl ⟨rfl,_,a7,by(exact kp),J,bi,?_⟩
 all_goals(try simp only[World.size_alloc,World.size_setCell,World.a3])
 all_goals(repeat (first|with_reducible exact ae.refl _ _|exact ae.mono j (fun k _ E=>⟨E.1,by(try simp only[World.size_alloc,World.size_setCell,World.a3]);have:=E.2;omega⟩)|refine ae.setCell ?_ (Or.inl (by dsimp only;omega)) _|refine ae.setCell ?_ (Or.inr (by dsimp only;omega)) _|with_reducible refine ae.drewN ?_ _|with_reducible refine ae.drew ?_|with_reducible refine ae.alloc ?_ _))

theorem tO {F:Nat→Prop}(R:World→World→Prop)(z:Nat)(l n:Int)(lo hi:Edge)(x:Rec)(a b Y:Int)(w:World)(bv:n≤16)(bw:z<w.heap.size)
  (a3:∀j,aa w j→Calls Tryz.prog 48 #[.pointer (some ⟨z,0,none⟩)] j fun e s=>e=.returned (.int .i64 n)∧j=s)
  (bs:0≤l) (bt:l<n)
  (aw:∀j,aa w j→Calls Tryz.prog 134 #[.pointer (some ⟨z,0,none⟩),.int .u8 3,.agg #[.int .u8 lo.tag,.int .u32 lo.to],.int .i64 (l+1)] j fun e s=>e=.returned (.bool true)∧aa j s)
  (av:∀j,aa w j→Calls Tryz.prog 134 #[.pointer (some ⟨z,0,none⟩),.int .u8 3,.agg #[.int .u8 hi.tag,.int .u32 hi.to],.int .i64 (l+1)] j fun e s=>e=.returned (.bool true)∧aa j s)
  (Z:¬lo=hi)
  (am:∀j,aa w j→Calls Tryz.prog 78 #[.pointer (some ⟨z,0,none⟩),.int .u32 lo.to] j fun e s=>e=.returned (.tuple #[.agg #[.int .u8 x.ad,.int .u8 (l+1),.int .u8 x.J,.int .u8 x.lo.tag,.int .u32 x.lo.to,.int .u8 hi.tag,.int .u32 hi.to],.bool true])∧aa j s)
  (a1:∀k,F k→k<w.heap.size) (ad:∀j,aa w j→Calls Tryz.prog 188 #[.pointer (some ⟨z,0,none⟩),.agg #[.int .u8 3,.int .u8 l,.int .u8 x.J,.int .u8 x.lo.tag,.int .u32 x.lo.to,.int .u8 hi.tag,.int .u32 hi.to]] j fun e s=>e=.returned (.tuple #[.agg #[.int .u8 a,.int .u32 b],.int .u8 Y])∧ae F j s∧R j s)
  : Calls Tryz.prog 123 #[.pointer (some ⟨z,0,none⟩),.int .i64 l,.agg #[.int .u8 lo.tag,.int .u32 lo.to],.agg #[.int .u8 hi.tag,.int .u32 hi.to]] w fun e s=>e=.returned (.tuple #[.agg #[.int .u8 a,.int .u32 b],.int .u8 Y]) ∧ 
   ∃j X,aa w j∧ae F j X∧R j X∧ae (fun k=>w.heap.size≤k∧k<j.heap.size) X s:=by
 have j:z<w.heap.size+1:=by omega
 have j:z<w.heap.size+1+1:=by omega
 have be:=Lib.hid a3
 clear a3
 have bb:=Lib.hid aw
 clear aw
 have a':=Lib.hid av
 clear av
 have a7:=Lib.hid ad
 have j:∀k,w.heap.size≤k→¬F k:=fun k E h=>by have:=a1 k h;omega
 have ab:=j (w.heap.size+2) (by omega)
 clear ad a1 j
 have j:=fJ lo hi Z
 have j:=Lib.hid Z
 clear Z
 have j:=gI hi hi rfl
 have a8:=Lib.hid am
 clear am
 go_enter Tryz.func123,Tryz.ntmps123
 go_wp2_with (first|(go_at_call 48;refine(be.out _ (by(exact kp))).mono ?_;rintro e s ⟨rfl,rfl⟩)|fail)
 (go_at_call 134;refine(bb.out _ (by(exact kp))).mono ?_;rintro e w1 ⟨rfl,q⟩;have a2:=q.size;simp only[World.size_alloc]at a2;have a4:w.heap.size<w1.heap.size:=(by omega);have a5:w.heap.size+1<w1.heap.size:=(by omega);have O:w.heap.size+2<w1.heap.size:=(by omega);have U:=q.cell (a:=⟨w.heap.size,0,none⟩) (v:=.int .u8 lo.tag) (by simp[go_sem]);have W:=q.cell (a:=⟨w.heap.size,1,none⟩) (v:=.int .u32 lo.to) (by simp[go_sem]);have S:=q.cell (a:=⟨w.heap.size+1,0,none⟩) (v:=.int .u8 hi.tag) (by simp[go_sem]);have T:=q.cell (a:=⟨w.heap.size+1,1,none⟩) (v:=.int .u32 hi.to) (by simp[go_sem]);have K:=q.cell (a:=⟨w.heap.size+2,0,none⟩) (v:=.int .u8 0) (by simp[go_sem]);have L:=q.cell (a:=⟨w.heap.size+2,1,none⟩) (v:=.int .u32 0) (by simp[go_sem]);have N:=fun o:Nat=>q.a2 (a:=⟨w.heap.size+2,o,none⟩) (by simp[go_sem]) (by simp[go_sem]);have E:aa w w1:=(by(exact kp)))
 go_wp2_with fail
 (go_at_call 134;refine(a'.out _ (by(exact kp))).mono ?_;rintro e w1 ⟨rfl,q⟩;have a2:=q.size;have N:=fun o:Nat=>q.a2 (a:=⟨w.heap.size+2,o,none⟩) (by dsimp only;omega) (N o);have U:=q.cell U;have W:=q.cell W;have S:=q.cell S;have T:=q.cell T;have K:=q.cell K;have L:=q.cell L;have a4:w.heap.size<w1.heap.size:=(by omega);have a5:w.heap.size+1<w1.heap.size:=(by omega);have O:w.heap.size+2<w1.heap.size:=(by omega);have E:aa w w1:=(by(exact kp)))
 go_wp2_with fail
 (go_at_call 78;refine(a8.out _ (by(exact kp))).mono ?_;rintro e I ⟨rfl,t⟩;have bi:=t.size;simp only[World.size_alloc]at bi;have j:=t.cell (a:=⟨w1.heap.size,0,none⟩) (v:=.int .u8 3) (by simp[go_sem]);have j:=t.cell (a:=⟨w1.heap.size,1,none⟩) (v:=.int .u8 l) (by simp[go_sem]);have j:=t.cell (a:=⟨w1.heap.size,2,none⟩) (v:=.int .u8 l) (by simp[go_sem]);have j:=t.cell (a:=⟨w1.heap.size,3,none⟩) (v:=.int .u8 lo.tag) (by simp[go_sem]);have j:=t.cell (a:=⟨w1.heap.size,4,none⟩) (v:=.int .u32 lo.to) (by simp[go_sem]);have j:=t.cell (a:=⟨w1.heap.size,5,none⟩) (v:=.int .u8 hi.tag) (by simp[go_sem]);have j:=t.cell (a:=⟨w1.heap.size,6,none⟩) (v:=.int .u32 hi.to) (by simp[go_sem]);have j:=fun o:Nat=>t.a2 (a:=⟨w1.heap.size,o,none⟩) (by simp[go_sem]) (by simp[go_sem]);have A:aa w1 I:=((aa.refl _).alloc _).trans t;have N:=fun o:Nat=>A.a2 (a:=⟨w.heap.size+2,o,none⟩) (by dsimp only;omega) (N o);have U:=A.cell U;have W:=A.cell W;have S:=A.cell S;have T:=A.cell T;have K:=A.cell K;have L:=A.cell L;have a4:w.heap.size<I.heap.size:=(by omega);have a5:w.heap.size+1<I.heap.size:=(by omega);have O:w.heap.size+2<I.heap.size:=(by omega);have j:w1.heap.size<I.heap.size:=(by omega);have j:aa w I:=E.trans A)
 go_wp2_with fail
 go_region
 all_goals go_wp2_with (first|(go_at_call 188;refine(a7.out _ (by(exact kp))).mono ?_;rintro e a6 ⟨rfl,J,bg⟩;have bn:=J.size;(try simp only[World.size_alloc,World.size_setCell,World.a3]at bn);have bq:=J.cell (a:=⟨w.heap.size+2,0,none⟩) ab (v:=.int .u8 0) (by simp[go_sem,O,K]);have br:=J.cell (a:=⟨w.heap.size+2,1,none⟩) ab (v:=.int .u32 0) (by simp[go_sem,O,L]);have j:=fun o:Nat=>J.frozen (a:=⟨w.heap.size+2,o,none⟩) (by(try simp only[World.size_alloc,World.size_setCell,World.a3]);omega) ab (by(try simp only[World.frozen?_setCell,World.frozen?_drew,frozen?_alloc_cells]);exact N o);have bp:w.heap.size+2<a6.heap.size:=(by omega))|fail)
 all_goals refine bodyPost_ret (v:=.tuple #[.agg #[.int .u8 a,.int .u32 b],.int .u8 Y]) (by simp[results,Tryz.results123,go_sem,bp,bq,br]) rfl ⟨rfl,_,a6,by(exact kp),J,bg,?_⟩
 all_goals(try simp only[World.size_alloc,World.size_setCell,World.a3])
 all_goals(repeat (first|with_reducible exact ae.refl _ _|exact ae.mono j (fun k _ E=>⟨E.1,by(try simp only[World.size_alloc,World.size_setCell,World.a3]);have:=E.2;omega⟩)|refine ae.setCell ?_ (Or.inl (by dsimp only;omega)) _|refine ae.setCell ?_ (Or.inr (by dsimp only;omega)) _|with_reducible refine ae.drewN ?_ _|with_reducible refine ae.drew ?_|with_reducible refine ae.alloc ?_ _))

end Go.Proofs.YtafkamlhimkbmaaGreat
