/-
  The walk of cbdd.Make, case by case (printed by wip/mk_make2.py).
-/
import Derived.Test.YtafkamlhimkbmaaGreatPOrderB
import Derived.BigRegion
import Derived.IntWalk
namespace Go.Proofs.YtafkamlhimkbmaaGreat
set_option maxRecDepth 1000000
set_option maxHeartbeats 8000000
set_option linter.unusedSimpArgs false
set_option linter.unusedVariables false
open Go.RowKit

theorem uA (j:Nat)(l n:Int)(lo hi:Edge)(w:World)(A:n≤16)(E:j<w.heap.size)
  (s:∀q,aa w q→Calls Tryz.prog 48 #[.pointer (some ⟨j,0,none⟩)] q fun e w'=>e=.returned (.int .i64 n)∧q=w')
  (z:l<0)
  : Calls Tryz.prog 123 #[.pointer (some ⟨j,0,none⟩),.int .i64 l,.agg #[.int .u8 lo.tag,.int .u32 lo.to],.agg #[.int .u8 hi.tag,.int .u32 hi.to]] w fun e w'=>e=.returned (.tuple #[.agg #[.int .u8 0,.int .u32 0],.int .u8 3])∧aa w w':=by
 have q:j<w.heap.size+1:=by omega
 have q:j<w.heap.size+1+1:=by omega
 have t:=Lib.hid s
 clear s
 go_enter Tryz.func123,Tryz.ntmps123
 go_wp2_with (first|(go_at_call 48;refine(t.out _ (by(exact kp))).mono ?_;rintro e w' ⟨rfl,rfl⟩)|fail)
 all_goals refine bodyPost_ret (v:=.tuple #[.agg #[.int .u8 0,.int .u32 0],.int .u8 3]) (by simp[results,Tryz.results123,go_sem]) rfl ⟨rfl,by(exact kp)⟩

theorem uv (j:Nat)(l n:Int)(lo hi:Edge)(w:World)(E:n≤16)(I:j<w.heap.size)
  (s:∀q,aa w q→Calls Tryz.prog 48 #[.pointer (some ⟨j,0,none⟩)] q fun e w'=>e=.returned (.int .i64 n)∧q=w')
  (z:0≤l) (A:n≤l)
  : Calls Tryz.prog 123 #[.pointer (some ⟨j,0,none⟩),.int .i64 l,.agg #[.int .u8 lo.tag,.int .u32 lo.to],.agg #[.int .u8 hi.tag,.int .u32 hi.to]] w fun e w'=>e=.returned (.tuple #[.agg #[.int .u8 0,.int .u32 0],.int .u8 3])∧aa w w':=by
 have q:j<w.heap.size+1:=by omega
 have q:j<w.heap.size+1+1:=by omega
 have t:=Lib.hid s
 clear s
 go_enter Tryz.func123,Tryz.ntmps123
 go_wp2_with (first|(go_at_call 48;refine(t.out _ (by(exact kp))).mono ?_;rintro e w' ⟨rfl,rfl⟩)|fail)
 all_goals refine bodyPost_ret (v:=.tuple #[.agg #[.int .u8 0,.int .u32 0],.int .u8 3]) (by simp[results,Tryz.results123,go_sem]) rfl ⟨rfl,by(exact kp)⟩

theorem uz (s:Nat)(l n:Int)(lo hi:Edge)(w:World)(S:n≤16)(T:s<w.heap.size)
  (z:∀q,aa w q→Calls Tryz.prog 48 #[.pointer (some ⟨s,0,none⟩)] q fun e w'=>e=.returned (.int .i64 n)∧q=w')
  (N:0≤l) (O:l<n)
  (t:∀q,aa w q→Calls Tryz.prog 134 #[.pointer (some ⟨s,0,none⟩),.int .u8 3,.agg #[.int .u8 lo.tag,.int .u32 lo.to],.int .i64 (l+1)] q fun e w'=>e=.returned (.bool false)∧aa q w')
  : Calls Tryz.prog 123 #[.pointer (some ⟨s,0,none⟩),.int .i64 l,.agg #[.int .u8 lo.tag,.int .u32 lo.to],.agg #[.int .u8 hi.tag,.int .u32 hi.to]] w fun e w'=>e=.returned (.tuple #[.agg #[.int .u8 0,.int .u32 0],.int .u8 1])∧aa w w':=by
 have q:s<w.heap.size+1:=by omega
 have q:s<w.heap.size+1+1:=by omega
 have E:=Lib.hid z
 clear z
 have A:=Lib.hid t
 clear t
 go_enter Tryz.func123,Tryz.ntmps123
 go_wp2_with (first|(go_at_call 48;refine(E.out _ (by(exact kp))).mono ?_;rintro e w' ⟨rfl,rfl⟩)|fail)
 (go_at_call 134;refine(A.out _ (by(exact kp))).mono ?_;rintro e w1 ⟨rfl,j⟩;have I:=j.size;simp only[World.size_alloc]at I;have q:w.heap.size<w1.heap.size:=(by omega);have q:w.heap.size+1<w1.heap.size:=(by omega);have J:w.heap.size+2<w1.heap.size:=(by omega);have q:=j.cell (a:=⟨w.heap.size,0,none⟩) (v:=.int .u8 lo.tag) (by simp[go_sem]);have q:=j.cell (a:=⟨w.heap.size,1,none⟩) (v:=.int .u32 lo.to) (by simp[go_sem]);have q:=j.cell (a:=⟨w.heap.size+1,0,none⟩) (v:=.int .u8 hi.tag) (by simp[go_sem]);have q:=j.cell (a:=⟨w.heap.size+1,1,none⟩) (v:=.int .u32 hi.to) (by simp[go_sem]);have K:=j.cell (a:=⟨w.heap.size+2,0,none⟩) (v:=.int .u8 0) (by simp[go_sem]);have L:=j.cell (a:=⟨w.heap.size+2,1,none⟩) (v:=.int .u32 0) (by simp[go_sem]);have q:=fun o:Nat=>j.a2 (a:=⟨w.heap.size+2,o,none⟩) (by simp[go_sem]) (by simp[go_sem]);have j:aa w w1:=(by(exact kp)))
 go_wp2_with fail
 all_goals refine bodyPost_ret (v:=.tuple #[.agg #[.int .u8 0,.int .u32 0],.int .u8 1]) (by simp[results,Tryz.results123,go_sem,J,K,L]) rfl ⟨rfl,by(exact kp)⟩

theorem ux (s:Nat)(l n:Int)(lo hi:Edge)(w:World)(av:n≤16)(aw:s<w.heap.size)
  (J:∀q,aa w q→Calls Tryz.prog 48 #[.pointer (some ⟨s,0,none⟩)] q fun e w'=>e=.returned (.int .i64 n)∧q=w')
  (ad:0≤l) (am:l<n)
  (E:∀q,aa w q→Calls Tryz.prog 134 #[.pointer (some ⟨s,0,none⟩),.int .u8 3,.agg #[.int .u8 lo.tag,.int .u32 lo.to],.int .i64 (l+1)] q fun e w'=>e=.returned (.bool true)∧aa q w')
  (A:∀q,aa w q→Calls Tryz.prog 134 #[.pointer (some ⟨s,0,none⟩),.int .u8 3,.agg #[.int .u8 hi.tag,.int .u32 hi.to],.int .i64 (l+1)] q fun e w'=>e=.returned (.bool false)∧aa q w')
  : Calls Tryz.prog 123 #[.pointer (some ⟨s,0,none⟩),.int .i64 l,.agg #[.int .u8 lo.tag,.int .u32 lo.to],.agg #[.int .u8 hi.tag,.int .u32 hi.to]] w fun e w'=>e=.returned (.tuple #[.agg #[.int .u8 0,.int .u32 0],.int .u8 1])∧aa w w':=by
 have q:s<w.heap.size+1:=by omega
 have q:s<w.heap.size+1+1:=by omega
 have X:=Lib.hid J
 clear J
 have W:=Lib.hid E
 clear E
 have U:=Lib.hid A
 clear A
 go_enter Tryz.func123,Tryz.ntmps123
 go_wp2_with (first|(go_at_call 48;refine(X.out _ (by(exact kp))).mono ?_;rintro e w' ⟨rfl,rfl⟩)|fail)
 (go_at_call 134;refine(W.out _ (by(exact kp))).mono ?_;rintro e w1 ⟨rfl,j⟩;have I:=j.size;simp only[World.size_alloc]at I;have Z:w.heap.size<w1.heap.size:=(by omega);have ab:w.heap.size+1<w1.heap.size:=(by omega);have K:w.heap.size+2<w1.heap.size:=(by omega);have O:=j.cell (a:=⟨w.heap.size,0,none⟩) (v:=.int .u8 lo.tag) (by simp[go_sem]);have S:=j.cell (a:=⟨w.heap.size,1,none⟩) (v:=.int .u32 lo.to) (by simp[go_sem]);have L:=j.cell (a:=⟨w.heap.size+1,0,none⟩) (v:=.int .u8 hi.tag) (by simp[go_sem]);have N:=j.cell (a:=⟨w.heap.size+1,1,none⟩) (v:=.int .u32 hi.to) (by simp[go_sem]);have t:=j.cell (a:=⟨w.heap.size+2,0,none⟩) (v:=.int .u8 0) (by simp[go_sem]);have z:=j.cell (a:=⟨w.heap.size+2,1,none⟩) (v:=.int .u32 0) (by simp[go_sem]);have T:=fun o:Nat=>j.a2 (a:=⟨w.heap.size+2,o,none⟩) (by simp[go_sem]) (by simp[go_sem]);have Y:aa w w1:=(by(exact kp)))
 go_wp2_with fail
 (go_at_call 134;refine(U.out _ (by(exact kp))).mono ?_;rintro e w1 ⟨rfl,j⟩;have I:=j.size;have T:=fun o:Nat=>j.a2 (a:=⟨w.heap.size+2,o,none⟩) (by dsimp only;omega) (T o);have O:=j.cell O;have S:=j.cell S;have L:=j.cell L;have N:=j.cell N;have t:=j.cell t;have z:=j.cell z;have Z:w.heap.size<w1.heap.size:=(by omega);have ab:w.heap.size+1<w1.heap.size:=(by omega);have K:w.heap.size+2<w1.heap.size:=(by omega);have Y:aa w w1:=(by(exact kp)))
 go_wp2_with fail
 all_goals refine bodyPost_ret (v:=.tuple #[.agg #[.int .u8 0,.int .u32 0],.int .u8 1]) (by simp[results,Tryz.results123,go_sem,K,t,z]) rfl ⟨rfl,by(exact kp)⟩

theorem uC (s:Nat)(l n:Int)(lo hi:Edge)(w:World)(aw:n≤16)(a1:s<w.heap.size)
  (K:∀q,aa w q→Calls Tryz.prog 48 #[.pointer (some ⟨s,0,none⟩)] q fun e w'=>e=.returned (.int .i64 n)∧q=w')
  (am:0≤l) (av:l<n)
  (I:∀q,aa w q→Calls Tryz.prog 134 #[.pointer (some ⟨s,0,none⟩),.int .u8 3,.agg #[.int .u8 lo.tag,.int .u32 lo.to],.int .i64 (l+1)] q fun e w'=>e=.returned (.bool true)∧aa q w')
  (E:∀q,aa w q→Calls Tryz.prog 134 #[.pointer (some ⟨s,0,none⟩),.int .u8 3,.agg #[.int .u8 hi.tag,.int .u32 hi.to],.int .i64 (l+1)] q fun e w'=>e=.returned (.bool true)∧aa q w')
  (t:lo=hi)
  : Calls Tryz.prog 123 #[.pointer (some ⟨s,0,none⟩),.int .i64 l,.agg #[.int .u8 lo.tag,.int .u32 lo.to],.agg #[.int .u8 hi.tag,.int .u32 hi.to]] w fun e w'=>e=.returned (.tuple #[.agg #[.int .u8 lo.tag,.int .u32 lo.to],.int .u8 0])∧aa w w':=by
 have q:s<w.heap.size+1:=by omega
 have q:s<w.heap.size+1+1:=by omega
 have Y:=Lib.hid K
 clear K
 have X:=Lib.hid I
 clear I
 have W:=Lib.hid E
 clear E
 have q:=gM lo hi t
 have q:=Lib.hid t
 clear t
 go_enter Tryz.func123,Tryz.ntmps123
 go_wp2_with (first|(go_at_call 48;refine(Y.out _ (by(exact kp))).mono ?_;rintro e w' ⟨rfl,rfl⟩)|fail)
 (go_at_call 134;refine(X.out _ (by(exact kp))).mono ?_;rintro e w1 ⟨rfl,j⟩;have J:=j.size;simp only[World.size_alloc]at J;have ab:w.heap.size<w1.heap.size:=(by omega);have ad:w.heap.size+1<w1.heap.size:=(by omega);have L:w.heap.size+2<w1.heap.size:=(by omega);have S:=j.cell (a:=⟨w.heap.size,0,none⟩) (v:=.int .u8 lo.tag) (by simp[go_sem]);have T:=j.cell (a:=⟨w.heap.size,1,none⟩) (v:=.int .u32 lo.to) (by simp[go_sem]);have N:=j.cell (a:=⟨w.heap.size+1,0,none⟩) (v:=.int .u8 hi.tag) (by simp[go_sem]);have O:=j.cell (a:=⟨w.heap.size+1,1,none⟩) (v:=.int .u32 hi.to) (by simp[go_sem]);have z:=j.cell (a:=⟨w.heap.size+2,0,none⟩) (v:=.int .u8 0) (by simp[go_sem]);have A:=j.cell (a:=⟨w.heap.size+2,1,none⟩) (v:=.int .u32 0) (by simp[go_sem]);have U:=fun o:Nat=>j.a2 (a:=⟨w.heap.size+2,o,none⟩) (by simp[go_sem]) (by simp[go_sem]);have Z:aa w w1:=(by(exact kp)))
 go_wp2_with fail
 (go_at_call 134;refine(W.out _ (by(exact kp))).mono ?_;rintro e w1 ⟨rfl,j⟩;have J:=j.size;have U:=fun o:Nat=>j.a2 (a:=⟨w.heap.size+2,o,none⟩) (by dsimp only;omega) (U o);have S:=j.cell S;have T:=j.cell T;have N:=j.cell N;have O:=j.cell O;have z:=j.cell z;have A:=j.cell A;have ab:w.heap.size<w1.heap.size:=(by omega);have ad:w.heap.size+1<w1.heap.size:=(by omega);have L:w.heap.size+2<w1.heap.size:=(by omega);have Z:aa w w1:=(by(exact kp)))
 go_wp2_with fail
 all_goals refine bodyPost_ret (v:=.tuple #[.agg #[.int .u8 lo.tag,.int .u32 lo.to],.int .u8 0]) (by simp[results,Tryz.results123,go_sem,L,z,A]) rfl ⟨rfl,by(exact kp)⟩

theorem uB {F:Nat→Prop}(R:World→World→Prop)(t:Nat)(l n:Int)(lo hi:Edge)(x:Rec)(a b X:Int)(w:World)(bt:n≤16)(bv:t<w.heap.size)
  (a2:∀j,aa w j→Calls Tryz.prog 48 #[.pointer (some ⟨t,0,none⟩)] j fun e w'=>e=.returned (.int .i64 n)∧j=w')
  (br:0≤l) (bs:l<n)
  (av:∀j,aa w j→Calls Tryz.prog 134 #[.pointer (some ⟨t,0,none⟩),.int .u8 3,.agg #[.int .u8 lo.tag,.int .u32 lo.to],.int .i64 (l+1)] j fun e w'=>e=.returned (.bool true)∧aa j w')
  (am:∀j,aa w j→Calls Tryz.prog 134 #[.pointer (some ⟨t,0,none⟩),.int .u8 3,.agg #[.int .u8 hi.tag,.int .u32 hi.to],.int .i64 (l+1)] j fun e w'=>e=.returned (.bool true)∧aa j w')
  (Y:¬lo=hi)
  (ad:∀j,aa w j→Calls Tryz.prog 78 #[.pointer (some ⟨t,0,none⟩),.int .u32 lo.to] j fun e w'=>e=.returned (.tuple #[.agg #[.int .u8 x.ad,.int .u8 x.I,.int .u8 x.J,.int .u8 x.lo.tag,.int .u32 x.lo.to,.int .u8 x.hi.tag,.int .u32 x.hi.to],.bool false])∧aa j w')
  (aw:∀k,F k→k<w.heap.size) (ab:∀j,aa w j→Calls Tryz.prog 188 #[.pointer (some ⟨t,0,none⟩),.agg #[.int .u8 3,.int .u8 l,.int .u8 l,.int .u8 lo.tag,.int .u32 lo.to,.int .u8 hi.tag,.int .u32 hi.to]] j fun e w'=>e=.returned (.tuple #[.agg #[.int .u8 a,.int .u32 b],.int .u8 X])∧ae F j w'∧R j w')
  : Calls Tryz.prog 123 #[.pointer (some ⟨t,0,none⟩),.int .i64 l,.agg #[.int .u8 lo.tag,.int .u32 lo.to],.agg #[.int .u8 hi.tag,.int .u32 hi.to]] w fun e w'=>e=.returned (.tuple #[.agg #[.int .u8 a,.int .u32 b],.int .u8 X]) ∧ 
   ∃j W,aa w j∧ae F j W∧R j W∧ae (fun k=>w.heap.size≤k∧k<j.heap.size) W w':=by
 have j:t<w.heap.size+1:=by omega
 have j:t<w.heap.size+1+1:=by omega
 have bb:=Lib.hid a2
 clear a2
 have a':=Lib.hid av
 clear av
 have a8:=Lib.hid am
 clear am
 have a6:=Lib.hid ab
 have j:∀k,w.heap.size≤k→¬F k:=fun k A h=>by have:=aw k h;omega
 have Z:=j (w.heap.size+2) (by omega)
 clear ab aw j
 have j:=fR lo hi Y
 have j:=Lib.hid Y
 clear Y
 have a7:=Lib.hid ad
 clear ad
 go_enter Tryz.func123,Tryz.ntmps123
 go_wp2_with (first|(go_at_call 48;refine(bb.out _ (by(exact kp))).mono ?_;rintro e w' ⟨rfl,rfl⟩)|fail)
 (go_at_call 134;refine(a'.out _ (by(exact kp))).mono ?_;rintro e w1 ⟨rfl,q⟩;have a1:=q.size;simp only[World.size_alloc]at a1;have a3:w.heap.size<w1.heap.size:=(by omega);have a4:w.heap.size+1<w1.heap.size:=(by omega);have N:w.heap.size+2<w1.heap.size:=(by omega);have T:=q.cell (a:=⟨w.heap.size,0,none⟩) (v:=.int .u8 lo.tag) (by simp[go_sem]);have U:=q.cell (a:=⟨w.heap.size,1,none⟩) (v:=.int .u32 lo.to) (by simp[go_sem]);have O:=q.cell (a:=⟨w.heap.size+1,0,none⟩) (v:=.int .u8 hi.tag) (by simp[go_sem]);have S:=q.cell (a:=⟨w.heap.size+1,1,none⟩) (v:=.int .u32 hi.to) (by simp[go_sem]);have J:=q.cell (a:=⟨w.heap.size+2,0,none⟩) (v:=.int .u8 0) (by simp[go_sem]);have K:=q.cell (a:=⟨w.heap.size+2,1,none⟩) (v:=.int .u32 0) (by simp[go_sem]);have L:=fun o:Nat=>q.a2 (a:=⟨w.heap.size+2,o,none⟩) (by simp[go_sem]) (by simp[go_sem]);have A:aa w w1:=(by(exact kp)))
 go_wp2_with fail
 (go_at_call 134;refine(a8.out _ (by(exact kp))).mono ?_;rintro e w1 ⟨rfl,q⟩;have a1:=q.size;have L:=fun o:Nat=>q.a2 (a:=⟨w.heap.size+2,o,none⟩) (by dsimp only;omega) (L o);have T:=q.cell T;have U:=q.cell U;have O:=q.cell O;have S:=q.cell S;have J:=q.cell J;have K:=q.cell K;have a3:w.heap.size<w1.heap.size:=(by omega);have a4:w.heap.size+1<w1.heap.size:=(by omega);have N:w.heap.size+2<w1.heap.size:=(by omega);have A:aa w w1:=(by(exact kp)))
 go_wp2_with fail
 (go_at_call 78;refine(a7.out _ (by(exact kp))).mono ?_;rintro e E ⟨rfl,s⟩;have bg:=s.size;simp only[World.size_alloc]at bg;have j:=s.cell (a:=⟨w1.heap.size,0,none⟩) (v:=.int .u8 3) (by simp[go_sem]);have j:=s.cell (a:=⟨w1.heap.size,1,none⟩) (v:=.int .u8 l) (by simp[go_sem]);have j:=s.cell (a:=⟨w1.heap.size,2,none⟩) (v:=.int .u8 l) (by simp[go_sem]);have j:=s.cell (a:=⟨w1.heap.size,3,none⟩) (v:=.int .u8 lo.tag) (by simp[go_sem]);have j:=s.cell (a:=⟨w1.heap.size,4,none⟩) (v:=.int .u32 lo.to) (by simp[go_sem]);have j:=s.cell (a:=⟨w1.heap.size,5,none⟩) (v:=.int .u8 hi.tag) (by simp[go_sem]);have j:=s.cell (a:=⟨w1.heap.size,6,none⟩) (v:=.int .u32 hi.to) (by simp[go_sem]);have j:=fun o:Nat=>s.a2 (a:=⟨w1.heap.size,o,none⟩) (by simp[go_sem]) (by simp[go_sem]);have z:aa w1 E:=((aa.refl _).alloc _).trans s;have L:=fun o:Nat=>z.a2 (a:=⟨w.heap.size+2,o,none⟩) (by dsimp only;omega) (L o);have T:=z.cell T;have U:=z.cell U;have O:=z.cell O;have S:=z.cell S;have J:=z.cell J;have K:=z.cell K;have a3:w.heap.size<E.heap.size:=(by omega);have a4:w.heap.size+1<E.heap.size:=(by omega);have N:w.heap.size+2<E.heap.size:=(by omega);have j:w1.heap.size<E.heap.size:=(by omega);have j:aa w E:=A.trans z)
 all_goals go_wp2_with (first|(go_at_call 188;refine(a6.out _ (by(exact kp))).mono ?_;rintro e a5 ⟨rfl,I,be⟩;have bi:=I.size;(try simp only[World.size_alloc,World.size_setCell,World.a3]at bi);have bp:=I.cell (a:=⟨w.heap.size+2,0,none⟩) Z (v:=.int .u8 0) (by simp[go_sem,N,J]);have bq:=I.cell (a:=⟨w.heap.size+2,1,none⟩) Z (v:=.int .u32 0) (by simp[go_sem,N,K]);have j:=fun o:Nat=>I.frozen (a:=⟨w.heap.size+2,o,none⟩) (by(try simp only[World.size_alloc,World.size_setCell,World.a3]);omega) Z (by(try simp only[World.frozen?_setCell,World.frozen?_drew,frozen?_alloc_cells]);exact L o);have bn:w.heap.size+2<a5.heap.size:=(by omega))|fail)
 all_goals refine bodyPost_ret (v:=.tuple #[.agg #[.int .u8 a,.int .u32 b],.int .u8 X]) (by simp[results,Tryz.results123,go_sem,bn,bp,bq]) rfl ⟨rfl,_,a5,by(exact kp),I,be,?_⟩
 all_goals(try simp only[World.size_alloc,World.size_setCell,World.a3])
 all_goals(repeat (first|with_reducible exact ae.refl _ _|exact ae.mono j (fun k _ A=>⟨A.1,by(try simp only[World.size_alloc,World.size_setCell,World.a3]);have:=A.2;omega⟩)|refine ae.setCell ?_ (Or.inl (by dsimp only;omega)) _|refine ae.setCell ?_ (Or.inr (by dsimp only;omega)) _|with_reducible refine ae.drewN ?_ _|with_reducible refine ae.drew ?_|with_reducible refine ae.alloc ?_ _))

theorem uD {F:Nat→Prop}(R:World→World→Prop)(t:Nat)(l n:Int)(lo hi:Edge)(x:Rec)(a b X:Int)(w:World)(bv:n≤16)(bw:t<w.heap.size)
  (a2:∀j,aa w j→Calls Tryz.prog 48 #[.pointer (some ⟨t,0,none⟩)] j fun e w'=>e=.returned (.int .i64 n)∧j=w')
  (bs:0≤l) (bt:l<n)
  (av:∀j,aa w j→Calls Tryz.prog 134 #[.pointer (some ⟨t,0,none⟩),.int .u8 3,.agg #[.int .u8 lo.tag,.int .u32 lo.to],.int .i64 (l+1)] j fun e w'=>e=.returned (.bool true)∧aa j w')
  (am:∀j,aa w j→Calls Tryz.prog 134 #[.pointer (some ⟨t,0,none⟩),.int .u8 3,.agg #[.int .u8 hi.tag,.int .u32 hi.to],.int .i64 (l+1)] j fun e w'=>e=.returned (.bool true)∧aa j w')
  (Y:¬lo=hi)
  (bp:¬x.I=l+1) (bx:0≤x.I) (b0:x.I≤255)
  (ad:∀j,aa w j→Calls Tryz.prog 78 #[.pointer (some ⟨t,0,none⟩),.int .u32 lo.to] j fun e w'=>e=.returned (.tuple #[.agg #[.int .u8 x.ad,.int .u8 x.I,.int .u8 x.J,.int .u8 x.lo.tag,.int .u32 x.lo.to,.int .u8 x.hi.tag,.int .u32 x.hi.to],.bool true])∧aa j w')
  (aw:∀k,F k→k<w.heap.size) (ab:∀j,aa w j→Calls Tryz.prog 188 #[.pointer (some ⟨t,0,none⟩),.agg #[.int .u8 3,.int .u8 l,.int .u8 l,.int .u8 lo.tag,.int .u32 lo.to,.int .u8 hi.tag,.int .u32 hi.to]] j fun e w'=>e=.returned (.tuple #[.agg #[.int .u8 a,.int .u32 b],.int .u8 X])∧ae F j w'∧R j w')
  : Calls Tryz.prog 123 #[.pointer (some ⟨t,0,none⟩),.int .i64 l,.agg #[.int .u8 lo.tag,.int .u32 lo.to],.agg #[.int .u8 hi.tag,.int .u32 hi.to]] w fun e w'=>e=.returned (.tuple #[.agg #[.int .u8 a,.int .u32 b],.int .u8 X]) ∧ 
   ∃j W,aa w j∧ae F j W∧R j W∧ae (fun k=>w.heap.size≤k∧k<j.heap.size) W w':=by
 have j:t<w.heap.size+1:=by omega
 have j:t<w.heap.size+1+1:=by omega
 have bb:=Lib.hid a2
 clear a2
 have a':=Lib.hid av
 clear av
 have a8:=Lib.hid am
 clear am
 have a6:=Lib.hid ab
 have j:∀k,w.heap.size≤k→¬F k:=fun k A h=>by have:=aw k h;omega
 have Z:=j (w.heap.size+2) (by omega)
 clear ab aw j
 have j:=fR lo hi Y
 have j:=Lib.hid Y
 clear Y
 have j:(x.I==l+1)=false:=by simp[bp]
 have a7:=Lib.hid ad
 clear ad
 go_enter Tryz.func123,Tryz.ntmps123
 go_wp2_with (first|(go_at_call 48;refine(bb.out _ (by(exact kp))).mono ?_;rintro e w' ⟨rfl,rfl⟩)|fail)
 (go_at_call 134;refine(a'.out _ (by(exact kp))).mono ?_;rintro e w1 ⟨rfl,q⟩;have a1:=q.size;simp only[World.size_alloc]at a1;have a3:w.heap.size<w1.heap.size:=(by omega);have a4:w.heap.size+1<w1.heap.size:=(by omega);have N:w.heap.size+2<w1.heap.size:=(by omega);have T:=q.cell (a:=⟨w.heap.size,0,none⟩) (v:=.int .u8 lo.tag) (by simp[go_sem]);have U:=q.cell (a:=⟨w.heap.size,1,none⟩) (v:=.int .u32 lo.to) (by simp[go_sem]);have O:=q.cell (a:=⟨w.heap.size+1,0,none⟩) (v:=.int .u8 hi.tag) (by simp[go_sem]);have S:=q.cell (a:=⟨w.heap.size+1,1,none⟩) (v:=.int .u32 hi.to) (by simp[go_sem]);have J:=q.cell (a:=⟨w.heap.size+2,0,none⟩) (v:=.int .u8 0) (by simp[go_sem]);have K:=q.cell (a:=⟨w.heap.size+2,1,none⟩) (v:=.int .u32 0) (by simp[go_sem]);have L:=fun o:Nat=>q.a2 (a:=⟨w.heap.size+2,o,none⟩) (by simp[go_sem]) (by simp[go_sem]);have A:aa w w1:=(by(exact kp)))
 go_wp2_with fail
 (go_at_call 134;refine(a8.out _ (by(exact kp))).mono ?_;rintro e w1 ⟨rfl,q⟩;have a1:=q.size;have L:=fun o:Nat=>q.a2 (a:=⟨w.heap.size+2,o,none⟩) (by dsimp only;omega) (L o);have T:=q.cell T;have U:=q.cell U;have O:=q.cell O;have S:=q.cell S;have J:=q.cell J;have K:=q.cell K;have a3:w.heap.size<w1.heap.size:=(by omega);have a4:w.heap.size+1<w1.heap.size:=(by omega);have N:w.heap.size+2<w1.heap.size:=(by omega);have A:aa w w1:=(by(exact kp)))
 go_wp2_with fail
 (go_at_call 78;refine(a7.out _ (by(exact kp))).mono ?_;rintro e E ⟨rfl,s⟩;have bg:=s.size;simp only[World.size_alloc]at bg;have j:=s.cell (a:=⟨w1.heap.size,0,none⟩) (v:=.int .u8 3) (by simp[go_sem]);have j:=s.cell (a:=⟨w1.heap.size,1,none⟩) (v:=.int .u8 l) (by simp[go_sem]);have j:=s.cell (a:=⟨w1.heap.size,2,none⟩) (v:=.int .u8 l) (by simp[go_sem]);have j:=s.cell (a:=⟨w1.heap.size,3,none⟩) (v:=.int .u8 lo.tag) (by simp[go_sem]);have j:=s.cell (a:=⟨w1.heap.size,4,none⟩) (v:=.int .u32 lo.to) (by simp[go_sem]);have j:=s.cell (a:=⟨w1.heap.size,5,none⟩) (v:=.int .u8 hi.tag) (by simp[go_sem]);have j:=s.cell (a:=⟨w1.heap.size,6,none⟩) (v:=.int .u32 hi.to) (by simp[go_sem]);have j:=fun o:Nat=>s.a2 (a:=⟨w1.heap.size,o,none⟩) (by simp[go_sem]) (by simp[go_sem]);have z:aa w1 E:=((aa.refl _).alloc _).trans s;have L:=fun o:Nat=>z.a2 (a:=⟨w.heap.size+2,o,none⟩) (by dsimp only;omega) (L o);have T:=z.cell T;have U:=z.cell U;have O:=z.cell O;have S:=z.cell S;have J:=z.cell J;have K:=z.cell K;have a3:w.heap.size<E.heap.size:=(by omega);have a4:w.heap.size+1<E.heap.size:=(by omega);have N:w.heap.size+2<E.heap.size:=(by omega);have j:w1.heap.size<E.heap.size:=(by omega);have j:aa w E:=A.trans z)
 all_goals go_wp2_with (first|(go_at_call 188;refine(a6.out _ (by(exact kp))).mono ?_;rintro e a5 ⟨rfl,I,be⟩;have bi:=I.size;(try simp only[World.size_alloc,World.size_setCell,World.a3]at bi);have bq:=I.cell (a:=⟨w.heap.size+2,0,none⟩) Z (v:=.int .u8 0) (by simp[go_sem,N,J]);have br:=I.cell (a:=⟨w.heap.size+2,1,none⟩) Z (v:=.int .u32 0) (by simp[go_sem,N,K]);have j:=fun o:Nat=>I.frozen (a:=⟨w.heap.size+2,o,none⟩) (by(try simp only[World.size_alloc,World.size_setCell,World.a3]);omega) Z (by(try simp only[World.frozen?_setCell,World.frozen?_drew,frozen?_alloc_cells]);exact L o);have bn:w.heap.size+2<a5.heap.size:=(by omega))|fail)
 all_goals refine bodyPost_ret (v:=.tuple #[.agg #[.int .u8 a,.int .u32 b],.int .u8 X]) (by simp[results,Tryz.results123,go_sem,bn,bq,br]) rfl ⟨rfl,_,a5,by(exact kp),I,be,?_⟩
 all_goals(try simp only[World.size_alloc,World.size_setCell,World.a3])
 all_goals(repeat (first|with_reducible exact ae.refl _ _|exact ae.mono j (fun k _ A=>⟨A.1,by(try simp only[World.size_alloc,World.size_setCell,World.a3]);have:=A.2;omega⟩)|refine ae.setCell ?_ (Or.inl (by dsimp only;omega)) _|refine ae.setCell ?_ (Or.inr (by dsimp only;omega)) _|with_reducible refine ae.drewN ?_ _|with_reducible refine ae.drew ?_|with_reducible refine ae.alloc ?_ _))

theorem uy {F:Nat→Prop}(R:World→World→Prop)(t:Nat)(l n:Int)(lo hi:Edge)(x:Rec)(a b X:Int)(w:World)(bv:n≤16)(bw:t<w.heap.size)
  (a3:∀j,aa w j→Calls Tryz.prog 48 #[.pointer (some ⟨t,0,none⟩)] j fun e w'=>e=.returned (.int .i64 n)∧j=w')
  (bs:0≤l) (bt:l<n)
  (aw:∀j,aa w j→Calls Tryz.prog 134 #[.pointer (some ⟨t,0,none⟩),.int .u8 3,.agg #[.int .u8 lo.tag,.int .u32 lo.to],.int .i64 (l+1)] j fun e w'=>e=.returned (.bool true)∧aa j w')
  (av:∀j,aa w j→Calls Tryz.prog 134 #[.pointer (some ⟨t,0,none⟩),.int .u8 3,.agg #[.int .u8 hi.tag,.int .u32 hi.to],.int .i64 (l+1)] j fun e w'=>e=.returned (.bool true)∧aa j w')
  (Y:¬lo=hi)
  (Z:¬x.hi=hi)
  (am:∀j,aa w j→Calls Tryz.prog 78 #[.pointer (some ⟨t,0,none⟩),.int .u32 lo.to] j fun e w'=>e=.returned (.tuple #[.agg #[.int .u8 x.ad,.int .u8 (l+1),.int .u8 x.J,.int .u8 x.lo.tag,.int .u32 x.lo.to,.int .u8 x.hi.tag,.int .u32 x.hi.to],.bool true])∧aa j w')
  (a1:∀k,F k→k<w.heap.size) (ad:∀j,aa w j→Calls Tryz.prog 188 #[.pointer (some ⟨t,0,none⟩),.agg #[.int .u8 3,.int .u8 l,.int .u8 l,.int .u8 lo.tag,.int .u32 lo.to,.int .u8 hi.tag,.int .u32 hi.to]] j fun e w'=>e=.returned (.tuple #[.agg #[.int .u8 a,.int .u32 b],.int .u8 X])∧ae F j w'∧R j w')
  : Calls Tryz.prog 123 #[.pointer (some ⟨t,0,none⟩),.int .i64 l,.agg #[.int .u8 lo.tag,.int .u32 lo.to],.agg #[.int .u8 hi.tag,.int .u32 hi.to]] w fun e w'=>e=.returned (.tuple #[.agg #[.int .u8 a,.int .u32 b],.int .u8 X]) ∧ 
   ∃j W,aa w j∧ae F j W∧R j W∧ae (fun k=>w.heap.size≤k∧k<j.heap.size) W w':=by
 have j:t<w.heap.size+1:=by omega
 have j:t<w.heap.size+1+1:=by omega
 have be:=Lib.hid a3
 clear a3
 have bb:=Lib.hid aw
 clear aw
 have a':=Lib.hid av
 clear av
 have a7:=Lib.hid ad
 have j:∀k,w.heap.size≤k→¬F k:=fun k A h=>by have:=a1 k h;omega
 have ab:=j (w.heap.size+2) (by omega)
 clear ad a1 j
 have j:=fR lo hi Y
 have j:=Lib.hid Y
 clear Y
 have j:=fR x.hi hi Z
 have j:=Lib.hid Z
 clear Z
 have a8:=Lib.hid am
 clear am
 go_enter Tryz.func123,Tryz.ntmps123
 go_wp2_with (first|(go_at_call 48;refine(be.out _ (by(exact kp))).mono ?_;rintro e w' ⟨rfl,rfl⟩)|fail)
 (go_at_call 134;refine(bb.out _ (by(exact kp))).mono ?_;rintro e w1 ⟨rfl,q⟩;have a2:=q.size;simp only[World.size_alloc]at a2;have a4:w.heap.size<w1.heap.size:=(by omega);have a5:w.heap.size+1<w1.heap.size:=(by omega);have N:w.heap.size+2<w1.heap.size:=(by omega);have T:=q.cell (a:=⟨w.heap.size,0,none⟩) (v:=.int .u8 lo.tag) (by simp[go_sem]);have U:=q.cell (a:=⟨w.heap.size,1,none⟩) (v:=.int .u32 lo.to) (by simp[go_sem]);have O:=q.cell (a:=⟨w.heap.size+1,0,none⟩) (v:=.int .u8 hi.tag) (by simp[go_sem]);have S:=q.cell (a:=⟨w.heap.size+1,1,none⟩) (v:=.int .u32 hi.to) (by simp[go_sem]);have J:=q.cell (a:=⟨w.heap.size+2,0,none⟩) (v:=.int .u8 0) (by simp[go_sem]);have K:=q.cell (a:=⟨w.heap.size+2,1,none⟩) (v:=.int .u32 0) (by simp[go_sem]);have L:=fun o:Nat=>q.a2 (a:=⟨w.heap.size+2,o,none⟩) (by simp[go_sem]) (by simp[go_sem]);have A:aa w w1:=(by(exact kp)))
 go_wp2_with fail
 (go_at_call 134;refine(a'.out _ (by(exact kp))).mono ?_;rintro e w1 ⟨rfl,q⟩;have a2:=q.size;have L:=fun o:Nat=>q.a2 (a:=⟨w.heap.size+2,o,none⟩) (by dsimp only;omega) (L o);have T:=q.cell T;have U:=q.cell U;have O:=q.cell O;have S:=q.cell S;have J:=q.cell J;have K:=q.cell K;have a4:w.heap.size<w1.heap.size:=(by omega);have a5:w.heap.size+1<w1.heap.size:=(by omega);have N:w.heap.size+2<w1.heap.size:=(by omega);have A:aa w w1:=(by(exact kp)))
 go_wp2_with fail
 (go_at_call 78;refine(a8.out _ (by(exact kp))).mono ?_;rintro e E ⟨rfl,s⟩;have bi:=s.size;simp only[World.size_alloc]at bi;have j:=s.cell (a:=⟨w1.heap.size,0,none⟩) (v:=.int .u8 3) (by simp[go_sem]);have j:=s.cell (a:=⟨w1.heap.size,1,none⟩) (v:=.int .u8 l) (by simp[go_sem]);have j:=s.cell (a:=⟨w1.heap.size,2,none⟩) (v:=.int .u8 l) (by simp[go_sem]);have j:=s.cell (a:=⟨w1.heap.size,3,none⟩) (v:=.int .u8 lo.tag) (by simp[go_sem]);have j:=s.cell (a:=⟨w1.heap.size,4,none⟩) (v:=.int .u32 lo.to) (by simp[go_sem]);have j:=s.cell (a:=⟨w1.heap.size,5,none⟩) (v:=.int .u8 hi.tag) (by simp[go_sem]);have j:=s.cell (a:=⟨w1.heap.size,6,none⟩) (v:=.int .u32 hi.to) (by simp[go_sem]);have j:=fun o:Nat=>s.a2 (a:=⟨w1.heap.size,o,none⟩) (by simp[go_sem]) (by simp[go_sem]);have z:aa w1 E:=((aa.refl _).alloc _).trans s;have L:=fun o:Nat=>z.a2 (a:=⟨w.heap.size+2,o,none⟩) (by dsimp only;omega) (L o);have T:=z.cell T;have U:=z.cell U;have O:=z.cell O;have S:=z.cell S;have J:=z.cell J;have K:=z.cell K;have a4:w.heap.size<E.heap.size:=(by omega);have a5:w.heap.size+1<E.heap.size:=(by omega);have N:w.heap.size+2<E.heap.size:=(by omega);have j:w1.heap.size<E.heap.size:=(by omega);have j:aa w E:=A.trans z)
 all_goals go_wp2_with (first|(go_at_call 188;refine(a7.out _ (by(exact kp))).mono ?_;rintro e a6 ⟨rfl,I,bg⟩;have bn:=I.size;(try simp only[World.size_alloc,World.size_setCell,World.a3]at bn);have bq:=I.cell (a:=⟨w.heap.size+2,0,none⟩) ab (v:=.int .u8 0) (by simp[go_sem,N,J]);have br:=I.cell (a:=⟨w.heap.size+2,1,none⟩) ab (v:=.int .u32 0) (by simp[go_sem,N,K]);have j:=fun o:Nat=>I.frozen (a:=⟨w.heap.size+2,o,none⟩) (by(try simp only[World.size_alloc,World.size_setCell,World.a3]);omega) ab (by(try simp only[World.frozen?_setCell,World.frozen?_drew,frozen?_alloc_cells]);exact L o);have bp:w.heap.size+2<a6.heap.size:=(by omega))|fail)
 all_goals refine bodyPost_ret (v:=.tuple #[.agg #[.int .u8 a,.int .u32 b],.int .u8 X]) (by simp[results,Tryz.results123,go_sem,bp,bq,br]) rfl ⟨rfl,_,a6,by(exact kp),I,bg,?_⟩
 all_goals(try simp only[World.size_alloc,World.size_setCell,World.a3])
 all_goals(repeat (first|with_reducible exact ae.refl _ _|exact ae.mono j (fun k _ A=>⟨A.1,by(try simp only[World.size_alloc,World.size_setCell,World.a3]);have:=A.2;omega⟩)|refine ae.setCell ?_ (Or.inl (by dsimp only;omega)) _|refine ae.setCell ?_ (Or.inr (by dsimp only;omega)) _|with_reducible refine ae.drewN ?_ _|with_reducible refine ae.drew ?_|with_reducible refine ae.alloc ?_ _))

theorem uw {F:Nat→Prop}(R:World→World→Prop)(t:Nat)(l n:Int)(lo hi:Edge)(x:Rec)(a b X:Int)(w:World)(bt:n≤16)(bv:t<w.heap.size)
  (a2:∀j,aa w j→Calls Tryz.prog 48 #[.pointer (some ⟨t,0,none⟩)] j fun e w'=>e=.returned (.int .i64 n)∧j=w')
  (br:0≤l) (bs:l<n)
  (av:∀j,aa w j→Calls Tryz.prog 134 #[.pointer (some ⟨t,0,none⟩),.int .u8 3,.agg #[.int .u8 lo.tag,.int .u32 lo.to],.int .i64 (l+1)] j fun e w'=>e=.returned (.bool true)∧aa j w')
  (am:∀j,aa w j→Calls Tryz.prog 134 #[.pointer (some ⟨t,0,none⟩),.int .u8 3,.agg #[.int .u8 hi.tag,.int .u32 hi.to],.int .i64 (l+1)] j fun e w'=>e=.returned (.bool true)∧aa j w')
  (Y:¬lo=hi)
  (ad:∀j,aa w j→Calls Tryz.prog 78 #[.pointer (some ⟨t,0,none⟩),.int .u32 lo.to] j fun e w'=>e=.returned (.tuple #[.agg #[.int .u8 x.ad,.int .u8 (l+1),.int .u8 x.J,.int .u8 x.lo.tag,.int .u32 x.lo.to,.int .u8 hi.tag,.int .u32 hi.to],.bool true])∧aa j w')
  (aw:∀k,F k→k<w.heap.size) (ab:∀j,aa w j→Calls Tryz.prog 188 #[.pointer (some ⟨t,0,none⟩),.agg #[.int .u8 3,.int .u8 l,.int .u8 x.J,.int .u8 x.lo.tag,.int .u32 x.lo.to,.int .u8 hi.tag,.int .u32 hi.to]] j fun e w'=>e=.returned (.tuple #[.agg #[.int .u8 a,.int .u32 b],.int .u8 X])∧ae F j w'∧R j w')
  : Calls Tryz.prog 123 #[.pointer (some ⟨t,0,none⟩),.int .i64 l,.agg #[.int .u8 lo.tag,.int .u32 lo.to],.agg #[.int .u8 hi.tag,.int .u32 hi.to]] w fun e w'=>e=.returned (.tuple #[.agg #[.int .u8 a,.int .u32 b],.int .u8 X]) ∧ 
   ∃j W,aa w j∧ae F j W∧R j W∧ae (fun k=>w.heap.size≤k∧k<j.heap.size) W w':=by
 have j:t<w.heap.size+1:=by omega
 have j:t<w.heap.size+1+1:=by omega
 have bb:=Lib.hid a2
 clear a2
 have a':=Lib.hid av
 clear av
 have a8:=Lib.hid am
 clear am
 have a6:=Lib.hid ab
 have j:∀k,w.heap.size≤k→¬F k:=fun k A h=>by have:=aw k h;omega
 have Z:=j (w.heap.size+2) (by omega)
 clear ab aw j
 have j:=fR lo hi Y
 have j:=Lib.hid Y
 clear Y
 have j:=gM hi hi rfl
 have a7:=Lib.hid ad
 clear ad
 go_enter Tryz.func123,Tryz.ntmps123
 go_wp2_with (first|(go_at_call 48;refine(bb.out _ (by(exact kp))).mono ?_;rintro e w' ⟨rfl,rfl⟩)|fail)
 (go_at_call 134;refine(a'.out _ (by(exact kp))).mono ?_;rintro e w1 ⟨rfl,q⟩;have a1:=q.size;simp only[World.size_alloc]at a1;have a3:w.heap.size<w1.heap.size:=(by omega);have a4:w.heap.size+1<w1.heap.size:=(by omega);have N:w.heap.size+2<w1.heap.size:=(by omega);have T:=q.cell (a:=⟨w.heap.size,0,none⟩) (v:=.int .u8 lo.tag) (by simp[go_sem]);have U:=q.cell (a:=⟨w.heap.size,1,none⟩) (v:=.int .u32 lo.to) (by simp[go_sem]);have O:=q.cell (a:=⟨w.heap.size+1,0,none⟩) (v:=.int .u8 hi.tag) (by simp[go_sem]);have S:=q.cell (a:=⟨w.heap.size+1,1,none⟩) (v:=.int .u32 hi.to) (by simp[go_sem]);have J:=q.cell (a:=⟨w.heap.size+2,0,none⟩) (v:=.int .u8 0) (by simp[go_sem]);have K:=q.cell (a:=⟨w.heap.size+2,1,none⟩) (v:=.int .u32 0) (by simp[go_sem]);have L:=fun o:Nat=>q.a2 (a:=⟨w.heap.size+2,o,none⟩) (by simp[go_sem]) (by simp[go_sem]);have A:aa w w1:=(by(exact kp)))
 go_wp2_with fail
 (go_at_call 134;refine(a8.out _ (by(exact kp))).mono ?_;rintro e w1 ⟨rfl,q⟩;have a1:=q.size;have L:=fun o:Nat=>q.a2 (a:=⟨w.heap.size+2,o,none⟩) (by dsimp only;omega) (L o);have T:=q.cell T;have U:=q.cell U;have O:=q.cell O;have S:=q.cell S;have J:=q.cell J;have K:=q.cell K;have a3:w.heap.size<w1.heap.size:=(by omega);have a4:w.heap.size+1<w1.heap.size:=(by omega);have N:w.heap.size+2<w1.heap.size:=(by omega);have A:aa w w1:=(by(exact kp)))
 go_wp2_with fail
 (go_at_call 78;refine(a7.out _ (by(exact kp))).mono ?_;rintro e E ⟨rfl,s⟩;have bg:=s.size;simp only[World.size_alloc]at bg;have j:=s.cell (a:=⟨w1.heap.size,0,none⟩) (v:=.int .u8 3) (by simp[go_sem]);have j:=s.cell (a:=⟨w1.heap.size,1,none⟩) (v:=.int .u8 l) (by simp[go_sem]);have j:=s.cell (a:=⟨w1.heap.size,2,none⟩) (v:=.int .u8 l) (by simp[go_sem]);have j:=s.cell (a:=⟨w1.heap.size,3,none⟩) (v:=.int .u8 lo.tag) (by simp[go_sem]);have j:=s.cell (a:=⟨w1.heap.size,4,none⟩) (v:=.int .u32 lo.to) (by simp[go_sem]);have j:=s.cell (a:=⟨w1.heap.size,5,none⟩) (v:=.int .u8 hi.tag) (by simp[go_sem]);have j:=s.cell (a:=⟨w1.heap.size,6,none⟩) (v:=.int .u32 hi.to) (by simp[go_sem]);have j:=fun o:Nat=>s.a2 (a:=⟨w1.heap.size,o,none⟩) (by simp[go_sem]) (by simp[go_sem]);have z:aa w1 E:=((aa.refl _).alloc _).trans s;have L:=fun o:Nat=>z.a2 (a:=⟨w.heap.size+2,o,none⟩) (by dsimp only;omega) (L o);have T:=z.cell T;have U:=z.cell U;have O:=z.cell O;have S:=z.cell S;have J:=z.cell J;have K:=z.cell K;have a3:w.heap.size<E.heap.size:=(by omega);have a4:w.heap.size+1<E.heap.size:=(by omega);have N:w.heap.size+2<E.heap.size:=(by omega);have j:w1.heap.size<E.heap.size:=(by omega);have j:aa w E:=A.trans z)
 go_wp2_with fail
 go_region
 all_goals go_wp2_with (first|(go_at_call 188;refine(a6.out _ (by(exact kp))).mono ?_;rintro e a5 ⟨rfl,I,be⟩;have bi:=I.size;(try simp only[World.size_alloc,World.size_setCell,World.a3]at bi);have bp:=I.cell (a:=⟨w.heap.size+2,0,none⟩) Z (v:=.int .u8 0) (by simp[go_sem,N,J]);have bq:=I.cell (a:=⟨w.heap.size+2,1,none⟩) Z (v:=.int .u32 0) (by simp[go_sem,N,K]);have j:=fun o:Nat=>I.frozen (a:=⟨w.heap.size+2,o,none⟩) (by(try simp only[World.size_alloc,World.size_setCell,World.a3]);omega) Z (by(try simp only[World.frozen?_setCell,World.frozen?_drew,frozen?_alloc_cells]);exact L o);have bn:w.heap.size+2<a5.heap.size:=(by omega))|fail)
 all_goals refine bodyPost_ret (v:=.tuple #[.agg #[.int .u8 a,.int .u32 b],.int .u8 X]) (by simp[results,Tryz.results123,go_sem,bn,bp,bq]) rfl ⟨rfl,_,a5,by(exact kp),I,be,?_⟩
 all_goals(try simp only[World.size_alloc,World.size_setCell,World.a3])
 all_goals(repeat (first|with_reducible exact ae.refl _ _|exact ae.mono j (fun k _ A=>⟨A.1,by(try simp only[World.size_alloc,World.size_setCell,World.a3]);have:=A.2;omega⟩)|refine ae.setCell ?_ (Or.inl (by dsimp only;omega)) _|refine ae.setCell ?_ (Or.inr (by dsimp only;omega)) _|with_reducible refine ae.drewN ?_ _|with_reducible refine ae.drew ?_|with_reducible refine ae.alloc ?_ _))

end Go.Proofs.YtafkamlhimkbmaaGreat
