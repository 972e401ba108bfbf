/-
  The walk of cbdd.View, case by case (printed by wip/mk_view.py).
-/
import Derived.Test.YtafkamlhimkbmaaGreatPOrderB
import Derived.BigRegion
namespace Go.Proofs.YtafkamlhimkbmaaGreat
set_option maxRecDepth 1000000
set_option maxHeartbeats 8000000
set_option linter.unusedSimpArgs false
set_option linter.unusedVariables false
open Go.RowKit

theorem uc (s:Nat)(l n:Int)(v:Edge)(w:World)(E:n≤16)(I:s<w.heap.size)
  (t:∀q,aa w q→Calls Tryz.prog 48 #[.pointer (some ⟨s,0,none⟩)] q fun e j=>e=.returned (.int .i64 n)∧q=j)
  (A:l<0)
  : Calls Tryz.prog 269 #[.pointer (some ⟨s,0,none⟩),.agg #[.int .u8 v.tag,.int .u32 v.to],.int .i64 l] w fun e j=>e=.returned (.tuple #[.agg #[.int .u8 0,.int .u32 0],.agg #[.int .u8 0,.int .u32 0],.int .u8 3])∧aa w j:=by
 have z:=Lib.hid t
 clear t
 go_enter Tryz.func269,Tryz.ntmps269
 go_wp2_with (first|(go_at_call 48;refine(z.out _ (by(exact kp))).mono ?_;rintro e j ⟨rfl,rfl⟩)|fail)
 go_region
 all_goals go_wp2
 all_goals refine bodyPost_ret (v:=.tuple #[.agg #[.int .u8 0,.int .u32 0],.agg #[.int .u8 0,.int .u32 0],.int .u8 3]) (by simp[results,Tryz.results269,go_sem]) rfl ⟨rfl,by(exact kp)⟩

theorem tZ (s:Nat)(l n:Int)(v:Edge)(w:World)(I:n≤16)(J:s<w.heap.size)
  (t:∀q,aa w q→Calls Tryz.prog 48 #[.pointer (some ⟨s,0,none⟩)] q fun e j=>e=.returned (.int .i64 n)∧q=j)
  (A:0≤l) (E:n≤l)
  : Calls Tryz.prog 269 #[.pointer (some ⟨s,0,none⟩),.agg #[.int .u8 v.tag,.int .u32 v.to],.int .i64 l] w fun e j=>e=.returned (.tuple #[.agg #[.int .u8 0,.int .u32 0],.agg #[.int .u8 0,.int .u32 0],.int .u8 3])∧aa w j:=by
 have z:=Lib.hid t
 clear t
 go_enter Tryz.func269,Tryz.ntmps269
 go_wp2_with (first|(go_at_call 48;refine(z.out _ (by(exact kp))).mono ?_;rintro e j ⟨rfl,rfl⟩)|fail)
 go_region
 all_goals go_wp2
 all_goals refine bodyPost_ret (v:=.tuple #[.agg #[.int .u8 0,.int .u32 0],.agg #[.int .u8 0,.int .u32 0],.int .u8 3]) (by simp[results,Tryz.results269,go_sem]) rfl ⟨rfl,by(exact kp)⟩

theorem ud (t:Nat)(l n:Int)(v:Edge)(w:World)(X:n≤16)(Y:t<w.heap.size)
  (A:∀q,aa w q→Calls Tryz.prog 48 #[.pointer (some ⟨t,0,none⟩)] q fun e s=>e=.returned (.int .i64 n)∧q=s)
  (U:0≤l) (W:l<n)
  (z:∀q,aa w q→Calls Tryz.prog 134 #[.pointer (some ⟨t,0,none⟩),.int .u8 3,.agg #[.int .u8 v.tag,.int .u32 v.to],.int .i64 l] q fun e s=>e=.returned (.bool false)∧aa q s)
  : Calls Tryz.prog 269 #[.pointer (some ⟨t,0,none⟩),.agg #[.int .u8 v.tag,.int .u32 v.to],.int .i64 l] w fun e s=>e=.returned (.tuple #[.agg #[.int .u8 0,.int .u32 0],.agg #[.int .u8 0,.int .u32 0],.int .u8 1])∧aa w s:=by
 have I:=Lib.hid A
 clear A
 have E:=Lib.hid z
 clear z
 go_enter Tryz.func269,Tryz.ntmps269
 go_wp2_with (first|(go_at_call 48;refine(I.out _ (by(exact kp))).mono ?_;rintro e s ⟨rfl,rfl⟩)|fail)
 (go_at_call 134;refine(E.out _ (by(exact kp))).mono ?_;rintro e w1 ⟨rfl,j⟩;have J:=j.size;simp only[World.size_alloc]at J;have q:w.heap.size<w1.heap.size:=(by omega);have K:w.heap.size+1<w1.heap.size:=(by omega);have L:w.heap.size+2<w1.heap.size:=(by omega);have q:=j.cell (a:=⟨w.heap.size,0,none⟩) (v:=.int .u8 v.tag) (by simp[go_sem]);have q:=j.cell (a:=⟨w.heap.size,1,none⟩) (v:=.int .u32 v.to) (by simp[go_sem]);have N:=j.cell (a:=⟨w.heap.size+1,0,none⟩) (v:=.int .u8 0) (by simp[go_sem]);have O:=j.cell (a:=⟨w.heap.size+1,1,none⟩) (v:=.int .u32 0) (by simp[go_sem]);have S:=j.cell (a:=⟨w.heap.size+2,0,none⟩) (v:=.int .u8 0) (by simp[go_sem]);have T:=j.cell (a:=⟨w.heap.size+2,1,none⟩) (v:=.int .u32 0) (by simp[go_sem]);have q:=fun o:Nat=>j.a2 (a:=⟨w.heap.size+1,o,none⟩) (by simp[go_sem]) (by simp[go_sem]);have q:=fun o:Nat=>j.a2 (a:=⟨w.heap.size+2,o,none⟩) (by simp[go_sem]) (by simp[go_sem]);have j:aa w w1:=(by(exact kp)))
 go_wp2_with fail
 go_region
 all_goals go_wp2
 all_goals refine bodyPost_ret (v:=.tuple #[.agg #[.int .u8 0,.int .u32 0],.agg #[.int .u8 0,.int .u32 0],.int .u8 1]) (by simp[results,Tryz.results269,go_sem,K,L,N,O,S,T]) rfl ⟨rfl,by(exact kp)⟩

theorem ue (z:Nat)(l n:Int)(v:Edge)(x:Rec)(w:World)(a3:n≤16)(a4:z<w.heap.size)
  (O:∀j,aa w j→Calls Tryz.prog 48 #[.pointer (some ⟨z,0,none⟩)] j fun e t=>e=.returned (.int .i64 n)∧j=t)
  (a1:0≤l) (a2:l<n)
  (N:∀j,aa w j→Calls Tryz.prog 134 #[.pointer (some ⟨z,0,none⟩),.int .u8 3,.agg #[.int .u8 v.tag,.int .u32 v.to],.int .i64 l] j fun e t=>e=.returned (.bool true)∧aa j t)
  (L:∀j,aa w j→Calls Tryz.prog 78 #[.pointer (some ⟨z,0,none⟩),.int .u32 v.to] j fun e t=>e=.returned (.tuple #[.agg #[.int .u8 x.ad,.int .u8 x.I,.int .u8 x.J,.int .u8 x.lo.tag,.int .u32 x.lo.to,.int .u8 x.hi.tag,.int .u32 x.hi.to],.bool false])∧aa j t)
  : Calls Tryz.prog 269 #[.pointer (some ⟨z,0,none⟩),.agg #[.int .u8 v.tag,.int .u32 v.to],.int .i64 l] w fun e t=>e=.returned (.tuple #[.agg #[.int .u8 v.tag,.int .u32 v.to],.agg #[.int .u8 v.tag,.int .u32 v.to],.int .u8 0])∧aa w t:=by
 have ad:=Lib.hid O
 clear O
 have ab:=Lib.hid N
 clear N
 have Z:=Lib.hid L
 clear L
 go_enter Tryz.func269,Tryz.ntmps269
 go_wp2_with (first|(go_at_call 48;refine(ad.out _ (by(exact kp))).mono ?_;rintro e t ⟨rfl,rfl⟩)|fail)
 (go_at_call 134;refine(ab.out _ (by(exact kp))).mono ?_;rintro e w1 ⟨rfl,s⟩;have av:=s.size;simp only[World.size_alloc]at av;have aw:w.heap.size<w1.heap.size:=(by omega);have S:w.heap.size+1<w1.heap.size:=(by omega);have T:w.heap.size+2<w1.heap.size:=(by omega);have W:=s.cell (a:=⟨w.heap.size,0,none⟩) (v:=.int .u8 v.tag) (by simp[go_sem]);have X:=s.cell (a:=⟨w.heap.size,1,none⟩) (v:=.int .u32 v.to) (by simp[go_sem]);have E:=s.cell (a:=⟨w.heap.size+1,0,none⟩) (v:=.int .u8 0) (by simp[go_sem]);have I:=s.cell (a:=⟨w.heap.size+1,1,none⟩) (v:=.int .u32 0) (by simp[go_sem]);have J:=s.cell (a:=⟨w.heap.size+2,0,none⟩) (v:=.int .u8 0) (by simp[go_sem]);have K:=s.cell (a:=⟨w.heap.size+2,1,none⟩) (v:=.int .u32 0) (by simp[go_sem]);have U:=fun o:Nat=>s.a2 (a:=⟨w.heap.size+1,o,none⟩) (by simp[go_sem]) (by simp[go_sem]);have Y:=fun o:Nat=>s.a2 (a:=⟨w.heap.size+2,o,none⟩) (by simp[go_sem]) (by simp[go_sem]);have am:aa w w1:=(by(exact kp)))
 go_wp2_with fail
 (go_at_call 78;refine(Z.out _ (by(exact kp))).mono ?_;rintro e A ⟨rfl,q⟩;have j:=q.size;have U:=fun o:Nat=>q.a2 (a:=⟨w.heap.size+1,o,none⟩) (by dsimp only;omega) (U o);have Y:=fun o:Nat=>q.a2 (a:=⟨w.heap.size+2,o,none⟩) (by dsimp only;omega) (Y o);have W:=q.cell W;have X:=q.cell X;have E:=q.cell E;have I:=q.cell I;have J:=q.cell J;have K:=q.cell K;have aw:w.heap.size<A.heap.size:=(by omega);have S:w.heap.size+1<A.heap.size:=(by omega);have T:w.heap.size+2<A.heap.size:=(by omega);have j:aa w A:=am.trans q)
 go_wp2_with fail
 go_region
 all_goals go_wp2
 all_goals refine bodyPost_ret (v:=.tuple #[.agg #[.int .u8 v.tag,.int .u32 v.to],.agg #[.int .u8 v.tag,.int .u32 v.to],.int .u8 0]) (by simp[results,Tryz.results269,go_sem,S,T,E,I,J,K]) rfl ⟨rfl,by(exact kp)⟩

theorem uh (z:Nat)(l n:Int)(v:Edge)(x:Rec)(w:World)(a3:n≤16)(a4:z<w.heap.size)
  (O:∀j,aa w j→Calls Tryz.prog 48 #[.pointer (some ⟨z,0,none⟩)] j fun e t=>e=.returned (.int .i64 n)∧j=t)
  (a1:0≤l) (a2:l<n)
  (N:∀j,aa w j→Calls Tryz.prog 134 #[.pointer (some ⟨z,0,none⟩),.int .u8 3,.agg #[.int .u8 v.tag,.int .u32 v.to],.int .i64 l] j fun e t=>e=.returned (.bool true)∧aa j t)
  (a5:l<x.I) (a6:0≤x.I) (a7:x.I≤255) (a8:0≤x.J) (a':x.J≤255)
  (L:∀j,aa w j→Calls Tryz.prog 78 #[.pointer (some ⟨z,0,none⟩),.int .u32 v.to] j fun e t=>e=.returned (.tuple #[.agg #[.int .u8 x.ad,.int .u8 x.I,.int .u8 x.J,.int .u8 x.lo.tag,.int .u32 x.lo.to,.int .u8 x.hi.tag,.int .u32 x.hi.to],.bool true])∧aa j t)
  : Calls Tryz.prog 269 #[.pointer (some ⟨z,0,none⟩),.agg #[.int .u8 v.tag,.int .u32 v.to],.int .i64 l] w fun e t=>e=.returned (.tuple #[.agg #[.int .u8 v.tag,.int .u32 v.to],.agg #[.int .u8 v.tag,.int .u32 v.to],.int .u8 0])∧aa w t:=by
 have ad:=Lib.hid O
 clear O
 have ab:=Lib.hid N
 clear N
 have Z:=Lib.hid L
 clear L
 go_enter Tryz.func269,Tryz.ntmps269
 go_wp2_with (first|(go_at_call 48;refine(ad.out _ (by(exact kp))).mono ?_;rintro e t ⟨rfl,rfl⟩)|fail)
 (go_at_call 134;refine(ab.out _ (by(exact kp))).mono ?_;rintro e w1 ⟨rfl,s⟩;have av:=s.size;simp only[World.size_alloc]at av;have aw:w.heap.size<w1.heap.size:=(by omega);have S:w.heap.size+1<w1.heap.size:=(by omega);have T:w.heap.size+2<w1.heap.size:=(by omega);have W:=s.cell (a:=⟨w.heap.size,0,none⟩) (v:=.int .u8 v.tag) (by simp[go_sem]);have X:=s.cell (a:=⟨w.heap.size,1,none⟩) (v:=.int .u32 v.to) (by simp[go_sem]);have E:=s.cell (a:=⟨w.heap.size+1,0,none⟩) (v:=.int .u8 0) (by simp[go_sem]);have I:=s.cell (a:=⟨w.heap.size+1,1,none⟩) (v:=.int .u32 0) (by simp[go_sem]);have J:=s.cell (a:=⟨w.heap.size+2,0,none⟩) (v:=.int .u8 0) (by simp[go_sem]);have K:=s.cell (a:=⟨w.heap.size+2,1,none⟩) (v:=.int .u32 0) (by simp[go_sem]);have U:=fun o:Nat=>s.a2 (a:=⟨w.heap.size+1,o,none⟩) (by simp[go_sem]) (by simp[go_sem]);have Y:=fun o:Nat=>s.a2 (a:=⟨w.heap.size+2,o,none⟩) (by simp[go_sem]) (by simp[go_sem]);have am:aa w w1:=(by(exact kp)))
 go_wp2_with fail
 (go_at_call 78;refine(Z.out _ (by(exact kp))).mono ?_;rintro e A ⟨rfl,q⟩;have j:=q.size;have U:=fun o:Nat=>q.a2 (a:=⟨w.heap.size+1,o,none⟩) (by dsimp only;omega) (U o);have Y:=fun o:Nat=>q.a2 (a:=⟨w.heap.size+2,o,none⟩) (by dsimp only;omega) (Y o);have W:=q.cell W;have X:=q.cell X;have E:=q.cell E;have I:=q.cell I;have J:=q.cell J;have K:=q.cell K;have aw:w.heap.size<A.heap.size:=(by omega);have S:w.heap.size+1<A.heap.size:=(by omega);have T:w.heap.size+2<A.heap.size:=(by omega);have j:aa w A:=am.trans q)
 go_wp2_with fail
 go_region
 all_goals go_wp2
 all_goals refine bodyPost_ret (v:=.tuple #[.agg #[.int .u8 v.tag,.int .u32 v.to],.agg #[.int .u8 v.tag,.int .u32 v.to],.int .u8 0]) (by simp[results,Tryz.results269,go_sem,S,T,E,I,J,K]) rfl ⟨rfl,by(exact kp)⟩

theorem tY (z:Nat)(l n:Int)(v:Edge)(x:Rec)(w:World)(a3:n≤16)(a4:z<w.heap.size)
  (O:∀j,aa w j→Calls Tryz.prog 48 #[.pointer (some ⟨z,0,none⟩)] j fun e t=>e=.returned (.int .i64 n)∧j=t)
  (a1:0≤l) (a2:l<n)
  (N:∀j,aa w j→Calls Tryz.prog 134 #[.pointer (some ⟨z,0,none⟩),.int .u8 3,.agg #[.int .u8 v.tag,.int .u32 v.to],.int .i64 l] j fun e t=>e=.returned (.bool true)∧aa j t)
   (a5:0≤x.I) (a6:x.I≤255) (a7:0≤x.J) (a8:x.J≤255)
  (L:∀j,aa w j→Calls Tryz.prog 78 #[.pointer (some ⟨z,0,none⟩),.int .u32 v.to] j fun e t=>e=.returned (.tuple #[.agg #[.int .u8 x.ad,.int .u8 l,.int .u8 l,.int .u8 x.lo.tag,.int .u32 x.lo.to,.int .u8 x.hi.tag,.int .u32 x.hi.to],.bool true])∧aa j t)
  : Calls Tryz.prog 269 #[.pointer (some ⟨z,0,none⟩),.agg #[.int .u8 v.tag,.int .u32 v.to],.int .i64 l] w fun e t=>e=.returned (.tuple #[.agg #[.int .u8 x.lo.tag,.int .u32 x.lo.to],.agg #[.int .u8 x.hi.tag,.int .u32 x.hi.to],.int .u8 0])∧aa w t:=by
 have ad:=Lib.hid O
 clear O
 have ab:=Lib.hid N
 clear N
 have Z:=Lib.hid L
 clear L
 go_enter Tryz.func269,Tryz.ntmps269
 go_wp2_with (first|(go_at_call 48;refine(ad.out _ (by(exact kp))).mono ?_;rintro e t ⟨rfl,rfl⟩)|fail)
 (go_at_call 134;refine(ab.out _ (by(exact kp))).mono ?_;rintro e w1 ⟨rfl,s⟩;have av:=s.size;simp only[World.size_alloc]at av;have aw:w.heap.size<w1.heap.size:=(by omega);have S:w.heap.size+1<w1.heap.size:=(by omega);have T:w.heap.size+2<w1.heap.size:=(by omega);have W:=s.cell (a:=⟨w.heap.size,0,none⟩) (v:=.int .u8 v.tag) (by simp[go_sem]);have X:=s.cell (a:=⟨w.heap.size,1,none⟩) (v:=.int .u32 v.to) (by simp[go_sem]);have E:=s.cell (a:=⟨w.heap.size+1,0,none⟩) (v:=.int .u8 0) (by simp[go_sem]);have I:=s.cell (a:=⟨w.heap.size+1,1,none⟩) (v:=.int .u32 0) (by simp[go_sem]);have J:=s.cell (a:=⟨w.heap.size+2,0,none⟩) (v:=.int .u8 0) (by simp[go_sem]);have K:=s.cell (a:=⟨w.heap.size+2,1,none⟩) (v:=.int .u32 0) (by simp[go_sem]);have U:=fun o:Nat=>s.a2 (a:=⟨w.heap.size+1,o,none⟩) (by simp[go_sem]) (by simp[go_sem]);have Y:=fun o:Nat=>s.a2 (a:=⟨w.heap.size+2,o,none⟩) (by simp[go_sem]) (by simp[go_sem]);have am:aa w w1:=(by(exact kp)))
 go_wp2_with fail
 (go_at_call 78;refine(Z.out _ (by(exact kp))).mono ?_;rintro e A ⟨rfl,q⟩;have j:=q.size;have U:=fun o:Nat=>q.a2 (a:=⟨w.heap.size+1,o,none⟩) (by dsimp only;omega) (U o);have Y:=fun o:Nat=>q.a2 (a:=⟨w.heap.size+2,o,none⟩) (by dsimp only;omega) (Y o);have W:=q.cell W;have X:=q.cell X;have E:=q.cell E;have I:=q.cell I;have J:=q.cell J;have K:=q.cell K;have aw:w.heap.size<A.heap.size:=(by omega);have S:w.heap.size+1<A.heap.size:=(by omega);have T:w.heap.size+2<A.heap.size:=(by omega);have j:aa w A:=am.trans q)
 go_wp2_with fail
 go_region
 all_goals go_wp2
 all_goals refine bodyPost_ret (v:=.tuple #[.agg #[.int .u8 x.lo.tag,.int .u32 x.lo.to],.agg #[.int .u8 x.hi.tag,.int .u32 x.hi.to],.int .u8 0]) (by simp[results,Tryz.results269,go_sem,S,T,E,I,J,K]) rfl ⟨rfl,by(exact kp)⟩

theorem t' {F:Nat→Prop}(R:World→World→Prop)(S:Nat)(l n:Int)(v:Edge)(x:Rec)(a b:Int)(w:World)(b0:n≤16)(b1:S<w.heap.size)
  (a2:∀j,aa w j→Calls Tryz.prog 48 #[.pointer (some ⟨S,0,none⟩)] j fun e s=>e=.returned (.int .i64 n)∧j=s)
  (bw:0≤l) (bx:l<n)
  (aw:∀j,aa w j→Calls Tryz.prog 134 #[.pointer (some ⟨S,0,none⟩),.int .u8 3,.agg #[.int .u8 v.tag,.int .u32 v.to],.int .i64 l] j fun e s=>e=.returned (.bool true)∧aa j s)
  (b6:¬x.J=l) (b2:0≤x.I) (b3:x.I≤255) (b4:0≤x.J) (b5:x.J≤255)
  (av:∀j,aa w j→Calls Tryz.prog 78 #[.pointer (some ⟨S,0,none⟩),.int .u32 v.to] j fun e s=>e=.returned (.tuple #[.agg #[.int .u8 3,.int .u8 l,.int .u8 x.J,.int .u8 x.lo.tag,.int .u32 x.lo.to,.int .u8 x.hi.tag,.int .u32 x.hi.to],.bool true])∧aa j s)
  (a1:∀k,F k→k<w.heap.size) (am:∀j,aa w j→Calls Tryz.prog 188 #[.pointer (some ⟨S,0,none⟩),.agg #[.int .u8 3,.int .u8 (l+1),.int .u8 x.J,.int .u8 x.lo.tag,.int .u32 x.lo.to,.int .u8 x.hi.tag,.int .u32 x.hi.to]] j fun e s=>e=.returned (.tuple #[.agg #[.int .u8 a,.int .u32 b],.int .u8 0])∧ae F j s∧R j s)
  : Calls Tryz.prog 269 #[.pointer (some ⟨S,0,none⟩),.agg #[.int .u8 v.tag,.int .u32 v.to],.int .i64 l] w fun e s=>e=.returned (.tuple #[.agg #[.int .u8 a,.int .u32 b],.agg #[.int .u8 x.hi.tag,.int .u32 x.hi.to],.int .u8 0]) ∧ 
   ∃j Z,aa w j∧ae F j Z∧R j Z∧ae (fun k=>w.heap.size≤k∧k<j.heap.size) Z s:=by
 have a8:=Lib.hid a2
 clear a2
 have a7:=Lib.hid aw
 clear aw
 have a5:=Lib.hid am
 have j:∀k,w.heap.size≤k→¬F k:=fun k X h=>by have:=a1 k h;omega
 have ab:=j (w.heap.size+1) (by omega)
 have ad:=j (w.heap.size+2) (by omega)
 have S:=Lib.hid j
 clear am a1 j
 have a6:=Lib.hid av
 clear av
 go_enter Tryz.func269,Tryz.ntmps269
 go_wp2_with (first|(go_at_call 48;refine(a8.out _ (by(exact kp))).mono ?_;rintro e s ⟨rfl,rfl⟩)|fail)
 (go_at_call 134;refine(a7.out _ (by(exact kp))).mono ?_;rintro e w1 ⟨rfl,A⟩;have bg:=A.size;simp only[World.size_alloc]at bg;have bq:w.heap.size<w1.heap.size:=(by omega);have I:w.heap.size+1<w1.heap.size:=(by omega);have J:w.heap.size+2<w1.heap.size:=(by omega);have a3:=A.cell (a:=⟨w.heap.size,0,none⟩) (v:=.int .u8 v.tag) (by simp[go_sem]);have a4:=A.cell (a:=⟨w.heap.size,1,none⟩) (v:=.int .u32 v.to) (by simp[go_sem]);have K:=A.cell (a:=⟨w.heap.size+1,0,none⟩) (v:=.int .u8 0) (by simp[go_sem]);have L:=A.cell (a:=⟨w.heap.size+1,1,none⟩) (v:=.int .u32 0) (by simp[go_sem]);have N:=A.cell (a:=⟨w.heap.size+2,0,none⟩) (v:=.int .u8 0) (by simp[go_sem]);have O:=A.cell (a:=⟨w.heap.size+2,1,none⟩) (v:=.int .u32 0) (by simp[go_sem]);have U:=fun o:Nat=>A.a2 (a:=⟨w.heap.size+1,o,none⟩) (by simp[go_sem]) (by simp[go_sem]);have W:=fun o:Nat=>A.a2 (a:=⟨w.heap.size+2,o,none⟩) (by simp[go_sem]) (by simp[go_sem]);have X:aa w w1:=(by(exact kp)))
 go_wp2_with fail
 (go_at_call 78;refine(a6.out _ (by(exact kp))).mono ?_;rintro e Y ⟨rfl,t⟩;have j:=t.size;have U:=fun o:Nat=>t.a2 (a:=⟨w.heap.size+1,o,none⟩) (by dsimp only;omega) (U o);have W:=fun o:Nat=>t.a2 (a:=⟨w.heap.size+2,o,none⟩) (by dsimp only;omega) (W o);have a3:=t.cell a3;have a4:=t.cell a4;have K:=t.cell K;have L:=t.cell L;have N:=t.cell N;have O:=t.cell O;have bq:w.heap.size<Y.heap.size:=(by omega);have I:w.heap.size+1<Y.heap.size:=(by omega);have J:w.heap.size+2<Y.heap.size:=(by omega);have j:aa w Y:=X.trans t)
 go_wp2_with fail
 (go_at_call 188;refine(a5.out _ (by(exact kp))).mono ?_;rintro e T ⟨rfl,E,a'⟩;have bb:=E.size;(try simp only[World.size_alloc,World.size_setCell,World.a3]at bb);have K:=E.cell (a:=⟨w.heap.size+1,0,none⟩) ab (v:=.int .u8 0) (by simp[go_sem,I,J,K,L]);have L:=E.cell (a:=⟨w.heap.size+1,1,none⟩) ab (v:=.int .u32 0) (by simp[go_sem,I,J,K,L]);have N:=E.cell (a:=⟨w.heap.size+2,0,none⟩) ad (v:=.int .u8 x.hi.tag) (by simp[go_sem,I,J,N,O]);have O:=E.cell (a:=⟨w.heap.size+2,1,none⟩) ad (v:=.int .u32 x.hi.to) (by simp[go_sem,I,J,N,O]);have U:=fun o:Nat=>E.frozen (a:=⟨w.heap.size+1,o,none⟩) (by(try simp only[World.size_alloc,World.size_setCell,World.a3]);omega) ab (by(try simp only[World.frozen?_setCell,frozen?_alloc_cells]);exact U o);have W:=fun o:Nat=>E.frozen (a:=⟨w.heap.size+2,o,none⟩) (by(try simp only[World.size_alloc,World.size_setCell,World.a3]);omega) ad (by(try simp only[World.frozen?_setCell,frozen?_alloc_cells]);exact W o);have I:w.heap.size+1<T.heap.size:=(by omega);have J:w.heap.size+2<T.heap.size:=(by omega))
 go_wp2_with fail
 obtain⟨q,z⟩:∃q,q=((T.setCell ⟨w.heap.size+1,0,none⟩ (.int .u8 a)).setCell ⟨w.heap.size+1,1,none⟩ (.int .u32 b)):=⟨_,rfl⟩
 have br:q.cell? ⟨w.heap.size+1,0,none⟩=some (.int .u8 a):=by rw[z];simp[go_sem,K,L,I]
 have bs:q.cell? ⟨w.heap.size+1,1,none⟩=some (.int .u32 b):=by rw[z];simp[go_sem,K,L,I]
 have bt:q.cell? ⟨w.heap.size+2,0,none⟩=some (.int .u8 x.hi.tag):=by rw[z];simp[go_sem,N,O,J]
 have bv:q.cell? ⟨w.heap.size+2,1,none⟩=some (.int .u32 x.hi.to):=by rw[z];simp[go_sem,N,O,J]
 have j:∀o,q.frozen? ⟨w.heap.size+1,o,none⟩=false:=by intro o;rw[z];simp only[World.frozen?_setCell];exact U o
 have j:∀o,q.frozen? ⟨w.heap.size+2,o,none⟩=false:=by intro o;rw[z];simp only[World.frozen?_setCell];exact W o
 have be:q.heap.size=T.heap.size:=by rw[z];simp only[World.size_setCell]
 have bi:ae (fun k=>w.heap.size≤k∧k<w.heap.size+3) T q:=by rw[z];exact((ae.refl _ _).setCell (Or.inl (by dsimp only;omega)) _).setCell (Or.inl (by dsimp only;omega)) _
 rw[←z]
 have bn:w.heap.size+1<q.heap.size:=by omega
 have bp:w.heap.size+2<q.heap.size:=by omega
 clear z K L N O U W be
 go_region
 all_goals go_wp2
 all_goals refine bodyPost_ret (v:=.tuple #[.agg #[.int .u8 a,.int .u32 b],.agg #[.int .u8 x.hi.tag,.int .u32 x.hi.to],.int .u8 0]) (by simp[results,Tryz.results269,go_sem,bn,bp,br,bs,bt,bv]) rfl ⟨rfl,_,T,by(exact kp),E,a',?_⟩
 all_goals(try simp only[World.size_alloc,World.size_setCell,World.a3])
 all_goals(repeat (first|with_reducible exact ae.refl _ _|exact ae.mono bi (fun k _ X=>⟨X.1,by(try simp only[World.size_alloc,World.size_setCell,World.a3]);have:=X.2;omega⟩)|refine ae.setCell ?_ (Or.inl (by dsimp only;omega)) _|refine ae.setCell ?_ (Or.inr (by dsimp only;omega)) _|with_reducible refine ae.drewN ?_ _|with_reducible refine ae.drew ?_|with_reducible refine ae.alloc ?_ _))

theorem ub {F:Nat→Prop}(R:World→World→Prop)(S:Nat)(l n:Int)(v:Edge)(x:Rec)(a b Y:Int)(b1:Y≠0)(w:World)(b2:n≤16)(b3:S<w.heap.size)
  (a3:∀j,aa w j→Calls Tryz.prog 48 #[.pointer (some ⟨S,0,none⟩)] j fun e s=>e=.returned (.int .i64 n)∧j=s)
  (bx:0≤l) (b0:l<n)
  (a1:∀j,aa w j→Calls Tryz.prog 134 #[.pointer (some ⟨S,0,none⟩),.int .u8 3,.agg #[.int .u8 v.tag,.int .u32 v.to],.int .i64 l] j fun e s=>e=.returned (.bool true)∧aa j s)
  (b8:¬x.J=l) (b4:0≤x.I) (b5:x.I≤255) (b6:0≤x.J) (b7:x.J≤255)
  (aw:∀j,aa w j→Calls Tryz.prog 78 #[.pointer (some ⟨S,0,none⟩),.int .u32 v.to] j fun e s=>e=.returned (.tuple #[.agg #[.int .u8 3,.int .u8 l,.int .u8 x.J,.int .u8 x.lo.tag,.int .u32 x.lo.to,.int .u8 x.hi.tag,.int .u32 x.hi.to],.bool true])∧aa j s)
  (a2:∀k,F k→k<w.heap.size) (av:∀j,aa w j→Calls Tryz.prog 188 #[.pointer (some ⟨S,0,none⟩),.agg #[.int .u8 3,.int .u8 (l+1),.int .u8 x.J,.int .u8 x.lo.tag,.int .u32 x.lo.to,.int .u8 x.hi.tag,.int .u32 x.hi.to]] j fun e s=>e=.returned (.tuple #[.agg #[.int .u8 a,.int .u32 b],.int .u8 Y])∧ae F j s∧R j s)
  : Calls Tryz.prog 269 #[.pointer (some ⟨S,0,none⟩),.agg #[.int .u8 v.tag,.int .u32 v.to],.int .i64 l] w fun e s=>e=.returned (.tuple #[.agg #[.int .u8 0,.int .u32 0],.agg #[.int .u8 0,.int .u32 0],.int .u8 Y]) ∧ 
   ∃j ab,aa w j∧ae F j ab∧R j ab∧ae (fun k=>w.heap.size≤k∧k<j.heap.size) ab s:=by
 have a':=Lib.hid a3
 clear a3
 have a8:=Lib.hid a1
 clear a1
 have a6:=Lib.hid av
 have j:∀k,w.heap.size≤k→¬F k:=fun k X h=>by have:=a2 k h;omega
 have ad:=j (w.heap.size+1) (by omega)
 have am:=j (w.heap.size+2) (by omega)
 have S:=Lib.hid j
 clear av a2 j
 have a7:=Lib.hid aw
 clear aw
 go_enter Tryz.func269,Tryz.ntmps269
 go_wp2_with (first|(go_at_call 48;refine(a'.out _ (by(exact kp))).mono ?_;rintro e s ⟨rfl,rfl⟩)|fail)
 (go_at_call 134;refine(a8.out _ (by(exact kp))).mono ?_;rintro e w1 ⟨rfl,A⟩;have bi:=A.size;simp only[World.size_alloc]at bi;have br:w.heap.size<w1.heap.size:=(by omega);have I:w.heap.size+1<w1.heap.size:=(by omega);have J:w.heap.size+2<w1.heap.size:=(by omega);have a4:=A.cell (a:=⟨w.heap.size,0,none⟩) (v:=.int .u8 v.tag) (by simp[go_sem]);have a5:=A.cell (a:=⟨w.heap.size,1,none⟩) (v:=.int .u32 v.to) (by simp[go_sem]);have K:=A.cell (a:=⟨w.heap.size+1,0,none⟩) (v:=.int .u8 0) (by simp[go_sem]);have L:=A.cell (a:=⟨w.heap.size+1,1,none⟩) (v:=.int .u32 0) (by simp[go_sem]);have N:=A.cell (a:=⟨w.heap.size+2,0,none⟩) (v:=.int .u8 0) (by simp[go_sem]);have O:=A.cell (a:=⟨w.heap.size+2,1,none⟩) (v:=.int .u32 0) (by simp[go_sem]);have U:=fun o:Nat=>A.a2 (a:=⟨w.heap.size+1,o,none⟩) (by simp[go_sem]) (by simp[go_sem]);have W:=fun o:Nat=>A.a2 (a:=⟨w.heap.size+2,o,none⟩) (by simp[go_sem]) (by simp[go_sem]);have X:aa w w1:=(by(exact kp)))
 go_wp2_with fail
 (go_at_call 78;refine(a7.out _ (by(exact kp))).mono ?_;rintro e Z ⟨rfl,t⟩;have j:=t.size;have U:=fun o:Nat=>t.a2 (a:=⟨w.heap.size+1,o,none⟩) (by dsimp only;omega) (U o);have W:=fun o:Nat=>t.a2 (a:=⟨w.heap.size+2,o,none⟩) (by dsimp only;omega) (W o);have a4:=t.cell a4;have a5:=t.cell a5;have K:=t.cell K;have L:=t.cell L;have N:=t.cell N;have O:=t.cell O;have br:w.heap.size<Z.heap.size:=(by omega);have I:w.heap.size+1<Z.heap.size:=(by omega);have J:w.heap.size+2<Z.heap.size:=(by omega);have j:aa w Z:=X.trans t)
 go_wp2_with fail
 (go_at_call 188;refine(a6.out _ (by(exact kp))).mono ?_;rintro e T ⟨rfl,E,bb⟩;have be:=E.size;(try simp only[World.size_alloc,World.size_setCell,World.a3]at be);have K:=E.cell (a:=⟨w.heap.size+1,0,none⟩) ad (v:=.int .u8 0) (by simp[go_sem,I,J,K,L]);have L:=E.cell (a:=⟨w.heap.size+1,1,none⟩) ad (v:=.int .u32 0) (by simp[go_sem,I,J,K,L]);have N:=E.cell (a:=⟨w.heap.size+2,0,none⟩) am (v:=.int .u8 x.hi.tag) (by simp[go_sem,I,J,N,O]);have O:=E.cell (a:=⟨w.heap.size+2,1,none⟩) am (v:=.int .u32 x.hi.to) (by simp[go_sem,I,J,N,O]);have U:=fun o:Nat=>E.frozen (a:=⟨w.heap.size+1,o,none⟩) (by(try simp only[World.size_alloc,World.size_setCell,World.a3]);omega) ad (by(try simp only[World.frozen?_setCell,frozen?_alloc_cells]);exact U o);have W:=fun o:Nat=>E.frozen (a:=⟨w.heap.size+2,o,none⟩) (by(try simp only[World.size_alloc,World.size_setCell,World.a3]);omega) am (by(try simp only[World.frozen?_setCell,frozen?_alloc_cells]);exact W o);have I:w.heap.size+1<T.heap.size:=(by omega);have J:w.heap.size+2<T.heap.size:=(by omega))
 go_wp2_with fail
 obtain⟨q,z⟩:∃q,q=((T.setCell ⟨w.heap.size+1,0,none⟩ (.int .u8 a)).setCell ⟨w.heap.size+1,1,none⟩ (.int .u32 b)):=⟨_,rfl⟩
 have bs:q.cell? ⟨w.heap.size+1,0,none⟩=some (.int .u8 a):=by rw[z];simp[go_sem,K,L,I]
 have bt:q.cell? ⟨w.heap.size+1,1,none⟩=some (.int .u32 b):=by rw[z];simp[go_sem,K,L,I]
 have bv:q.cell? ⟨w.heap.size+2,0,none⟩=some (.int .u8 x.hi.tag):=by rw[z];simp[go_sem,N,O,J]
 have bw:q.cell? ⟨w.heap.size+2,1,none⟩=some (.int .u32 x.hi.to):=by rw[z];simp[go_sem,N,O,J]
 have j:∀o,q.frozen? ⟨w.heap.size+1,o,none⟩=false:=by intro o;rw[z];simp only[World.frozen?_setCell];exact U o
 have j:∀o,q.frozen? ⟨w.heap.size+2,o,none⟩=false:=by intro o;rw[z];simp only[World.frozen?_setCell];exact W o
 have bg:q.heap.size=T.heap.size:=by rw[z];simp only[World.size_setCell]
 have bn:ae (fun k=>w.heap.size≤k∧k<w.heap.size+3) T q:=by rw[z];exact((ae.refl _ _).setCell (Or.inl (by dsimp only;omega)) _).setCell (Or.inl (by dsimp only;omega)) _
 rw[←z]
 have bp:w.heap.size+1<q.heap.size:=by omega
 have bq:w.heap.size+2<q.heap.size:=by omega
 clear z K L N O U W bg
 all_goals refine bodyPost_ret (v:=.tuple #[.agg #[.int .u8 0,.int .u32 0],.agg #[.int .u8 0,.int .u32 0],.int .u8 Y]) (by simp[results,Tryz.results269,go_sem,bp,bq,bs,bt,bv,bw]) rfl ⟨rfl,_,T,by(exact kp),E,bb,?_⟩
 all_goals(try simp only[World.size_alloc,World.size_setCell,World.a3])
 all_goals(repeat (first|with_reducible exact ae.refl _ _|exact ae.mono bn (fun k _ X=>⟨X.1,by(try simp only[World.size_alloc,World.size_setCell,World.a3]);have:=X.2;omega⟩)|refine ae.setCell ?_ (Or.inl (by dsimp only;omega)) _|refine ae.setCell ?_ (Or.inr (by dsimp only;omega)) _|with_reducible refine ae.drewN ?_ _|with_reducible refine ae.drew ?_|with_reducible refine ae.alloc ?_ _))

end Go.Proofs.YtafkamlhimkbmaaGreat
