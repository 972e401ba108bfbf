/-
  The walk of bdd.View, case by case (printed by wip/mk_view.py).
-/
import Derived.Test.YtafkamlhimkbmaaGreatPOrderB
import Derived.BigRegion
namespace Go.Proofs.YtafkamlhimkbmaaGreat
set_option maxRecDepth 1000000
set_option maxHeartbeats 8000000
set_option linter.unusedSimpArgs false
set_option linter.unusedVariables false
open Go.RowKit

theorem tq (s:Nat)(l n:Int)(v:Edge)(w:World)(E:n≤16)(I:s<w.heap.size)
  (t:∀q,aa w q→Calls Tryz.prog 48 #[.pointer (some ⟨s,0,none⟩)] q fun e j=>e=.returned (.int .i64 n)∧q=j)
  (A:l<0)
  : Calls Tryz.prog 267 #[.pointer (some ⟨s,0,none⟩),.agg #[.int .u8 v.tag,.int .u32 v.to],.int .i64 l] w fun e j=>e=.returned (.tuple #[.agg #[.int .u8 0,.int .u32 0],.agg #[.int .u8 0,.int .u32 0],.int .u8 3])∧aa w j:=by
 have z:=Lib.hid t
 clear t
 go_enter Tryz.func267,Tryz.ntmps267
 go_wp2_with (first|(go_at_call 48;refine(z.out _ (by(exact kp))).mono ?_;rintro e j ⟨rfl,rfl⟩)|fail)
 go_region
 all_goals go_wp2
 all_goals refine bodyPost_ret (v:=.tuple #[.agg #[.int .u8 0,.int .u32 0],.agg #[.int .u8 0,.int .u32 0],.int .u8 3]) (by simp[results,Tryz.results267,go_sem]) rfl ⟨rfl,by(exact kp)⟩

theorem tp (s:Nat)(l n:Int)(v:Edge)(w:World)(I:n≤16)(J:s<w.heap.size)
  (t:∀q,aa w q→Calls Tryz.prog 48 #[.pointer (some ⟨s,0,none⟩)] q fun e j=>e=.returned (.int .i64 n)∧q=j)
  (A:0≤l) (E:n≤l)
  : Calls Tryz.prog 267 #[.pointer (some ⟨s,0,none⟩),.agg #[.int .u8 v.tag,.int .u32 v.to],.int .i64 l] w fun e j=>e=.returned (.tuple #[.agg #[.int .u8 0,.int .u32 0],.agg #[.int .u8 0,.int .u32 0],.int .u8 3])∧aa w j:=by
 have z:=Lib.hid t
 clear t
 go_enter Tryz.func267,Tryz.ntmps267
 go_wp2_with (first|(go_at_call 48;refine(z.out _ (by(exact kp))).mono ?_;rintro e j ⟨rfl,rfl⟩)|fail)
 go_region
 all_goals go_wp2
 all_goals refine bodyPost_ret (v:=.tuple #[.agg #[.int .u8 0,.int .u32 0],.agg #[.int .u8 0,.int .u32 0],.int .u8 3]) (by simp[results,Tryz.results267,go_sem]) rfl ⟨rfl,by(exact kp)⟩

theorem tt (t:Nat)(l n:Int)(v:Edge)(w:World)(X:n≤16)(Y:t<w.heap.size)
  (A:∀q,aa w q→Calls Tryz.prog 48 #[.pointer (some ⟨t,0,none⟩)] q fun e s=>e=.returned (.int .i64 n)∧q=s)
  (U:0≤l) (W:l<n)
  (z:∀q,aa w q→Calls Tryz.prog 134 #[.pointer (some ⟨t,0,none⟩),.int .u8 1,.agg #[.int .u8 v.tag,.int .u32 v.to],.int .i64 l] q fun e s=>e=.returned (.bool false)∧aa q s)
  : Calls Tryz.prog 267 #[.pointer (some ⟨t,0,none⟩),.agg #[.int .u8 v.tag,.int .u32 v.to],.int .i64 l] w fun e s=>e=.returned (.tuple #[.agg #[.int .u8 0,.int .u32 0],.agg #[.int .u8 0,.int .u32 0],.int .u8 1])∧aa w s:=by
 have I:=Lib.hid A
 clear A
 have E:=Lib.hid z
 clear z
 go_enter Tryz.func267,Tryz.ntmps267
 go_wp2_with (first|(go_at_call 48;refine(I.out _ (by(exact kp))).mono ?_;rintro e s ⟨rfl,rfl⟩)|fail)
 (go_at_call 134;refine(E.out _ (by(exact kp))).mono ?_;rintro e w1 ⟨rfl,j⟩;have J:=j.size;simp only[World.size_alloc]at J;have q:w.heap.size<w1.heap.size:=(by omega);have K:w.heap.size+1<w1.heap.size:=(by omega);have L:w.heap.size+2<w1.heap.size:=(by omega);have q:=j.cell (a:=⟨w.heap.size,0,none⟩) (v:=.int .u8 v.tag) (by simp[go_sem]);have q:=j.cell (a:=⟨w.heap.size,1,none⟩) (v:=.int .u32 v.to) (by simp[go_sem]);have N:=j.cell (a:=⟨w.heap.size+1,0,none⟩) (v:=.int .u8 0) (by simp[go_sem]);have O:=j.cell (a:=⟨w.heap.size+1,1,none⟩) (v:=.int .u32 0) (by simp[go_sem]);have S:=j.cell (a:=⟨w.heap.size+2,0,none⟩) (v:=.int .u8 0) (by simp[go_sem]);have T:=j.cell (a:=⟨w.heap.size+2,1,none⟩) (v:=.int .u32 0) (by simp[go_sem]);have q:=fun o:Nat=>j.a2 (a:=⟨w.heap.size+1,o,none⟩) (by simp[go_sem]) (by simp[go_sem]);have q:=fun o:Nat=>j.a2 (a:=⟨w.heap.size+2,o,none⟩) (by simp[go_sem]) (by simp[go_sem]);have j:aa w w1:=(by(exact kp)))
 go_wp2_with fail
 go_region
 all_goals go_wp2
 all_goals refine bodyPost_ret (v:=.tuple #[.agg #[.int .u8 0,.int .u32 0],.agg #[.int .u8 0,.int .u32 0],.int .u8 1]) (by simp[results,Tryz.results267,go_sem,K,L,N,O,S,T]) rfl ⟨rfl,by(exact kp)⟩

theorem tu (z:Nat)(l n:Int)(v:Edge)(x:Rec)(w:World)(a3:n≤16)(a4:z<w.heap.size)
  (O:∀j,aa w j→Calls Tryz.prog 48 #[.pointer (some ⟨z,0,none⟩)] j fun e t=>e=.returned (.int .i64 n)∧j=t)
  (a1:0≤l) (a2:l<n)
  (N:∀j,aa w j→Calls Tryz.prog 134 #[.pointer (some ⟨z,0,none⟩),.int .u8 1,.agg #[.int .u8 v.tag,.int .u32 v.to],.int .i64 l] j fun e t=>e=.returned (.bool true)∧aa j t)
  (L:∀j,aa w j→Calls Tryz.prog 78 #[.pointer (some ⟨z,0,none⟩),.int .u32 v.to] j fun e t=>e=.returned (.tuple #[.agg #[.int .u8 x.ad,.int .u8 x.I,.int .u8 x.J,.int .u8 x.lo.tag,.int .u32 x.lo.to,.int .u8 x.hi.tag,.int .u32 x.hi.to],.bool false])∧aa j t)
  : Calls Tryz.prog 267 #[.pointer (some ⟨z,0,none⟩),.agg #[.int .u8 v.tag,.int .u32 v.to],.int .i64 l] w fun e t=>e=.returned (.tuple #[.agg #[.int .u8 v.tag,.int .u32 v.to],.agg #[.int .u8 v.tag,.int .u32 v.to],.int .u8 0])∧aa w t:=by
 have ad:=Lib.hid O
 clear O
 have ab:=Lib.hid N
 clear N
 have Z:=Lib.hid L
 clear L
 go_enter Tryz.func267,Tryz.ntmps267
 go_wp2_with (first|(go_at_call 48;refine(ad.out _ (by(exact kp))).mono ?_;rintro e t ⟨rfl,rfl⟩)|fail)
 (go_at_call 134;refine(ab.out _ (by(exact kp))).mono ?_;rintro e w1 ⟨rfl,s⟩;have av:=s.size;simp only[World.size_alloc]at av;have aw:w.heap.size<w1.heap.size:=(by omega);have S:w.heap.size+1<w1.heap.size:=(by omega);have T:w.heap.size+2<w1.heap.size:=(by omega);have W:=s.cell (a:=⟨w.heap.size,0,none⟩) (v:=.int .u8 v.tag) (by simp[go_sem]);have X:=s.cell (a:=⟨w.heap.size,1,none⟩) (v:=.int .u32 v.to) (by simp[go_sem]);have E:=s.cell (a:=⟨w.heap.size+1,0,none⟩) (v:=.int .u8 0) (by simp[go_sem]);have I:=s.cell (a:=⟨w.heap.size+1,1,none⟩) (v:=.int .u32 0) (by simp[go_sem]);have J:=s.cell (a:=⟨w.heap.size+2,0,none⟩) (v:=.int .u8 0) (by simp[go_sem]);have K:=s.cell (a:=⟨w.heap.size+2,1,none⟩) (v:=.int .u32 0) (by simp[go_sem]);have U:=fun o:Nat=>s.a2 (a:=⟨w.heap.size+1,o,none⟩) (by simp[go_sem]) (by simp[go_sem]);have Y:=fun o:Nat=>s.a2 (a:=⟨w.heap.size+2,o,none⟩) (by simp[go_sem]) (by simp[go_sem]);have am:aa w w1:=(by(exact kp)))
 go_wp2_with fail
 (go_at_call 78;refine(Z.out _ (by(exact kp))).mono ?_;rintro e A ⟨rfl,q⟩;have j:=q.size;have U:=fun o:Nat=>q.a2 (a:=⟨w.heap.size+1,o,none⟩) (by dsimp only;omega) (U o);have Y:=fun o:Nat=>q.a2 (a:=⟨w.heap.size+2,o,none⟩) (by dsimp only;omega) (Y o);have W:=q.cell W;have X:=q.cell X;have E:=q.cell E;have I:=q.cell I;have J:=q.cell J;have K:=q.cell K;have aw:w.heap.size<A.heap.size:=(by omega);have S:w.heap.size+1<A.heap.size:=(by omega);have T:w.heap.size+2<A.heap.size:=(by omega);have j:aa w A:=am.trans q)
 go_wp2_with fail
 go_region
 all_goals go_wp2
 all_goals refine bodyPost_ret (v:=.tuple #[.agg #[.int .u8 v.tag,.int .u32 v.to],.agg #[.int .u8 v.tag,.int .u32 v.to],.int .u8 0]) (by simp[results,Tryz.results267,go_sem,S,T,E,I,J,K]) rfl ⟨rfl,by(exact kp)⟩

theorem tz (z:Nat)(l n:Int)(v:Edge)(x:Rec)(w:World)(a3:n≤16)(a4:z<w.heap.size)
  (O:∀j,aa w j→Calls Tryz.prog 48 #[.pointer (some ⟨z,0,none⟩)] j fun e t=>e=.returned (.int .i64 n)∧j=t)
  (a1:0≤l) (a2:l<n)
  (N:∀j,aa w j→Calls Tryz.prog 134 #[.pointer (some ⟨z,0,none⟩),.int .u8 1,.agg #[.int .u8 v.tag,.int .u32 v.to],.int .i64 l] j fun e t=>e=.returned (.bool true)∧aa j t)
  (a5:l<x.I) (a6:0≤x.I) (a7:x.I≤255) (a8:0≤x.J) (a':x.J≤255)
  (L:∀j,aa w j→Calls Tryz.prog 78 #[.pointer (some ⟨z,0,none⟩),.int .u32 v.to] j fun e t=>e=.returned (.tuple #[.agg #[.int .u8 x.ad,.int .u8 x.I,.int .u8 x.J,.int .u8 x.lo.tag,.int .u32 x.lo.to,.int .u8 x.hi.tag,.int .u32 x.hi.to],.bool true])∧aa j t)
  : Calls Tryz.prog 267 #[.pointer (some ⟨z,0,none⟩),.agg #[.int .u8 v.tag,.int .u32 v.to],.int .i64 l] w fun e t=>e=.returned (.tuple #[.agg #[.int .u8 v.tag,.int .u32 v.to],.agg #[.int .u8 v.tag,.int .u32 v.to],.int .u8 0])∧aa w t:=by
 have ad:=Lib.hid O
 clear O
 have ab:=Lib.hid N
 clear N
 have Z:=Lib.hid L
 clear L
 go_enter Tryz.func267,Tryz.ntmps267
 go_wp2_with (first|(go_at_call 48;refine(ad.out _ (by(exact kp))).mono ?_;rintro e t ⟨rfl,rfl⟩)|fail)
 (go_at_call 134;refine(ab.out _ (by(exact kp))).mono ?_;rintro e w1 ⟨rfl,s⟩;have av:=s.size;simp only[World.size_alloc]at av;have aw:w.heap.size<w1.heap.size:=(by omega);have S:w.heap.size+1<w1.heap.size:=(by omega);have T:w.heap.size+2<w1.heap.size:=(by omega);have W:=s.cell (a:=⟨w.heap.size,0,none⟩) (v:=.int .u8 v.tag) (by simp[go_sem]);have X:=s.cell (a:=⟨w.heap.size,1,none⟩) (v:=.int .u32 v.to) (by simp[go_sem]);have E:=s.cell (a:=⟨w.heap.size+1,0,none⟩) (v:=.int .u8 0) (by simp[go_sem]);have I:=s.cell (a:=⟨w.heap.size+1,1,none⟩) (v:=.int .u32 0) (by simp[go_sem]);have J:=s.cell (a:=⟨w.heap.size+2,0,none⟩) (v:=.int .u8 0) (by simp[go_sem]);have K:=s.cell (a:=⟨w.heap.size+2,1,none⟩) (v:=.int .u32 0) (by simp[go_sem]);have U:=fun o:Nat=>s.a2 (a:=⟨w.heap.size+1,o,none⟩) (by simp[go_sem]) (by simp[go_sem]);have Y:=fun o:Nat=>s.a2 (a:=⟨w.heap.size+2,o,none⟩) (by simp[go_sem]) (by simp[go_sem]);have am:aa w w1:=(by(exact kp)))
 go_wp2_with fail
 (go_at_call 78;refine(Z.out _ (by(exact kp))).mono ?_;rintro e A ⟨rfl,q⟩;have j:=q.size;have U:=fun o:Nat=>q.a2 (a:=⟨w.heap.size+1,o,none⟩) (by dsimp only;omega) (U o);have Y:=fun o:Nat=>q.a2 (a:=⟨w.heap.size+2,o,none⟩) (by dsimp only;omega) (Y o);have W:=q.cell W;have X:=q.cell X;have E:=q.cell E;have I:=q.cell I;have J:=q.cell J;have K:=q.cell K;have aw:w.heap.size<A.heap.size:=(by omega);have S:w.heap.size+1<A.heap.size:=(by omega);have T:w.heap.size+2<A.heap.size:=(by omega);have j:aa w A:=am.trans q)
 go_wp2_with fail
 go_region
 all_goals go_wp2
 all_goals refine bodyPost_ret (v:=.tuple #[.agg #[.int .u8 v.tag,.int .u32 v.to],.agg #[.int .u8 v.tag,.int .u32 v.to],.int .u8 0]) (by simp[results,Tryz.results267,go_sem,S,T,E,I,J,K]) rfl ⟨rfl,by(exact kp)⟩

theorem tn (z:Nat)(l n:Int)(v:Edge)(x:Rec)(w:World)(a3:n≤16)(a4:z<w.heap.size)
  (O:∀j,aa w j→Calls Tryz.prog 48 #[.pointer (some ⟨z,0,none⟩)] j fun e t=>e=.returned (.int .i64 n)∧j=t)
  (a1:0≤l) (a2:l<n)
  (N:∀j,aa w j→Calls Tryz.prog 134 #[.pointer (some ⟨z,0,none⟩),.int .u8 1,.agg #[.int .u8 v.tag,.int .u32 v.to],.int .i64 l] j fun e t=>e=.returned (.bool true)∧aa j t)
   (a5:0≤x.I) (a6:x.I≤255) (a7:0≤x.J) (a8:x.J≤255)
  (L:∀j,aa w j→Calls Tryz.prog 78 #[.pointer (some ⟨z,0,none⟩),.int .u32 v.to] j fun e t=>e=.returned (.tuple #[.agg #[.int .u8 x.ad,.int .u8 l,.int .u8 x.J,.int .u8 x.lo.tag,.int .u32 x.lo.to,.int .u8 x.hi.tag,.int .u32 x.hi.to],.bool true])∧aa j t)
  : Calls Tryz.prog 267 #[.pointer (some ⟨z,0,none⟩),.agg #[.int .u8 v.tag,.int .u32 v.to],.int .i64 l] w fun e t=>e=.returned (.tuple #[.agg #[.int .u8 x.lo.tag,.int .u32 x.lo.to],.agg #[.int .u8 x.hi.tag,.int .u32 x.hi.to],.int .u8 0])∧aa w t:=by
 have ad:=Lib.hid O
 clear O
 have ab:=Lib.hid N
 clear N
 have Z:=Lib.hid L
 clear L
 go_enter Tryz.func267,Tryz.ntmps267
 go_wp2_with (first|(go_at_call 48;refine(ad.out _ (by(exact kp))).mono ?_;rintro e t ⟨rfl,rfl⟩)|fail)
 (go_at_call 134;refine(ab.out _ (by(exact kp))).mono ?_;rintro e w1 ⟨rfl,s⟩;have av:=s.size;simp only[World.size_alloc]at av;have aw:w.heap.size<w1.heap.size:=(by omega);have S:w.heap.size+1<w1.heap.size:=(by omega);have T:w.heap.size+2<w1.heap.size:=(by omega);have W:=s.cell (a:=⟨w.heap.size,0,none⟩) (v:=.int .u8 v.tag) (by simp[go_sem]);have X:=s.cell (a:=⟨w.heap.size,1,none⟩) (v:=.int .u32 v.to) (by simp[go_sem]);have E:=s.cell (a:=⟨w.heap.size+1,0,none⟩) (v:=.int .u8 0) (by simp[go_sem]);have I:=s.cell (a:=⟨w.heap.size+1,1,none⟩) (v:=.int .u32 0) (by simp[go_sem]);have J:=s.cell (a:=⟨w.heap.size+2,0,none⟩) (v:=.int .u8 0) (by simp[go_sem]);have K:=s.cell (a:=⟨w.heap.size+2,1,none⟩) (v:=.int .u32 0) (by simp[go_sem]);have U:=fun o:Nat=>s.a2 (a:=⟨w.heap.size+1,o,none⟩) (by simp[go_sem]) (by simp[go_sem]);have Y:=fun o:Nat=>s.a2 (a:=⟨w.heap.size+2,o,none⟩) (by simp[go_sem]) (by simp[go_sem]);have am:aa w w1:=(by(exact kp)))
 go_wp2_with fail
 (go_at_call 78;refine(Z.out _ (by(exact kp))).mono ?_;rintro e A ⟨rfl,q⟩;have j:=q.size;have U:=fun o:Nat=>q.a2 (a:=⟨w.heap.size+1,o,none⟩) (by dsimp only;omega) (U o);have Y:=fun o:Nat=>q.a2 (a:=⟨w.heap.size+2,o,none⟩) (by dsimp only;omega) (Y o);have W:=q.cell W;have X:=q.cell X;have E:=q.cell E;have I:=q.cell I;have J:=q.cell J;have K:=q.cell K;have aw:w.heap.size<A.heap.size:=(by omega);have S:w.heap.size+1<A.heap.size:=(by omega);have T:w.heap.size+2<A.heap.size:=(by omega);have j:aa w A:=am.trans q)
 go_wp2_with fail
 go_region
 all_goals go_wp2
 all_goals refine bodyPost_ret (v:=.tuple #[.agg #[.int .u8 x.lo.tag,.int .u32 x.lo.to],.agg #[.int .u8 x.hi.tag,.int .u32 x.hi.to],.int .u8 0]) (by simp[results,Tryz.results267,go_sem,S,T,E,I,J,K]) rfl ⟨rfl,by(exact kp)⟩

theorem CG (s:Nat)(l n:Int)(v:Edge)(w:World)(E:n≤16)(I:s<w.heap.size)
  (t:∀q,aa w q→Calls Tryz.prog 48 #[.pointer (some ⟨s,0,none⟩)] q fun e j=>e=.returned (.int .i64 n)∧q=j)
  (A:l<0)
  : Calls Tryz.prog 268 #[.pointer (some ⟨s,0,none⟩),.agg #[.int .u8 v.tag,.int .u32 v.to],.int .i64 l] w fun e j=>e=.returned (.tuple #[.agg #[.int .u8 0,.int .u32 0],.agg #[.int .u8 0,.int .u32 0],.int .u8 3])∧aa w j:=by
 have z:=Lib.hid t
 clear t
 go_enter Tryz.func268,Tryz.ntmps268
 go_wp2_with (first|(go_at_call 48;refine(z.out _ (by(exact kp))).mono ?_;rintro e j ⟨rfl,rfl⟩)|fail)
 go_region
 all_goals go_wp2
 all_goals refine bodyPost_ret (v:=.tuple #[.agg #[.int .u8 0,.int .u32 0],.agg #[.int .u8 0,.int .u32 0],.int .u8 3]) (by simp[results,Tryz.results268,go_sem]) rfl ⟨rfl,by(exact kp)⟩

theorem CF (s:Nat)(l n:Int)(v:Edge)(w:World)(I:n≤16)(J:s<w.heap.size)
  (t:∀q,aa w q→Calls Tryz.prog 48 #[.pointer (some ⟨s,0,none⟩)] q fun e j=>e=.returned (.int .i64 n)∧q=j)
  (A:0≤l) (E:n≤l)
  : Calls Tryz.prog 268 #[.pointer (some ⟨s,0,none⟩),.agg #[.int .u8 v.tag,.int .u32 v.to],.int .i64 l] w fun e j=>e=.returned (.tuple #[.agg #[.int .u8 0,.int .u32 0],.agg #[.int .u8 0,.int .u32 0],.int .u8 3])∧aa w j:=by
 have z:=Lib.hid t
 clear t
 go_enter Tryz.func268,Tryz.ntmps268
 go_wp2_with (first|(go_at_call 48;refine(z.out _ (by(exact kp))).mono ?_;rintro e j ⟨rfl,rfl⟩)|fail)
 go_region
 all_goals go_wp2
 all_goals refine bodyPost_ret (v:=.tuple #[.agg #[.int .u8 0,.int .u32 0],.agg #[.int .u8 0,.int .u32 0],.int .u8 3]) (by simp[results,Tryz.results268,go_sem]) rfl ⟨rfl,by(exact kp)⟩

theorem CH (t:Nat)(l n:Int)(v:Edge)(w:World)(X:n≤16)(Y:t<w.heap.size)
  (A:∀q,aa w q→Calls Tryz.prog 48 #[.pointer (some ⟨t,0,none⟩)] q fun e s=>e=.returned (.int .i64 n)∧q=s)
  (U:0≤l) (W:l<n)
  (z:∀q,aa w q→Calls Tryz.prog 134 #[.pointer (some ⟨t,0,none⟩),.int .u8 2,.agg #[.int .u8 v.tag,.int .u32 v.to],.int .i64 l] q fun e s=>e=.returned (.bool false)∧aa q s)
  : Calls Tryz.prog 268 #[.pointer (some ⟨t,0,none⟩),.agg #[.int .u8 v.tag,.int .u32 v.to],.int .i64 l] w fun e s=>e=.returned (.tuple #[.agg #[.int .u8 0,.int .u32 0],.agg #[.int .u8 0,.int .u32 0],.int .u8 1])∧aa w s:=by
 have I:=Lib.hid A
 clear A
 have E:=Lib.hid z
 clear z
 go_enter Tryz.func268,Tryz.ntmps268
 go_wp2_with (first|(go_at_call 48;refine(I.out _ (by(exact kp))).mono ?_;rintro e s ⟨rfl,rfl⟩)|fail)
 (go_at_call 134;refine(E.out _ (by(exact kp))).mono ?_;rintro e w1 ⟨rfl,j⟩;have J:=j.size;simp only[World.size_alloc]at J;have q:w.heap.size<w1.heap.size:=(by omega);have K:w.heap.size+1<w1.heap.size:=(by omega);have L:w.heap.size+2<w1.heap.size:=(by omega);have q:=j.cell (a:=⟨w.heap.size,0,none⟩) (v:=.int .u8 v.tag) (by simp[go_sem]);have q:=j.cell (a:=⟨w.heap.size,1,none⟩) (v:=.int .u32 v.to) (by simp[go_sem]);have N:=j.cell (a:=⟨w.heap.size+1,0,none⟩) (v:=.int .u8 0) (by simp[go_sem]);have O:=j.cell (a:=⟨w.heap.size+1,1,none⟩) (v:=.int .u32 0) (by simp[go_sem]);have S:=j.cell (a:=⟨w.heap.size+2,0,none⟩) (v:=.int .u8 0) (by simp[go_sem]);have T:=j.cell (a:=⟨w.heap.size+2,1,none⟩) (v:=.int .u32 0) (by simp[go_sem]);have q:=fun o:Nat=>j.a2 (a:=⟨w.heap.size+1,o,none⟩) (by simp[go_sem]) (by simp[go_sem]);have q:=fun o:Nat=>j.a2 (a:=⟨w.heap.size+2,o,none⟩) (by simp[go_sem]) (by simp[go_sem]);have j:aa w w1:=(by(exact kp)))
 go_wp2_with fail
 go_region
 all_goals go_wp2
 all_goals refine bodyPost_ret (v:=.tuple #[.agg #[.int .u8 0,.int .u32 0],.agg #[.int .u8 0,.int .u32 0],.int .u8 1]) (by simp[results,Tryz.results268,go_sem,K,L,N,O,S,T]) rfl ⟨rfl,by(exact kp)⟩

theorem CI (z:Nat)(l n:Int)(v:Edge)(x:Rec)(w:World)(a3:n≤16)(a4:z<w.heap.size)
  (O:∀j,aa w j→Calls Tryz.prog 48 #[.pointer (some ⟨z,0,none⟩)] j fun e t=>e=.returned (.int .i64 n)∧j=t)
  (a1:0≤l) (a2:l<n)
  (N:∀j,aa w j→Calls Tryz.prog 134 #[.pointer (some ⟨z,0,none⟩),.int .u8 2,.agg #[.int .u8 v.tag,.int .u32 v.to],.int .i64 l] j fun e t=>e=.returned (.bool true)∧aa j t)
  (L:∀j,aa w j→Calls Tryz.prog 78 #[.pointer (some ⟨z,0,none⟩),.int .u32 v.to] j fun e t=>e=.returned (.tuple #[.agg #[.int .u8 x.ad,.int .u8 x.I,.int .u8 x.J,.int .u8 x.lo.tag,.int .u32 x.lo.to,.int .u8 x.hi.tag,.int .u32 x.hi.to],.bool false])∧aa j t)
  : Calls Tryz.prog 268 #[.pointer (some ⟨z,0,none⟩),.agg #[.int .u8 v.tag,.int .u32 v.to],.int .i64 l] w fun e t=>e=.returned (.tuple #[.agg #[.int .u8 v.tag,.int .u32 v.to],.agg #[.int .u8 0,.int .u32 0],.int .u8 0])∧aa w t:=by
 have ad:=Lib.hid O
 clear O
 have ab:=Lib.hid N
 clear N
 have Z:=Lib.hid L
 clear L
 go_enter Tryz.func268,Tryz.ntmps268
 go_wp2_with (first|(go_at_call 48;refine(ad.out _ (by(exact kp))).mono ?_;rintro e t ⟨rfl,rfl⟩)|fail)
 (go_at_call 134;refine(ab.out _ (by(exact kp))).mono ?_;rintro e w1 ⟨rfl,s⟩;have av:=s.size;simp only[World.size_alloc]at av;have aw:w.heap.size<w1.heap.size:=(by omega);have S:w.heap.size+1<w1.heap.size:=(by omega);have T:w.heap.size+2<w1.heap.size:=(by omega);have W:=s.cell (a:=⟨w.heap.size,0,none⟩) (v:=.int .u8 v.tag) (by simp[go_sem]);have X:=s.cell (a:=⟨w.heap.size,1,none⟩) (v:=.int .u32 v.to) (by simp[go_sem]);have E:=s.cell (a:=⟨w.heap.size+1,0,none⟩) (v:=.int .u8 0) (by simp[go_sem]);have I:=s.cell (a:=⟨w.heap.size+1,1,none⟩) (v:=.int .u32 0) (by simp[go_sem]);have J:=s.cell (a:=⟨w.heap.size+2,0,none⟩) (v:=.int .u8 0) (by simp[go_sem]);have K:=s.cell (a:=⟨w.heap.size+2,1,none⟩) (v:=.int .u32 0) (by simp[go_sem]);have U:=fun o:Nat=>s.a2 (a:=⟨w.heap.size+1,o,none⟩) (by simp[go_sem]) (by simp[go_sem]);have Y:=fun o:Nat=>s.a2 (a:=⟨w.heap.size+2,o,none⟩) (by simp[go_sem]) (by simp[go_sem]);have am:aa w w1:=(by(exact kp)))
 go_wp2_with fail
 (go_at_call 78;refine(Z.out _ (by(exact kp))).mono ?_;rintro e A ⟨rfl,q⟩;have j:=q.size;have U:=fun o:Nat=>q.a2 (a:=⟨w.heap.size+1,o,none⟩) (by dsimp only;omega) (U o);have Y:=fun o:Nat=>q.a2 (a:=⟨w.heap.size+2,o,none⟩) (by dsimp only;omega) (Y o);have W:=q.cell W;have X:=q.cell X;have E:=q.cell E;have I:=q.cell I;have J:=q.cell J;have K:=q.cell K;have aw:w.heap.size<A.heap.size:=(by omega);have S:w.heap.size+1<A.heap.size:=(by omega);have T:w.heap.size+2<A.heap.size:=(by omega);have j:aa w A:=am.trans q)
 go_wp2_with fail
 all_goals refine bodyPost_ret (v:=.tuple #[.agg #[.int .u8 v.tag,.int .u32 v.to],.agg #[.int .u8 0,.int .u32 0],.int .u8 0]) (by simp[results,Tryz.results268,go_sem,S,T,E,I,J,K]) rfl ⟨rfl,by(exact kp)⟩

theorem CJ (z:Nat)(l n:Int)(v:Edge)(x:Rec)(w:World)(a3:n≤16)(a4:z<w.heap.size)
  (O:∀j,aa w j→Calls Tryz.prog 48 #[.pointer (some ⟨z,0,none⟩)] j fun e t=>e=.returned (.int .i64 n)∧j=t)
  (a1:0≤l) (a2:l<n)
  (N:∀j,aa w j→Calls Tryz.prog 134 #[.pointer (some ⟨z,0,none⟩),.int .u8 2,.agg #[.int .u8 v.tag,.int .u32 v.to],.int .i64 l] j fun e t=>e=.returned (.bool true)∧aa j t)
  (a5:l<x.I) (a6:0≤x.I) (a7:x.I≤255) (a8:0≤x.J) (a':x.J≤255)
  (L:∀j,aa w j→Calls Tryz.prog 78 #[.pointer (some ⟨z,0,none⟩),.int .u32 v.to] j fun e t=>e=.returned (.tuple #[.agg #[.int .u8 x.ad,.int .u8 x.I,.int .u8 x.J,.int .u8 x.lo.tag,.int .u32 x.lo.to,.int .u8 x.hi.tag,.int .u32 x.hi.to],.bool true])∧aa j t)
  : Calls Tryz.prog 268 #[.pointer (some ⟨z,0,none⟩),.agg #[.int .u8 v.tag,.int .u32 v.to],.int .i64 l] w fun e t=>e=.returned (.tuple #[.agg #[.int .u8 v.tag,.int .u32 v.to],.agg #[.int .u8 0,.int .u32 0],.int .u8 0])∧aa w t:=by
 have ad:=Lib.hid O
 clear O
 have ab:=Lib.hid N
 clear N
 have Z:=Lib.hid L
 clear L
 go_enter Tryz.func268,Tryz.ntmps268
 go_wp2_with (first|(go_at_call 48;refine(ad.out _ (by(exact kp))).mono ?_;rintro e t ⟨rfl,rfl⟩)|fail)
 (go_at_call 134;refine(ab.out _ (by(exact kp))).mono ?_;rintro e w1 ⟨rfl,s⟩;have av:=s.size;simp only[World.size_alloc]at av;have aw:w.heap.size<w1.heap.size:=(by omega);have S:w.heap.size+1<w1.heap.size:=(by omega);have T:w.heap.size+2<w1.heap.size:=(by omega);have W:=s.cell (a:=⟨w.heap.size,0,none⟩) (v:=.int .u8 v.tag) (by simp[go_sem]);have X:=s.cell (a:=⟨w.heap.size,1,none⟩) (v:=.int .u32 v.to) (by simp[go_sem]);have E:=s.cell (a:=⟨w.heap.size+1,0,none⟩) (v:=.int .u8 0) (by simp[go_sem]);have I:=s.cell (a:=⟨w.heap.size+1,1,none⟩) (v:=.int .u32 0) (by simp[go_sem]);have J:=s.cell (a:=⟨w.heap.size+2,0,none⟩) (v:=.int .u8 0) (by simp[go_sem]);have K:=s.cell (a:=⟨w.heap.size+2,1,none⟩) (v:=.int .u32 0) (by simp[go_sem]);have U:=fun o:Nat=>s.a2 (a:=⟨w.heap.size+1,o,none⟩) (by simp[go_sem]) (by simp[go_sem]);have Y:=fun o:Nat=>s.a2 (a:=⟨w.heap.size+2,o,none⟩) (by simp[go_sem]) (by simp[go_sem]);have am:aa w w1:=(by(exact kp)))
 go_wp2_with fail
 (go_at_call 78;refine(Z.out _ (by(exact kp))).mono ?_;rintro e A ⟨rfl,q⟩;have j:=q.size;have U:=fun o:Nat=>q.a2 (a:=⟨w.heap.size+1,o,none⟩) (by dsimp only;omega) (U o);have Y:=fun o:Nat=>q.a2 (a:=⟨w.heap.size+2,o,none⟩) (by dsimp only;omega) (Y o);have W:=q.cell W;have X:=q.cell X;have E:=q.cell E;have I:=q.cell I;have J:=q.cell J;have K:=q.cell K;have aw:w.heap.size<A.heap.size:=(by omega);have S:w.heap.size+1<A.heap.size:=(by omega);have T:w.heap.size+2<A.heap.size:=(by omega);have j:aa w A:=am.trans q)
 go_wp2_with fail
 all_goals refine bodyPost_ret (v:=.tuple #[.agg #[.int .u8 v.tag,.int .u32 v.to],.agg #[.int .u8 0,.int .u32 0],.int .u8 0]) (by simp[results,Tryz.results268,go_sem,S,T,E,I,J,K]) rfl ⟨rfl,by(exact kp)⟩

theorem CE (z:Nat)(l n:Int)(v:Edge)(x:Rec)(w:World)(a3:n≤16)(a4:z<w.heap.size)
  (O:∀j,aa w j→Calls Tryz.prog 48 #[.pointer (some ⟨z,0,none⟩)] j fun e t=>e=.returned (.int .i64 n)∧j=t)
  (a1:0≤l) (a2:l<n)
  (N:∀j,aa w j→Calls Tryz.prog 134 #[.pointer (some ⟨z,0,none⟩),.int .u8 2,.agg #[.int .u8 v.tag,.int .u32 v.to],.int .i64 l] j fun e t=>e=.returned (.bool true)∧aa j t)
   (a5:0≤x.I) (a6:x.I≤255) (a7:0≤x.J) (a8:x.J≤255)
  (L:∀j,aa w j→Calls Tryz.prog 78 #[.pointer (some ⟨z,0,none⟩),.int .u32 v.to] j fun e t=>e=.returned (.tuple #[.agg #[.int .u8 x.ad,.int .u8 l,.int .u8 x.J,.int .u8 x.lo.tag,.int .u32 x.lo.to,.int .u8 x.hi.tag,.int .u32 x.hi.to],.bool true])∧aa j t)
  : Calls Tryz.prog 268 #[.pointer (some ⟨z,0,none⟩),.agg #[.int .u8 v.tag,.int .u32 v.to],.int .i64 l] w fun e t=>e=.returned (.tuple #[.agg #[.int .u8 x.lo.tag,.int .u32 x.lo.to],.agg #[.int .u8 x.hi.tag,.int .u32 x.hi.to],.int .u8 0])∧aa w t:=by
 have ad:=Lib.hid O
 clear O
 have ab:=Lib.hid N
 clear N
 have Z:=Lib.hid L
 clear L
 go_enter Tryz.func268,Tryz.ntmps268
 go_wp2_with (first|(go_at_call 48;refine(ad.out _ (by(exact kp))).mono ?_;rintro e t ⟨rfl,rfl⟩)|fail)
 (go_at_call 134;refine(ab.out _ (by(exact kp))).mono ?_;rintro e w1 ⟨rfl,s⟩;have av:=s.size;simp only[World.size_alloc]at av;have aw:w.heap.size<w1.heap.size:=(by omega);have S:w.heap.size+1<w1.heap.size:=(by omega);have T:w.heap.size+2<w1.heap.size:=(by omega);have W:=s.cell (a:=⟨w.heap.size,0,none⟩) (v:=.int .u8 v.tag) (by simp[go_sem]);have X:=s.cell (a:=⟨w.heap.size,1,none⟩) (v:=.int .u32 v.to) (by simp[go_sem]);have E:=s.cell (a:=⟨w.heap.size+1,0,none⟩) (v:=.int .u8 0) (by simp[go_sem]);have I:=s.cell (a:=⟨w.heap.size+1,1,none⟩) (v:=.int .u32 0) (by simp[go_sem]);have J:=s.cell (a:=⟨w.heap.size+2,0,none⟩) (v:=.int .u8 0) (by simp[go_sem]);have K:=s.cell (a:=⟨w.heap.size+2,1,none⟩) (v:=.int .u32 0) (by simp[go_sem]);have U:=fun o:Nat=>s.a2 (a:=⟨w.heap.size+1,o,none⟩) (by simp[go_sem]) (by simp[go_sem]);have Y:=fun o:Nat=>s.a2 (a:=⟨w.heap.size+2,o,none⟩) (by simp[go_sem]) (by simp[go_sem]);have am:aa w w1:=(by(exact kp)))
 go_wp2_with fail
 (go_at_call 78;refine(Z.out _ (by(exact kp))).mono ?_;rintro e A ⟨rfl,q⟩;have j:=q.size;have U:=fun o:Nat=>q.a2 (a:=⟨w.heap.size+1,o,none⟩) (by dsimp only;omega) (U o);have Y:=fun o:Nat=>q.a2 (a:=⟨w.heap.size+2,o,none⟩) (by dsimp only;omega) (Y o);have W:=q.cell W;have X:=q.cell X;have E:=q.cell E;have I:=q.cell I;have J:=q.cell J;have K:=q.cell K;have aw:w.heap.size<A.heap.size:=(by omega);have S:w.heap.size+1<A.heap.size:=(by omega);have T:w.heap.size+2<A.heap.size:=(by omega);have j:aa w A:=am.trans q)
 go_wp2_with fail
 go_region
 all_goals go_wp2
 all_goals refine bodyPost_ret (v:=.tuple #[.agg #[.int .u8 x.lo.tag,.int .u32 x.lo.to],.agg #[.int .u8 x.hi.tag,.int .u32 x.hi.to],.int .u8 0]) (by simp[results,Tryz.results268,go_sem,S,T,E,I,J,K]) rfl ⟨rfl,by(exact kp)⟩

end Go.Proofs.YtafkamlhimkbmaaGreat
