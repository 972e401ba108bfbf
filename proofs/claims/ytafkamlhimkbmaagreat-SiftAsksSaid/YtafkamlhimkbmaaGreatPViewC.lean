/-
  The walk of bdd.Make, case by case (printed by wip/mk_make2.py).
-/
import Derived.Test.YtafkamlhimkbmaaGreatPRefB
namespace Go.Proofs.YtafkamlhimkbmaaGreat
set_option maxRecDepth 1000000
set_option maxHeartbeats 8000000
set_option linter.unusedSimpArgs false
set_option linter.unusedVariables false
open Go.RowKit
theorem vZ (sb:Nat)(l n:Int)(lo hi:Edge)(w:World)(z:n≤16)(A:sb<w.heap.size)
  (q:∀j,ae w j→Calls Tryz.prog 48 #[.pointer (some ⟨sb,0,none⟩)] j fun e w'=>e=.returned (.int .i64 n)∧j=w')
  (t:l<0)
  : Calls Tryz.prog 121 #[.pointer (some ⟨sb,0,none⟩),.int .i64 l,.agg #[.int .u8 lo.tag,.int .u32 lo.to],.agg #[.int .u8 hi.tag,.int .u32 hi.to]] w fun e w'=>e=.returned (.tuple #[.agg #[.int .u8 0,.int .u32 0],.int .u8 3])∧ae w w':=by
 have j:sb<w.heap.size+1:=by omega
 have j:sb<w.heap.size+1+1:=by omega
 have s:=aa q
 clear q
 go_enter Tryz.func121,Tryz.ntmps121
 go_wp2_with (first|(go_at_call 48;refine(s.out _ kp).mono ?_;rintro e w' ⟨rfl,rfl⟩)|fail)
 all_goals refine aq (v:=.tuple #[.agg #[.int .u8 0,.int .u32 0],.int .u8 3]) (by simp[results,Tryz.results121,go_sem]) rfl ⟨rfl,kp⟩
theorem vV (sb:Nat)(l n:Int)(lo hi:Edge)(w:World)(A:n≤16)(B:sb<w.heap.size)
  (q:∀j,ae w j→Calls Tryz.prog 48 #[.pointer (some ⟨sb,0,none⟩)] j fun e w'=>e=.returned (.int .i64 n)∧j=w')
  (t:0≤l) (z:n≤l)
  : Calls Tryz.prog 121 #[.pointer (some ⟨sb,0,none⟩),.int .i64 l,.agg #[.int .u8 lo.tag,.int .u32 lo.to],.agg #[.int .u8 hi.tag,.int .u32 hi.to]] w fun e w'=>e=.returned (.tuple #[.agg #[.int .u8 0,.int .u32 0],.int .u8 3])∧ae w w':=by
 have j:sb<w.heap.size+1:=by omega
 have j:sb<w.heap.size+1+1:=by omega
 have s:=aa q
 clear q
 go_enter Tryz.func121,Tryz.ntmps121
 go_wp2_with (first|(go_at_call 48;refine(s.out _ kp).mono ?_;rintro e w' ⟨rfl,rfl⟩)|fail)
 all_goals refine aq (v:=.tuple #[.agg #[.int .u8 0,.int .u32 0],.int .u8 3]) (by simp[results,Tryz.results121,go_sem]) rfl ⟨rfl,kp⟩
theorem vY (sb:Nat)(l n:Int)(lo hi:Edge)(w:World)(O:n≤16)(S:sb<w.heap.size)
  (t:∀q,ae w q→Calls Tryz.prog 48 #[.pointer (some ⟨sb,0,none⟩)] q fun e w'=>e=.returned (.int .i64 n)∧q=w')
  (L:0≤l) (N:l<n)
  (s:∀q,ae w q→Calls Tryz.prog 134 #[.pointer (some ⟨sb,0,none⟩),.int .u8 1,.agg #[.int .u8 lo.tag,.int .u32 lo.to],.int .i64 (l+1)] q fun e w'=>e=.returned (.bool false)∧ae q w')
  : Calls Tryz.prog 121 #[.pointer (some ⟨sb,0,none⟩),.int .i64 l,.agg #[.int .u8 lo.tag,.int .u32 lo.to],.agg #[.int .u8 hi.tag,.int .u32 hi.to]] w fun e w'=>e=.returned (.tuple #[.agg #[.int .u8 0,.int .u32 0],.int .u8 1])∧ae w w':=by
 have q:sb<w.heap.size+1:=by omega
 have q:sb<w.heap.size+1+1:=by omega
 have A:=aa t
 clear t
 have z:=aa s
 clear s
 go_enter Tryz.func121,Tryz.ntmps121
 go_wp2_with (first|(go_at_call 48;refine(A.out _ kp).mono ?_;rintro e w' ⟨rfl,rfl⟩)|fail)
 (go_at_call 134;refine(z.out _ kp).mono ?_;rintro e w1 ⟨rfl,j⟩;have B:=j.size;simp only[ai]at B;have q:w.heap.size<w1.heap.size:=(by omega);have q:w.heap.size+1<w1.heap.size:=(by omega);have E:w.heap.size+2<w1.heap.size:=(by omega);have q:=j.U (a:=⟨w.heap.size,0,none⟩) (v:=.int .u8 lo.tag);have q:=j.U (a:=⟨w.heap.size,1,none⟩) (v:=.int .u32 lo.to);have q:=j.U (a:=⟨w.heap.size+1,0,none⟩) (v:=.int .u8 hi.tag);have q:=j.U (a:=⟨w.heap.size+1,1,none⟩) (v:=.int .u32 hi.to);have I:=j.U (a:=⟨w.heap.size+2,0,none⟩) (v:=.int .u8 0);have J:=j.U (a:=⟨w.heap.size+2,1,none⟩) (v:=.int .u32 0);have q:=fun o:Nat=>j.a3 (a:=⟨w.heap.size+2,o,none⟩) (by simp[go_sem]) (by simp[go_sem]);have j:ae w w1:=kp)
 go_wp2_with fail
 all_goals refine aq (v:=.tuple #[.agg #[.int .u8 0,.int .u32 0],.int .u8 1]) (by simp[results,Tryz.results121,go_sem,E,I,J]) rfl ⟨rfl,kp⟩
theorem vX (sb:Nat)(l n:Int)(lo hi:Edge)(w:World)(al:n≤16)(am:sb<w.heap.size)
  (E:∀q,ae w q→Calls Tryz.prog 48 #[.pointer (some ⟨sb,0,none⟩)] q fun e w'=>e=.returned (.int .i64 n)∧q=w')
  (ab:0≤l) (ad:l<n)
  (A:∀q,ae w q→Calls Tryz.prog 134 #[.pointer (some ⟨sb,0,none⟩),.int .u8 1,.agg #[.int .u8 lo.tag,.int .u32 lo.to],.int .i64 (l+1)] q fun e w'=>e=.returned (.bool true)∧ae q w')
  (z:∀q,ae w q→Calls Tryz.prog 134 #[.pointer (some ⟨sb,0,none⟩),.int .u8 1,.agg #[.int .u8 hi.tag,.int .u32 hi.to],.int .i64 (l+1)] q fun e w'=>e=.returned (.bool false)∧ae q w')
  : Calls Tryz.prog 121 #[.pointer (some ⟨sb,0,none⟩),.int .i64 l,.agg #[.int .u8 lo.tag,.int .u32 lo.to],.agg #[.int .u8 hi.tag,.int .u32 hi.to]] w fun e w'=>e=.returned (.tuple #[.agg #[.int .u8 0,.int .u32 0],.int .u8 1])∧ae w w':=by
 have q:sb<w.heap.size+1:=by omega
 have q:sb<w.heap.size+1+1:=by omega
 have W:=aa E
 clear E
 have U:=aa A
 clear A
 have T:=aa z
 clear z
 go_enter Tryz.func121,Tryz.ntmps121
 go_wp2_with (first|(go_at_call 48;refine(W.out _ kp).mono ?_;rintro e w' ⟨rfl,rfl⟩)|fail)
 (go_at_call 134;refine(U.out _ kp).mono ?_;rintro e w1 ⟨rfl,j⟩;have B:=j.size;simp only[ai]at B;have Y:w.heap.size<w1.heap.size:=(by omega);have Z:w.heap.size+1<w1.heap.size:=(by omega);have I:w.heap.size+2<w1.heap.size:=(by omega);have N:=j.U (a:=⟨w.heap.size,0,none⟩) (v:=.int .u8 lo.tag);have O:=j.U (a:=⟨w.heap.size,1,none⟩) (v:=.int .u32 lo.to);have J:=j.U (a:=⟨w.heap.size+1,0,none⟩) (v:=.int .u8 hi.tag);have L:=j.U (a:=⟨w.heap.size+1,1,none⟩) (v:=.int .u32 hi.to);have s:=j.U (a:=⟨w.heap.size+2,0,none⟩) (v:=.int .u8 0);have t:=j.U (a:=⟨w.heap.size+2,1,none⟩) (v:=.int .u32 0);have S:=fun o:Nat=>j.a3 (a:=⟨w.heap.size+2,o,none⟩) (by simp[go_sem]) (by simp[go_sem]);have X:ae w w1:=kp)
 go_wp2_with fail
 (go_at_call 134;refine(T.out _ kp).mono ?_;rintro e w1 ⟨rfl,j⟩;have B:=j.size;have S:=fun o:Nat=>j.a3 (a:=⟨w.heap.size+2,o,none⟩) (by dsimp only;omega) (S o);have N:=j.cell N;have O:=j.cell O;have J:=j.cell J;have L:=j.cell L;have s:=j.cell s;have t:=j.cell t;have Y:w.heap.size<w1.heap.size:=(by omega);have Z:w.heap.size+1<w1.heap.size:=(by omega);have I:w.heap.size+2<w1.heap.size:=(by omega);have X:ae w w1:=kp)
 go_wp2_with fail
 all_goals refine aq (v:=.tuple #[.agg #[.int .u8 0,.int .u32 0],.int .u8 1]) (by simp[results,Tryz.results121,go_sem,I,s,t]) rfl ⟨rfl,kp⟩
theorem v9 (sb:Nat)(l n:Int)(lo hi:Edge)(w:World)(am:n≤16)(av:sb<w.heap.size)
  (I:∀q,ae w q→Calls Tryz.prog 48 #[.pointer (some ⟨sb,0,none⟩)] q fun e w'=>e=.returned (.int .i64 n)∧q=w')
  (ad:0≤l) (al:l<n)
  (B:∀q,ae w q→Calls Tryz.prog 134 #[.pointer (some ⟨sb,0,none⟩),.int .u8 1,.agg #[.int .u8 lo.tag,.int .u32 lo.to],.int .i64 (l+1)] q fun e w'=>e=.returned (.bool true)∧ae q w')
  (A:∀q,ae w q→Calls Tryz.prog 134 #[.pointer (some ⟨sb,0,none⟩),.int .u8 1,.agg #[.int .u8 hi.tag,.int .u32 hi.to],.int .i64 (l+1)] q fun e w'=>e=.returned (.bool true)∧ae q w')
  (s:lo=hi)
  : Calls Tryz.prog 121 #[.pointer (some ⟨sb,0,none⟩),.int .i64 l,.agg #[.int .u8 lo.tag,.int .u32 lo.to],.agg #[.int .u8 hi.tag,.int .u32 hi.to]] w fun e w'=>e=.returned (.tuple #[.agg #[.int .u8 lo.tag,.int .u32 lo.to],.int .u8 0])∧ae w w':=by
 have q:sb<w.heap.size+1:=by omega
 have q:sb<w.heap.size+1+1:=by omega
 have X:=aa I
 clear I
 have W:=aa B
 clear B
 have U:=aa A
 clear A
 have q:=ja lo hi s
 have q:=aa s
 clear s
 go_enter Tryz.func121,Tryz.ntmps121
 go_wp2_with (first|(go_at_call 48;refine(X.out _ kp).mono ?_;rintro e w' ⟨rfl,rfl⟩)|fail)
 (go_at_call 134;refine(W.out _ kp).mono ?_;rintro e w1 ⟨rfl,j⟩;have E:=j.size;simp only[ai]at E;have Z:w.heap.size<w1.heap.size:=(by omega);have ab:w.heap.size+1<w1.heap.size:=(by omega);have J:w.heap.size+2<w1.heap.size:=(by omega);have O:=j.U (a:=⟨w.heap.size,0,none⟩) (v:=.int .u8 lo.tag);have S:=j.U (a:=⟨w.heap.size,1,none⟩) (v:=.int .u32 lo.to);have L:=j.U (a:=⟨w.heap.size+1,0,none⟩) (v:=.int .u8 hi.tag);have N:=j.U (a:=⟨w.heap.size+1,1,none⟩) (v:=.int .u32 hi.to);have t:=j.U (a:=⟨w.heap.size+2,0,none⟩) (v:=.int .u8 0);have z:=j.U (a:=⟨w.heap.size+2,1,none⟩) (v:=.int .u32 0);have T:=fun o:Nat=>j.a3 (a:=⟨w.heap.size+2,o,none⟩) (by simp[go_sem]) (by simp[go_sem]);have Y:ae w w1:=kp)
 go_wp2_with fail
 (go_at_call 134;refine(U.out _ kp).mono ?_;rintro e w1 ⟨rfl,j⟩;have E:=j.size;have T:=fun o:Nat=>j.a3 (a:=⟨w.heap.size+2,o,none⟩) (by dsimp only;omega) (T o);have O:=j.cell O;have S:=j.cell S;have L:=j.cell L;have N:=j.cell N;have t:=j.cell t;have z:=j.cell z;have Z:w.heap.size<w1.heap.size:=(by omega);have ab:w.heap.size+1<w1.heap.size:=(by omega);have J:w.heap.size+2<w1.heap.size:=(by omega);have Y:ae w w1:=kp)
 go_wp2_with fail
 all_goals refine aq (v:=.tuple #[.agg #[.int .u8 lo.tag,.int .u32 lo.to],.int .u8 0]) (by simp[results,Tryz.results121,go_sem,J,t,z]) rfl ⟨rfl,kp⟩
theorem vW {F:Nat→Prop}(R:World→World→Prop)(sb:Nat)(l n:Int)(lo hi:Edge)(a b A:Int)(w:World)(bd:n≤16)(be:sb<w.heap.size)
  (X:∀j,ae w j→Calls Tryz.prog 48 #[.pointer (some ⟨sb,0,none⟩)] j fun e w'=>e=.returned (.int .i64 n)∧j=w')
  (a':0≤l) (bb:l<n)
  (T:∀j,ae w j→Calls Tryz.prog 134 #[.pointer (some ⟨sb,0,none⟩),.int .u8 1,.agg #[.int .u8 lo.tag,.int .u32 lo.to],.int .i64 (l+1)] j fun e w'=>e=.returned (.bool true)∧ae j w')
  (S:∀j,ae w j→Calls Tryz.prog 134 #[.pointer (some ⟨sb,0,none⟩),.int .u8 1,.agg #[.int .u8 hi.tag,.int .u32 hi.to],.int .i64 (l+1)] j fun e w'=>e=.returned (.bool true)∧ae j w')
  (B:¬lo=hi)
  (U:∀k,F k→k<w.heap.size) (O:∀j,ae w j→Calls Tryz.prog 186 #[.pointer (some ⟨sb,0,none⟩),.agg #[.int .u8 1,.int .u8 l,.int .u8 l,.int .u8 lo.tag,.int .u32 lo.to,.int .u8 hi.tag,.int .u32 hi.to]] j fun e w'=>e=.returned (.tuple #[.agg #[.int .u8 a,.int .u32 b],.int .u8 A])∧af F j w'∧R j w')
  : Calls Tryz.prog 121 #[.pointer (some ⟨sb,0,none⟩),.int .i64 l,.agg #[.int .u8 lo.tag,.int .u32 lo.to],.agg #[.int .u8 hi.tag,.int .u32 hi.to]] w fun e w'=>e=.returned (.tuple #[.agg #[.int .u8 a,.int .u32 b],.int .u8 A]) ∧ 
   ∃j z,ae w j∧af F j z∧R j z∧af (fun k=>w.heap.size≤k∧k<j.heap.size) z w':=by
 have j:sb<w.heap.size+1:=by omega
 have j:sb<w.heap.size+1+1:=by omega
 have a0:=aa X
 clear X
 have aw:=aa T
 clear T
 have av:=aa S
 clear S
 have am:=aa O
 have j:∀k,w.heap.size≤k→¬F k:=fun k s h=>by have:=U k h;omega
 have I:=j (w.heap.size+2) (by omega)
 clear O U j
 have j:=ij lo hi B
 have j:=aa B
 clear B
 go_enter Tryz.func121,Tryz.ntmps121
 go_wp2_with (first|(go_at_call 48;refine(a0.out _ kp).mono ?_;rintro e w' ⟨rfl,rfl⟩)|fail)
 (go_at_call 134;refine(aw.out _ kp).mono ?_;rintro e w1 ⟨rfl,q⟩;have W:=q.size;simp only[ai]at W;have a5:w.heap.size<w1.heap.size:=(by omega);have a6:w.heap.size+1<w1.heap.size:=(by omega);have E:w.heap.size+2<w1.heap.size:=(by omega);have ad:=q.U (a:=⟨w.heap.size,0,none⟩) (v:=.int .u8 lo.tag);have al:=q.U (a:=⟨w.heap.size,1,none⟩) (v:=.int .u32 lo.to);have Z:=q.U (a:=⟨w.heap.size+1,0,none⟩) (v:=.int .u8 hi.tag);have ab:=q.U (a:=⟨w.heap.size+1,1,none⟩) (v:=.int .u32 hi.to);have J:=q.U (a:=⟨w.heap.size+2,0,none⟩) (v:=.int .u8 0);have L:=q.U (a:=⟨w.heap.size+2,1,none⟩) (v:=.int .u32 0);have N:=fun o:Nat=>q.a3 (a:=⟨w.heap.size+2,o,none⟩) (by simp[go_sem]) (by simp[go_sem]);have s:ae w w1:=kp)
 go_wp2_with fail
 (go_at_call 134;refine(av.out _ kp).mono ?_;rintro e w1 ⟨rfl,q⟩;have W:=q.size;have N:=fun o:Nat=>q.a3 (a:=⟨w.heap.size+2,o,none⟩) (by dsimp only;omega) (N o);have ad:=q.cell ad;have al:=q.cell al;have Z:=q.cell Z;have ab:=q.cell ab;have J:=q.cell J;have L:=q.cell L;have a5:w.heap.size<w1.heap.size:=(by omega);have a6:w.heap.size+1<w1.heap.size:=(by omega);have E:w.heap.size+2<w1.heap.size:=(by omega);have s:ae w w1:=kp)
 go_wp2_with fail
 all_goals go_wp2_with (first|(go_at_call 186;refine(am.out _ kp).mono ?_;rintro e Y ⟨rfl,t,a1⟩;have a3:=t.size;(try simp only[ai,au,World.a5]at a3);have a7:=t.cell (a:=⟨w.heap.size+2,0,none⟩) I (v:=.int .u8 0) (by simp[go_sem,E,J]);have a8:=t.cell (a:=⟨w.heap.size+2,1,none⟩) I (v:=.int .u32 0) (by simp[go_sem,E,L]);have j:=fun o:Nat=>t.frozen (a:=⟨w.heap.size+2,o,none⟩) (by(try simp only[ai,au,World.a5]);omega) I (by(try simp only[cq,World.frozen?_drew,frozen?_alloc_cells]);exact N o);have a4:w.heap.size+2<Y.heap.size:=(by omega))|fail)
 all_goals refine aq (v:=.tuple #[.agg #[.int .u8 a,.int .u32 b],.int .u8 A]) (by simp[results,Tryz.results121,go_sem,a4,a7,a8]) rfl ⟨rfl,_,Y,kp,t,a1,?_⟩
 all_goals(try simp only[ai,au,World.a5])
 all_goals(repeat (first|with_reducible exact af.refl _ _|exact af.mono j (fun k _ s=>⟨s.1,by(try simp only[ai,au,World.a5]);have:=s.2;omega⟩)|refine af.setCell ?_ (Or.inl (by dsimp only;omega)) _|refine af.setCell ?_ (Or.inr (by dsimp only;omega)) _|with_reducible refine af.drewN ?_ _|with_reducible refine af.drew ?_|with_reducible refine af.alloc ?_ _))
theorem EA (sb:Nat)(l n:Int)(lo hi:Edge)(w:World)(z:n≤16)(A:sb<w.heap.size)
  (q:∀j,ae w j→Calls Tryz.prog 48 #[.pointer (some ⟨sb,0,none⟩)] j fun e w'=>e=.returned (.int .i64 n)∧j=w')
  (t:l<0)
  : Calls Tryz.prog 122 #[.pointer (some ⟨sb,0,none⟩),.int .i64 l,.agg #[.int .u8 lo.tag,.int .u32 lo.to],.agg #[.int .u8 hi.tag,.int .u32 hi.to]] w fun e w'=>e=.returned (.tuple #[.agg #[.int .u8 0,.int .u32 0],.int .u8 3])∧ae w w':=by
 have j:sb<w.heap.size+1:=by omega
 have j:sb<w.heap.size+1+1:=by omega
 have s:=aa q
 clear q
 go_enter Tryz.func122,Tryz.ntmps122
 go_wp2_with (first|(go_at_call 48;refine(s.out _ kp).mono ?_;rintro e w' ⟨rfl,rfl⟩)|fail)
 all_goals refine aq (v:=.tuple #[.agg #[.int .u8 0,.int .u32 0],.int .u8 3]) (by simp[results,Tryz.results122,go_sem]) rfl ⟨rfl,kp⟩
theorem Ew (sb:Nat)(l n:Int)(lo hi:Edge)(w:World)(A:n≤16)(B:sb<w.heap.size)
  (q:∀j,ae w j→Calls Tryz.prog 48 #[.pointer (some ⟨sb,0,none⟩)] j fun e w'=>e=.returned (.int .i64 n)∧j=w')
  (t:0≤l) (z:n≤l)
  : Calls Tryz.prog 122 #[.pointer (some ⟨sb,0,none⟩),.int .i64 l,.agg #[.int .u8 lo.tag,.int .u32 lo.to],.agg #[.int .u8 hi.tag,.int .u32 hi.to]] w fun e w'=>e=.returned (.tuple #[.agg #[.int .u8 0,.int .u32 0],.int .u8 3])∧ae w w':=by
 have j:sb<w.heap.size+1:=by omega
 have j:sb<w.heap.size+1+1:=by omega
 have s:=aa q
 clear q
 go_enter Tryz.func122,Tryz.ntmps122
 go_wp2_with (first|(go_at_call 48;refine(s.out _ kp).mono ?_;rintro e w' ⟨rfl,rfl⟩)|fail)
 all_goals refine aq (v:=.tuple #[.agg #[.int .u8 0,.int .u32 0],.int .u8 3]) (by simp[results,Tryz.results122,go_sem]) rfl ⟨rfl,kp⟩
theorem Ez (sb:Nat)(l n:Int)(lo hi:Edge)(w:World)(O:n≤16)(S:sb<w.heap.size)
  (t:∀q,ae w q→Calls Tryz.prog 48 #[.pointer (some ⟨sb,0,none⟩)] q fun e w'=>e=.returned (.int .i64 n)∧q=w')
  (L:0≤l) (N:l<n)
  (s:∀q,ae w q→Calls Tryz.prog 134 #[.pointer (some ⟨sb,0,none⟩),.int .u8 2,.agg #[.int .u8 lo.tag,.int .u32 lo.to],.int .i64 (l+1)] q fun e w'=>e=.returned (.bool false)∧ae q w')
  : Calls Tryz.prog 122 #[.pointer (some ⟨sb,0,none⟩),.int .i64 l,.agg #[.int .u8 lo.tag,.int .u32 lo.to],.agg #[.int .u8 hi.tag,.int .u32 hi.to]] w fun e w'=>e=.returned (.tuple #[.agg #[.int .u8 0,.int .u32 0],.int .u8 1])∧ae w w':=by
 have q:sb<w.heap.size+1:=by omega
 have q:sb<w.heap.size+1+1:=by omega
 have A:=aa t
 clear t
 have z:=aa s
 clear s
 go_enter Tryz.func122,Tryz.ntmps122
 go_wp2_with (first|(go_at_call 48;refine(A.out _ kp).mono ?_;rintro e w' ⟨rfl,rfl⟩)|fail)
 (go_at_call 134;refine(z.out _ kp).mono ?_;rintro e w1 ⟨rfl,j⟩;have B:=j.size;simp only[ai]at B;have q:w.heap.size<w1.heap.size:=(by omega);have q:w.heap.size+1<w1.heap.size:=(by omega);have E:w.heap.size+2<w1.heap.size:=(by omega);have q:=j.U (a:=⟨w.heap.size,0,none⟩) (v:=.int .u8 lo.tag);have q:=j.U (a:=⟨w.heap.size,1,none⟩) (v:=.int .u32 lo.to);have q:=j.U (a:=⟨w.heap.size+1,0,none⟩) (v:=.int .u8 hi.tag);have q:=j.U (a:=⟨w.heap.size+1,1,none⟩) (v:=.int .u32 hi.to);have I:=j.U (a:=⟨w.heap.size+2,0,none⟩) (v:=.int .u8 0);have J:=j.U (a:=⟨w.heap.size+2,1,none⟩) (v:=.int .u32 0);have q:=fun o:Nat=>j.a3 (a:=⟨w.heap.size+2,o,none⟩) (by simp[go_sem]) (by simp[go_sem]);have j:ae w w1:=kp)
 go_wp2_with fail
 all_goals refine aq (v:=.tuple #[.agg #[.int .u8 0,.int .u32 0],.int .u8 1]) (by simp[results,Tryz.results122,go_sem,E,I,J]) rfl ⟨rfl,kp⟩
theorem Ey (sb:Nat)(l n:Int)(lo hi:Edge)(w:World)(al:n≤16)(am:sb<w.heap.size)
  (E:∀q,ae w q→Calls Tryz.prog 48 #[.pointer (some ⟨sb,0,none⟩)] q fun e w'=>e=.returned (.int .i64 n)∧q=w')
  (ab:0≤l) (ad:l<n)
  (A:∀q,ae w q→Calls Tryz.prog 134 #[.pointer (some ⟨sb,0,none⟩),.int .u8 2,.agg #[.int .u8 lo.tag,.int .u32 lo.to],.int .i64 (l+1)] q fun e w'=>e=.returned (.bool true)∧ae q w')
  (z:∀q,ae w q→Calls Tryz.prog 134 #[.pointer (some ⟨sb,0,none⟩),.int .u8 2,.agg #[.int .u8 hi.tag,.int .u32 hi.to],.int .i64 (l+1)] q fun e w'=>e=.returned (.bool false)∧ae q w')
  : Calls Tryz.prog 122 #[.pointer (some ⟨sb,0,none⟩),.int .i64 l,.agg #[.int .u8 lo.tag,.int .u32 lo.to],.agg #[.int .u8 hi.tag,.int .u32 hi.to]] w fun e w'=>e=.returned (.tuple #[.agg #[.int .u8 0,.int .u32 0],.int .u8 1])∧ae w w':=by
 have q:sb<w.heap.size+1:=by omega
 have q:sb<w.heap.size+1+1:=by omega
 have W:=aa E
 clear E
 have U:=aa A
 clear A
 have T:=aa z
 clear z
 go_enter Tryz.func122,Tryz.ntmps122
 go_wp2_with (first|(go_at_call 48;refine(W.out _ kp).mono ?_;rintro e w' ⟨rfl,rfl⟩)|fail)
 (go_at_call 134;refine(U.out _ kp).mono ?_;rintro e w1 ⟨rfl,j⟩;have B:=j.size;simp only[ai]at B;have Y:w.heap.size<w1.heap.size:=(by omega);have Z:w.heap.size+1<w1.heap.size:=(by omega);have I:w.heap.size+2<w1.heap.size:=(by omega);have N:=j.U (a:=⟨w.heap.size,0,none⟩) (v:=.int .u8 lo.tag);have O:=j.U (a:=⟨w.heap.size,1,none⟩) (v:=.int .u32 lo.to);have J:=j.U (a:=⟨w.heap.size+1,0,none⟩) (v:=.int .u8 hi.tag);have L:=j.U (a:=⟨w.heap.size+1,1,none⟩) (v:=.int .u32 hi.to);have s:=j.U (a:=⟨w.heap.size+2,0,none⟩) (v:=.int .u8 0);have t:=j.U (a:=⟨w.heap.size+2,1,none⟩) (v:=.int .u32 0);have S:=fun o:Nat=>j.a3 (a:=⟨w.heap.size+2,o,none⟩) (by simp[go_sem]) (by simp[go_sem]);have X:ae w w1:=kp)
 go_wp2_with fail
 (go_at_call 134;refine(T.out _ kp).mono ?_;rintro e w1 ⟨rfl,j⟩;have B:=j.size;have S:=fun o:Nat=>j.a3 (a:=⟨w.heap.size+2,o,none⟩) (by dsimp only;omega) (S o);have N:=j.cell N;have O:=j.cell O;have J:=j.cell J;have L:=j.cell L;have s:=j.cell s;have t:=j.cell t;have Y:w.heap.size<w1.heap.size:=(by omega);have Z:w.heap.size+1<w1.heap.size:=(by omega);have I:w.heap.size+2<w1.heap.size:=(by omega);have X:ae w w1:=kp)
 go_wp2_with fail
 all_goals refine aq (v:=.tuple #[.agg #[.int .u8 0,.int .u32 0],.int .u8 1]) (by simp[results,Tryz.results122,go_sem,I,s,t]) rfl ⟨rfl,kp⟩
theorem EB (sb:Nat)(l n:Int)(lo:Edge)(s:Int)(w:World)(am:n≤16)(av:sb<w.heap.size)
  (I:∀q,ae w q→Calls Tryz.prog 48 #[.pointer (some ⟨sb,0,none⟩)] q fun e w'=>e=.returned (.int .i64 n)∧q=w')
  (ad:0≤l) (al:l<n)
  (B:∀q,ae w q→Calls Tryz.prog 134 #[.pointer (some ⟨sb,0,none⟩),.int .u8 2,.agg #[.int .u8 lo.tag,.int .u32 lo.to],.int .i64 (l+1)] q fun e w'=>e=.returned (.bool true)∧ae q w')
  (A:∀q,ae w q→Calls Tryz.prog 134 #[.pointer (some ⟨sb,0,none⟩),.int .u8 2,.agg #[.int .u8 s,.int .u32 0],.int .i64 (l+1)] q fun e w'=>e=.returned (.bool true)∧ae q w')
  : Calls Tryz.prog 122 #[.pointer (some ⟨sb,0,none⟩),.int .i64 l,.agg #[.int .u8 lo.tag,.int .u32 lo.to],.agg #[.int .u8 s,.int .u32 0]] w fun e w'=>e=.returned (.tuple #[.agg #[.int .u8 lo.tag,.int .u32 lo.to],.int .u8 0])∧ae w w':=by
 have q:sb<w.heap.size+1:=by omega
 have q:sb<w.heap.size+1+1:=by omega
 have X:=aa I
 clear I
 have W:=aa B
 clear B
 have U:=aa A
 clear A
 go_enter Tryz.func122,Tryz.ntmps122
 go_wp2_with (first|(go_at_call 48;refine(X.out _ kp).mono ?_;rintro e w' ⟨rfl,rfl⟩)|fail)
 (go_at_call 134;refine(W.out _ kp).mono ?_;rintro e w1 ⟨rfl,j⟩;have E:=j.size;simp only[ai]at E;have Z:w.heap.size<w1.heap.size:=(by omega);have ab:w.heap.size+1<w1.heap.size:=(by omega);have J:w.heap.size+2<w1.heap.size:=(by omega);have O:=j.U (a:=⟨w.heap.size,0,none⟩) (v:=.int .u8 lo.tag);have S:=j.U (a:=⟨w.heap.size,1,none⟩) (v:=.int .u32 lo.to);have L:=j.U (a:=⟨w.heap.size+1,0,none⟩) (v:=.int .u8 s);have N:=j.U (a:=⟨w.heap.size+1,1,none⟩) (v:=.int .u32 0);have t:=j.U (a:=⟨w.heap.size+2,0,none⟩) (v:=.int .u8 0);have z:=j.U (a:=⟨w.heap.size+2,1,none⟩) (v:=.int .u32 0);have T:=fun o:Nat=>j.a3 (a:=⟨w.heap.size+2,o,none⟩) (by simp[go_sem]) (by simp[go_sem]);have Y:ae w w1:=kp)
 go_wp2_with fail
 (go_at_call 134;refine(U.out _ kp).mono ?_;rintro e w1 ⟨rfl,j⟩;have E:=j.size;have T:=fun o:Nat=>j.a3 (a:=⟨w.heap.size+2,o,none⟩) (by dsimp only;omega) (T o);have O:=j.cell O;have S:=j.cell S;have L:=j.cell L;have N:=j.cell N;have t:=j.cell t;have z:=j.cell z;have Z:w.heap.size<w1.heap.size:=(by omega);have ab:w.heap.size+1<w1.heap.size:=(by omega);have J:w.heap.size+2<w1.heap.size:=(by omega);have Y:ae w w1:=kp)
 go_wp2_with fail
 all_goals refine aq (v:=.tuple #[.agg #[.int .u8 lo.tag,.int .u32 lo.to],.int .u8 0]) (by simp[results,Tryz.results122,go_sem,J,t,z]) rfl ⟨rfl,kp⟩
theorem Ex {F:Nat→Prop}(R:World→World→Prop)(sb:Nat)(l n:Int)(lo hi:Edge)(a b A:Int)(w:World)(bd:n≤16)(be:sb<w.heap.size)
  (W:∀j,ae w j→Calls Tryz.prog 48 #[.pointer (some ⟨sb,0,none⟩)] j fun e w'=>e=.returned (.int .i64 n)∧j=w')
  (a':0≤l) (bb:l<n)
  (S:∀j,ae w j→Calls Tryz.prog 134 #[.pointer (some ⟨sb,0,none⟩),.int .u8 2,.agg #[.int .u8 lo.tag,.int .u32 lo.to],.int .i64 (l+1)] j fun e w'=>e=.returned (.bool true)∧ae j w')
  (O:∀j,ae w j→Calls Tryz.prog 134 #[.pointer (some ⟨sb,0,none⟩),.int .u8 2,.agg #[.int .u8 hi.tag,.int .u32 hi.to],.int .i64 (l+1)] j fun e w'=>e=.returned (.bool true)∧ae j w')
  (a1:¬hi.to=0)
  (T:∀k,F k→k<w.heap.size) (N:∀j,ae w j→Calls Tryz.prog 187 #[.pointer (some ⟨sb,0,none⟩),.agg #[.int .u8 2,.int .u8 l,.int .u8 l,.int .u8 lo.tag,.int .u32 lo.to,.int .u8 hi.tag,.int .u32 hi.to]] j fun e w'=>e=.returned (.tuple #[.agg #[.int .u8 a,.int .u32 b],.int .u8 A])∧af F j w'∧R j w')
  : Calls Tryz.prog 122 #[.pointer (some ⟨sb,0,none⟩),.int .i64 l,.agg #[.int .u8 lo.tag,.int .u32 lo.to],.agg #[.int .u8 hi.tag,.int .u32 hi.to]] w fun e w'=>e=.returned (.tuple #[.agg #[.int .u8 a,.int .u32 b],.int .u8 A]) ∧ 
   ∃j z,ae w j∧af F j z∧R j z∧af (fun k=>w.heap.size≤k∧k<j.heap.size) z w':=by
 have j:sb<w.heap.size+1:=by omega
 have j:sb<w.heap.size+1+1:=by omega
 have aw:=aa W
 clear W
 have av:=aa S
 clear S
 have am:=aa O
 clear O
 have al:=aa N
 have j:∀k,w.heap.size≤k→¬F k:=fun k s h=>by have:=T k h;omega
 have E:=j (w.heap.size+2) (by omega)
 clear N T j
 have j:(hi.to==0)=false:=by simp[a1]
 go_enter Tryz.func122,Tryz.ntmps122
 go_wp2_with (first|(go_at_call 48;refine(aw.out _ kp).mono ?_;rintro e w' ⟨rfl,rfl⟩)|fail)
 (go_at_call 134;refine(av.out _ kp).mono ?_;rintro e w1 ⟨rfl,q⟩;have U:=q.size;simp only[ai]at U;have a5:w.heap.size<w1.heap.size:=(by omega);have a6:w.heap.size+1<w1.heap.size:=(by omega);have B:w.heap.size+2<w1.heap.size:=(by omega);have ab:=q.U (a:=⟨w.heap.size,0,none⟩) (v:=.int .u8 lo.tag);have ad:=q.U (a:=⟨w.heap.size,1,none⟩) (v:=.int .u32 lo.to);have Y:=q.U (a:=⟨w.heap.size+1,0,none⟩) (v:=.int .u8 hi.tag);have Z:=q.U (a:=⟨w.heap.size+1,1,none⟩) (v:=.int .u32 hi.to);have I:=q.U (a:=⟨w.heap.size+2,0,none⟩) (v:=.int .u8 0);have J:=q.U (a:=⟨w.heap.size+2,1,none⟩) (v:=.int .u32 0);have L:=fun o:Nat=>q.a3 (a:=⟨w.heap.size+2,o,none⟩) (by simp[go_sem]) (by simp[go_sem]);have s:ae w w1:=kp)
 go_wp2_with fail
 (go_at_call 134;refine(am.out _ kp).mono ?_;rintro e w1 ⟨rfl,q⟩;have U:=q.size;have L:=fun o:Nat=>q.a3 (a:=⟨w.heap.size+2,o,none⟩) (by dsimp only;omega) (L o);have ab:=q.cell ab;have ad:=q.cell ad;have Y:=q.cell Y;have Z:=q.cell Z;have I:=q.cell I;have J:=q.cell J;have a5:w.heap.size<w1.heap.size:=(by omega);have a6:w.heap.size+1<w1.heap.size:=(by omega);have B:w.heap.size+2<w1.heap.size:=(by omega);have s:ae w w1:=kp)
 go_wp2_with fail
 all_goals go_wp2_with (first|(go_at_call 187;refine(al.out _ kp).mono ?_;rintro e X ⟨rfl,t,a0⟩;have a3:=t.size;(try simp only[ai,au,World.a5]at a3);have a7:=t.cell (a:=⟨w.heap.size+2,0,none⟩) E (v:=.int .u8 0) (by simp[go_sem,B,I]);have a8:=t.cell (a:=⟨w.heap.size+2,1,none⟩) E (v:=.int .u32 0) (by simp[go_sem,B,J]);have j:=fun o:Nat=>t.frozen (a:=⟨w.heap.size+2,o,none⟩) (by(try simp only[ai,au,World.a5]);omega) E (by(try simp only[cq,World.frozen?_drew,frozen?_alloc_cells]);exact L o);have a4:w.heap.size+2<X.heap.size:=(by omega))|fail)
 all_goals refine aq (v:=.tuple #[.agg #[.int .u8 a,.int .u32 b],.int .u8 A]) (by simp[results,Tryz.results122,go_sem,a4,a7,a8]) rfl ⟨rfl,_,X,kp,t,a0,?_⟩
 all_goals(try simp only[ai,au,World.a5])
 all_goals(repeat (first|with_reducible exact af.refl _ _|exact af.mono j (fun k _ s=>⟨s.1,by(try simp only[ai,au,World.a5]);have:=s.2;omega⟩)|refine af.setCell ?_ (Or.inl (by dsimp only;omega)) _|refine af.setCell ?_ (Or.inr (by dsimp only;omega)) _|with_reducible refine af.drewN ?_ _|with_reducible refine af.drew ?_|with_reducible refine af.alloc ?_ _))
theorem xj (sb:Nat)(l n:Int)(v:Edge)(w:World)(z:n≤16)(A:sb<w.heap.size)
  (q:∀j,ae w j→Calls Tryz.prog 48 #[.pointer (some ⟨sb,0,none⟩)] j fun e w'=>e=.returned (.int .i64 n)∧j=w')
  (t:l<0)
  : Calls Tryz.prog 269 #[.pointer (some ⟨sb,0,none⟩),.agg #[.int .u8 v.tag,.int .u32 v.to],.int .i64 l] w fun e w'=>e=.returned (.tuple #[.agg #[.int .u8 0,.int .u32 0],.agg #[.int .u8 0,.int .u32 0],.int .u8 3])∧ae w w':=by
 have s:=aa q
 clear q
 go_enter Tryz.func269,Tryz.ntmps269
 go_wp2_with (first|(go_at_call 48;refine(s.out _ kp).mono ?_;rintro e w' ⟨rfl,rfl⟩)|fail)
 go_region
 all_goals go_wp2
 all_goals refine aq (v:=.tuple #[.agg #[.int .u8 0,.int .u32 0],.agg #[.int .u8 0,.int .u32 0],.int .u8 3]) (by simp[results,Tryz.results269,go_sem]) rfl ⟨rfl,kp⟩
theorem xg (sb:Nat)(l n:Int)(v:Edge)(w:World)(A:n≤16)(B:sb<w.heap.size)
  (q:∀j,ae w j→Calls Tryz.prog 48 #[.pointer (some ⟨sb,0,none⟩)] j fun e w'=>e=.returned (.int .i64 n)∧j=w')
  (t:0≤l) (z:n≤l)
  : Calls Tryz.prog 269 #[.pointer (some ⟨sb,0,none⟩),.agg #[.int .u8 v.tag,.int .u32 v.to],.int .i64 l] w fun e w'=>e=.returned (.tuple #[.agg #[.int .u8 0,.int .u32 0],.agg #[.int .u8 0,.int .u32 0],.int .u8 3])∧ae w w':=by
 have s:=aa q
 clear q
 go_enter Tryz.func269,Tryz.ntmps269
 go_wp2_with (first|(go_at_call 48;refine(s.out _ kp).mono ?_;rintro e w' ⟨rfl,rfl⟩)|fail)
 go_region
 all_goals go_wp2
 all_goals refine aq (v:=.tuple #[.agg #[.int .u8 0,.int .u32 0],.agg #[.int .u8 0,.int .u32 0],.int .u8 3]) (by simp[results,Tryz.results269,go_sem]) rfl ⟨rfl,kp⟩
theorem xk (sb:Nat)(l n:Int)(v:Edge)(w:World)(U:n≤16)(W:sb<w.heap.size)
  (t:∀q,ae w q→Calls Tryz.prog 48 #[.pointer (some ⟨sb,0,none⟩)] q fun e w'=>e=.returned (.int .i64 n)∧q=w')
  (S:0≤l) (T:l<n)
  (s:∀q,ae w q→Calls Tryz.prog 134 #[.pointer (some ⟨sb,0,none⟩),.int .u8 3,.agg #[.int .u8 v.tag,.int .u32 v.to],.int .i64 l] q fun e w'=>e=.returned (.bool false)∧ae q w')
  : Calls Tryz.prog 269 #[.pointer (some ⟨sb,0,none⟩),.agg #[.int .u8 v.tag,.int .u32 v.to],.int .i64 l] w fun e w'=>e=.returned (.tuple #[.agg #[.int .u8 0,.int .u32 0],.agg #[.int .u8 0,.int .u32 0],.int .u8 1])∧ae w w':=by
 have A:=aa t
 clear t
 have z:=aa s
 clear s
 go_enter Tryz.func269,Tryz.ntmps269
 go_wp2_with (first|(go_at_call 48;refine(A.out _ kp).mono ?_;rintro e w' ⟨rfl,rfl⟩)|fail)
 (go_at_call 134;refine(z.out _ kp).mono ?_;rintro e w1 ⟨rfl,j⟩;have B:=j.size;simp only[ai]at B;have q:w.heap.size<w1.heap.size:=(by omega);have E:w.heap.size+1<w1.heap.size:=(by omega);have I:w.heap.size+2<w1.heap.size:=(by omega);have q:=j.U (a:=⟨w.heap.size,0,none⟩) (v:=.int .u8 v.tag);have q:=j.U (a:=⟨w.heap.size,1,none⟩) (v:=.int .u32 v.to);have J:=j.U (a:=⟨w.heap.size+1,0,none⟩) (v:=.int .u8 0);have L:=j.U (a:=⟨w.heap.size+1,1,none⟩) (v:=.int .u32 0);have N:=j.U (a:=⟨w.heap.size+2,0,none⟩) (v:=.int .u8 0);have O:=j.U (a:=⟨w.heap.size+2,1,none⟩) (v:=.int .u32 0);have q:=fun o:Nat=>j.a3 (a:=⟨w.heap.size+1,o,none⟩) (by simp[go_sem]) (by simp[go_sem]);have q:=fun o:Nat=>j.a3 (a:=⟨w.heap.size+2,o,none⟩) (by simp[go_sem]) (by simp[go_sem]);have j:ae w w1:=kp)
 go_wp2_with fail
 go_region
 all_goals go_wp2
 all_goals refine aq (v:=.tuple #[.agg #[.int .u8 0,.int .u32 0],.agg #[.int .u8 0,.int .u32 0],.int .u8 1]) (by simp[results,Tryz.results269,go_sem,E,I,J,L,N,O]) rfl ⟨rfl,kp⟩
theorem xl (sb:Nat)(l n:Int)(v:Edge)(x:Rec)(w:World)(aw:n≤16)(a0:sb<w.heap.size)
  (L:∀j,ae w j→Calls Tryz.prog 48 #[.pointer (some ⟨sb,0,none⟩)] j fun e w'=>e=.returned (.int .i64 n)∧j=w')
  (am:0≤l) (av:l<n)
  (J:∀j,ae w j→Calls Tryz.prog 134 #[.pointer (some ⟨sb,0,none⟩),.int .u8 3,.agg #[.int .u8 v.tag,.int .u32 v.to],.int .i64 l] j fun e w'=>e=.returned (.bool true)∧ae j w')
  (I:∀j,ae w j→Calls Tryz.prog 78 #[.pointer (some ⟨sb,0,none⟩),.int .u32 v.to] j fun e w'=>e=.returned (.tuple #[.agg #[.int .u8 x.al,.int .u8 x.I,.int .u8 x.J,.int .u8 x.lo.tag,.int .u32 x.lo.to,.int .u8 x.hi.tag,.int .u32 x.hi.to],.bool false])∧ae j w')
  : Calls Tryz.prog 269 #[.pointer (some ⟨sb,0,none⟩),.agg #[.int .u8 v.tag,.int .u32 v.to],.int .i64 l] w fun e w'=>e=.returned (.tuple #[.agg #[.int .u8 v.tag,.int .u32 v.to],.agg #[.int .u8 v.tag,.int .u32 v.to],.int .u8 0])∧ae w w':=by
 have Z:=aa L
 clear L
 have Y:=aa J
 clear J
 have X:=aa I
 clear I
 go_enter Tryz.func269,Tryz.ntmps269
 go_wp2_with (first|(go_at_call 48;refine(Z.out _ kp).mono ?_;rintro e w' ⟨rfl,rfl⟩)|fail)
 (go_at_call 134;refine(Y.out _ kp).mono ?_;rintro e w1 ⟨rfl,s⟩;have ad:=s.size;simp only[ai]at ad;have al:w.heap.size<w1.heap.size:=(by omega);have N:w.heap.size+1<w1.heap.size:=(by omega);have O:w.heap.size+2<w1.heap.size:=(by omega);have T:=s.U (a:=⟨w.heap.size,0,none⟩) (v:=.int .u8 v.tag);have U:=s.U (a:=⟨w.heap.size,1,none⟩) (v:=.int .u32 v.to);have z:=s.U (a:=⟨w.heap.size+1,0,none⟩) (v:=.int .u8 0);have A:=s.U (a:=⟨w.heap.size+1,1,none⟩) (v:=.int .u32 0);have B:=s.U (a:=⟨w.heap.size+2,0,none⟩) (v:=.int .u8 0);have E:=s.U (a:=⟨w.heap.size+2,1,none⟩) (v:=.int .u32 0);have S:=fun o:Nat=>s.a3 (a:=⟨w.heap.size+1,o,none⟩) (by simp[go_sem]) (by simp[go_sem]);have W:=fun o:Nat=>s.a3 (a:=⟨w.heap.size+2,o,none⟩) (by simp[go_sem]) (by simp[go_sem]);have ab:ae w w1:=kp)
 go_wp2_with fail
 (go_at_call 78;refine(X.out _ kp).mono ?_;rintro e t ⟨rfl,q⟩;have j:=q.size;have S:=fun o:Nat=>q.a3 (a:=⟨w.heap.size+1,o,none⟩) (by dsimp only;omega) (S o);have W:=fun o:Nat=>q.a3 (a:=⟨w.heap.size+2,o,none⟩) (by dsimp only;omega) (W o);have T:=q.cell T;have U:=q.cell U;have z:=q.cell z;have A:=q.cell A;have B:=q.cell B;have E:=q.cell E;have al:w.heap.size<t.heap.size:=(by omega);have N:w.heap.size+1<t.heap.size:=(by omega);have O:w.heap.size+2<t.heap.size:=(by omega);have j:ae w t:=ab.trans q)
 go_wp2_with fail
 go_region
 all_goals go_wp2
 all_goals refine aq (v:=.tuple #[.agg #[.int .u8 v.tag,.int .u32 v.to],.agg #[.int .u8 v.tag,.int .u32 v.to],.int .u8 0]) (by simp[results,Tryz.results269,go_sem,N,O,z,A,B,E]) rfl ⟨rfl,kp⟩
theorem xm (sb:Nat)(l n:Int)(v:Edge)(x:Rec)(w:World)(aw:n≤16)(a0:sb<w.heap.size)
  (L:∀j,ae w j→Calls Tryz.prog 48 #[.pointer (some ⟨sb,0,none⟩)] j fun e w'=>e=.returned (.int .i64 n)∧j=w')
  (am:0≤l) (av:l<n)
  (J:∀j,ae w j→Calls Tryz.prog 134 #[.pointer (some ⟨sb,0,none⟩),.int .u8 3,.agg #[.int .u8 v.tag,.int .u32 v.to],.int .i64 l] j fun e w'=>e=.returned (.bool true)∧ae j w')
  (a1:l<x.I) (a3:0≤x.I) (a4:x.I≤255) (a5:0≤x.J) (a6:x.J≤255)
  (I:∀j,ae w j→Calls Tryz.prog 78 #[.pointer (some ⟨sb,0,none⟩),.int .u32 v.to] j fun e w'=>e=.returned (.tuple #[.agg #[.int .u8 x.al,.int .u8 x.I,.int .u8 x.J,.int .u8 x.lo.tag,.int .u32 x.lo.to,.int .u8 x.hi.tag,.int .u32 x.hi.to],.bool true])∧ae j w')
  : Calls Tryz.prog 269 #[.pointer (some ⟨sb,0,none⟩),.agg #[.int .u8 v.tag,.int .u32 v.to],.int .i64 l] w fun e w'=>e=.returned (.tuple #[.agg #[.int .u8 v.tag,.int .u32 v.to],.agg #[.int .u8 v.tag,.int .u32 v.to],.int .u8 0])∧ae w w':=by
 have Z:=aa L
 clear L
 have Y:=aa J
 clear J
 have X:=aa I
 clear I
 go_enter Tryz.func269,Tryz.ntmps269
 go_wp2_with (first|(go_at_call 48;refine(Z.out _ kp).mono ?_;rintro e w' ⟨rfl,rfl⟩)|fail)
 (go_at_call 134;refine(Y.out _ kp).mono ?_;rintro e w1 ⟨rfl,s⟩;have ad:=s.size;simp only[ai]at ad;have al:w.heap.size<w1.heap.size:=(by omega);have N:w.heap.size+1<w1.heap.size:=(by omega);have O:w.heap.size+2<w1.heap.size:=(by omega);have T:=s.U (a:=⟨w.heap.size,0,none⟩) (v:=.int .u8 v.tag);have U:=s.U (a:=⟨w.heap.size,1,none⟩) (v:=.int .u32 v.to);have z:=s.U (a:=⟨w.heap.size+1,0,none⟩) (v:=.int .u8 0);have A:=s.U (a:=⟨w.heap.size+1,1,none⟩) (v:=.int .u32 0);have B:=s.U (a:=⟨w.heap.size+2,0,none⟩) (v:=.int .u8 0);have E:=s.U (a:=⟨w.heap.size+2,1,none⟩) (v:=.int .u32 0);have S:=fun o:Nat=>s.a3 (a:=⟨w.heap.size+1,o,none⟩) (by simp[go_sem]) (by simp[go_sem]);have W:=fun o:Nat=>s.a3 (a:=⟨w.heap.size+2,o,none⟩) (by simp[go_sem]) (by simp[go_sem]);have ab:ae w w1:=kp)
 go_wp2_with fail
 (go_at_call 78;refine(X.out _ kp).mono ?_;rintro e t ⟨rfl,q⟩;have j:=q.size;have S:=fun o:Nat=>q.a3 (a:=⟨w.heap.size+1,o,none⟩) (by dsimp only;omega) (S o);have W:=fun o:Nat=>q.a3 (a:=⟨w.heap.size+2,o,none⟩) (by dsimp only;omega) (W o);have T:=q.cell T;have U:=q.cell U;have z:=q.cell z;have A:=q.cell A;have B:=q.cell B;have E:=q.cell E;have al:w.heap.size<t.heap.size:=(by omega);have N:w.heap.size+1<t.heap.size:=(by omega);have O:w.heap.size+2<t.heap.size:=(by omega);have j:ae w t:=ab.trans q)
 go_wp2_with fail
 go_region
 all_goals go_wp2
 all_goals refine aq (v:=.tuple #[.agg #[.int .u8 v.tag,.int .u32 v.to],.agg #[.int .u8 v.tag,.int .u32 v.to],.int .u8 0]) (by simp[results,Tryz.results269,go_sem,N,O,z,A,B,E]) rfl ⟨rfl,kp⟩
theorem xe (sb:Nat)(l n:Int)(v:Edge)(x:Rec)(w:World)(aw:n≤16)(a0:sb<w.heap.size)
  (L:∀j,ae w j→Calls Tryz.prog 48 #[.pointer (some ⟨sb,0,none⟩)] j fun e w'=>e=.returned (.int .i64 n)∧j=w')
  (am:0≤l) (av:l<n)
  (J:∀j,ae w j→Calls Tryz.prog 134 #[.pointer (some ⟨sb,0,none⟩),.int .u8 3,.agg #[.int .u8 v.tag,.int .u32 v.to],.int .i64 l] j fun e w'=>e=.returned (.bool true)∧ae j w')
   (a1:0≤x.I) (a3:x.I≤255) (a4:0≤x.J) (a5:x.J≤255)
  (I:∀j,ae w j→Calls Tryz.prog 78 #[.pointer (some ⟨sb,0,none⟩),.int .u32 v.to] j fun e w'=>e=.returned (.tuple #[.agg #[.int .u8 x.al,.int .u8 l,.int .u8 l,.int .u8 x.lo.tag,.int .u32 x.lo.to,.int .u8 x.hi.tag,.int .u32 x.hi.to],.bool true])∧ae j w')
  : Calls Tryz.prog 269 #[.pointer (some ⟨sb,0,none⟩),.agg #[.int .u8 v.tag,.int .u32 v.to],.int .i64 l] w fun e w'=>e=.returned (.tuple #[.agg #[.int .u8 x.lo.tag,.int .u32 x.lo.to],.agg #[.int .u8 x.hi.tag,.int .u32 x.hi.to],.int .u8 0])∧ae w w':=by
 have Z:=aa L
 clear L
 have Y:=aa J
 clear J
 have X:=aa I
 clear I
 go_enter Tryz.func269,Tryz.ntmps269
 go_wp2_with (first|(go_at_call 48;refine(Z.out _ kp).mono ?_;rintro e w' ⟨rfl,rfl⟩)|fail)
 (go_at_call 134;refine(Y.out _ kp).mono ?_;rintro e w1 ⟨rfl,s⟩;have ad:=s.size;simp only[ai]at ad;have al:w.heap.size<w1.heap.size:=(by omega);have N:w.heap.size+1<w1.heap.size:=(by omega);have O:w.heap.size+2<w1.heap.size:=(by omega);have T:=s.U (a:=⟨w.heap.size,0,none⟩) (v:=.int .u8 v.tag);have U:=s.U (a:=⟨w.heap.size,1,none⟩) (v:=.int .u32 v.to);have z:=s.U (a:=⟨w.heap.size+1,0,none⟩) (v:=.int .u8 0);have A:=s.U (a:=⟨w.heap.size+1,1,none⟩) (v:=.int .u32 0);have B:=s.U (a:=⟨w.heap.size+2,0,none⟩) (v:=.int .u8 0);have E:=s.U (a:=⟨w.heap.size+2,1,none⟩) (v:=.int .u32 0);have S:=fun o:Nat=>s.a3 (a:=⟨w.heap.size+1,o,none⟩) (by simp[go_sem]) (by simp[go_sem]);have W:=fun o:Nat=>s.a3 (a:=⟨w.heap.size+2,o,none⟩) (by simp[go_sem]) (by simp[go_sem]);have ab:ae w w1:=kp)
 go_wp2_with fail
 (go_at_call 78;refine(X.out _ kp).mono ?_;rintro e t ⟨rfl,q⟩;have j:=q.size;have S:=fun o:Nat=>q.a3 (a:=⟨w.heap.size+1,o,none⟩) (by dsimp only;omega) (S o);have W:=fun o:Nat=>q.a3 (a:=⟨w.heap.size+2,o,none⟩) (by dsimp only;omega) (W o);have T:=q.cell T;have U:=q.cell U;have z:=q.cell z;have A:=q.cell A;have B:=q.cell B;have E:=q.cell E;have al:w.heap.size<t.heap.size:=(by omega);have N:w.heap.size+1<t.heap.size:=(by omega);have O:w.heap.size+2<t.heap.size:=(by omega);have j:ae w t:=ab.trans q)
 go_wp2_with fail
 go_region
 all_goals go_wp2
 all_goals refine aq (v:=.tuple #[.agg #[.int .u8 x.lo.tag,.int .u32 x.lo.to],.agg #[.int .u8 x.hi.tag,.int .u32 x.hi.to],.int .u8 0]) (by simp[results,Tryz.results269,go_sem,N,O,z,A,B,E]) rfl ⟨rfl,kp⟩
theorem xh {F:Nat→Prop}(R:World→World→Prop)(sb:Nat)(l n:Int)(v:Edge)(x:Rec)(a b:Int)(w:World)(bs:n≤16)(bt:sb<w.heap.size)
  (av:∀j,ae w j→Calls Tryz.prog 48 #[.pointer (some ⟨sb,0,none⟩)] j fun e w'=>e=.returned (.int .i64 n)∧j=w')
  (bq:0≤l) (br:l<n)
  (al:∀j,ae w j→Calls Tryz.prog 134 #[.pointer (some ⟨sb,0,none⟩),.int .u8 3,.agg #[.int .u8 v.tag,.int .u32 v.to],.int .i64 l] j fun e w'=>e=.returned (.bool true)∧ae j w')
  (b0:¬x.J=l) (bv:0≤x.I) (bw:x.I≤255) (bx:0≤x.J) (bD:x.J≤255)
  (ad:∀j,ae w j→Calls Tryz.prog 78 #[.pointer (some ⟨sb,0,none⟩),.int .u32 v.to] j fun e w'=>e=.returned (.tuple #[.agg #[.int .u8 3,.int .u8 l,.int .u8 x.J,.int .u8 x.lo.tag,.int .u32 x.lo.to,.int .u8 x.hi.tag,.int .u32 x.hi.to],.bool true])∧ae j w')
  (am:∀k,F k→k<w.heap.size) (ab:∀j,ae w j→Calls Tryz.prog 188 #[.pointer (some ⟨sb,0,none⟩),.agg #[.int .u8 3,.int .u8 (l+1),.int .u8 x.J,.int .u8 x.lo.tag,.int .u32 x.lo.to,.int .u8 x.hi.tag,.int .u32 x.hi.to]] j fun e w'=>e=.returned (.tuple #[.agg #[.int .u8 a,.int .u32 b],.int .u8 0])∧af F j w'∧R j w')
  : Calls Tryz.prog 269 #[.pointer (some ⟨sb,0,none⟩),.agg #[.int .u8 v.tag,.int .u32 v.to],.int .i64 l] w fun e w'=>e=.returned (.tuple #[.agg #[.int .u8 a,.int .u32 b],.agg #[.int .u8 x.hi.tag,.int .u32 x.hi.to],.int .u8 0]) ∧ 
   ∃j X,ae w j∧af F j X∧R j X∧af (fun k=>w.heap.size≤k∧k<j.heap.size) X w':=by
 have a5:=aa av
 clear av
 have a4:=aa al
 clear al
 have a1:=aa ab
 have j:∀k,w.heap.size≤k→¬F k:=fun k U h=>by have:=am k h;omega
 have Y:=j (w.heap.size+1) (by omega)
 have Z:=j (w.heap.size+2) (by omega)
 have X:=aa j
 clear ab am j
 have a3:=aa ad
 clear ad
 go_enter Tryz.func269,Tryz.ntmps269
 go_wp2_with (first|(go_at_call 48;refine(a5.out _ kp).mono ?_;rintro e w' ⟨rfl,rfl⟩)|fail)
 (go_at_call 134;refine(a4.out _ kp).mono ?_;rintro e w1 ⟨rfl,z⟩;have a':=z.size;simp only[ai]at a';have bf:w.heap.size<w1.heap.size:=(by omega);have B:w.heap.size+1<w1.heap.size:=(by omega);have E:w.heap.size+2<w1.heap.size:=(by omega);have aw:=z.U (a:=⟨w.heap.size,0,none⟩) (v:=.int .u8 v.tag);have a0:=z.U (a:=⟨w.heap.size,1,none⟩) (v:=.int .u32 v.to);have I:=z.U (a:=⟨w.heap.size+1,0,none⟩) (v:=.int .u8 0);have J:=z.U (a:=⟨w.heap.size+1,1,none⟩) (v:=.int .u32 0);have L:=z.U (a:=⟨w.heap.size+2,0,none⟩) (v:=.int .u8 0);have N:=z.U (a:=⟨w.heap.size+2,1,none⟩) (v:=.int .u32 0);have S:=fun o:Nat=>z.a3 (a:=⟨w.heap.size+1,o,none⟩) (by simp[go_sem]) (by simp[go_sem]);have T:=fun o:Nat=>z.a3 (a:=⟨w.heap.size+2,o,none⟩) (by simp[go_sem]) (by simp[go_sem]);have U:ae w w1:=kp)
 go_wp2_with fail
 (go_at_call 78;refine(a3.out _ kp).mono ?_;rintro e W ⟨rfl,s⟩;have j:=s.size;have S:=fun o:Nat=>s.a3 (a:=⟨w.heap.size+1,o,none⟩) (by dsimp only;omega) (S o);have T:=fun o:Nat=>s.a3 (a:=⟨w.heap.size+2,o,none⟩) (by dsimp only;omega) (T o);have aw:=s.cell aw;have a0:=s.cell a0;have I:=s.cell I;have J:=s.cell J;have L:=s.cell L;have N:=s.cell N;have bf:w.heap.size<W.heap.size:=(by omega);have B:w.heap.size+1<W.heap.size:=(by omega);have E:w.heap.size+2<W.heap.size:=(by omega);have j:ae w W:=U.trans s)
 go_wp2_with fail
 (go_at_call 188;refine(a1.out _ kp).mono ?_;rintro e O ⟨rfl,A,a6⟩;have a7:=A.size;(try simp only[ai,au,World.a5]at a7);have I:=A.cell (a:=⟨w.heap.size+1,0,none⟩) Y (v:=.int .u8 0) (by simp[go_sem,B,E,I,J]);have J:=A.cell (a:=⟨w.heap.size+1,1,none⟩) Y (v:=.int .u32 0) (by simp[go_sem,B,E,I,J]);have L:=A.cell (a:=⟨w.heap.size+2,0,none⟩) Z (v:=.int .u8 x.hi.tag) (by simp[go_sem,B,E,L,N]);have N:=A.cell (a:=⟨w.heap.size+2,1,none⟩) Z (v:=.int .u32 x.hi.to) (by simp[go_sem,B,E,L,N]);have S:=fun o:Nat=>A.frozen (a:=⟨w.heap.size+1,o,none⟩) (by(try simp only[ai,au,World.a5]);omega) Y (by(try simp only[cq,frozen?_alloc_cells]);exact S o);have T:=fun o:Nat=>A.frozen (a:=⟨w.heap.size+2,o,none⟩) (by(try simp only[ai,au,World.a5]);omega) Z (by(try simp only[cq,frozen?_alloc_cells]);exact T o);have B:w.heap.size+1<O.heap.size:=(by omega);have E:w.heap.size+2<O.heap.size:=(by omega))
 go_wp2_with fail
 obtain⟨q,t⟩:∃q,q=((O.setCell ⟨w.heap.size+1,0,none⟩ (.int .u8 a)).setCell ⟨w.heap.size+1,1,none⟩ (.int .u32 b)):=⟨_,rfl⟩
 have bg:q.cell? ⟨w.heap.size+1,0,none⟩=some (.int .u8 a):=by rw[t];simp[go_sem,I,J,B]
 have bi:q.cell? ⟨w.heap.size+1,1,none⟩=some (.int .u32 b):=by rw[t];simp[go_sem,I,J,B]
 have bn:q.cell? ⟨w.heap.size+2,0,none⟩=some (.int .u8 x.hi.tag):=by rw[t];simp[go_sem,L,N,E]
 have bp:q.cell? ⟨w.heap.size+2,1,none⟩=some (.int .u32 x.hi.to):=by rw[t];simp[go_sem,L,N,E]
 have j:∀o,q.frozen? ⟨w.heap.size+1,o,none⟩=false:=by intro o;rw[t];simp only[cq];exact S o
 have j:∀o,q.frozen? ⟨w.heap.size+2,o,none⟩=false:=by intro o;rw[t];simp only[cq];exact T o
 have a8:q.heap.size=O.heap.size:=by rw[t];simp only[au]
 have bb:af (fun k=>w.heap.size≤k∧k<w.heap.size+3) O q:=by rw[t];exact((af.refl _ _).setCell (Or.inl (by dsimp only;omega)) _).setCell (Or.inl (by dsimp only;omega)) _
 rw[←t]
 have bd:w.heap.size+1<q.heap.size:=by omega
 have be:w.heap.size+2<q.heap.size:=by omega
 clear t I J L N S T a8
 go_region
 all_goals go_wp2
 all_goals refine aq (v:=.tuple #[.agg #[.int .u8 a,.int .u32 b],.agg #[.int .u8 x.hi.tag,.int .u32 x.hi.to],.int .u8 0]) (by simp[results,Tryz.results269,go_sem,bd,be,bg,bi,bn,bp]) rfl ⟨rfl,_,O,kp,A,a6,?_⟩
 all_goals(try simp only[ai,au,World.a5])
 all_goals(repeat (first|with_reducible exact af.refl _ _|exact af.mono bb (fun k _ U=>⟨U.1,by(try simp only[ai,au,World.a5]);have:=U.2;omega⟩)|refine af.setCell ?_ (Or.inl (by dsimp only;omega)) _|refine af.setCell ?_ (Or.inr (by dsimp only;omega)) _|with_reducible refine af.drewN ?_ _|with_reducible refine af.drew ?_|with_reducible refine af.alloc ?_ _))
theorem xi {F:Nat→Prop}(R:World→World→Prop)(sb:Nat)(l n:Int)(v:Edge)(x:Rec)(a b W:Int)(bt:W≠0)(w:World)(bv:n≤16)(bw:sb<w.heap.size)
  (aw:∀j,ae w j→Calls Tryz.prog 48 #[.pointer (some ⟨sb,0,none⟩)] j fun e w'=>e=.returned (.int .i64 n)∧j=w')
  (br:0≤l) (bs:l<n)
  (am:∀j,ae w j→Calls Tryz.prog 134 #[.pointer (some ⟨sb,0,none⟩),.int .u8 3,.agg #[.int .u8 v.tag,.int .u32 v.to],.int .i64 l] j fun e w'=>e=.returned (.bool true)∧ae j w')
  (b2:¬x.J=l) (bx:0≤x.I) (bD:x.I≤255) (b0:0≤x.J) (b1:x.J≤255)
  (al:∀j,ae w j→Calls Tryz.prog 78 #[.pointer (some ⟨sb,0,none⟩),.int .u32 v.to] j fun e w'=>e=.returned (.tuple #[.agg #[.int .u8 3,.int .u8 l,.int .u8 x.J,.int .u8 x.lo.tag,.int .u32 x.lo.to,.int .u8 x.hi.tag,.int .u32 x.hi.to],.bool true])∧ae j w')
  (av:∀k,F k→k<w.heap.size) (ad:∀j,ae w j→Calls Tryz.prog 188 #[.pointer (some ⟨sb,0,none⟩),.agg #[.int .u8 3,.int .u8 (l+1),.int .u8 x.J,.int .u8 x.lo.tag,.int .u32 x.lo.to,.int .u8 x.hi.tag,.int .u32 x.hi.to]] j fun e w'=>e=.returned (.tuple #[.agg #[.int .u8 a,.int .u32 b],.int .u8 W])∧af F j w'∧R j w')
  : Calls Tryz.prog 269 #[.pointer (some ⟨sb,0,none⟩),.agg #[.int .u8 v.tag,.int .u32 v.to],.int .i64 l] w fun e w'=>e=.returned (.tuple #[.agg #[.int .u8 0,.int .u32 0],.agg #[.int .u8 0,.int .u32 0],.int .u8 W]) ∧ 
   ∃j Y,ae w j∧af F j Y∧R j Y∧af (fun k=>w.heap.size≤k∧k<j.heap.size) Y w':=by
 have a6:=aa aw
 clear aw
 have a5:=aa am
 clear am
 have a3:=aa ad
 have j:∀k,w.heap.size≤k→¬F k:=fun k U h=>by have:=av k h;omega
 have Z:=j (w.heap.size+1) (by omega)
 have ab:=j (w.heap.size+2) (by omega)
 have Y:=aa j
 clear ad av j
 have a4:=aa al
 clear al
 go_enter Tryz.func269,Tryz.ntmps269
 go_wp2_with (first|(go_at_call 48;refine(a6.out _ kp).mono ?_;rintro e w' ⟨rfl,rfl⟩)|fail)
 (go_at_call 134;refine(a5.out _ kp).mono ?_;rintro e w1 ⟨rfl,z⟩;have bb:=z.size;simp only[ai]at bb;have bg:w.heap.size<w1.heap.size:=(by omega);have B:w.heap.size+1<w1.heap.size:=(by omega);have E:w.heap.size+2<w1.heap.size:=(by omega);have a0:=z.U (a:=⟨w.heap.size,0,none⟩) (v:=.int .u8 v.tag);have a1:=z.U (a:=⟨w.heap.size,1,none⟩) (v:=.int .u32 v.to);have I:=z.U (a:=⟨w.heap.size+1,0,none⟩) (v:=.int .u8 0);have J:=z.U (a:=⟨w.heap.size+1,1,none⟩) (v:=.int .u32 0);have L:=z.U (a:=⟨w.heap.size+2,0,none⟩) (v:=.int .u8 0);have N:=z.U (a:=⟨w.heap.size+2,1,none⟩) (v:=.int .u32 0);have S:=fun o:Nat=>z.a3 (a:=⟨w.heap.size+1,o,none⟩) (by simp[go_sem]) (by simp[go_sem]);have T:=fun o:Nat=>z.a3 (a:=⟨w.heap.size+2,o,none⟩) (by simp[go_sem]) (by simp[go_sem]);have U:ae w w1:=kp)
 go_wp2_with fail
 (go_at_call 78;refine(a4.out _ kp).mono ?_;rintro e X ⟨rfl,s⟩;have j:=s.size;have S:=fun o:Nat=>s.a3 (a:=⟨w.heap.size+1,o,none⟩) (by dsimp only;omega) (S o);have T:=fun o:Nat=>s.a3 (a:=⟨w.heap.size+2,o,none⟩) (by dsimp only;omega) (T o);have a0:=s.cell a0;have a1:=s.cell a1;have I:=s.cell I;have J:=s.cell J;have L:=s.cell L;have N:=s.cell N;have bg:w.heap.size<X.heap.size:=(by omega);have B:w.heap.size+1<X.heap.size:=(by omega);have E:w.heap.size+2<X.heap.size:=(by omega);have j:ae w X:=U.trans s)
 go_wp2_with fail
 (go_at_call 188;refine(a3.out _ kp).mono ?_;rintro e O ⟨rfl,A,a7⟩;have a8:=A.size;(try simp only[ai,au,World.a5]at a8);have I:=A.cell (a:=⟨w.heap.size+1,0,none⟩) Z (v:=.int .u8 0) (by simp[go_sem,B,E,I,J]);have J:=A.cell (a:=⟨w.heap.size+1,1,none⟩) Z (v:=.int .u32 0) (by simp[go_sem,B,E,I,J]);have L:=A.cell (a:=⟨w.heap.size+2,0,none⟩) ab (v:=.int .u8 x.hi.tag) (by simp[go_sem,B,E,L,N]);have N:=A.cell (a:=⟨w.heap.size+2,1,none⟩) ab (v:=.int .u32 x.hi.to) (by simp[go_sem,B,E,L,N]);have S:=fun o:Nat=>A.frozen (a:=⟨w.heap.size+1,o,none⟩) (by(try simp only[ai,au,World.a5]);omega) Z (by(try simp only[cq,frozen?_alloc_cells]);exact S o);have T:=fun o:Nat=>A.frozen (a:=⟨w.heap.size+2,o,none⟩) (by(try simp only[ai,au,World.a5]);omega) ab (by(try simp only[cq,frozen?_alloc_cells]);exact T o);have B:w.heap.size+1<O.heap.size:=(by omega);have E:w.heap.size+2<O.heap.size:=(by omega))
 go_wp2_with fail
 obtain⟨q,t⟩:∃q,q=((O.setCell ⟨w.heap.size+1,0,none⟩ (.int .u8 a)).setCell ⟨w.heap.size+1,1,none⟩ (.int .u32 b)):=⟨_,rfl⟩
 have bi:q.cell? ⟨w.heap.size+1,0,none⟩=some (.int .u8 a):=by rw[t];simp[go_sem,I,J,B]
 have bn:q.cell? ⟨w.heap.size+1,1,none⟩=some (.int .u32 b):=by rw[t];simp[go_sem,I,J,B]
 have bp:q.cell? ⟨w.heap.size+2,0,none⟩=some (.int .u8 x.hi.tag):=by rw[t];simp[go_sem,L,N,E]
 have bq:q.cell? ⟨w.heap.size+2,1,none⟩=some (.int .u32 x.hi.to):=by rw[t];simp[go_sem,L,N,E]
 have j:∀o,q.frozen? ⟨w.heap.size+1,o,none⟩=false:=by intro o;rw[t];simp only[cq];exact S o
 have j:∀o,q.frozen? ⟨w.heap.size+2,o,none⟩=false:=by intro o;rw[t];simp only[cq];exact T o
 have a':q.heap.size=O.heap.size:=by rw[t];simp only[au]
 have bd:af (fun k=>w.heap.size≤k∧k<w.heap.size+3) O q:=by rw[t];exact((af.refl _ _).setCell (Or.inl (by dsimp only;omega)) _).setCell (Or.inl (by dsimp only;omega)) _
 rw[←t]
 have be:w.heap.size+1<q.heap.size:=by omega
 have bf:w.heap.size+2<q.heap.size:=by omega
 clear t I J L N S T a'
 all_goals refine aq (v:=.tuple #[.agg #[.int .u8 0,.int .u32 0],.agg #[.int .u8 0,.int .u32 0],.int .u8 W]) (by simp[results,Tryz.results269,go_sem,be,bf,bi,bn,bp,bq]) rfl ⟨rfl,_,O,kp,A,a7,?_⟩
 all_goals(try simp only[ai,au,World.a5])
 all_goals(repeat (first|with_reducible exact af.refl _ _|exact af.mono bd (fun k _ U=>⟨U.1,by(try simp only[ai,au,World.a5]);have:=U.2;omega⟩)|refine af.setCell ?_ (Or.inl (by dsimp only;omega)) _|refine af.setCell ?_ (Or.inr (by dsimp only;omega)) _|with_reducible refine af.drewN ?_ _|with_reducible refine af.drew ?_|with_reducible refine af.alloc ?_ _))
end Go.Proofs.YtafkamlhimkbmaaGreat
