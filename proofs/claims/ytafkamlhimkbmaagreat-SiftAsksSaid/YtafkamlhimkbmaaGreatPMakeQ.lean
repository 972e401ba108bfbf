/-
  The walk of cbdd.Make, case by case (printed by wip/mk_make2.py).
-/
import Derived.Test.YtafkamlhimkbmaaGreatPRefB
namespace Go.Proofs.YtafkamlhimkbmaaGreat
set_option maxRecDepth 1000000
set_option maxHeartbeats 8000000
set_option linter.unusedSimpArgs false
set_option linter.unusedVariables false
open Go.RowKit
theorem wW (sb:Nat)(l n:Int)(lo hi:Edge)(w:World)(z:n≤16)(A:sb<w.heap.size)
  (q:∀j,ae w j→Calls Tryz.prog 48 #[.pointer (some ⟨sb,0,none⟩)] j fun e w'=>e=.returned (.int .i64 n)∧j=w')
  (t:l<0)
  : Calls Tryz.prog 123 #[.pointer (some ⟨sb,0,none⟩),.int .i64 l,.agg #[.int .u8 lo.tag,.int .u32 lo.to],.agg #[.int .u8 hi.tag,.int .u32 hi.to]] w fun e w'=>e=.returned (.tuple #[.agg #[.int .u8 0,.int .u32 0],.int .u8 3])∧ae w w':=by
 have j:sb<w.heap.size+1:=by omega
 have j:sb<w.heap.size+1+1:=by omega
 have s:=aa q
 clear q
 go_enter Tryz.func123,Tryz.ntmps123
 go_wp2_with (first|(go_at_call 48;refine(s.out _ kp).mono ?_;rintro e w' ⟨rfl,rfl⟩)|fail)
 all_goals refine aq (v:=.tuple #[.agg #[.int .u8 0,.int .u32 0],.int .u8 3]) (by simp[results,Tryz.results123,go_sem]) rfl ⟨rfl,kp⟩
theorem wR (sb:Nat)(l n:Int)(lo hi:Edge)(w:World)(A:n≤16)(B:sb<w.heap.size)
  (q:∀j,ae w j→Calls Tryz.prog 48 #[.pointer (some ⟨sb,0,none⟩)] j fun e w'=>e=.returned (.int .i64 n)∧j=w')
  (t:0≤l) (z:n≤l)
  : Calls Tryz.prog 123 #[.pointer (some ⟨sb,0,none⟩),.int .i64 l,.agg #[.int .u8 lo.tag,.int .u32 lo.to],.agg #[.int .u8 hi.tag,.int .u32 hi.to]] w fun e w'=>e=.returned (.tuple #[.agg #[.int .u8 0,.int .u32 0],.int .u8 3])∧ae w w':=by
 have j:sb<w.heap.size+1:=by omega
 have j:sb<w.heap.size+1+1:=by omega
 have s:=aa q
 clear q
 go_enter Tryz.func123,Tryz.ntmps123
 go_wp2_with (first|(go_at_call 48;refine(s.out _ kp).mono ?_;rintro e w' ⟨rfl,rfl⟩)|fail)
 all_goals refine aq (v:=.tuple #[.agg #[.int .u8 0,.int .u32 0],.int .u8 3]) (by simp[results,Tryz.results123,go_sem]) rfl ⟨rfl,kp⟩
theorem wV (sb:Nat)(l n:Int)(lo hi:Edge)(w:World)(O:n≤16)(S:sb<w.heap.size)
  (t:∀q,ae w q→Calls Tryz.prog 48 #[.pointer (some ⟨sb,0,none⟩)] q fun e w'=>e=.returned (.int .i64 n)∧q=w')
  (L:0≤l) (N:l<n)
  (s:∀q,ae w q→Calls Tryz.prog 134 #[.pointer (some ⟨sb,0,none⟩),.int .u8 3,.agg #[.int .u8 lo.tag,.int .u32 lo.to],.int .i64 (l+1)] q fun e w'=>e=.returned (.bool false)∧ae q w')
  : Calls Tryz.prog 123 #[.pointer (some ⟨sb,0,none⟩),.int .i64 l,.agg #[.int .u8 lo.tag,.int .u32 lo.to],.agg #[.int .u8 hi.tag,.int .u32 hi.to]] w fun e w'=>e=.returned (.tuple #[.agg #[.int .u8 0,.int .u32 0],.int .u8 1])∧ae w w':=by
 have q:sb<w.heap.size+1:=by omega
 have q:sb<w.heap.size+1+1:=by omega
 have A:=aa t
 clear t
 have z:=aa s
 clear s
 go_enter Tryz.func123,Tryz.ntmps123
 go_wp2_with (first|(go_at_call 48;refine(A.out _ kp).mono ?_;rintro e w' ⟨rfl,rfl⟩)|fail)
 (go_at_call 134;refine(z.out _ kp).mono ?_;rintro e w1 ⟨rfl,j⟩;have B:=j.size;simp only[ai]at B;have q:w.heap.size<w1.heap.size:=(by omega);have q:w.heap.size+1<w1.heap.size:=(by omega);have E:w.heap.size+2<w1.heap.size:=(by omega);have q:=j.U (a:=⟨w.heap.size,0,none⟩) (v:=.int .u8 lo.tag);have q:=j.U (a:=⟨w.heap.size,1,none⟩) (v:=.int .u32 lo.to);have q:=j.U (a:=⟨w.heap.size+1,0,none⟩) (v:=.int .u8 hi.tag);have q:=j.U (a:=⟨w.heap.size+1,1,none⟩) (v:=.int .u32 hi.to);have I:=j.U (a:=⟨w.heap.size+2,0,none⟩) (v:=.int .u8 0);have J:=j.U (a:=⟨w.heap.size+2,1,none⟩) (v:=.int .u32 0);have q:=fun o:Nat=>j.a3 (a:=⟨w.heap.size+2,o,none⟩) (by simp[go_sem]) (by simp[go_sem]);have j:ae w w1:=kp)
 go_wp2_with fail
 all_goals refine aq (v:=.tuple #[.agg #[.int .u8 0,.int .u32 0],.int .u8 1]) (by simp[results,Tryz.results123,go_sem,E,I,J]) rfl ⟨rfl,kp⟩
theorem wT (sb:Nat)(l n:Int)(lo hi:Edge)(w:World)(al:n≤16)(am:sb<w.heap.size)
  (E:∀q,ae w q→Calls Tryz.prog 48 #[.pointer (some ⟨sb,0,none⟩)] q fun e w'=>e=.returned (.int .i64 n)∧q=w')
  (ab:0≤l) (ad:l<n)
  (A:∀q,ae w q→Calls Tryz.prog 134 #[.pointer (some ⟨sb,0,none⟩),.int .u8 3,.agg #[.int .u8 lo.tag,.int .u32 lo.to],.int .i64 (l+1)] q fun e w'=>e=.returned (.bool true)∧ae q w')
  (z:∀q,ae w q→Calls Tryz.prog 134 #[.pointer (some ⟨sb,0,none⟩),.int .u8 3,.agg #[.int .u8 hi.tag,.int .u32 hi.to],.int .i64 (l+1)] q fun e w'=>e=.returned (.bool false)∧ae q w')
  : Calls Tryz.prog 123 #[.pointer (some ⟨sb,0,none⟩),.int .i64 l,.agg #[.int .u8 lo.tag,.int .u32 lo.to],.agg #[.int .u8 hi.tag,.int .u32 hi.to]] w fun e w'=>e=.returned (.tuple #[.agg #[.int .u8 0,.int .u32 0],.int .u8 1])∧ae w w':=by
 have q:sb<w.heap.size+1:=by omega
 have q:sb<w.heap.size+1+1:=by omega
 have W:=aa E
 clear E
 have U:=aa A
 clear A
 have T:=aa z
 clear z
 go_enter Tryz.func123,Tryz.ntmps123
 go_wp2_with (first|(go_at_call 48;refine(W.out _ kp).mono ?_;rintro e w' ⟨rfl,rfl⟩)|fail)
 (go_at_call 134;refine(U.out _ kp).mono ?_;rintro e w1 ⟨rfl,j⟩;have B:=j.size;simp only[ai]at B;have Y:w.heap.size<w1.heap.size:=(by omega);have Z:w.heap.size+1<w1.heap.size:=(by omega);have I:w.heap.size+2<w1.heap.size:=(by omega);have N:=j.U (a:=⟨w.heap.size,0,none⟩) (v:=.int .u8 lo.tag);have O:=j.U (a:=⟨w.heap.size,1,none⟩) (v:=.int .u32 lo.to);have J:=j.U (a:=⟨w.heap.size+1,0,none⟩) (v:=.int .u8 hi.tag);have L:=j.U (a:=⟨w.heap.size+1,1,none⟩) (v:=.int .u32 hi.to);have s:=j.U (a:=⟨w.heap.size+2,0,none⟩) (v:=.int .u8 0);have t:=j.U (a:=⟨w.heap.size+2,1,none⟩) (v:=.int .u32 0);have S:=fun o:Nat=>j.a3 (a:=⟨w.heap.size+2,o,none⟩) (by simp[go_sem]) (by simp[go_sem]);have X:ae w w1:=kp)
 go_wp2_with fail
 (go_at_call 134;refine(T.out _ kp).mono ?_;rintro e w1 ⟨rfl,j⟩;have B:=j.size;have S:=fun o:Nat=>j.a3 (a:=⟨w.heap.size+2,o,none⟩) (by dsimp only;omega) (S o);have N:=j.cell N;have O:=j.cell O;have J:=j.cell J;have L:=j.cell L;have s:=j.cell s;have t:=j.cell t;have Y:w.heap.size<w1.heap.size:=(by omega);have Z:w.heap.size+1<w1.heap.size:=(by omega);have I:w.heap.size+2<w1.heap.size:=(by omega);have X:ae w w1:=kp)
 go_wp2_with fail
 all_goals refine aq (v:=.tuple #[.agg #[.int .u8 0,.int .u32 0],.int .u8 1]) (by simp[results,Tryz.results123,go_sem,I,s,t]) rfl ⟨rfl,kp⟩
theorem wY (sb:Nat)(l n:Int)(lo hi:Edge)(w:World)(am:n≤16)(av:sb<w.heap.size)
  (I:∀q,ae w q→Calls Tryz.prog 48 #[.pointer (some ⟨sb,0,none⟩)] q fun e w'=>e=.returned (.int .i64 n)∧q=w')
  (ad:0≤l) (al:l<n)
  (B:∀q,ae w q→Calls Tryz.prog 134 #[.pointer (some ⟨sb,0,none⟩),.int .u8 3,.agg #[.int .u8 lo.tag,.int .u32 lo.to],.int .i64 (l+1)] q fun e w'=>e=.returned (.bool true)∧ae q w')
  (A:∀q,ae w q→Calls Tryz.prog 134 #[.pointer (some ⟨sb,0,none⟩),.int .u8 3,.agg #[.int .u8 hi.tag,.int .u32 hi.to],.int .i64 (l+1)] q fun e w'=>e=.returned (.bool true)∧ae q w')
  (s:lo=hi)
  : Calls Tryz.prog 123 #[.pointer (some ⟨sb,0,none⟩),.int .i64 l,.agg #[.int .u8 lo.tag,.int .u32 lo.to],.agg #[.int .u8 hi.tag,.int .u32 hi.to]] w fun e w'=>e=.returned (.tuple #[.agg #[.int .u8 lo.tag,.int .u32 lo.to],.int .u8 0])∧ae w w':=by
 have q:sb<w.heap.size+1:=by omega
 have q:sb<w.heap.size+1+1:=by omega
 have X:=aa I
 clear I
 have W:=aa B
 clear B
 have U:=aa A
 clear A
 have q:=ja lo hi s
 have q:=aa s
 clear s
 go_enter Tryz.func123,Tryz.ntmps123
 go_wp2_with (first|(go_at_call 48;refine(X.out _ kp).mono ?_;rintro e w' ⟨rfl,rfl⟩)|fail)
 (go_at_call 134;refine(W.out _ kp).mono ?_;rintro e w1 ⟨rfl,j⟩;have E:=j.size;simp only[ai]at E;have Z:w.heap.size<w1.heap.size:=(by omega);have ab:w.heap.size+1<w1.heap.size:=(by omega);have J:w.heap.size+2<w1.heap.size:=(by omega);have O:=j.U (a:=⟨w.heap.size,0,none⟩) (v:=.int .u8 lo.tag);have S:=j.U (a:=⟨w.heap.size,1,none⟩) (v:=.int .u32 lo.to);have L:=j.U (a:=⟨w.heap.size+1,0,none⟩) (v:=.int .u8 hi.tag);have N:=j.U (a:=⟨w.heap.size+1,1,none⟩) (v:=.int .u32 hi.to);have t:=j.U (a:=⟨w.heap.size+2,0,none⟩) (v:=.int .u8 0);have z:=j.U (a:=⟨w.heap.size+2,1,none⟩) (v:=.int .u32 0);have T:=fun o:Nat=>j.a3 (a:=⟨w.heap.size+2,o,none⟩) (by simp[go_sem]) (by simp[go_sem]);have Y:ae w w1:=kp)
 go_wp2_with fail
 (go_at_call 134;refine(U.out _ kp).mono ?_;rintro e w1 ⟨rfl,j⟩;have E:=j.size;have T:=fun o:Nat=>j.a3 (a:=⟨w.heap.size+2,o,none⟩) (by dsimp only;omega) (T o);have O:=j.cell O;have S:=j.cell S;have L:=j.cell L;have N:=j.cell N;have t:=j.cell t;have z:=j.cell z;have Z:w.heap.size<w1.heap.size:=(by omega);have ab:w.heap.size+1<w1.heap.size:=(by omega);have J:w.heap.size+2<w1.heap.size:=(by omega);have Y:ae w w1:=kp)
 go_wp2_with fail
 all_goals refine aq (v:=.tuple #[.agg #[.int .u8 lo.tag,.int .u32 lo.to],.int .u8 0]) (by simp[results,Tryz.results123,go_sem,J,t,z]) rfl ⟨rfl,kp⟩
theorem wX {F:Nat→Prop}(R:World→World→Prop)(sb:Nat)(l n:Int)(lo hi:Edge)(x:Rec)(a b W:Int)(w:World)(bp:n≤16)(bq:sb<w.heap.size)
  (aw:∀j,ae w j→Calls Tryz.prog 48 #[.pointer (some ⟨sb,0,none⟩)] j fun e w'=>e=.returned (.int .i64 n)∧j=w')
  (bi:0≤l) (bn:l<n)
  (al:∀j,ae w j→Calls Tryz.prog 134 #[.pointer (some ⟨sb,0,none⟩),.int .u8 3,.agg #[.int .u8 lo.tag,.int .u32 lo.to],.int .i64 (l+1)] j fun e w'=>e=.returned (.bool true)∧ae j w')
  (ad:∀j,ae w j→Calls Tryz.prog 134 #[.pointer (some ⟨sb,0,none⟩),.int .u8 3,.agg #[.int .u8 hi.tag,.int .u32 hi.to],.int .i64 (l+1)] j fun e w'=>e=.returned (.bool true)∧ae j w')
  (X:¬lo=hi)
  (ab:∀j,ae w j→Calls Tryz.prog 78 #[.pointer (some ⟨sb,0,none⟩),.int .u32 lo.to] j fun e w'=>e=.returned (.tuple #[.agg #[.int .u8 x.al,.int .u8 x.I,.int .u8 x.J,.int .u8 x.lo.tag,.int .u32 x.lo.to,.int .u8 x.hi.tag,.int .u32 x.hi.to],.bool false])∧ae j w')
  (am:∀k,F k→k<w.heap.size) (Z:∀j,ae w j→Calls Tryz.prog 188 #[.pointer (some ⟨sb,0,none⟩),.agg #[.int .u8 3,.int .u8 l,.int .u8 l,.int .u8 lo.tag,.int .u32 lo.to,.int .u8 hi.tag,.int .u32 hi.to]] j fun e w'=>e=.returned (.tuple #[.agg #[.int .u8 a,.int .u32 b],.int .u8 W])∧af F j w'∧R j w')
  : Calls Tryz.prog 123 #[.pointer (some ⟨sb,0,none⟩),.int .i64 l,.agg #[.int .u8 lo.tag,.int .u32 lo.to],.agg #[.int .u8 hi.tag,.int .u32 hi.to]] w fun e w'=>e=.returned (.tuple #[.agg #[.int .u8 a,.int .u32 b],.int .u8 W]) ∧ 
   ∃j U,ae w j∧af F j U∧R j U∧af (fun k=>w.heap.size≤k∧k<j.heap.size) U w':=by
 have j:sb<w.heap.size+1:=by omega
 have j:sb<w.heap.size+1+1:=by omega
 have a8:=aa aw
 clear aw
 have a7:=aa al
 clear al
 have a6:=aa ad
 clear ad
 have a4:=aa Z
 have j:∀k,w.heap.size≤k→¬F k:=fun k z h=>by have:=am k h;omega
 have Y:=j (w.heap.size+2) (by omega)
 clear Z am j
 have j:=ij lo hi X
 have j:=aa X
 clear X
 have a5:=aa ab
 clear ab
 go_enter Tryz.func123,Tryz.ntmps123
 go_wp2_with (first|(go_at_call 48;refine(a8.out _ kp).mono ?_;rintro e w' ⟨rfl,rfl⟩)|fail)
 (go_at_call 134;refine(a7.out _ kp).mono ?_;rintro e w1 ⟨rfl,q⟩;have av:=q.size;simp only[ai]at av;have a0:w.heap.size<w1.heap.size:=(by omega);have a1:w.heap.size+1<w1.heap.size:=(by omega);have L:w.heap.size+2<w1.heap.size:=(by omega);have S:=q.U (a:=⟨w.heap.size,0,none⟩) (v:=.int .u8 lo.tag);have T:=q.U (a:=⟨w.heap.size,1,none⟩) (v:=.int .u32 lo.to);have N:=q.U (a:=⟨w.heap.size+1,0,none⟩) (v:=.int .u8 hi.tag);have O:=q.U (a:=⟨w.heap.size+1,1,none⟩) (v:=.int .u32 hi.to);have E:=q.U (a:=⟨w.heap.size+2,0,none⟩) (v:=.int .u8 0);have I:=q.U (a:=⟨w.heap.size+2,1,none⟩) (v:=.int .u32 0);have J:=fun o:Nat=>q.a3 (a:=⟨w.heap.size+2,o,none⟩) (by simp[go_sem]) (by simp[go_sem]);have z:ae w w1:=kp)
 go_wp2_with fail
 (go_at_call 134;refine(a6.out _ kp).mono ?_;rintro e w1 ⟨rfl,q⟩;have av:=q.size;have J:=fun o:Nat=>q.a3 (a:=⟨w.heap.size+2,o,none⟩) (by dsimp only;omega) (J o);have S:=q.cell S;have T:=q.cell T;have N:=q.cell N;have O:=q.cell O;have E:=q.cell E;have I:=q.cell I;have a0:w.heap.size<w1.heap.size:=(by omega);have a1:w.heap.size+1<w1.heap.size:=(by omega);have L:w.heap.size+2<w1.heap.size:=(by omega);have z:ae w w1:=kp)
 go_wp2_with fail
 (go_at_call 78;refine(a5.out _ kp).mono ?_;rintro e A ⟨rfl,s⟩;have bb:=s.size;simp only[ai]at bb;have j:=s.U (a:=⟨w1.heap.size,0,none⟩) (v:=.int .u8 3);have j:=s.U (a:=⟨w1.heap.size,1,none⟩) (v:=.int .u8 l);have j:=s.U (a:=⟨w1.heap.size,2,none⟩) (v:=.int .u8 l);have j:=s.U (a:=⟨w1.heap.size,3,none⟩) (v:=.int .u8 lo.tag);have j:=s.U (a:=⟨w1.heap.size,4,none⟩) (v:=.int .u32 lo.to);have j:=s.U (a:=⟨w1.heap.size,5,none⟩) (v:=.int .u8 hi.tag);have j:=s.U (a:=⟨w1.heap.size,6,none⟩) (v:=.int .u32 hi.to);have j:=fun o:Nat=>s.a3 (a:=⟨w1.heap.size,o,none⟩) (by simp[go_sem]) (by simp[go_sem]);have t:ae w1 A:=((ae.refl _).alloc _).trans s;have J:=fun o:Nat=>t.a3 (a:=⟨w.heap.size+2,o,none⟩) (by dsimp only;omega) (J o);have S:=t.cell S;have T:=t.cell T;have N:=t.cell N;have O:=t.cell O;have E:=t.cell E;have I:=t.cell I;have a0:w.heap.size<A.heap.size:=(by omega);have a1:w.heap.size+1<A.heap.size:=(by omega);have L:w.heap.size+2<A.heap.size:=(by omega);have j:w1.heap.size<A.heap.size:=(by omega);have j:ae w A:=z.trans t)
 all_goals go_wp2_with (first|(go_at_call 188;refine(a4.out _ kp).mono ?_;rintro e a3 ⟨rfl,B,a'⟩;have bd:=B.size;(try simp only[ai,au,World.a5]at bd);have bf:=B.cell (a:=⟨w.heap.size+2,0,none⟩) Y (v:=.int .u8 0) (by simp[go_sem,L,E]);have bg:=B.cell (a:=⟨w.heap.size+2,1,none⟩) Y (v:=.int .u32 0) (by simp[go_sem,L,I]);have j:=fun o:Nat=>B.frozen (a:=⟨w.heap.size+2,o,none⟩) (by(try simp only[ai,au,World.a5]);omega) Y (by(try simp only[cq,World.frozen?_drew,frozen?_alloc_cells]);exact J o);have be:w.heap.size+2<a3.heap.size:=(by omega))|fail)
 all_goals refine aq (v:=.tuple #[.agg #[.int .u8 a,.int .u32 b],.int .u8 W]) (by simp[results,Tryz.results123,go_sem,be,bf,bg]) rfl ⟨rfl,_,a3,kp,B,a',?_⟩
 all_goals(try simp only[ai,au,World.a5])
 all_goals(repeat (first|with_reducible exact af.refl _ _|exact af.mono j (fun k _ z=>⟨z.1,by(try simp only[ai,au,World.a5]);have:=z.2;omega⟩)|refine af.setCell ?_ (Or.inl (by dsimp only;omega)) _|refine af.setCell ?_ (Or.inr (by dsimp only;omega)) _|with_reducible refine af.drewN ?_ _|with_reducible refine af.drew ?_|with_reducible refine af.alloc ?_ _))
theorem wZ {F:Nat→Prop}(R:World→World→Prop)(sb:Nat)(l n:Int)(lo hi:Edge)(x:Rec)(a b W:Int)(w:World)(bq:n≤16)(br:sb<w.heap.size)
  (aw:∀j,ae w j→Calls Tryz.prog 48 #[.pointer (some ⟨sb,0,none⟩)] j fun e w'=>e=.returned (.int .i64 n)∧j=w')
  (bn:0≤l) (bp:l<n)
  (al:∀j,ae w j→Calls Tryz.prog 134 #[.pointer (some ⟨sb,0,none⟩),.int .u8 3,.agg #[.int .u8 lo.tag,.int .u32 lo.to],.int .i64 (l+1)] j fun e w'=>e=.returned (.bool true)∧ae j w')
  (ad:∀j,ae w j→Calls Tryz.prog 134 #[.pointer (some ⟨sb,0,none⟩),.int .u8 3,.agg #[.int .u8 hi.tag,.int .u32 hi.to],.int .i64 (l+1)] j fun e w'=>e=.returned (.bool true)∧ae j w')
  (X:¬lo=hi)
  (bf:¬x.I=l+1) (bs:0≤x.I) (bt:x.I≤255)
  (ab:∀j,ae w j→Calls Tryz.prog 78 #[.pointer (some ⟨sb,0,none⟩),.int .u32 lo.to] j fun e w'=>e=.returned (.tuple #[.agg #[.int .u8 x.al,.int .u8 x.I,.int .u8 x.J,.int .u8 x.lo.tag,.int .u32 x.lo.to,.int .u8 x.hi.tag,.int .u32 x.hi.to],.bool true])∧ae j w')
  (am:∀k,F k→k<w.heap.size) (Z:∀j,ae w j→Calls Tryz.prog 188 #[.pointer (some ⟨sb,0,none⟩),.agg #[.int .u8 3,.int .u8 l,.int .u8 l,.int .u8 lo.tag,.int .u32 lo.to,.int .u8 hi.tag,.int .u32 hi.to]] j fun e w'=>e=.returned (.tuple #[.agg #[.int .u8 a,.int .u32 b],.int .u8 W])∧af F j w'∧R j w')
  : Calls Tryz.prog 123 #[.pointer (some ⟨sb,0,none⟩),.int .i64 l,.agg #[.int .u8 lo.tag,.int .u32 lo.to],.agg #[.int .u8 hi.tag,.int .u32 hi.to]] w fun e w'=>e=.returned (.tuple #[.agg #[.int .u8 a,.int .u32 b],.int .u8 W]) ∧ 
   ∃j U,ae w j∧af F j U∧R j U∧af (fun k=>w.heap.size≤k∧k<j.heap.size) U w':=by
 have j:sb<w.heap.size+1:=by omega
 have j:sb<w.heap.size+1+1:=by omega
 have a8:=aa aw
 clear aw
 have a7:=aa al
 clear al
 have a6:=aa ad
 clear ad
 have a4:=aa Z
 have j:∀k,w.heap.size≤k→¬F k:=fun k z h=>by have:=am k h;omega
 have Y:=j (w.heap.size+2) (by omega)
 clear Z am j
 have j:=ij lo hi X
 have j:=aa X
 clear X
 have j:(x.I==l+1)=false:=by simp[bf]
 have a5:=aa ab
 clear ab
 go_enter Tryz.func123,Tryz.ntmps123
 go_wp2_with (first|(go_at_call 48;refine(a8.out _ kp).mono ?_;rintro e w' ⟨rfl,rfl⟩)|fail)
 (go_at_call 134;refine(a7.out _ kp).mono ?_;rintro e w1 ⟨rfl,q⟩;have av:=q.size;simp only[ai]at av;have a0:w.heap.size<w1.heap.size:=(by omega);have a1:w.heap.size+1<w1.heap.size:=(by omega);have L:w.heap.size+2<w1.heap.size:=(by omega);have S:=q.U (a:=⟨w.heap.size,0,none⟩) (v:=.int .u8 lo.tag);have T:=q.U (a:=⟨w.heap.size,1,none⟩) (v:=.int .u32 lo.to);have N:=q.U (a:=⟨w.heap.size+1,0,none⟩) (v:=.int .u8 hi.tag);have O:=q.U (a:=⟨w.heap.size+1,1,none⟩) (v:=.int .u32 hi.to);have E:=q.U (a:=⟨w.heap.size+2,0,none⟩) (v:=.int .u8 0);have I:=q.U (a:=⟨w.heap.size+2,1,none⟩) (v:=.int .u32 0);have J:=fun o:Nat=>q.a3 (a:=⟨w.heap.size+2,o,none⟩) (by simp[go_sem]) (by simp[go_sem]);have z:ae w w1:=kp)
 go_wp2_with fail
 (go_at_call 134;refine(a6.out _ kp).mono ?_;rintro e w1 ⟨rfl,q⟩;have av:=q.size;have J:=fun o:Nat=>q.a3 (a:=⟨w.heap.size+2,o,none⟩) (by dsimp only;omega) (J o);have S:=q.cell S;have T:=q.cell T;have N:=q.cell N;have O:=q.cell O;have E:=q.cell E;have I:=q.cell I;have a0:w.heap.size<w1.heap.size:=(by omega);have a1:w.heap.size+1<w1.heap.size:=(by omega);have L:w.heap.size+2<w1.heap.size:=(by omega);have z:ae w w1:=kp)
 go_wp2_with fail
 (go_at_call 78;refine(a5.out _ kp).mono ?_;rintro e A ⟨rfl,s⟩;have bb:=s.size;simp only[ai]at bb;have j:=s.U (a:=⟨w1.heap.size,0,none⟩) (v:=.int .u8 3);have j:=s.U (a:=⟨w1.heap.size,1,none⟩) (v:=.int .u8 l);have j:=s.U (a:=⟨w1.heap.size,2,none⟩) (v:=.int .u8 l);have j:=s.U (a:=⟨w1.heap.size,3,none⟩) (v:=.int .u8 lo.tag);have j:=s.U (a:=⟨w1.heap.size,4,none⟩) (v:=.int .u32 lo.to);have j:=s.U (a:=⟨w1.heap.size,5,none⟩) (v:=.int .u8 hi.tag);have j:=s.U (a:=⟨w1.heap.size,6,none⟩) (v:=.int .u32 hi.to);have j:=fun o:Nat=>s.a3 (a:=⟨w1.heap.size,o,none⟩) (by simp[go_sem]) (by simp[go_sem]);have t:ae w1 A:=((ae.refl _).alloc _).trans s;have J:=fun o:Nat=>t.a3 (a:=⟨w.heap.size+2,o,none⟩) (by dsimp only;omega) (J o);have S:=t.cell S;have T:=t.cell T;have N:=t.cell N;have O:=t.cell O;have E:=t.cell E;have I:=t.cell I;have a0:w.heap.size<A.heap.size:=(by omega);have a1:w.heap.size+1<A.heap.size:=(by omega);have L:w.heap.size+2<A.heap.size:=(by omega);have j:w1.heap.size<A.heap.size:=(by omega);have j:ae w A:=z.trans t)
 all_goals go_wp2_with (first|(go_at_call 188;refine(a4.out _ kp).mono ?_;rintro e a3 ⟨rfl,B,a'⟩;have bd:=B.size;(try simp only[ai,au,World.a5]at bd);have bg:=B.cell (a:=⟨w.heap.size+2,0,none⟩) Y (v:=.int .u8 0) (by simp[go_sem,L,E]);have bi:=B.cell (a:=⟨w.heap.size+2,1,none⟩) Y (v:=.int .u32 0) (by simp[go_sem,L,I]);have j:=fun o:Nat=>B.frozen (a:=⟨w.heap.size+2,o,none⟩) (by(try simp only[ai,au,World.a5]);omega) Y (by(try simp only[cq,World.frozen?_drew,frozen?_alloc_cells]);exact J o);have be:w.heap.size+2<a3.heap.size:=(by omega))|fail)
 all_goals refine aq (v:=.tuple #[.agg #[.int .u8 a,.int .u32 b],.int .u8 W]) (by simp[results,Tryz.results123,go_sem,be,bg,bi]) rfl ⟨rfl,_,a3,kp,B,a',?_⟩
 all_goals(try simp only[ai,au,World.a5])
 all_goals(repeat (first|with_reducible exact af.refl _ _|exact af.mono j (fun k _ z=>⟨z.1,by(try simp only[ai,au,World.a5]);have:=z.2;omega⟩)|refine af.setCell ?_ (Or.inl (by dsimp only;omega)) _|refine af.setCell ?_ (Or.inr (by dsimp only;omega)) _|with_reducible refine af.drewN ?_ _|with_reducible refine af.drew ?_|with_reducible refine af.alloc ?_ _))
theorem wU {F:Nat→Prop}(R:World→World→Prop)(sb:Nat)(l n:Int)(lo hi:Edge)(x:Rec)(a b W:Int)(w:World)(bq:n≤16)(br:sb<w.heap.size)
  (a0:∀j,ae w j→Calls Tryz.prog 48 #[.pointer (some ⟨sb,0,none⟩)] j fun e w'=>e=.returned (.int .i64 n)∧j=w')
  (bn:0≤l) (bp:l<n)
  (am:∀j,ae w j→Calls Tryz.prog 134 #[.pointer (some ⟨sb,0,none⟩),.int .u8 3,.agg #[.int .u8 lo.tag,.int .u32 lo.to],.int .i64 (l+1)] j fun e w'=>e=.returned (.bool true)∧ae j w')
  (al:∀j,ae w j→Calls Tryz.prog 134 #[.pointer (some ⟨sb,0,none⟩),.int .u8 3,.agg #[.int .u8 hi.tag,.int .u32 hi.to],.int .i64 (l+1)] j fun e w'=>e=.returned (.bool true)∧ae j w')
  (X:¬lo=hi)
  (Y:¬x.hi=hi)
  (ad:∀j,ae w j→Calls Tryz.prog 78 #[.pointer (some ⟨sb,0,none⟩),.int .u32 lo.to] j fun e w'=>e=.returned (.tuple #[.agg #[.int .u8 x.al,.int .u8 (l+1),.int .u8 x.J,.int .u8 x.lo.tag,.int .u32 x.lo.to,.int .u8 x.hi.tag,.int .u32 x.hi.to],.bool true])∧ae j w')
  (av:∀k,F k→k<w.heap.size) (ab:∀j,ae w j→Calls Tryz.prog 188 #[.pointer (some ⟨sb,0,none⟩),.agg #[.int .u8 3,.int .u8 l,.int .u8 l,.int .u8 lo.tag,.int .u32 lo.to,.int .u8 hi.tag,.int .u32 hi.to]] j fun e w'=>e=.returned (.tuple #[.agg #[.int .u8 a,.int .u32 b],.int .u8 W])∧af F j w'∧R j w')
  : Calls Tryz.prog 123 #[.pointer (some ⟨sb,0,none⟩),.int .i64 l,.agg #[.int .u8 lo.tag,.int .u32 lo.to],.agg #[.int .u8 hi.tag,.int .u32 hi.to]] w fun e w'=>e=.returned (.tuple #[.agg #[.int .u8 a,.int .u32 b],.int .u8 W]) ∧ 
   ∃j U,ae w j∧af F j U∧R j U∧af (fun k=>w.heap.size≤k∧k<j.heap.size) U w':=by
 have j:sb<w.heap.size+1:=by omega
 have j:sb<w.heap.size+1+1:=by omega
 have a':=aa a0
 clear a0
 have a8:=aa am
 clear am
 have a7:=aa al
 clear al
 have a5:=aa ab
 have j:∀k,w.heap.size≤k→¬F k:=fun k z h=>by have:=av k h;omega
 have Z:=j (w.heap.size+2) (by omega)
 clear ab av j
 have j:=ij lo hi X
 have j:=aa X
 clear X
 have j:=ij x.hi hi Y
 have j:=aa Y
 clear Y
 have a6:=aa ad
 clear ad
 go_enter Tryz.func123,Tryz.ntmps123
 go_wp2_with (first|(go_at_call 48;refine(a'.out _ kp).mono ?_;rintro e w' ⟨rfl,rfl⟩)|fail)
 (go_at_call 134;refine(a8.out _ kp).mono ?_;rintro e w1 ⟨rfl,q⟩;have aw:=q.size;simp only[ai]at aw;have a1:w.heap.size<w1.heap.size:=(by omega);have a3:w.heap.size+1<w1.heap.size:=(by omega);have L:w.heap.size+2<w1.heap.size:=(by omega);have S:=q.U (a:=⟨w.heap.size,0,none⟩) (v:=.int .u8 lo.tag);have T:=q.U (a:=⟨w.heap.size,1,none⟩) (v:=.int .u32 lo.to);have N:=q.U (a:=⟨w.heap.size+1,0,none⟩) (v:=.int .u8 hi.tag);have O:=q.U (a:=⟨w.heap.size+1,1,none⟩) (v:=.int .u32 hi.to);have E:=q.U (a:=⟨w.heap.size+2,0,none⟩) (v:=.int .u8 0);have I:=q.U (a:=⟨w.heap.size+2,1,none⟩) (v:=.int .u32 0);have J:=fun o:Nat=>q.a3 (a:=⟨w.heap.size+2,o,none⟩) (by simp[go_sem]) (by simp[go_sem]);have z:ae w w1:=kp)
 go_wp2_with fail
 (go_at_call 134;refine(a7.out _ kp).mono ?_;rintro e w1 ⟨rfl,q⟩;have aw:=q.size;have J:=fun o:Nat=>q.a3 (a:=⟨w.heap.size+2,o,none⟩) (by dsimp only;omega) (J o);have S:=q.cell S;have T:=q.cell T;have N:=q.cell N;have O:=q.cell O;have E:=q.cell E;have I:=q.cell I;have a1:w.heap.size<w1.heap.size:=(by omega);have a3:w.heap.size+1<w1.heap.size:=(by omega);have L:w.heap.size+2<w1.heap.size:=(by omega);have z:ae w w1:=kp)
 go_wp2_with fail
 (go_at_call 78;refine(a6.out _ kp).mono ?_;rintro e A ⟨rfl,s⟩;have bd:=s.size;simp only[ai]at bd;have j:=s.U (a:=⟨w1.heap.size,0,none⟩) (v:=.int .u8 3);have j:=s.U (a:=⟨w1.heap.size,1,none⟩) (v:=.int .u8 l);have j:=s.U (a:=⟨w1.heap.size,2,none⟩) (v:=.int .u8 l);have j:=s.U (a:=⟨w1.heap.size,3,none⟩) (v:=.int .u8 lo.tag);have j:=s.U (a:=⟨w1.heap.size,4,none⟩) (v:=.int .u32 lo.to);have j:=s.U (a:=⟨w1.heap.size,5,none⟩) (v:=.int .u8 hi.tag);have j:=s.U (a:=⟨w1.heap.size,6,none⟩) (v:=.int .u32 hi.to);have j:=fun o:Nat=>s.a3 (a:=⟨w1.heap.size,o,none⟩) (by simp[go_sem]) (by simp[go_sem]);have t:ae w1 A:=((ae.refl _).alloc _).trans s;have J:=fun o:Nat=>t.a3 (a:=⟨w.heap.size+2,o,none⟩) (by dsimp only;omega) (J o);have S:=t.cell S;have T:=t.cell T;have N:=t.cell N;have O:=t.cell O;have E:=t.cell E;have I:=t.cell I;have a1:w.heap.size<A.heap.size:=(by omega);have a3:w.heap.size+1<A.heap.size:=(by omega);have L:w.heap.size+2<A.heap.size:=(by omega);have j:w1.heap.size<A.heap.size:=(by omega);have j:ae w A:=z.trans t)
 all_goals go_wp2_with (first|(go_at_call 188;refine(a5.out _ kp).mono ?_;rintro e a4 ⟨rfl,B,bb⟩;have be:=B.size;(try simp only[ai,au,World.a5]at be);have bg:=B.cell (a:=⟨w.heap.size+2,0,none⟩) Z (v:=.int .u8 0) (by simp[go_sem,L,E]);have bi:=B.cell (a:=⟨w.heap.size+2,1,none⟩) Z (v:=.int .u32 0) (by simp[go_sem,L,I]);have j:=fun o:Nat=>B.frozen (a:=⟨w.heap.size+2,o,none⟩) (by(try simp only[ai,au,World.a5]);omega) Z (by(try simp only[cq,World.frozen?_drew,frozen?_alloc_cells]);exact J o);have bf:w.heap.size+2<a4.heap.size:=(by omega))|fail)
 all_goals refine aq (v:=.tuple #[.agg #[.int .u8 a,.int .u32 b],.int .u8 W]) (by simp[results,Tryz.results123,go_sem,bf,bg,bi]) rfl ⟨rfl,_,a4,kp,B,bb,?_⟩
 all_goals(try simp only[ai,au,World.a5])
 all_goals(repeat (first|with_reducible exact af.refl _ _|exact af.mono j (fun k _ z=>⟨z.1,by(try simp only[ai,au,World.a5]);have:=z.2;omega⟩)|refine af.setCell ?_ (Or.inl (by dsimp only;omega)) _|refine af.setCell ?_ (Or.inr (by dsimp only;omega)) _|with_reducible refine af.drewN ?_ _|with_reducible refine af.drew ?_|with_reducible refine af.alloc ?_ _))
theorem wS {F:Nat→Prop}(R:World→World→Prop)(sb:Nat)(l n:Int)(lo hi:Edge)(x:Rec)(a b W:Int)(w:World)(bp:n≤16)(bq:sb<w.heap.size)
  (aw:∀j,ae w j→Calls Tryz.prog 48 #[.pointer (some ⟨sb,0,none⟩)] j fun e w'=>e=.returned (.int .i64 n)∧j=w')
  (bi:0≤l) (bn:l<n)
  (al:∀j,ae w j→Calls Tryz.prog 134 #[.pointer (some ⟨sb,0,none⟩),.int .u8 3,.agg #[.int .u8 lo.tag,.int .u32 lo.to],.int .i64 (l+1)] j fun e w'=>e=.returned (.bool true)∧ae j w')
  (ad:∀j,ae w j→Calls Tryz.prog 134 #[.pointer (some ⟨sb,0,none⟩),.int .u8 3,.agg #[.int .u8 hi.tag,.int .u32 hi.to],.int .i64 (l+1)] j fun e w'=>e=.returned (.bool true)∧ae j w')
  (X:¬lo=hi)
  (ab:∀j,ae w j→Calls Tryz.prog 78 #[.pointer (some ⟨sb,0,none⟩),.int .u32 lo.to] j fun e w'=>e=.returned (.tuple #[.agg #[.int .u8 x.al,.int .u8 (l+1),.int .u8 x.J,.int .u8 x.lo.tag,.int .u32 x.lo.to,.int .u8 hi.tag,.int .u32 hi.to],.bool true])∧ae j w')
  (am:∀k,F k→k<w.heap.size) (Z:∀j,ae w j→Calls Tryz.prog 188 #[.pointer (some ⟨sb,0,none⟩),.agg #[.int .u8 3,.int .u8 l,.int .u8 x.J,.int .u8 x.lo.tag,.int .u32 x.lo.to,.int .u8 hi.tag,.int .u32 hi.to]] j fun e w'=>e=.returned (.tuple #[.agg #[.int .u8 a,.int .u32 b],.int .u8 W])∧af F j w'∧R j w')
  : Calls Tryz.prog 123 #[.pointer (some ⟨sb,0,none⟩),.int .i64 l,.agg #[.int .u8 lo.tag,.int .u32 lo.to],.agg #[.int .u8 hi.tag,.int .u32 hi.to]] w fun e w'=>e=.returned (.tuple #[.agg #[.int .u8 a,.int .u32 b],.int .u8 W]) ∧ 
   ∃j U,ae w j∧af F j U∧R j U∧af (fun k=>w.heap.size≤k∧k<j.heap.size) U w':=by
 have j:sb<w.heap.size+1:=by omega
 have j:sb<w.heap.size+1+1:=by omega
 have a8:=aa aw
 clear aw
 have a7:=aa al
 clear al
 have a6:=aa ad
 clear ad
 have a4:=aa Z
 have j:∀k,w.heap.size≤k→¬F k:=fun k z h=>by have:=am k h;omega
 have Y:=j (w.heap.size+2) (by omega)
 clear Z am j
 have j:=ij lo hi X
 have j:=aa X
 clear X
 have j:=ja hi hi rfl
 have a5:=aa ab
 clear ab
 go_enter Tryz.func123,Tryz.ntmps123
 go_wp2_with (first|(go_at_call 48;refine(a8.out _ kp).mono ?_;rintro e w' ⟨rfl,rfl⟩)|fail)
 (go_at_call 134;refine(a7.out _ kp).mono ?_;rintro e w1 ⟨rfl,q⟩;have av:=q.size;simp only[ai]at av;have a0:w.heap.size<w1.heap.size:=(by omega);have a1:w.heap.size+1<w1.heap.size:=(by omega);have L:w.heap.size+2<w1.heap.size:=(by omega);have S:=q.U (a:=⟨w.heap.size,0,none⟩) (v:=.int .u8 lo.tag);have T:=q.U (a:=⟨w.heap.size,1,none⟩) (v:=.int .u32 lo.to);have N:=q.U (a:=⟨w.heap.size+1,0,none⟩) (v:=.int .u8 hi.tag);have O:=q.U (a:=⟨w.heap.size+1,1,none⟩) (v:=.int .u32 hi.to);have E:=q.U (a:=⟨w.heap.size+2,0,none⟩) (v:=.int .u8 0);have I:=q.U (a:=⟨w.heap.size+2,1,none⟩) (v:=.int .u32 0);have J:=fun o:Nat=>q.a3 (a:=⟨w.heap.size+2,o,none⟩) (by simp[go_sem]) (by simp[go_sem]);have z:ae w w1:=kp)
 go_wp2_with fail
 (go_at_call 134;refine(a6.out _ kp).mono ?_;rintro e w1 ⟨rfl,q⟩;have av:=q.size;have J:=fun o:Nat=>q.a3 (a:=⟨w.heap.size+2,o,none⟩) (by dsimp only;omega) (J o);have S:=q.cell S;have T:=q.cell T;have N:=q.cell N;have O:=q.cell O;have E:=q.cell E;have I:=q.cell I;have a0:w.heap.size<w1.heap.size:=(by omega);have a1:w.heap.size+1<w1.heap.size:=(by omega);have L:w.heap.size+2<w1.heap.size:=(by omega);have z:ae w w1:=kp)
 go_wp2_with fail
 (go_at_call 78;refine(a5.out _ kp).mono ?_;rintro e A ⟨rfl,s⟩;have bb:=s.size;simp only[ai]at bb;have j:=s.U (a:=⟨w1.heap.size,0,none⟩) (v:=.int .u8 3);have j:=s.U (a:=⟨w1.heap.size,1,none⟩) (v:=.int .u8 l);have j:=s.U (a:=⟨w1.heap.size,2,none⟩) (v:=.int .u8 l);have j:=s.U (a:=⟨w1.heap.size,3,none⟩) (v:=.int .u8 lo.tag);have j:=s.U (a:=⟨w1.heap.size,4,none⟩) (v:=.int .u32 lo.to);have j:=s.U (a:=⟨w1.heap.size,5,none⟩) (v:=.int .u8 hi.tag);have j:=s.U (a:=⟨w1.heap.size,6,none⟩) (v:=.int .u32 hi.to);have j:=fun o:Nat=>s.a3 (a:=⟨w1.heap.size,o,none⟩) (by simp[go_sem]) (by simp[go_sem]);have t:ae w1 A:=((ae.refl _).alloc _).trans s;have J:=fun o:Nat=>t.a3 (a:=⟨w.heap.size+2,o,none⟩) (by dsimp only;omega) (J o);have S:=t.cell S;have T:=t.cell T;have N:=t.cell N;have O:=t.cell O;have E:=t.cell E;have I:=t.cell I;have a0:w.heap.size<A.heap.size:=(by omega);have a1:w.heap.size+1<A.heap.size:=(by omega);have L:w.heap.size+2<A.heap.size:=(by omega);have j:w1.heap.size<A.heap.size:=(by omega);have j:ae w A:=z.trans t)
 go_wp2_with fail
 go_region
 all_goals go_wp2_with (first|(go_at_call 188;refine(a4.out _ kp).mono ?_;rintro e a3 ⟨rfl,B,a'⟩;have bd:=B.size;(try simp only[ai,au,World.a5]at bd);have bf:=B.cell (a:=⟨w.heap.size+2,0,none⟩) Y (v:=.int .u8 0) (by simp[go_sem,L,E]);have bg:=B.cell (a:=⟨w.heap.size+2,1,none⟩) Y (v:=.int .u32 0) (by simp[go_sem,L,I]);have j:=fun o:Nat=>B.frozen (a:=⟨w.heap.size+2,o,none⟩) (by(try simp only[ai,au,World.a5]);omega) Y (by(try simp only[cq,World.frozen?_drew,frozen?_alloc_cells]);exact J o);have be:w.heap.size+2<a3.heap.size:=(by omega))|fail)
 all_goals refine aq (v:=.tuple #[.agg #[.int .u8 a,.int .u32 b],.int .u8 W]) (by simp[results,Tryz.results123,go_sem,be,bf,bg]) rfl ⟨rfl,_,a3,kp,B,a',?_⟩
 all_goals(try simp only[ai,au,World.a5])
 all_goals(repeat (first|with_reducible exact af.refl _ _|exact af.mono j (fun k _ z=>⟨z.1,by(try simp only[ai,au,World.a5]);have:=z.2;omega⟩)|refine af.setCell ?_ (Or.inl (by dsimp only;omega)) _|refine af.setCell ?_ (Or.inr (by dsimp only;omega)) _|with_reducible refine af.drewN ?_ _|with_reducible refine af.drew ?_|with_reducible refine af.alloc ?_ _))
theorem A0 (sb:Nat)(l n:Int)(lo hi:Edge)(w:World)(z:n≤16)(A:sb<w.heap.size)
  (q:∀j,ae w j→Calls Tryz.prog 48 #[.pointer (some ⟨sb,0,none⟩)] j fun e w'=>e=.returned (.int .i64 n)∧j=w')
  (t:l<0)
  : Calls Tryz.prog 124 #[.pointer (some ⟨sb,0,none⟩),.int .i64 l,.agg #[.int .u8 lo.tag,.int .u32 lo.to],.agg #[.int .u8 hi.tag,.int .u32 hi.to]] w fun e w'=>e=.returned (.tuple #[.agg #[.int .u8 0,.int .u32 0],.int .u8 3])∧ae w w':=by
 have j:sb<w.heap.size+1:=by omega
 have j:sb<w.heap.size+1+1:=by omega
 have s:=aa q
 clear q
 go_enter Tryz.func124,Tryz.ntmps124
 go_wp2_with (first|(go_at_call 48;refine(s.out _ kp).mono ?_;rintro e w' ⟨rfl,rfl⟩)|fail)
 all_goals refine aq (v:=.tuple #[.agg #[.int .u8 0,.int .u32 0],.int .u8 3]) (by simp[results,Tryz.results124,go_sem]) rfl ⟨rfl,kp⟩
theorem AV (sb:Nat)(l n:Int)(lo hi:Edge)(w:World)(A:n≤16)(B:sb<w.heap.size)
  (q:∀j,ae w j→Calls Tryz.prog 48 #[.pointer (some ⟨sb,0,none⟩)] j fun e w'=>e=.returned (.int .i64 n)∧j=w')
  (t:0≤l) (z:n≤l)
  : Calls Tryz.prog 124 #[.pointer (some ⟨sb,0,none⟩),.int .i64 l,.agg #[.int .u8 lo.tag,.int .u32 lo.to],.agg #[.int .u8 hi.tag,.int .u32 hi.to]] w fun e w'=>e=.returned (.tuple #[.agg #[.int .u8 0,.int .u32 0],.int .u8 3])∧ae w w':=by
 have j:sb<w.heap.size+1:=by omega
 have j:sb<w.heap.size+1+1:=by omega
 have s:=aa q
 clear q
 go_enter Tryz.func124,Tryz.ntmps124
 go_wp2_with (first|(go_at_call 48;refine(s.out _ kp).mono ?_;rintro e w' ⟨rfl,rfl⟩)|fail)
 all_goals refine aq (v:=.tuple #[.agg #[.int .u8 0,.int .u32 0],.int .u8 3]) (by simp[results,Tryz.results124,go_sem]) rfl ⟨rfl,kp⟩
theorem AY (sb:Nat)(l n:Int)(lo hi:Edge)(w:World)(O:n≤16)(S:sb<w.heap.size)
  (t:∀q,ae w q→Calls Tryz.prog 48 #[.pointer (some ⟨sb,0,none⟩)] q fun e w'=>e=.returned (.int .i64 n)∧q=w')
  (L:0≤l) (N:l<n)
  (s:∀q,ae w q→Calls Tryz.prog 134 #[.pointer (some ⟨sb,0,none⟩),.int .u8 4,.agg #[.int .u8 lo.tag,.int .u32 lo.to],.int .i64 (l+1)] q fun e w'=>e=.returned (.bool false)∧ae q w')
  : Calls Tryz.prog 124 #[.pointer (some ⟨sb,0,none⟩),.int .i64 l,.agg #[.int .u8 lo.tag,.int .u32 lo.to],.agg #[.int .u8 hi.tag,.int .u32 hi.to]] w fun e w'=>e=.returned (.tuple #[.agg #[.int .u8 0,.int .u32 0],.int .u8 1])∧ae w w':=by
 have q:sb<w.heap.size+1:=by omega
 have q:sb<w.heap.size+1+1:=by omega
 have A:=aa t
 clear t
 have z:=aa s
 clear s
 go_enter Tryz.func124,Tryz.ntmps124
 go_wp2_with (first|(go_at_call 48;refine(A.out _ kp).mono ?_;rintro e w' ⟨rfl,rfl⟩)|fail)
 (go_at_call 134;refine(z.out _ kp).mono ?_;rintro e w1 ⟨rfl,j⟩;have B:=j.size;simp only[ai]at B;have q:w.heap.size<w1.heap.size:=(by omega);have q:w.heap.size+1<w1.heap.size:=(by omega);have E:w.heap.size+2<w1.heap.size:=(by omega);have q:=j.U (a:=⟨w.heap.size,0,none⟩) (v:=.int .u8 lo.tag);have q:=j.U (a:=⟨w.heap.size,1,none⟩) (v:=.int .u32 lo.to);have q:=j.U (a:=⟨w.heap.size+1,0,none⟩) (v:=.int .u8 hi.tag);have q:=j.U (a:=⟨w.heap.size+1,1,none⟩) (v:=.int .u32 hi.to);have I:=j.U (a:=⟨w.heap.size+2,0,none⟩) (v:=.int .u8 0);have J:=j.U (a:=⟨w.heap.size+2,1,none⟩) (v:=.int .u32 0);have q:=fun o:Nat=>j.a3 (a:=⟨w.heap.size+2,o,none⟩) (by simp[go_sem]) (by simp[go_sem]);have j:ae w w1:=kp)
 go_wp2_with fail
 all_goals refine aq (v:=.tuple #[.agg #[.int .u8 0,.int .u32 0],.int .u8 1]) (by simp[results,Tryz.results124,go_sem,E,I,J]) rfl ⟨rfl,kp⟩
theorem AX (sb:Nat)(l n:Int)(lo hi:Edge)(w:World)(al:n≤16)(am:sb<w.heap.size)
  (E:∀q,ae w q→Calls Tryz.prog 48 #[.pointer (some ⟨sb,0,none⟩)] q fun e w'=>e=.returned (.int .i64 n)∧q=w')
  (ab:0≤l) (ad:l<n)
  (A:∀q,ae w q→Calls Tryz.prog 134 #[.pointer (some ⟨sb,0,none⟩),.int .u8 4,.agg #[.int .u8 lo.tag,.int .u32 lo.to],.int .i64 (l+1)] q fun e w'=>e=.returned (.bool true)∧ae q w')
  (z:∀q,ae w q→Calls Tryz.prog 134 #[.pointer (some ⟨sb,0,none⟩),.int .u8 4,.agg #[.int .u8 hi.tag,.int .u32 hi.to],.int .i64 (l+1)] q fun e w'=>e=.returned (.bool false)∧ae q w')
  : Calls Tryz.prog 124 #[.pointer (some ⟨sb,0,none⟩),.int .i64 l,.agg #[.int .u8 lo.tag,.int .u32 lo.to],.agg #[.int .u8 hi.tag,.int .u32 hi.to]] w fun e w'=>e=.returned (.tuple #[.agg #[.int .u8 0,.int .u32 0],.int .u8 1])∧ae w w':=by
 have q:sb<w.heap.size+1:=by omega
 have q:sb<w.heap.size+1+1:=by omega
 have W:=aa E
 clear E
 have U:=aa A
 clear A
 have T:=aa z
 clear z
 go_enter Tryz.func124,Tryz.ntmps124
 go_wp2_with (first|(go_at_call 48;refine(W.out _ kp).mono ?_;rintro e w' ⟨rfl,rfl⟩)|fail)
 (go_at_call 134;refine(U.out _ kp).mono ?_;rintro e w1 ⟨rfl,j⟩;have B:=j.size;simp only[ai]at B;have Y:w.heap.size<w1.heap.size:=(by omega);have Z:w.heap.size+1<w1.heap.size:=(by omega);have I:w.heap.size+2<w1.heap.size:=(by omega);have N:=j.U (a:=⟨w.heap.size,0,none⟩) (v:=.int .u8 lo.tag);have O:=j.U (a:=⟨w.heap.size,1,none⟩) (v:=.int .u32 lo.to);have J:=j.U (a:=⟨w.heap.size+1,0,none⟩) (v:=.int .u8 hi.tag);have L:=j.U (a:=⟨w.heap.size+1,1,none⟩) (v:=.int .u32 hi.to);have s:=j.U (a:=⟨w.heap.size+2,0,none⟩) (v:=.int .u8 0);have t:=j.U (a:=⟨w.heap.size+2,1,none⟩) (v:=.int .u32 0);have S:=fun o:Nat=>j.a3 (a:=⟨w.heap.size+2,o,none⟩) (by simp[go_sem]) (by simp[go_sem]);have X:ae w w1:=kp)
 go_wp2_with fail
 (go_at_call 134;refine(T.out _ kp).mono ?_;rintro e w1 ⟨rfl,j⟩;have B:=j.size;have S:=fun o:Nat=>j.a3 (a:=⟨w.heap.size+2,o,none⟩) (by dsimp only;omega) (S o);have N:=j.cell N;have O:=j.cell O;have J:=j.cell J;have L:=j.cell L;have s:=j.cell s;have t:=j.cell t;have Y:w.heap.size<w1.heap.size:=(by omega);have Z:w.heap.size+1<w1.heap.size:=(by omega);have I:w.heap.size+2<w1.heap.size:=(by omega);have X:ae w w1:=kp)
 go_wp2_with fail
 all_goals refine aq (v:=.tuple #[.agg #[.int .u8 0,.int .u32 0],.int .u8 1]) (by simp[results,Tryz.results124,go_sem,I,s,t]) rfl ⟨rfl,kp⟩
theorem A3 (sb:Nat)(l n:Int)(lo:Edge)(s:Int)(w:World)(am:n≤16)(av:sb<w.heap.size)
  (I:∀q,ae w q→Calls Tryz.prog 48 #[.pointer (some ⟨sb,0,none⟩)] q fun e w'=>e=.returned (.int .i64 n)∧q=w')
  (ad:0≤l) (al:l<n)
  (B:∀q,ae w q→Calls Tryz.prog 134 #[.pointer (some ⟨sb,0,none⟩),.int .u8 4,.agg #[.int .u8 lo.tag,.int .u32 lo.to],.int .i64 (l+1)] q fun e w'=>e=.returned (.bool true)∧ae q w')
  (A:∀q,ae w q→Calls Tryz.prog 134 #[.pointer (some ⟨sb,0,none⟩),.int .u8 4,.agg #[.int .u8 s,.int .u32 0],.int .i64 (l+1)] q fun e w'=>e=.returned (.bool true)∧ae q w')
  : Calls Tryz.prog 124 #[.pointer (some ⟨sb,0,none⟩),.int .i64 l,.agg #[.int .u8 lo.tag,.int .u32 lo.to],.agg #[.int .u8 s,.int .u32 0]] w fun e w'=>e=.returned (.tuple #[.agg #[.int .u8 lo.tag,.int .u32 lo.to],.int .u8 0])∧ae w w':=by
 have q:sb<w.heap.size+1:=by omega
 have q:sb<w.heap.size+1+1:=by omega
 have X:=aa I
 clear I
 have W:=aa B
 clear B
 have U:=aa A
 clear A
 go_enter Tryz.func124,Tryz.ntmps124
 go_wp2_with (first|(go_at_call 48;refine(X.out _ kp).mono ?_;rintro e w' ⟨rfl,rfl⟩)|fail)
 (go_at_call 134;refine(W.out _ kp).mono ?_;rintro e w1 ⟨rfl,j⟩;have E:=j.size;simp only[ai]at E;have Z:w.heap.size<w1.heap.size:=(by omega);have ab:w.heap.size+1<w1.heap.size:=(by omega);have J:w.heap.size+2<w1.heap.size:=(by omega);have O:=j.U (a:=⟨w.heap.size,0,none⟩) (v:=.int .u8 lo.tag);have S:=j.U (a:=⟨w.heap.size,1,none⟩) (v:=.int .u32 lo.to);have L:=j.U (a:=⟨w.heap.size+1,0,none⟩) (v:=.int .u8 s);have N:=j.U (a:=⟨w.heap.size+1,1,none⟩) (v:=.int .u32 0);have t:=j.U (a:=⟨w.heap.size+2,0,none⟩) (v:=.int .u8 0);have z:=j.U (a:=⟨w.heap.size+2,1,none⟩) (v:=.int .u32 0);have T:=fun o:Nat=>j.a3 (a:=⟨w.heap.size+2,o,none⟩) (by simp[go_sem]) (by simp[go_sem]);have Y:ae w w1:=kp)
 go_wp2_with fail
 (go_at_call 134;refine(U.out _ kp).mono ?_;rintro e w1 ⟨rfl,j⟩;have E:=j.size;have T:=fun o:Nat=>j.a3 (a:=⟨w.heap.size+2,o,none⟩) (by dsimp only;omega) (T o);have O:=j.cell O;have S:=j.cell S;have L:=j.cell L;have N:=j.cell N;have t:=j.cell t;have z:=j.cell z;have Z:w.heap.size<w1.heap.size:=(by omega);have ab:w.heap.size+1<w1.heap.size:=(by omega);have J:w.heap.size+2<w1.heap.size:=(by omega);have Y:ae w w1:=kp)
 go_wp2_with fail
 all_goals refine aq (v:=.tuple #[.agg #[.int .u8 lo.tag,.int .u32 lo.to],.int .u8 0]) (by simp[results,Tryz.results124,go_sem,J,t,z]) rfl ⟨rfl,kp⟩
theorem A1 {F:Nat→Prop}(R:World→World→Prop)(sb:Nat)(l n:Int)(lo hi:Edge)(x:Rec)(a b W:Int)(w:World)(bp:n≤16)(bq:sb<w.heap.size)
  (av:∀j,ae w j→Calls Tryz.prog 48 #[.pointer (some ⟨sb,0,none⟩)] j fun e w'=>e=.returned (.int .i64 n)∧j=w')
  (bi:0≤l) (bn:l<n)
  (ad:∀j,ae w j→Calls Tryz.prog 134 #[.pointer (some ⟨sb,0,none⟩),.int .u8 4,.agg #[.int .u8 lo.tag,.int .u32 lo.to],.int .i64 (l+1)] j fun e w'=>e=.returned (.bool true)∧ae j w')
  (ab:∀j,ae w j→Calls Tryz.prog 134 #[.pointer (some ⟨sb,0,none⟩),.int .u8 4,.agg #[.int .u8 hi.tag,.int .u32 hi.to],.int .i64 (l+1)] j fun e w'=>e=.returned (.bool true)∧ae j w')
  (a':¬hi.to=0)
  (Z:∀j,ae w j→Calls Tryz.prog 78 #[.pointer (some ⟨sb,0,none⟩),.int .u32 lo.to] j fun e w'=>e=.returned (.tuple #[.agg #[.int .u8 x.al,.int .u8 x.I,.int .u8 x.J,.int .u8 x.lo.tag,.int .u32 x.lo.to,.int .u8 x.hi.tag,.int .u32 x.hi.to],.bool false])∧ae j w')
  (al:∀k,F k→k<w.heap.size) (Y:∀j,ae w j→Calls Tryz.prog 189 #[.pointer (some ⟨sb,0,none⟩),.agg #[.int .u8 4,.int .u8 l,.int .u8 l,.int .u8 lo.tag,.int .u32 lo.to,.int .u8 hi.tag,.int .u32 hi.to]] j fun e w'=>e=.returned (.tuple #[.agg #[.int .u8 a,.int .u32 b],.int .u8 W])∧af F j w'∧R j w')
  : Calls Tryz.prog 124 #[.pointer (some ⟨sb,0,none⟩),.int .i64 l,.agg #[.int .u8 lo.tag,.int .u32 lo.to],.agg #[.int .u8 hi.tag,.int .u32 hi.to]] w fun e w'=>e=.returned (.tuple #[.agg #[.int .u8 a,.int .u32 b],.int .u8 W]) ∧ 
   ∃j U,ae w j∧af F j U∧R j U∧af (fun k=>w.heap.size≤k∧k<j.heap.size) U w':=by
 have j:sb<w.heap.size+1:=by omega
 have j:sb<w.heap.size+1+1:=by omega
 have a7:=aa av
 clear av
 have a6:=aa ad
 clear ad
 have a5:=aa ab
 clear ab
 have a3:=aa Y
 have j:∀k,w.heap.size≤k→¬F k:=fun k z h=>by have:=al k h;omega
 have X:=j (w.heap.size+2) (by omega)
 clear Y al j
 have j:(hi.to==0)=false:=by simp[a']
 have a4:=aa Z
 clear Z
 go_enter Tryz.func124,Tryz.ntmps124
 go_wp2_with (first|(go_at_call 48;refine(a7.out _ kp).mono ?_;rintro e w' ⟨rfl,rfl⟩)|fail)
 (go_at_call 134;refine(a6.out _ kp).mono ?_;rintro e w1 ⟨rfl,q⟩;have am:=q.size;simp only[ai]at am;have aw:w.heap.size<w1.heap.size:=(by omega);have a0:w.heap.size+1<w1.heap.size:=(by omega);have L:w.heap.size+2<w1.heap.size:=(by omega);have S:=q.U (a:=⟨w.heap.size,0,none⟩) (v:=.int .u8 lo.tag);have T:=q.U (a:=⟨w.heap.size,1,none⟩) (v:=.int .u32 lo.to);have N:=q.U (a:=⟨w.heap.size+1,0,none⟩) (v:=.int .u8 hi.tag);have O:=q.U (a:=⟨w.heap.size+1,1,none⟩) (v:=.int .u32 hi.to);have E:=q.U (a:=⟨w.heap.size+2,0,none⟩) (v:=.int .u8 0);have I:=q.U (a:=⟨w.heap.size+2,1,none⟩) (v:=.int .u32 0);have J:=fun o:Nat=>q.a3 (a:=⟨w.heap.size+2,o,none⟩) (by simp[go_sem]) (by simp[go_sem]);have z:ae w w1:=kp)
 go_wp2_with fail
 (go_at_call 134;refine(a5.out _ kp).mono ?_;rintro e w1 ⟨rfl,q⟩;have am:=q.size;have J:=fun o:Nat=>q.a3 (a:=⟨w.heap.size+2,o,none⟩) (by dsimp only;omega) (J o);have S:=q.cell S;have T:=q.cell T;have N:=q.cell N;have O:=q.cell O;have E:=q.cell E;have I:=q.cell I;have aw:w.heap.size<w1.heap.size:=(by omega);have a0:w.heap.size+1<w1.heap.size:=(by omega);have L:w.heap.size+2<w1.heap.size:=(by omega);have z:ae w w1:=kp)
 go_wp2_with fail
 (go_at_call 78;refine(a4.out _ kp).mono ?_;rintro e A ⟨rfl,s⟩;have bb:=s.size;simp only[ai]at bb;have j:=s.U (a:=⟨w1.heap.size,0,none⟩) (v:=.int .u8 4);have j:=s.U (a:=⟨w1.heap.size,1,none⟩) (v:=.int .u8 l);have j:=s.U (a:=⟨w1.heap.size,2,none⟩) (v:=.int .u8 l);have j:=s.U (a:=⟨w1.heap.size,3,none⟩) (v:=.int .u8 lo.tag);have j:=s.U (a:=⟨w1.heap.size,4,none⟩) (v:=.int .u32 lo.to);have j:=s.U (a:=⟨w1.heap.size,5,none⟩) (v:=.int .u8 hi.tag);have j:=s.U (a:=⟨w1.heap.size,6,none⟩) (v:=.int .u32 hi.to);have j:=fun o:Nat=>s.a3 (a:=⟨w1.heap.size,o,none⟩) (by simp[go_sem]) (by simp[go_sem]);have t:ae w1 A:=((ae.refl _).alloc _).trans s;have J:=fun o:Nat=>t.a3 (a:=⟨w.heap.size+2,o,none⟩) (by dsimp only;omega) (J o);have S:=t.cell S;have T:=t.cell T;have N:=t.cell N;have O:=t.cell O;have E:=t.cell E;have I:=t.cell I;have aw:w.heap.size<A.heap.size:=(by omega);have a0:w.heap.size+1<A.heap.size:=(by omega);have L:w.heap.size+2<A.heap.size:=(by omega);have j:w1.heap.size<A.heap.size:=(by omega);have j:ae w A:=z.trans t)
 all_goals go_wp2_with (first|(go_at_call 189;refine(a3.out _ kp).mono ?_;rintro e a1 ⟨rfl,B,a8⟩;have bd:=B.size;(try simp only[ai,au,World.a5]at bd);have bf:=B.cell (a:=⟨w.heap.size+2,0,none⟩) X (v:=.int .u8 0) (by simp[go_sem,L,E]);have bg:=B.cell (a:=⟨w.heap.size+2,1,none⟩) X (v:=.int .u32 0) (by simp[go_sem,L,I]);have j:=fun o:Nat=>B.frozen (a:=⟨w.heap.size+2,o,none⟩) (by(try simp only[ai,au,World.a5]);omega) X (by(try simp only[cq,World.frozen?_drew,frozen?_alloc_cells]);exact J o);have be:w.heap.size+2<a1.heap.size:=(by omega))|fail)
 all_goals refine aq (v:=.tuple #[.agg #[.int .u8 a,.int .u32 b],.int .u8 W]) (by simp[results,Tryz.results124,go_sem,be,bf,bg]) rfl ⟨rfl,_,a1,kp,B,a8,?_⟩
 all_goals(try simp only[ai,au,World.a5])
 all_goals(repeat (first|with_reducible exact af.refl _ _|exact af.mono j (fun k _ z=>⟨z.1,by(try simp only[ai,au,World.a5]);have:=z.2;omega⟩)|refine af.setCell ?_ (Or.inl (by dsimp only;omega)) _|refine af.setCell ?_ (Or.inr (by dsimp only;omega)) _|with_reducible refine af.drewN ?_ _|with_reducible refine af.drew ?_|with_reducible refine af.alloc ?_ _))
theorem AZ {F:Nat→Prop}(R:World→World→Prop)(sb:Nat)(l n:Int)(lo hi:Edge)(x:Rec)(a b W:Int)(w:World)(bq:n≤16)(br:sb<w.heap.size)
  (aw:∀j,ae w j→Calls Tryz.prog 48 #[.pointer (some ⟨sb,0,none⟩)] j fun e w'=>e=.returned (.int .i64 n)∧j=w')
  (bn:0≤l) (bp:l<n)
  (al:∀j,ae w j→Calls Tryz.prog 134 #[.pointer (some ⟨sb,0,none⟩),.int .u8 4,.agg #[.int .u8 lo.tag,.int .u32 lo.to],.int .i64 (l+1)] j fun e w'=>e=.returned (.bool true)∧ae j w')
  (ad:∀j,ae w j→Calls Tryz.prog 134 #[.pointer (some ⟨sb,0,none⟩),.int .u8 4,.agg #[.int .u8 hi.tag,.int .u32 hi.to],.int .i64 (l+1)] j fun e w'=>e=.returned (.bool true)∧ae j w')
  (bb:¬hi.to=0)
  (X:¬lo=hi) (bs:0≤x.I) (bt:x.I≤255)
  (ab:∀j,ae w j→Calls Tryz.prog 78 #[.pointer (some ⟨sb,0,none⟩),.int .u32 lo.to] j fun e w'=>e=.returned (.tuple #[.agg #[.int .u8 x.al,.int .u8 x.I,.int .u8 x.J,.int .u8 x.lo.tag,.int .u32 x.lo.to,.int .u8 x.hi.tag,.int .u32 x.hi.to],.bool true])∧ae j w')
  (am:∀k,F k→k<w.heap.size) (Z:∀j,ae w j→Calls Tryz.prog 189 #[.pointer (some ⟨sb,0,none⟩),.agg #[.int .u8 4,.int .u8 l,.int .u8 l,.int .u8 lo.tag,.int .u32 lo.to,.int .u8 hi.tag,.int .u32 hi.to]] j fun e w'=>e=.returned (.tuple #[.agg #[.int .u8 a,.int .u32 b],.int .u8 W])∧af F j w'∧R j w')
  : Calls Tryz.prog 124 #[.pointer (some ⟨sb,0,none⟩),.int .i64 l,.agg #[.int .u8 lo.tag,.int .u32 lo.to],.agg #[.int .u8 hi.tag,.int .u32 hi.to]] w fun e w'=>e=.returned (.tuple #[.agg #[.int .u8 a,.int .u32 b],.int .u8 W]) ∧ 
   ∃j U,ae w j∧af F j U∧R j U∧af (fun k=>w.heap.size≤k∧k<j.heap.size) U w':=by
 have j:sb<w.heap.size+1:=by omega
 have j:sb<w.heap.size+1+1:=by omega
 have a8:=aa aw
 clear aw
 have a7:=aa al
 clear al
 have a6:=aa ad
 clear ad
 have a4:=aa Z
 have j:∀k,w.heap.size≤k→¬F k:=fun k z h=>by have:=am k h;omega
 have Y:=j (w.heap.size+2) (by omega)
 clear Z am j
 have j:(hi.to==0)=false:=by simp[bb]
 have j:=ij lo hi X
 have j:=aa X
 clear X
 have a5:=aa ab
 clear ab
 go_enter Tryz.func124,Tryz.ntmps124
 go_wp2_with (first|(go_at_call 48;refine(a8.out _ kp).mono ?_;rintro e w' ⟨rfl,rfl⟩)|fail)
 (go_at_call 134;refine(a7.out _ kp).mono ?_;rintro e w1 ⟨rfl,q⟩;have av:=q.size;simp only[ai]at av;have a0:w.heap.size<w1.heap.size:=(by omega);have a1:w.heap.size+1<w1.heap.size:=(by omega);have L:w.heap.size+2<w1.heap.size:=(by omega);have S:=q.U (a:=⟨w.heap.size,0,none⟩) (v:=.int .u8 lo.tag);have T:=q.U (a:=⟨w.heap.size,1,none⟩) (v:=.int .u32 lo.to);have N:=q.U (a:=⟨w.heap.size+1,0,none⟩) (v:=.int .u8 hi.tag);have O:=q.U (a:=⟨w.heap.size+1,1,none⟩) (v:=.int .u32 hi.to);have E:=q.U (a:=⟨w.heap.size+2,0,none⟩) (v:=.int .u8 0);have I:=q.U (a:=⟨w.heap.size+2,1,none⟩) (v:=.int .u32 0);have J:=fun o:Nat=>q.a3 (a:=⟨w.heap.size+2,o,none⟩) (by simp[go_sem]) (by simp[go_sem]);have z:ae w w1:=kp)
 go_wp2_with fail
 (go_at_call 134;refine(a6.out _ kp).mono ?_;rintro e w1 ⟨rfl,q⟩;have av:=q.size;have J:=fun o:Nat=>q.a3 (a:=⟨w.heap.size+2,o,none⟩) (by dsimp only;omega) (J o);have S:=q.cell S;have T:=q.cell T;have N:=q.cell N;have O:=q.cell O;have E:=q.cell E;have I:=q.cell I;have a0:w.heap.size<w1.heap.size:=(by omega);have a1:w.heap.size+1<w1.heap.size:=(by omega);have L:w.heap.size+2<w1.heap.size:=(by omega);have z:ae w w1:=kp)
 go_wp2_with fail
 (go_at_call 78;refine(a5.out _ kp).mono ?_;rintro e A ⟨rfl,s⟩;have bd:=s.size;simp only[ai]at bd;have j:=s.U (a:=⟨w1.heap.size,0,none⟩) (v:=.int .u8 4);have j:=s.U (a:=⟨w1.heap.size,1,none⟩) (v:=.int .u8 l);have j:=s.U (a:=⟨w1.heap.size,2,none⟩) (v:=.int .u8 l);have j:=s.U (a:=⟨w1.heap.size,3,none⟩) (v:=.int .u8 lo.tag);have j:=s.U (a:=⟨w1.heap.size,4,none⟩) (v:=.int .u32 lo.to);have j:=s.U (a:=⟨w1.heap.size,5,none⟩) (v:=.int .u8 hi.tag);have j:=s.U (a:=⟨w1.heap.size,6,none⟩) (v:=.int .u32 hi.to);have j:=fun o:Nat=>s.a3 (a:=⟨w1.heap.size,o,none⟩) (by simp[go_sem]) (by simp[go_sem]);have t:ae w1 A:=((ae.refl _).alloc _).trans s;have J:=fun o:Nat=>t.a3 (a:=⟨w.heap.size+2,o,none⟩) (by dsimp only;omega) (J o);have S:=t.cell S;have T:=t.cell T;have N:=t.cell N;have O:=t.cell O;have E:=t.cell E;have I:=t.cell I;have a0:w.heap.size<A.heap.size:=(by omega);have a1:w.heap.size+1<A.heap.size:=(by omega);have L:w.heap.size+2<A.heap.size:=(by omega);have j:w1.heap.size<A.heap.size:=(by omega);have j:ae w A:=z.trans t)
 all_goals go_wp2_with (first|(go_at_call 189;refine(a4.out _ kp).mono ?_;rintro e a3 ⟨rfl,B,a'⟩;have be:=B.size;(try simp only[ai,au,World.a5]at be);have bg:=B.cell (a:=⟨w.heap.size+2,0,none⟩) Y (v:=.int .u8 0) (by simp[go_sem,L,E]);have bi:=B.cell (a:=⟨w.heap.size+2,1,none⟩) Y (v:=.int .u32 0) (by simp[go_sem,L,I]);have j:=fun o:Nat=>B.frozen (a:=⟨w.heap.size+2,o,none⟩) (by(try simp only[ai,au,World.a5]);omega) Y (by(try simp only[cq,World.frozen?_drew,frozen?_alloc_cells]);exact J o);have bf:w.heap.size+2<a3.heap.size:=(by omega))|fail)
 all_goals refine aq (v:=.tuple #[.agg #[.int .u8 a,.int .u32 b],.int .u8 W]) (by simp[results,Tryz.results124,go_sem,bf,bg,bi]) rfl ⟨rfl,_,a3,kp,B,a',?_⟩
 all_goals(try simp only[ai,au,World.a5])
 all_goals(repeat (first|with_reducible exact af.refl _ _|exact af.mono j (fun k _ z=>⟨z.1,by(try simp only[ai,au,World.a5]);have:=z.2;omega⟩)|refine af.setCell ?_ (Or.inl (by dsimp only;omega)) _|refine af.setCell ?_ (Or.inr (by dsimp only;omega)) _|with_reducible refine af.drewN ?_ _|with_reducible refine af.drew ?_|with_reducible refine af.alloc ?_ _))
theorem A2 {F:Nat→Prop}(R:World→World→Prop)(sb:Nat)(l n:Int)(lo:Edge)(x:Rec)(a b W:Int)(w:World)(bq:n≤16)(br:sb<w.heap.size)
  (av:∀j,ae w j→Calls Tryz.prog 48 #[.pointer (some ⟨sb,0,none⟩)] j fun e w'=>e=.returned (.int .i64 n)∧j=w')
  (bn:0≤l) (bp:l<n)
  (ad:∀j,ae w j→Calls Tryz.prog 134 #[.pointer (some ⟨sb,0,none⟩),.int .u8 4,.agg #[.int .u8 lo.tag,.int .u32 lo.to],.int .i64 (l+1)] j fun e w'=>e=.returned (.bool true)∧ae j w')
  (ab:∀j,ae w j→Calls Tryz.prog 134 #[.pointer (some ⟨sb,0,none⟩),.int .u8 4,.agg #[.int .u8 lo.tag,.int .u32 lo.to],.int .i64 (l+1)] j fun e w'=>e=.returned (.bool true)∧ae j w')
  (a':¬lo.to=0)
  (bf:¬x.I=l+1) (bs:0≤x.I) (bt:x.I≤255)
  (Z:∀j,ae w j→Calls Tryz.prog 78 #[.pointer (some ⟨sb,0,none⟩),.int .u32 lo.to] j fun e w'=>e=.returned (.tuple #[.agg #[.int .u8 x.al,.int .u8 x.I,.int .u8 x.J,.int .u8 x.lo.tag,.int .u32 x.lo.to,.int .u8 x.hi.tag,.int .u32 x.hi.to],.bool true])∧ae j w')
  (al:∀k,F k→k<w.heap.size) (Y:∀j,ae w j→Calls Tryz.prog 189 #[.pointer (some ⟨sb,0,none⟩),.agg #[.int .u8 4,.int .u8 l,.int .u8 l,.int .u8 lo.tag,.int .u32 lo.to,.int .u8 lo.tag,.int .u32 lo.to]] j fun e w'=>e=.returned (.tuple #[.agg #[.int .u8 a,.int .u32 b],.int .u8 W])∧af F j w'∧R j w')
  : Calls Tryz.prog 124 #[.pointer (some ⟨sb,0,none⟩),.int .i64 l,.agg #[.int .u8 lo.tag,.int .u32 lo.to],.agg #[.int .u8 lo.tag,.int .u32 lo.to]] w fun e w'=>e=.returned (.tuple #[.agg #[.int .u8 a,.int .u32 b],.int .u8 W]) ∧ 
   ∃j U,ae w j∧af F j U∧R j U∧af (fun k=>w.heap.size≤k∧k<j.heap.size) U w':=by
 have j:sb<w.heap.size+1:=by omega
 have j:sb<w.heap.size+1+1:=by omega
 have a7:=aa av
 clear av
 have a6:=aa ad
 clear ad
 have a5:=aa ab
 clear ab
 have a3:=aa Y
 have j:∀k,w.heap.size≤k→¬F k:=fun k z h=>by have:=al k h;omega
 have X:=j (w.heap.size+2) (by omega)
 clear Y al j
 have j:(lo.to==0)=false:=by simp[a']
 have j:(x.I==l+1)=false:=by simp[bf]
 have j:=ja lo lo rfl
 have a4:=aa Z
 clear Z
 go_enter Tryz.func124,Tryz.ntmps124
 go_wp2_with (first|(go_at_call 48;refine(a7.out _ kp).mono ?_;rintro e w' ⟨rfl,rfl⟩)|fail)
 (go_at_call 134;refine(a6.out _ kp).mono ?_;rintro e w1 ⟨rfl,q⟩;have am:=q.size;simp only[ai]at am;have aw:w.heap.size<w1.heap.size:=(by omega);have a0:w.heap.size+1<w1.heap.size:=(by omega);have L:w.heap.size+2<w1.heap.size:=(by omega);have S:=q.U (a:=⟨w.heap.size,0,none⟩) (v:=.int .u8 lo.tag);have T:=q.U (a:=⟨w.heap.size,1,none⟩) (v:=.int .u32 lo.to);have N:=q.U (a:=⟨w.heap.size+1,0,none⟩) (v:=.int .u8 lo.tag);have O:=q.U (a:=⟨w.heap.size+1,1,none⟩) (v:=.int .u32 lo.to);have E:=q.U (a:=⟨w.heap.size+2,0,none⟩) (v:=.int .u8 0);have I:=q.U (a:=⟨w.heap.size+2,1,none⟩) (v:=.int .u32 0);have J:=fun o:Nat=>q.a3 (a:=⟨w.heap.size+2,o,none⟩) (by simp[go_sem]) (by simp[go_sem]);have z:ae w w1:=kp)
 go_wp2_with fail
 (go_at_call 134;refine(a5.out _ kp).mono ?_;rintro e w1 ⟨rfl,q⟩;have am:=q.size;have J:=fun o:Nat=>q.a3 (a:=⟨w.heap.size+2,o,none⟩) (by dsimp only;omega) (J o);have S:=q.cell S;have T:=q.cell T;have N:=q.cell N;have O:=q.cell O;have E:=q.cell E;have I:=q.cell I;have aw:w.heap.size<w1.heap.size:=(by omega);have a0:w.heap.size+1<w1.heap.size:=(by omega);have L:w.heap.size+2<w1.heap.size:=(by omega);have z:ae w w1:=kp)
 go_wp2_with fail
 (go_at_call 78;refine(a4.out _ kp).mono ?_;rintro e A ⟨rfl,s⟩;have bb:=s.size;simp only[ai]at bb;have j:=s.U (a:=⟨w1.heap.size,0,none⟩) (v:=.int .u8 4);have j:=s.U (a:=⟨w1.heap.size,1,none⟩) (v:=.int .u8 l);have j:=s.U (a:=⟨w1.heap.size,2,none⟩) (v:=.int .u8 l);have j:=s.U (a:=⟨w1.heap.size,3,none⟩) (v:=.int .u8 lo.tag);have j:=s.U (a:=⟨w1.heap.size,4,none⟩) (v:=.int .u32 lo.to);have j:=s.U (a:=⟨w1.heap.size,5,none⟩) (v:=.int .u8 lo.tag);have j:=s.U (a:=⟨w1.heap.size,6,none⟩) (v:=.int .u32 lo.to);have j:=fun o:Nat=>s.a3 (a:=⟨w1.heap.size,o,none⟩) (by simp[go_sem]) (by simp[go_sem]);have t:ae w1 A:=((ae.refl _).alloc _).trans s;have J:=fun o:Nat=>t.a3 (a:=⟨w.heap.size+2,o,none⟩) (by dsimp only;omega) (J o);have S:=t.cell S;have T:=t.cell T;have N:=t.cell N;have O:=t.cell O;have E:=t.cell E;have I:=t.cell I;have aw:w.heap.size<A.heap.size:=(by omega);have a0:w.heap.size+1<A.heap.size:=(by omega);have L:w.heap.size+2<A.heap.size:=(by omega);have j:w1.heap.size<A.heap.size:=(by omega);have j:ae w A:=z.trans t)
 all_goals go_wp2_with (first|(go_at_call 189;refine(a3.out _ kp).mono ?_;rintro e a1 ⟨rfl,B,a8⟩;have bd:=B.size;(try simp only[ai,au,World.a5]at bd);have bg:=B.cell (a:=⟨w.heap.size+2,0,none⟩) X (v:=.int .u8 0) (by simp[go_sem,L,E]);have bi:=B.cell (a:=⟨w.heap.size+2,1,none⟩) X (v:=.int .u32 0) (by simp[go_sem,L,I]);have j:=fun o:Nat=>B.frozen (a:=⟨w.heap.size+2,o,none⟩) (by(try simp only[ai,au,World.a5]);omega) X (by(try simp only[cq,World.frozen?_drew,frozen?_alloc_cells]);exact J o);have be:w.heap.size+2<a1.heap.size:=(by omega))|fail)
 all_goals refine aq (v:=.tuple #[.agg #[.int .u8 a,.int .u32 b],.int .u8 W]) (by simp[results,Tryz.results124,go_sem,be,bg,bi]) rfl ⟨rfl,_,a1,kp,B,a8,?_⟩
 all_goals(try simp only[ai,au,World.a5])
 all_goals(repeat (first|with_reducible exact af.refl _ _|exact af.mono j (fun k _ z=>⟨z.1,by(try simp only[ai,au,World.a5]);have:=z.2;omega⟩)|refine af.setCell ?_ (Or.inl (by dsimp only;omega)) _|refine af.setCell ?_ (Or.inr (by dsimp only;omega)) _|with_reducible refine af.drewN ?_ _|with_reducible refine af.drew ?_|with_reducible refine af.alloc ?_ _))
theorem AW {F:Nat→Prop}(R:World→World→Prop)(sb:Nat)(l n:Int)(lo:Edge)(x:Rec)(a b W:Int)(w:World)(bp:n≤16)(bq:sb<w.heap.size)
  (av:∀j,ae w j→Calls Tryz.prog 48 #[.pointer (some ⟨sb,0,none⟩)] j fun e w'=>e=.returned (.int .i64 n)∧j=w')
  (bi:0≤l) (bn:l<n)
  (ad:∀j,ae w j→Calls Tryz.prog 134 #[.pointer (some ⟨sb,0,none⟩),.int .u8 4,.agg #[.int .u8 lo.tag,.int .u32 lo.to],.int .i64 (l+1)] j fun e w'=>e=.returned (.bool true)∧ae j w')
  (ab:∀j,ae w j→Calls Tryz.prog 134 #[.pointer (some ⟨sb,0,none⟩),.int .u8 4,.agg #[.int .u8 lo.tag,.int .u32 lo.to],.int .i64 (l+1)] j fun e w'=>e=.returned (.bool true)∧ae j w')
  (a':¬lo.to=0)
  (Z:∀j,ae w j→Calls Tryz.prog 78 #[.pointer (some ⟨sb,0,none⟩),.int .u32 lo.to] j fun e w'=>e=.returned (.tuple #[.agg #[.int .u8 x.al,.int .u8 (l+1),.int .u8 x.J,.int .u8 x.lo.tag,.int .u32 x.lo.to,.int .u8 x.hi.tag,.int .u32 x.hi.to],.bool true])∧ae j w')
  (al:∀k,F k→k<w.heap.size) (Y:∀j,ae w j→Calls Tryz.prog 189 #[.pointer (some ⟨sb,0,none⟩),.agg #[.int .u8 4,.int .u8 l,.int .u8 x.J,.int .u8 x.lo.tag,.int .u32 x.lo.to,.int .u8 x.hi.tag,.int .u32 x.hi.to]] j fun e w'=>e=.returned (.tuple #[.agg #[.int .u8 a,.int .u32 b],.int .u8 W])∧af F j w'∧R j w')
  : Calls Tryz.prog 124 #[.pointer (some ⟨sb,0,none⟩),.int .i64 l,.agg #[.int .u8 lo.tag,.int .u32 lo.to],.agg #[.int .u8 lo.tag,.int .u32 lo.to]] w fun e w'=>e=.returned (.tuple #[.agg #[.int .u8 a,.int .u32 b],.int .u8 W]) ∧ 
   ∃j U,ae w j∧af F j U∧R j U∧af (fun k=>w.heap.size≤k∧k<j.heap.size) U w':=by
 have j:sb<w.heap.size+1:=by omega
 have j:sb<w.heap.size+1+1:=by omega
 have a7:=aa av
 clear av
 have a6:=aa ad
 clear ad
 have a5:=aa ab
 clear ab
 have a3:=aa Y
 have j:∀k,w.heap.size≤k→¬F k:=fun k z h=>by have:=al k h;omega
 have X:=j (w.heap.size+2) (by omega)
 clear Y al j
 have j:(lo.to==0)=false:=by simp[a']
 have j:=ja lo lo rfl
 have a4:=aa Z
 clear Z
 go_enter Tryz.func124,Tryz.ntmps124
 go_wp2_with (first|(go_at_call 48;refine(a7.out _ kp).mono ?_;rintro e w' ⟨rfl,rfl⟩)|fail)
 (go_at_call 134;refine(a6.out _ kp).mono ?_;rintro e w1 ⟨rfl,q⟩;have am:=q.size;simp only[ai]at am;have aw:w.heap.size<w1.heap.size:=(by omega);have a0:w.heap.size+1<w1.heap.size:=(by omega);have L:w.heap.size+2<w1.heap.size:=(by omega);have S:=q.U (a:=⟨w.heap.size,0,none⟩) (v:=.int .u8 lo.tag);have T:=q.U (a:=⟨w.heap.size,1,none⟩) (v:=.int .u32 lo.to);have N:=q.U (a:=⟨w.heap.size+1,0,none⟩) (v:=.int .u8 lo.tag);have O:=q.U (a:=⟨w.heap.size+1,1,none⟩) (v:=.int .u32 lo.to);have E:=q.U (a:=⟨w.heap.size+2,0,none⟩) (v:=.int .u8 0);have I:=q.U (a:=⟨w.heap.size+2,1,none⟩) (v:=.int .u32 0);have J:=fun o:Nat=>q.a3 (a:=⟨w.heap.size+2,o,none⟩) (by simp[go_sem]) (by simp[go_sem]);have z:ae w w1:=kp)
 go_wp2_with fail
 (go_at_call 134;refine(a5.out _ kp).mono ?_;rintro e w1 ⟨rfl,q⟩;have am:=q.size;have J:=fun o:Nat=>q.a3 (a:=⟨w.heap.size+2,o,none⟩) (by dsimp only;omega) (J o);have S:=q.cell S;have T:=q.cell T;have N:=q.cell N;have O:=q.cell O;have E:=q.cell E;have I:=q.cell I;have aw:w.heap.size<w1.heap.size:=(by omega);have a0:w.heap.size+1<w1.heap.size:=(by omega);have L:w.heap.size+2<w1.heap.size:=(by omega);have z:ae w w1:=kp)
 go_wp2_with fail
 (go_at_call 78;refine(a4.out _ kp).mono ?_;rintro e A ⟨rfl,s⟩;have bb:=s.size;simp only[ai]at bb;have j:=s.U (a:=⟨w1.heap.size,0,none⟩) (v:=.int .u8 4);have j:=s.U (a:=⟨w1.heap.size,1,none⟩) (v:=.int .u8 l);have j:=s.U (a:=⟨w1.heap.size,2,none⟩) (v:=.int .u8 l);have j:=s.U (a:=⟨w1.heap.size,3,none⟩) (v:=.int .u8 lo.tag);have j:=s.U (a:=⟨w1.heap.size,4,none⟩) (v:=.int .u32 lo.to);have j:=s.U (a:=⟨w1.heap.size,5,none⟩) (v:=.int .u8 lo.tag);have j:=s.U (a:=⟨w1.heap.size,6,none⟩) (v:=.int .u32 lo.to);have j:=fun o:Nat=>s.a3 (a:=⟨w1.heap.size,o,none⟩) (by simp[go_sem]) (by simp[go_sem]);have t:ae w1 A:=((ae.refl _).alloc _).trans s;have J:=fun o:Nat=>t.a3 (a:=⟨w.heap.size+2,o,none⟩) (by dsimp only;omega) (J o);have S:=t.cell S;have T:=t.cell T;have N:=t.cell N;have O:=t.cell O;have E:=t.cell E;have I:=t.cell I;have aw:w.heap.size<A.heap.size:=(by omega);have a0:w.heap.size+1<A.heap.size:=(by omega);have L:w.heap.size+2<A.heap.size:=(by omega);have j:w1.heap.size<A.heap.size:=(by omega);have j:ae w A:=z.trans t)
 go_wp2_with fail
 go_region
 all_goals go_wp2_with (first|(go_at_call 189;refine(a3.out _ kp).mono ?_;rintro e a1 ⟨rfl,B,a8⟩;have bd:=B.size;(try simp only[ai,au,World.a5]at bd);have bf:=B.cell (a:=⟨w.heap.size+2,0,none⟩) X (v:=.int .u8 0) (by simp[go_sem,L,E]);have bg:=B.cell (a:=⟨w.heap.size+2,1,none⟩) X (v:=.int .u32 0) (by simp[go_sem,L,I]);have j:=fun o:Nat=>B.frozen (a:=⟨w.heap.size+2,o,none⟩) (by(try simp only[ai,au,World.a5]);omega) X (by(try simp only[cq,World.frozen?_drew,frozen?_alloc_cells]);exact J o);have be:w.heap.size+2<a1.heap.size:=(by omega))|fail)
 all_goals refine aq (v:=.tuple #[.agg #[.int .u8 a,.int .u32 b],.int .u8 W]) (by simp[results,Tryz.results124,go_sem,be,bf,bg]) rfl ⟨rfl,_,a1,kp,B,a8,?_⟩
 all_goals(try simp only[ai,au,World.a5])
 all_goals(repeat (first|with_reducible exact af.refl _ _|exact af.mono j (fun k _ z=>⟨z.1,by(try simp only[ai,au,World.a5]);have:=z.2;omega⟩)|refine af.setCell ?_ (Or.inl (by dsimp only;omega)) _|refine af.setCell ?_ (Or.inr (by dsimp only;omega)) _|with_reducible refine af.drewN ?_ _|with_reducible refine af.drew ?_|with_reducible refine af.alloc ?_ _))
end Go.Proofs.YtafkamlhimkbmaaGreat
